/-
  part
-/
import Derived.Test.YtdhmnlpfhfmpfaaGreatPk25
import Derived.Test.YtdhmnlpfhfmpfaaGreatPk28
import Derived.Test.YtdhmnlpfhfmpfaaGreatPk34
import Derived.Test.YtdhmnlpfhfmpfaaGreatRfF
namespace Go.Proofs.YtdhmnlpfhfmpfaaGreat
open Go.RowKit
set_option linter.unusedVariables false
set_option maxRecDepth 100000
set_option maxHeartbeats 4000000
def vM (s:Int) (l:aj):Int:=iz (mq (iz s) l l.length)
theorem D5 {s:Int} (h:0<=s/\s<4294967296):iz (iz s)=s:=by
 unfold iz rD;rw[aX,<-Nat.xor_assoc,Nat.xor_self,Nat.zero_xor];omega
theorem zr {l:aj} (h:∀v∈l,0<=v/\v<256) (i:Nat):0<=ix l i/\ix l i<256:=gv h i
theorem KQ {s:Int} (h:0<=s/\s<4294967296) {l:aj} (a:∀v∈l,0<=v/\v<256):0<=vM s l/\vM s l<4294967296:=ku (tF (ku h) (zr a) _)
theorem Nw {s:Int} (h:0<=s/\s<4294967296) {a b:aj} (c:∀v∈a,0<=v/\v<256):vM (vM s a) b=vM s (a++b):=by
 unfold vM;rw[D5 (tF (ku h) (zr c) _),ag,Hs]
theorem Zi {a b:aj} (e:∀x∈a,0<=x/\x<256) (d:∀x∈b,0<=x/\x<256):∀x∈a++b,0<=x/\x<256:=λx c=>(aP.1 c).elim (e x) (d x)
theorem YZ {s:Int} (h:0<=s/\s<4294967296):vM s []=s:=D5 h
def fx (x:aj) (m:Nat):IS×Int:=(start (gK x) m).fin
def yl (R o:aj):Int:=if R.length<8 then 5 else if oK (R.take 4)≠vM 0 o\/oK ((R.drop 4).take 4)≠(o.length:Int)%4294967296 then 4 else 0
def Zh (r:aj->Nat->Bool->aj×List (aj)×Int) (F:IS×Int) (m:Nat):aj×List (aj)×Int:=
 if F.2≠8 then([],[],F.2)else if yl (ke F.1.x) F.1.all≠0 then([],[],yl (ke F.1.x) F.1.all)else r ((ke F.1.x).drop 8) (m-F.1.all.length) true
def a8T (x:aj) (F:IS×Int) (t:aj×List (aj)×Int):aj×List (aj)×Int:=(F.1.all++t.1,x::t.2.1,t.2.2)
def gz:Nat->aj->Nat->Bool->aj×List (aj)×Int
 | 0,_,_,_=>([],[],5)
 | f+1,x,m,k=>
   if x=[]/\k=true then([],[],8)else if kg x≠0 then([],[],kg x)else a8T x (fx (x.drop (vk x)) m) (Zh (gz f) (fx (x.drop (vk x)) m) m)
def gT (f:Nat) (F:IS×Int) (m:Nat):aj×List (aj)×Int:=Zh (gz f) F m
theorem Li (f m:Nat):gz (f+1) [] m true=([],[],8):=by rw[gz];exact af ⟨rfl,rfl⟩
theorem Uk {f m:Nat} {x:aj} {k:Bool} (h:¬(x=[]/\k=true)) (a:kg x≠0):gz (f+1) x m k=([],[],kg x):=by rw[gz,aa h];exact af a
theorem Ul {f m:Nat} {x:aj} {k:Bool} (h:¬(x=[]/\k=true)) (a:kg x=0):gz (f+1) x m k=((fx (x.drop (vk x)) m).1.all++(gT f (fx (x.drop (vk x)) m) m).1,x::(gT f (fx (x.drop (vk x)) m) m).2.1,(gT f (fx (x.drop (vk x)) m) m).2.2):=by
 rw[gz,aa h,aa (λe=>e a)];generalize fx (x.drop (vk x)) m=F;rfl
theorem U9 {f m:Nat} {F:IS×Int} (h:F.2≠8):gT f F m=([],[],F.2):=af h
theorem NH {f m:Nat} {F:IS×Int} (h:F.2=8) {R:aj} (b:ke F.1.x=R) {o:aj} (a:F.1.all=o) (c:yl R o≠0):gT f F m=([],[],yl R o):=by subst b a;unfold gT Zh;rw[aa (λe=>e h)];exact af c
theorem Ua {f m:Nat} {F:IS×Int} (h:F.2=8) {R:aj} (b:ke F.1.x=R) {o:aj} (a:F.1.all=o) (c:yl R o=0):gT f F m=gz f (R.drop 8) (m-o.length) true:=by subst b a;unfold gT Zh;rw[aa (λe=>e h)];exact aa (λe=>e c)
theorem a0Q:kg []=5:=OB (k:=0) δ (λi hi=>ω) δ
theorem pL {l:aj} {a:Nat} (e:Int) (m:Nat) (h:a<=l.length):xe l a e m<=l.length:=by
 unfold xe;split
 · rename_i b;have:=(oF b).2;omega
 exact h
theorem XH {l:aj} {a:Nat} (e:Int) (h:a<=l.length):RG l a e<=l.length:=by
 unfold RG;split
 · have:=Gh (l.drop a);rw[az]at this;omega
 exact h
theorem Nk (x:aj):vk x<=x.length:=by
 have h7:b7 x<=x.length:=pL _ _ (pL _ _ (pL _ _ (pL _ _ (pL _ _ (pL _ _ (pL _ _ (aF _)))))))
 have c:b9 x<=x.length:=by
  unfold b9;split
  · exact pL _ _ (pL _ _ h7)
  exact h7
 have b:rR x<=x.length:=by
  unfold rR;split
  · exact XH _ c
  exact c
 have a:mA x<=x.length:=by
  unfold mA;split
  · exact XH _ b
  exact b
 unfold vk;split
 · exact pL _ _ a
 exact a
theorem uy (x:aj) (m:Nat):∀v∈(fx x m).1.all,0<=v/\v<256:=IS.PN (.start (dO.gK _) m)
theorem Ia (x:aj) (m:Nat):(fx x m).1.all.length<=m:=by
 obtain⟨b,d,c⟩ :=IS.NA (start (gK x) m);have a:(start (gK x) m).fin.1.all=[]++b:=d;have h4:(start (gK x) m).fin.1.rem+b.length=m:=c;show(start (gK x) m).fin.1.all.length<=m;rw[a,aZ];omega
theorem Q0 {x:aj} {m:Nat} (d:(fx x m).2=8) (b:∀v∈x,0<=v/\v<256):∃j,j<=x.length/\ke (fx x m).1.x=x.drop j/\gK (x.drop j)=(fx x m).1.x:=by
 obtain⟨f,a⟩ :=I5 d;obtain⟨j,c⟩ :=ν (x.length-(start (gK x) m).fin.1.x.length/8);rw[c]at a;refine⟨j,ω, ?_,a⟩;have e:=vI (B:=x.drop j) (λv hv=>b v (bu hv));rw[a]at e;exact e
def S6 (o:aj):aj:=pG 4 (vM 0 o)++pG 4 ((o.length:Int)%4294967296)
def EY (h:HP) (B o:aj):aj:=h.p4++(ke B++S6 o)
theorem zw (o:aj):(S6 o).length=8:=by unfold S6;rw[ag,cE,cE]
theorem Uj (o:aj):∀v∈S6 o,0<=v/\v<256:=kX (Bj _ _) (Bj _ _)
theorem a4C (h:HP) (a:h.bd):∀x∈h.p4,0<=x/\x<256:=by
 unfold HP.p4;refine kX (WD h a) ?_;split
 · exact Bj _ _
 exact FI
theorem a4E {h:HP}:10<=h.p4.length:=by
 obtain⟨t,e⟩ :=a1X h;rw[e,ag,pH];omega
theorem Uh {o:aj} (b:∀v∈o,0<=v/\v<256) (y:aj):yl (S6 o++y) o=0:=by
 have a:=KQ (s:=0) ω b;have d:(S6 o++y).take 4=pG 4 (vM 0 o):=by unfold S6;rw[av,eC (cE _ _)]
 have c:((S6 o++y).drop 4).take 4=pG 4 ((o.length:Int)%4294967296):=by unfold S6;rw[av,eA (cE _ _),eC (cE _ _)]
 unfold yl;rw[aa (by rw[ag,zw];omega),d,c,zB 4 a.1 (by have:=a.2;show _<(4294967296:Int);omega),zB 4 ω (by show _<(4294967296:Int);omega),aa σ]
theorem PZ {B o:aj} (h:GW B o) (T:aj) {m:Nat} (c:o.length<=m):∃t,fx (ke B++T) m=(t,8)/\t.all=o/\t.x=gK T:=by
 obtain⟨t,e,d,a⟩ :=h.fin;obtain⟨b,i,g,f⟩ :=TV (y:=gK T) e (by rw[a];exact c) (by rw[eT];omega);refine⟨b, ?_,by rw[g,a],by rw[f,d,aZ]⟩;unfold fx;rw[uq,I1 h.ev h.bit];exact i
section
variable {h:HP} {B o y T:aj} {f m:Nat} {k:Bool}
theorem Zo (j:h.bd) (i:h.ok=true) (hz:GW B o) (g:o.length<=m) (l:∀v∈T,0<=v/\v<256):
  gz (f+1) (h.p4++(ke B++T)) m k=(o++(if yl T o≠0 then([],[],yl T o)else gz f (T.drop 8) (m-o.length) true).1,(h.p4++(ke B++T))::(if yl T o≠0 then([],[],yl T o)else gz f (T.drop 8) (m-o.length) true).2.1,(if yl T o≠0 then([],[],yl T o)else gz f (T.drop 8) (m-o.length) true).2.2):=by
 obtain⟨w,u, -⟩ :=xW j i (M:=h.p4++(ke B++T)) rfl (.bool true);obtain⟨t,q,b,p⟩ :=PZ hz T g
 have d:¬(h.p4++(ke B++T)=[]/\k=true):=λe=>by
  have:=aN List.length e.1;simp only [List.length_append,List.length_nil]at this;have n:=a4E (h:=h);omega
 have s:(h.p4++(ke B++T)).drop (vk (h.p4++(ke B++T)))=ke B++T:=by rw[u,eA rfl]
 have r:gT f (t,8) m=if yl T o≠0 then([],[],yl T o)else gz f (T.drop 8) (m-o.length) true:=by
  have c:ke (t,(8:Int)).1.x=T:=by show ke t.x=T;rw[p,vI l]
  split
  · rename_i a;exact NH rfl c b a
  rename_i a;exact Ua rfl c b (by simpa using a)
 rw[Ul d w,s,q,r];show(t.all++_,_,_)=_;rw[b]
theorem Zn (g:h.bd) (d:h.ok=true) (hz:GW B o) (b:∀v∈o,0<=v/\v<256) (c:o.length<=m) (a:∀v∈y,0<=v/\v<256):
  gz (f+1) (EY h B o++y) m k=(o++(gz f y (m-o.length) true).1,(EY h B o++y)::(gz f y (m-o.length) true).2.1,(gz f y (m-o.length) true).2.2):=by
 have e:EY h B o++y=h.p4++(ke B++(S6 o++y)):=by unfold EY;rw[av,av]
 rw[e,Zo g d hz c (kX (Uj o) a),aa (by rw[Uh b];decide),eA (zw o)]
end
structure GM where
 h:HP
 B:aj
 o:aj
structure GM.Ok (m:GM):Prop where
 bd:m.h.bd
 ok:m.h.ok=true
 z:GW m.B m.o
 ob:∀v∈m.o,0<=v/\v<256
def jH:List GM->aj
 | []=>[]
 | m::l=>EY m.h m.B m.o++jH l
def K6:List GM->aj
 | []=>[]
 | m::l=>m.o++K6 l
theorem Q4 (a b:List GM):jH (a++b)=jH a++jH b:=by
 induction a with
 | nil=>rfl
 | cons m a c=>show EY m.h m.B m.o++jH (a++b)=_;rw[c,<-av];rfl
theorem Zm (a b:List GM):K6 (a++b)=K6 a++K6 b:=by
 induction a with
 | nil=>rfl
 | cons m a c=>show m.o++K6 (a++b)=_;rw[c,<-av];rfl
theorem Zl {m:GM} (h:m.Ok):∀v∈EY m.h m.B m.o,0<=v/\v<256:=kX (a4C m.h h.bd) (kX (Tq h.z.bit) (Uj m.o))
theorem Ic {l:List GM} (h:∀m∈l,m.Ok):∀v∈jH l,0<=v/\v<256:=by
 induction l with
 | nil=>exact λv hv=>by cases hv
 | cons m l a=>exact kX (Zl (h m (aH ..))) (a λx b=>h x (aI _ b))
theorem a2N:∀(l:List GM) (f m:Nat) (k:Bool),(∀x∈l,x.Ok)->(l≠[]\/k=true)->l.length<f->(K6 l).length<=m->
  ∃a,gz f (jH l) m k=(K6 l,a,8)/\a.length=l.length/\∀i x,l[i]?=some x->∃r,a.getD i []=x.h.p4++r:=by
 intro l;induction l with
 | nil=>
   intro f m k _ h hf _;obtain⟨f,rfl⟩ :∃g,f=g+1:= ⟨f-1,by simp at hf;omega⟩;obtain rfl:k=true:=by rcases h with h | h;exact absurd rfl h;exact h
   exact⟨[],Li f m,rfl,λi x hi=>by simp at hi⟩
 | cons x l j=>
   intro f m k c _ hf q;obtain⟨f,rfl⟩ :∃g,f=g+1:= ⟨f-1,by simp at hf;omega⟩;have b:=c x (aH ..);have d:∀y∈l,y.Ok:=λy n=>c y (aI _ n);have v:x.o.length+(K6 l).length<=m:=by rw[<-ag];exact q
   obtain⟨a,u,t,s⟩ :=j f (m-x.o.length) true d (.inr rfl) (by simp at hf;omega) ω;have e:=Zn (f:=f) (m:=m) (k:=k) (y:=jH l) b.bd b.ok b.z b.ob ω (Ic d);refine⟨(EY x.h x.B x.o++jH l)::a, ?_,by simp [t],λi z hi=> ?_⟩
   · show gz (f+1) (EY x.h x.B x.o++jH l) m k=_;rw[e,u];rfl
   cases i with
   | zero=>
     obtain rfl:x=z:=by simpa using hi
     exact⟨ke x.B++S6 x.o++jH l,by show EY x.h x.B x.o++jH l=x.h.p4++_;unfold EY;rw[av]⟩
   | succ i=>
     obtain⟨r,p⟩ :=s i z (by simpa using hi);exact⟨r,by simpa using p⟩
theorem Ui (l:List GM):l.length<=(jH l).length:=by
 induction l with
 | nil=>exact ai _
 | cons m l a=>
   show _<=(EY m.h m.B m.o++jH l).length
   have b:1<=(EY m.h m.B m.o).length:=by
    unfold EY;rw[ag,ag,zw];omega
   rw[ag,bc];omega
theorem Dk {l:List GM} {b:Nat} (h:∀m∈l,m.h.p4.length+m.B.length/8+8<=b):(jH l).length<=l.length*b:=by
 induction l with
 | nil=>exact aF _
 | cons m l a=>
   have f:=h m (aH ..);have e:=a λx c=>h x (aI _ c);show(EY m.h m.B m.o++jH l).length<=_
   have d:(EY m.h m.B m.o).length=m.h.p4.length+m.B.length/8+8:=by
    unfold EY;rw[ag,ag,jS,zw];omega
   rw[ag,d,bc,Nat.succ_mul];omega
theorem NK {l:List GM} {b:Nat} (h:∀m∈l,m.o.length<=b):(K6 l).length<=l.length*b:=by
 induction l with
 | nil=>exact aF _
 | cons m l a=>
   have e:=h m (aH ..);have d:=a λx c=>h x (aI _ c);show(m.o++K6 l).length<=_;rw[ag,bc,Nat.succ_mul];omega
set_option maxHeartbeats 8000000
theorem OD {b:Nat} {w w':World} (h:Below b w w') (q:Nat):Below b w (w'.drewN q):= ⟨h.os,h.tape,h.output,h.size,h.block⟩
theorem Jp:(Tryz.prog.info? 5).map (λi=>(i.zero,i.size,i.bytes))=some (some (.int .u8 0),1,1):=by kernel_rfl
def xk (w:World) (x:aj) (m:Nat) (e:Ending) (w':World):Prop:=
 ∃A k c,e= .returned (.tuple #[.slice A k c, .int .i64 (gz (x.length+1) x m false).2.2])/\ba .u8 w' w.heap.size 5 A k c (gz (x.length+1) x m false).1/\Below w.heap.size w w'
def Tb (w:World) (e:aj) (d:Int) (M:Nat) (gk:Nat) (c a b:Value) (wr:World):Prop:=∃(A:ay) (k cp:Nat) (x:aj) (Ao:ay) (ko co:Nat) (o:aj) (mc:Nat),
 c= .slice A k cp/\a= .slice Ao ko co/\b= .int .i64 mc/\bT .u8 wr w.heap.size A k x/\k<=cp/\(∀v∈x,0<=v/\v<256)/\ba .u8 wr w.heap.size 5 Ao ko co o/\o.length<=M/\x.length<gk/\mc+gk<=1000001/\
  e=o++(gz gk x (M-o.length) (decide (0<mc))).1/\d=(gz gk x (M-o.length) (decide (0<mc))).2.2/\Below w.heap.size w wr
theorem Jq (w:World) (A:ay) (n cp:Nat) (G:aj) (M:Nat) (hr:bT .u8 w w.heap.size A n G) (fI:n<=cp) (s:∀v∈G,0<=v/\v<256) (ck:G.length<=1000000) (O2:M<=1000000000):
  Calls Tryz.prog 11 #[.slice A n cp, .int .i64 M] w (xk w G M):=by
 obtain⟨i0,hi,cd,ca,bL⟩ :=aL Jp;have Hi:=η (⟨hi,cd,ca,bL⟩ :_/\_/\_/\_);have eg:¬(M:Int)<0/\(M:Int)<=1000000000/\(0:Int)<=(M:Int):=ω;obtain⟨T1,bt⟩ :=ν ((gz (G.length+1) G M false).1);obtain⟨T2,Ik⟩ :=ν ((gz (G.length+1) G M false).2.2);have B:Tb w T1 T2 M (G.length+1) (.slice A n cp) (.slice none 0 0) (.int .i64 0) w:= ⟨A,n,cp,G,none,0,0,[],0,rfl,rfl,rfl,hr,fI,s,ba.dN,aF _,iR _,ω,by rw[aZ];exact bt.symm,Ik.symm,ax _ _⟩;have HS:=η B
 have Ba:Hid (∀A k c w',ba .u8 w' w.heap.size 5 A k c T1->Below w.heap.size w w'->xk w G M (.returned (.tuple #[.slice A k c, .int .i64 T2])) w'):=λA k c w' ho hb=>by
  unfold xk;rw[bt,Ik];exact⟨A,k,c,rfl,ho,hb⟩
 obtain⟨K0,Ih⟩ :=ν (G.length+1);rw[Ih]at HS;have ef:¬M<0:=ω;clear B hr fI s ck hi cd ca bL bt Ik Ih;go_enter Tryz.func11,Tryz.ntmps11
 go_wp2_with fail;go_loopg [0,6,7] K0 (Tb w T1 T2 M)
 case atStart=>exact HS.out
 clear HS;obtain⟨A,k,cp,x,Ao,S,co,o,Z,rfl,rfl,rfl,hr,fI,s,ho,ae,V7,Fk,u,t,hb⟩ :=hrel;obtain⟨f,hf⟩ :∃f,gk=f+1:= ⟨gk-1,ω⟩;rw[hf]at u t;have Ya:=hr.1;have ah:=ho.1;have dT:(0:Int)<=(Z:Int)/\(Z:Int)<=1000001/\(k:Int)<=1000000/\(0:Int)<=(k:Int):=ω;by_cases oy:k=0/\0<Z
 · obtain⟨rfl,h0⟩ :=oy;have ce:x=[]:=aG Ya.symm;rw[ce,aS h0,Li]at u t;have cu:=η (Ba.out Ao S co wr (by rw[u,aA];exact ho) hb);have cH:(0:Int)<(Z:Int):=ω;have H2:Hid (T2=8):=t;clear hr fI s ho ae V7 Fk u t hb hf Ya ah ce Ba
   go_wp2_with fail;go_returns;rw[<-H2.out];exact cu.out
 have Fo:¬(x=[]/\decide (0<Z)=true):=λh=>oy ⟨by rw[Ya,h.1];rfl,cP h.2⟩;have bp:0<k\/(k=0/\Z=0):=ω;have yq:=hb.size;have HH:=η (Jr wr w.heap.size k cp A x hr yq ω fI s);have hJ:=Nk x;have I:=η (⟨hr,fI,s,ho,ae,hb,Ya,ah⟩ :_/\_/\_/\_/\_/\_/\_/\_);have HG:=η (⟨V7,Fk,hf,hJ⟩ :_/\_/\_/\_);by_cases C:kg x=0
 rotate_left
 · rw[Uk Fo C]at u t;have cu:Hid (∀W,Below wr.heap.size wr W->xk w G M (.returned (.tuple #[.slice Ao S co, .int .i64 T2])) W):=λW hW=>Ba.out Ao S co W (by rw[u,aA];exact ho.keeps hW) (hb.trans (hW.mono yq));have HQ:=η C;have H2:Hid (kg x=T2):=t.symm;clear hr fI s ho ae V7 Fk u t hb hf Ya ah Ba Fo oy hJ;rcases bp with h0 | ⟨rfl,rfl⟩
   all_goals
    try (have cH:¬(k:Int)=0/\(0:Int)<(k:Int):=ω)
    try (have dq:((k:Int)==0)=false:=ξ)
    clear C
    go_wp2_with fail;refine HH.out.mono ?_;rintro e w1 ⟨X,m',cc,xl,Fk,cm,ap,hX,d,(⟨h0,_⟩ | ⟨h0,rfl⟩)⟩
    · exact absurd h0 HQ.out
    have B:=η (λo=>d.alloc d.size o);rw[H2.out]at h0⊢;have du:(T2 != 0)=true:=by simpa using h0
    have ds:(T2==0)=false:=by simpa using h0
    clear ap hX d;unfold hagg hz;dsimp only
    go_wp2_with fail;go_returns;exact cu.out _ (B.out _)
 have Ds:0<k:=by
  rcases bp with h | ⟨h,_⟩
  · exact h
  exfalso
  rw[aG (show x.length=0 by omega),a0Q]at C;exact absurd C δ
 have cH:¬(k:Int)=0/\(0:Int)<(k:Int):=ω;have dq:((k:Int)==0)=false:=ξ;rw[Ul Fo C]at u t;obtain⟨J,bB⟩ :=ν (vk x);rw[bB]at u t hJ;obtain⟨y,hy⟩ :=ν (x.drop J);obtain⟨m,hm⟩ :=ν (M-o.length);rw[hy,hm]at u t;obtain⟨F,hF⟩ :=ν (fx y m);have Us:=Ia y m;have Zx:=uy y m;have cD:F.2≠0:=by rw[<-hF];exact IS.Lb _
 have SD:∀v∈y,0<=v/\v<256:=λv hv=>s v (bu (by rw[hy];exact hv));have ab:y.length=k-J:=by rw[<-hy,az,Ya]
 have cB:F.2=8->ke F.1.x=y.drop (y.length-F.1.x.length/8):=λh8=>by
  have h9:=(I5 (b:=y) (m:=m) (show(fx y m).2=8 by rw[hF];exact h8)).2;rw[show(start (gK y) m).fin=F from hF]at h9;exact(aN ke h9).symm.trans (vI λv hv=>SD v (bu hv))
 rw[hF]at u t Us Zx;have oJ:∀(A:ay) (n c j:Nat),j<=n->∀W,_:=λA n c j hj W=>cZ (P:=Tryz.prog) 22 5 Tryz.underlying22 Hi.out.1 Hi.out.2.2.1 A n c hj W;have de:=oJ A k cp J ω;have ad:=hr.dr (j:=J) ω fI;rw[hy]at ad;obtain⟨A9,Ig⟩ :=ν (dr A cp J);obtain⟨k9,Kg⟩ :=ν (k-J);obtain⟨c9,cq⟩ :=ν (cp-J);rw[Ig,Kg,cq]at de;rw[Ig,Kg]at ad;have cA:((m:Nat):Int)=max ((M:Int)-(S:Int)) 0:=ω;have cj:m<=1000000000:=ω;have HQ:=η (⟨C,bB⟩ :_/\_);have Q:=η (⟨u,t,Us,Zx,cD,cB,hF,hm⟩ :_/\_/\_/\_/\_/\_/\_/\_);have HY:=η (⟨ad,SD,ab,cA,cj,Kg,hy⟩ :_/\_/\_/\_/\_/\_/\_);have CV:=η oJ;have ea:(0:Int)<=(S:Int)/\(S:Int)<=(M:Int):=ω;have en:(0:Int)<=(J:Int)/\(J:Int)<=(k:Int):=ω;clear hr fI s ho ae V7 Fk u t hb hf Ya ah Fo oy hJ C bB hy hm hF Us Zx cD cB SD ab oJ ad Ig Kg cq cA cj bp Ds
 go_wp2_with fail;refine HH.out.mono ?_;rintro e w1 ⟨X,m',cc,xl,Fk,cm,ap,hX,d,(⟨_,_,rfl⟩ | ⟨h0,_⟩)⟩;rotate_left
 · exact absurd HQ.out.1 h0
 rw[HQ.out.2];have cL:=η d.size;have B:=η (λo=>d.alloc d.size o);have HI:=η (λo=>FY (w1.alloc o) w.heap.size A9 k9 c9 y ((HY.out.1.below (d.mono yq)).alloc (aw yq d.size) o) (aw (aw yq d.size) σ) HY.out.2.1 (ε HY.out I.out) _ m HY.out.2.2.2.1 HY.out.2.2.2.2.1 F Q.out.2.2.2.2.2.2.1);obtain⟨hv,Y7⟩ :=ν (xR x (.slice X m' cc));have cJ:hv.ex= .slice X m' cc:=by rw[<-Y7];rfl
 rw[Y7];clear ap hX d Y7 Fk cm yq HH;unfold hagg;rw[cJ];clear cJ
 go_wp2_with fail;refine(HI.out _).mono ?_;rintro r w6 ⟨g,c,R,rfl,hM,cr,hE,am, -, -, -,sL⟩;have nj:Below wr.heap.size wr w6:=(B.out _).trans (cr.mono (B.out _).size);have cX:w6.cell? ⟨g,0,none⟩ =some (.slice R.Ao R.no R.co):=hM.cell.cell (i:=0) ω;have za:=hM.out;rw[am]at za;have QD:=za.rd;have bi:=I.out.2.2.2.1.keeps nj;have ac:w.heap.size<=w6.heap.size:=aw I.out.2.2.2.2.2.1.size nj.size;have dA:R.no<=m:=by rw[za.1];exact Q.out.2.2.1
 have xI:S+R.no<=1000000000:=by have h1:=Q.out.2.2.2.2.2.2.2;have h2:=I.out.2.2.2.2.1;have h3:=I.out.2.2.2.2.2.2.2;omega
 have yV:∀q,c q≠0->¬ak Ao=some q:=λq C h9=>by
  have h1:=(hM.cb q C).1;have h2:=(I.out.2.2.2.1.2.lt h9).2;have h3:=cL.out;rw[jz]at h1;omega
 have UD:¬ak Ao=some g:=yV g (by rw[hM.cg];decide);have cs:∀q,ak R.Ao=some q->¬ak Ao=some q:=λq C=>yV q (by rw[hM.cout q C];decide);have H6:=η (⟨nj,hM.cell,za,UD,cs,hE,sL⟩ :_/\_/\_/\_/\_/\_/\_);clear hM cr hE am sL nj za yV UD cs B HI cL
 go_upto_region 13 with (at_builtin;(refine bq .u8 w.heap.size 5 i0 1 rfl (.tmp 42) (.tmp 46) _ rfl Tryz.underlying22 Hi.out.1 Hi.out.2.1 Hi.out.2.2.1 Hi.out.2.2.2 rfl bi rfl QD ω ω ac ?_)
                         intro A7 c7 p yY Ff tU)
 have Gy:bk w6 p (λq=>ak Ao=some q):=(bk.refl w6 _).grown Ff (λq C=> .inl C);have Y:Below w.heap.size wr p:=(H6.out.1.mono I.out.2.2.2.2.2.1.size).trans (Gy.below (λq C=>(I.out.2.2.2.1.2.lt C).1) ac);have rJ:=I.out.2.2.2.2.2.1.trans Y;have jP:=Gy.ar H6.out.2.1 H6.out.2.2.2.1;have be:=Gy.dX H6.out.2.2.1 H6.out.2.2.2.2.1;replace cX:p.cell? ⟨g,0,none⟩ =some (.slice R.Ao R.no R.co):=jP.cell (i:=0) ω;have an:p.cell? ⟨g,1,none⟩ =some (.int .i64 R.E):=jP.cell (i:=1) ω;have cQ:p.cell? ⟨g,2,none⟩ =some (.int .i64 R.rest):=jP.cell (i:=2) ω
 have Yd:Hid (∀q v,v=T2->T1=o++F.1.all->xk w G M (.returned (.tuple #[.slice A7 (S+R.no) c7, .int .i64 v])) (p.drewN q)):=λq v hv ht=>by
  rw[hv];exact Ba.out A7 _ c7 _ (by rw[ht];exact yY.drewN q) (OD rJ q)
 by_cases h8:F.2=8
 rotate_left
 · have cG:R.E=F.2:=by rw[H6.out.2.2.2.2.2.1];unfold TL;rw[aa h8]
   have O:gT f F m=([],[],F.2):=U9 h8;have hv:=λq=>Yd.out q F.2 (by rw[Q.out.2.1,O]) (by rw[Q.out.1,O];simp);have ci:=Q.out.2.2.2.2.1;rw[cG]at an;obtain⟨V,hV⟩ :=ν (F.2);rw[hV]at an hv ci;have CF:(V==0)=false:=by simpa using ci
   have HV:=η hv;clear Gy Y rJ jP be Yd h8 cG O hV hv yY Ff tU bi QD ac
   go_wp2_with fail;go_quiet (fail)
   go_wp2_with fail;go_returns;exact HV.out _
 have nS:R.E=0:=by rw[H6.out.2.2.2.2.2.1];unfold TL;rw[af h8]
 rw[nS]at an;obtain⟨Rn,bv⟩ :=ν (y.length-F.1.x.length/8);have tX:=H6.out.2.2.2.2.2.2 h8;rw[bv]at tX;rw[tX]at cQ;have Ya:=I.out.2.2.2.2.2.2.1;have ab:=HY.out.2.2.1;obtain⟨K,hK⟩ :=ν (J+Rn);have bx:K<=k:=by have:=HY.out.2.2.2.2.2.1;omega
 obtain⟨T,hT⟩ :=ν (x.drop K);have Il:∀v∈T,0<=v/\v<256:=λv hv=>I.out.2.2.1 v (bu (by rw[hT];exact hv));have ct:ke F.1.x=T:=by rw[Q.out.2.2.2.2.2.1 h8,bv,<-HY.out.2.2.2.2.2.2,bn,hK,hT]
 have U:=(I.out.1.below Y).dr (j:=K) bx I.out.2.1;rw[hT]at U;have da:=CV.out A k cp K bx;have UT:k-K<=cp-K:=by have:=I.out.2.1;omega
 obtain⟨L,hA8⟩ :=ν (dr A cp K);obtain⟨H,al⟩ :=ν (k-K);obtain⟨z,bs⟩ :=ν (cp-K);rw[hA8,al,bs]at da;rw[hA8,al]at U;rw[al,bs]at UT;have cx:H=T.length:=U.1;have ej:(J:Int)+(Rn:Int)=(K:Int)/\(K:Int)<=(k:Int)/\(0:Int)<=(Rn:Int)/\(0:Int)<=(H:Int)/\(H:Int)<=(k:Int):=ω;have cw:T.length<=x.length:=ω;have u:=Q.out.1;have t:=Q.out.2.1;have D:=η (⟨Il,ct,cx,cw,h8,u,t⟩ :_/\_/\_/\_/\_/\_/\_);have N:=η (⟨Y,rJ,yY,be,U,UT⟩ :_/\_/\_/\_/\_/\_);clear Gy Y rJ jP be nS bv tX Ya ab hK bx hT Il ct U UT hA8 al bs cx cw u t yY Ff tU bi QD ac h8;by_cases h5:H<8
 · have hg:yl T F.1.all=5:=by unfold yl;rw[af (by rw[<-D.out.2.2.1];exact h5)]
   have O:gT f F m=([],[],5):=by rw[NH D.out.2.2.2.2.1 D.out.2.1 rfl (by rw[hg];decide),hg]
   have hf:=η (Yd.out 0 5 (by rw[D.out.2.2.2.2.2.2,O]) (by rw[D.out.2.2.2.2.2.1,O];simp));have dp:(H:Int)<8:=ω;clear hg O h5 Yd
   go_wp2_with fail;go_returns;exact hf.out
 have dp:¬(H:Int)<8/\(8:Int)<=(H:Int):=ω;have lJ:∀W,(Instr.slice 22 (.slice L H z) none (some (.int .i64 4)) none).run Tryz.prog W= .ok (.slice L 4 z) W:=λW=>dQ (P:=Tryz.prog) 22 5 Tryz.underlying22 Hi.out.1 Hi.out.2.2.1 L H z (j:=4) (τ N.out.2.2.2.2.2) W;have dd:∀W,(Instr.slice 22 (.slice L H z) (some (.int .i64 4)) (some (.int .i64 8)) none).run Tryz.prog W= .ok (.slice (dr L z 4) 4 (z-4)) W:=λW=>fW (P:=Tryz.prog) 22 5 Tryz.underlying22 Hi.out.1 Hi.out.2.2.1 L H z (a:=4) (b:=8) ω (τ N.out.2.2.2.2.2) W;have db:∀W,(Instr.slice 22 (.slice L H z) (some (.int .i64 8)) none none).run Tryz.prog W= .ok (.slice (dr L z 8) (H-8) (z-8)) W:=λW=>cZ (P:=Tryz.prog) 22 5 Tryz.underlying22 Hi.out.1 Hi.out.2.2.1 L H z (j:=8) ω W;have SA:bT .u8 p w.heap.size L 4 (T.take 4):=N.out.2.2.2.2.1.pre ω;have Vx:bT .u8 p w.heap.size (dr L z 4) 4 ((T.drop 4).take 4):=(N.out.2.2.2.2.1.dr (j:=4) ω N.out.2.2.2.2.2).pre (j:=4) ω;have aE:=N.out.2.2.2.2.1.dr (j:=8) ω N.out.2.2.2.2.2;obtain⟨A4,Ck⟩ :=ν (dr L z 4);obtain⟨d4,Iz⟩ :=ν (z-4);obtain⟨AF,bI⟩ :=ν (dr L z 8);obtain⟨nF,bl⟩ :=ν (H-8);obtain⟨dF,yx⟩ :=ν (z-8);have cn:nF<=dF:=by have:=N.out.2.2.2.2.2;omega
 rw[Ck,Iz]at dd;rw[Ck]at Vx;rw[bI,bl,yx]at db;rw[bI,bl]at aE;have Il:=D.out.1;have ch:∀i,0<=ix F.1.all i/\ix F.1.all i<256:=gv Q.out.2.2.2.1;obtain⟨cv,bo⟩ :=ν (vM 0 F.1.all);obtain⟨v1,pj⟩ :=ν (oK (T.take 4));obtain⟨v2,ao⟩ :=ν (oK ((T.drop 4).take 4));have dl:=D.out.2.2.1
 have dz:0<=v1/\v1<4294967296:=by
  have h9:=Bk (l:=T.take 4) (λv hv=>Il v (aO hv));rw[pj,aD,show min 4 T.length=4 by omega]at h9;exact⟨h9.1,τ h9.2⟩
 have F3:∀q,Calls Tryz.prog 32 #[.slice L 4 z] (p.drewN q) λe w'=>e= .returned (.int .i64 v1)/\w'=p.drewN q:=λq=>by
  have:=qg (p.drewN q) w.heap.size 4 z L _ (SA.drewN q) ω (λv hv=>Il v (aO hv));rw[pj]at this;exact this
 have Sg:∀q,Calls Tryz.prog 32 #[.slice A4 4 d4] (p.drewN q) λe w'=>e= .returned (.int .i64 v2)/\w'=p.drewN q:=λq=>by
  have:=qg (p.drewN q) w.heap.size 4 d4 A4 _ (Vx.drewN q) ω (λv hv=>Il v (bu (aO hv)));rw[ao]at this;exact this
 have S9:∀q,Calls Tryz.prog 33 #[.int .u32 0, .slice R.Ao R.no R.co] (p.drewN q) λe w'=>e= .returned (.int .u32 cv)/\w'=p.drewN q:=λq=>by
  have:=Jl 0 R.Ao R.no R.co _ F.1.all (p.drewN q) ((N.out.2.2.2.1.rd).drewN q) ch ω ω;rw[show iz (mq (iz 0) F.1.all R.no)=cv by rw[<-bo,N.out.2.2.2.1.1];rfl]at this;exact this.mono λ_ _ h=> ⟨h.1,h.2.symm⟩
 have ec:(R.no:Int).tmod 4294967296=(R.no:Int):=by rw[eM ω];omega
 have ee:(0:Int)<=(R.no:Int)/\(R.no:Int)<=1000000000:=ω
 have hg:yl T F.1.all=if v1≠cv\/v2≠(R.no:Int)then 4 else 0:=by
  unfold yl;rw[aa ω,pj,ao,bo,show(F.1.all.length:Int)%4294967296=(R.no:Int) by rw[<-N.out.2.2.2.1.1];omega]
 have jO:Hid (v1≠cv\/v2≠(R.no:Int)->∀q,xk w G M (.returned (.tuple #[.slice A7 (S+R.no) c7, .int .i64 4])) (p.drewN q)):=λh q=>by
  have cl:yl T F.1.all=4:=by rw[hg,af h]
  have O:gT f F m=([],[],4):=by rw[NH D.out.2.2.2.2.1 D.out.2.1 rfl (by rw[cl];decide),cl]
  exact Yd.out q 4 (by rw[D.out.2.2.2.2.2.2,O]) (by rw[D.out.2.2.2.2.2.1,O];simp)
 have kN:Hid (v1=cv->v2=(R.no:Int)->∀q,Tb w T1 T2 M f (.slice AF nF dF) (.slice A7 (S+R.no) c7) (.int .i64 ((Z:Int)+1)) (p.drewN q)):=λc1 c2 q=>by
  have dk:yl T F.1.all=0:=by rw[hg,aa (by rintro(h | h);exact h c1;exact h c2)]
  have O:gT f F m=gz f (T.drop 8) (m-F.1.all.length) true:=Ua D.out.2.2.2.2.1 D.out.2.1 rfl dk;have x7:=I.out.2.2.2.2.1;have Sq:=Q.out.2.2.2.2.2.2.2;have mK:=Q.out.2.2.1;have u:=D.out.2.2.2.2.2.1;have t:=D.out.2.2.2.2.2.2;rw[O]at u t;have cz:M-(o++F.1.all).length=m-F.1.all.length:=by rw[ag];omega
  have eb:=HG.out.2.2.1;refine⟨AF,nF,dF,T.drop 8,A7,S+R.no,c7,o++F.1.all,Z+1,rfl,rfl,by go_num,aE.drewN q,cn,λv hv=>Il v (bu hv),N.out.2.2.1.drewN q,by rw[ag];omega, ?_, ?_, ?_, ?_,OD N.out.2.1 q⟩
  · rw[az];have:=D.out.2.2.2.1;have:=HG.out.1;omega
  · have:=HG.out.2.1;omega
  · rw[cz,aS (Nat.succ_pos Z),av];exact u
  rw[cz,aS (Nat.succ_pos Z)];exact t
 have Yx:=η F3;have rF:=η Sg;have RP:=η S9;have dj:Hid (f<gk):=by show f<gk;have:=HG.out.2.2.1;omega
 clear F3 Sg S9 SA Vx aE Ck Iz bI bl yx cn Il ch bo pj ao dl hg h5 Yd;by_cases c1:v1=cv
 rotate_left
 · have hf:=η (jO.out (.inl c1));have eu:(v1==cv)=false:=by simpa using c1
   have et:(v1 != cv)=true:=by simpa using c1
   clear jO kN c1
   go_wp2_with fail;go_quiet ((first | (go_at_call 32;(with_reducible first | exact bM (Yx.out _) | exact bM (rF.out _))) | (go_at_call 33;exact bM (RP.out _))))
   go_wp2_with fail;go_returns;exact hf.out _
 by_cases c2:v2=(R.no:Int)
 · have hf:=η (kN.out c1 c2);clear jO kN;subst c1 c2
   go_wp2_with fail;go_quiet ((first | (go_at_call 32;(with_reducible first | exact bM (Yx.out _) | exact bM (rF.out _))) | (go_at_call 33;exact bM (RP.out _))))
   go_wp2_with fail;go_roundg f
   case measure=>exact dj.out
   case rel=>exact hf.out _
 have hf:=η (jO.out (.inr c2));have es:(v2==(R.no:Int))=false:=by simpa using c2
 have er:(v2 != (R.no:Int))=true:=by simpa using c2
 clear jO kN c2;subst c1
 go_wp2_with fail;go_quiet ((first | (go_at_call 32;(with_reducible first | exact bM (Yx.out _) | exact bM (rF.out _))) | (go_at_call 33;exact bM (RP.out _))))
 go_wp2_with fail;go_returns;exact hf.out _
end Go.Proofs.YtdhmnlpfhfmpfaaGreat
