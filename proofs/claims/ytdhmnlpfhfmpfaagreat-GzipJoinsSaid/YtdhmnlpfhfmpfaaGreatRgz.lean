/-
  part
-/
import Derived.Test.YtdhmnlpfhfmpfaaGreatHdR
import Derived.Test.YtdhmnlpfhfmpfaaGreatPk25
import Derived.Test.YtdhmnlpfhfmpfaaGreatPk28
import Derived.Test.YtdhmnlpfhfmpfaaGreatRfF
namespace Go.Proofs.YtdhmnlpfhfmpfaaGreat
open Go.RowKit
set_option linter.unusedVariables false
set_option maxRecDepth 100000
set_option maxHeartbeats 4000000
def yU (s:Int) (l:List Int):Int:=iq (lW (iq s) l l.length)
theorem CV {s:Int} (h:0<=s/\s<4294967296):iq (iq s)=s:=by
 unfold iq qX;rw[aU,<-Nat.xor_assoc,Nat.xor_self,Nat.zero_xor];omega
theorem yT {l:List Int} (h:∀v∈l,0<=v/\v<256) (i:Nat):0<=ix l i/\ix l i<256:=gp h i
theorem KE {s:Int} (h:0<=s/\s<4294967296) {l:List Int} (a:∀v∈l,0<=v/\v<256):0<=yU s l/\yU s l<4294967296:=jZ (tq (jZ h) (yT a) _)
theorem Yg {s:Int} (h:0<=s/\s<4294967296) {a b:List Int} (c:∀v∈a,0<=v/\v<256):yU (yU s a) b=yU s (a++b):=by
 unfold yU;rw[CV (tq (jZ h) (yT c) _),af,Hg]
theorem Yw {a b:List Int} (e:∀x∈a,0<=x/\x<256) (d:∀x∈b,0<=x/\x<256):∀x∈a++b,0<=x/\x<256:=λx c=>(aN.1 c).elim (e x) (d x)
theorem Yh {s:Int} (h:0<=s/\s<4294967296):yU s []=s:=CV h
def eU (x:List Int) (m:Nat):IS×Int:=(start (gG x) m).fin
def ui (R o:List Int):Int:=if R.length<8 then 5 else if mM (R.take 4)≠yU 0 o\/mM ((R.drop 4).take 4)≠(o.length:Int)%4294967296 then 4 else 0
def Yv (r:List Int->Nat->Bool->List Int×List (List Int)×Int) (F:IS×Int) (m:Nat):List Int×List (List Int)×Int:=
 if F.2≠8 then([],[],F.2)else if ui (jO F.1.x) F.1.all≠0 then([],[],ui (jO F.1.x) F.1.all)else r ((jO F.1.x).drop 8) (m-F.1.all.length) true
def a8x (x:List Int) (F:IS×Int) (t:List Int×List (List Int)×Int):List Int×List (List Int)×Int:=(F.1.all++t.1,x::t.2.1,t.2.2)
def gz:Nat->List Int->Nat->Bool->List Int×List (List Int)×Int
 | 0,_,_,_=>([],[],5)
 | f+1,x,m,k=>
   if x=[]/\k=true then([],[],8)else if jM x≠0 then([],[],jM x)else a8x x (eU (x.drop (rN x)) m) (Yv (gz f) (eU (x.drop (rN x)) m) m)
def gT (f:Nat) (F:IS×Int) (m:Nat):List Int×List (List Int)×Int:=Yv (gz f) F m
theorem EY (f m:Nat):gz (f+1) [] m true=([],[],8):=by rw[gz];exact ae ⟨rfl,rfl⟩
theorem EW {f m:Nat} {x:List Int} {k:Bool} (h:¬(x=[]/\k=true)) (a:jM x≠0):gz (f+1) x m k=([],[],jM x):=by rw[gz,aa h];exact ae a
theorem Nq {f m:Nat} {x:List Int} {k:Bool} (h:¬(x=[]/\k=true)) (a:jM x=0):gz (f+1) x m k=((eU (x.drop (rN x)) m).1.all++(gT f (eU (x.drop (rN x)) m) m).1,x::(gT f (eU (x.drop (rN x)) m) m).2.1,(gT f (eU (x.drop (rN x)) m) m).2.2):=by
 rw[gz,aa h,aa (λe=>e a)];generalize eU (x.drop (rN x)) m=F;rfl
theorem L0 {f m:Nat} {F:IS×Int} (h:F.2≠8):gT f F m=([],[],F.2):=ae h
theorem Hx {f m:Nat} {F:IS×Int} (h:F.2=8) {R:List Int} (b:jO F.1.x=R) {o:List Int} (a:F.1.all=o) (c:ui R o≠0):gT f F m=([],[],ui R o):=by subst b a;unfold gT Yv;rw[aa (λe=>e h)];exact ae c
theorem Nj {f m:Nat} {F:IS×Int} (h:F.2=8) {R:List Int} (b:jO F.1.x=R) {o:List Int} (a:F.1.all=o) (c:ui R o=0):gT f F m=gz f (R.drop 8) (m-o.length) true:=by subst b a;unfold gT Yv;rw[aa (λe=>e h)];exact aa (λe=>e c)
theorem TB (f:Nat) (F:IS×Int) (m:Nat):(F.2≠8/\gT f F m=([],[],F.2))\/(∃R,ui R F.1.all≠0/\gT f F m=([],[],ui R F.1.all))\/∃y,gT f F m=gz f y (m-F.1.all.length) true:=by
 by_cases h:F.2=8
 · by_cases a:ui (jO F.1.x) F.1.all=0
   · exact .inr (.inr ⟨_,Nj h rfl rfl a⟩)
   exact .inr (.inl ⟨_,a,Hx h rfl rfl a⟩)
 exact .inl ⟨h,L0 h⟩
theorem a0n:jM []=5:=Oa (k:=0) δ (λi hi=>ω) δ
theorem pz {l:List Int} {a:Nat} (e:Int) (m:Nat) (h:a<=l.length):wJ l a e m<=l.length:=by
 unfold wJ;split
 · rename_i b;have:=(ox b).2;omega
 exact h
theorem WY {l:List Int} {a:Nat} (e:Int) (h:a<=l.length):R9 l a e<=l.length:=by
 unfold R9;split
 · have:=Ga (l.drop a);rw[av]at this;omega
 exact h
theorem MX (x:List Int):rN x<=x.length:=by
 have h7:b7 x<=x.length:=pz _ _ (pz _ _ (pz _ _ (pz _ _ (pz _ _ (pz _ _ (pz _ _ (aF _)))))))
 have c:b9 x<=x.length:=by
  unfold b9;split
  · exact pz _ _ (pz _ _ h7)
  exact h7
 have b:tQ x<=x.length:=by
  unfold tQ;split
  · exact WY _ c
  exact c
 have a:lZ x<=x.length:=by
  unfold lZ;split
  · exact WY _ b
  exact b
 unfold rN;split
 · exact pz _ _ a
 exact a
theorem uj (x:List Int) (m:Nat):∀v∈(eU x m).1.all,0<=v/\v<256:=IS.Po (.start (dJ.gG _) m)
theorem zZ (x:List Int) (m:Nat):(eU x m).1.all.length<=m:=by
 obtain⟨b,d,c⟩ :=IS.Nd (start (gG x) m);have a:(start (gG x) m).fin.1.all=[]++b:=d;have h4:(start (gG x) m).fin.1.rem+b.length=m:=c;show(start (gG x) m).fin.1.all.length<=m;rw[a,aT];omega
theorem TJ (f:Nat):∀(x:List Int) (m:Nat) (k:Bool),(gz f x m k).1.length<=m:=by
 induction f with
 | zero=>intro x m k;exact aF _
 | succ f b=>
   intro x m k;by_cases h:x=[]/\k=true
   · rw[h.1,h.2,EY];exact aF _
   by_cases a:jM x=0
   · rw[Nq h a];have d:=zZ (x.drop (rN x)) m
     have c:(gT f (eU (x.drop (rN x)) m) m).1.length<=m-(eU (x.drop (rN x)) m).1.all.length:=by
      rcases TB f (eU (x.drop (rN x)) m) m with ⟨_,e⟩ | ⟨R,g,e⟩ | ⟨y,e⟩
      · rw[e];exact aF _
      · rw[e];exact aF _
      rw[e];exact b _ _ _
     show((eU (x.drop (rN x)) m).1.all++(gT f (eU (x.drop (rN x)) m) m).1).length<=m;rw[af];omega
   rw[EW h a];exact aF _
theorem Pv {x:List Int} {m:Nat} (d:(eU x m).2=8) (b:∀v∈x,0<=v/\v<256):∃j,j<=x.length/\jO (eU x m).1.x=x.drop j/\gG (x.drop j)=(eU x m).1.x:=by
 obtain⟨f,a⟩ :=Hu d;obtain⟨j,c⟩ :=ν (x.length-(start (gG x) m).fin.1.x.length/8);rw[c]at a;refine⟨j,ω, ?_,a⟩;have e:=vu (B:=x.drop j) (λv hv=>b v (aX hv));rw[a]at e;exact e
def Cs (o:List Int):List Int:=ot 4 (yU 0 o)++ot 4 ((o.length:Int)%4294967296)
def p9 (h:HP) (B o:List Int):List Int:=h.p4++(jO B++Cs o)
theorem tA (o:List Int):(Cs o).length=8:=by unfold Cs;rw[af,cU,cU]
theorem L5 (o:List Int):∀v∈Cs o,0<=v/\v<256:=mi (B4 _ _) (B4 _ _)
theorem a47 (h:HP) (a:h.bd):∀x∈h.p4,0<=x/\x<256:=by
 unfold HP.p4;refine mi (VW h a) ?_;split
 · exact B4 _ _
 exact FA
theorem a48 {h:HP}:10<=h.p4.length:=by
 obtain⟨t,e⟩ :=a7X h;rw[e,af,sM];omega
theorem TI {o:List Int} (b:∀v∈o,0<=v/\v<256) (y:List Int):ui (Cs o++y) o=0:=by
 have a:=KE (s:=0) ω b;have d:(Cs o++y).take 4=ot 4 (yU 0 o):=by unfold Cs;rw[ak,ep (cU _ _)]
 have c:((Cs o++y).drop 4).take 4=ot 4 ((o.length:Int)%4294967296):=by unfold Cs;rw[ak,ek (cU _ _),ep (cU _ _)]
 unfold ui;rw[aa (by rw[af,tA];omega),d,c,zg 4 a.1 (by have:=a.2;show _<(4294967296:Int);omega),zg 4 ω (by show _<(4294967296:Int);omega),aa σ]
theorem Pu {B o:List Int} (h:vh B o) (T:List Int) {m:Nat} (c:o.length<=m):∃t,eU (jO B++T) m=(t,8)/\t.all=o/\t.x=gG T:=by
 obtain⟨t,e,d,a⟩ :=h.fin;obtain⟨b,i,g,f⟩ :=Tp (y:=gG T) e (by rw[a];exact c) (by rw[eT];omega);refine⟨b, ?_,by rw[g,a],by rw[f,d,aT]⟩;unfold eU;rw[ua,Hr h.ev h.bit];exact i
section
variable {h:HP} {B o y T:List Int} {f m:Nat} {k:Bool}
theorem Np (j:h.bd) (i:h.ok=true) (hz:vh B o) (g:o.length<=m) (l:∀v∈T,0<=v/\v<256):
  gz (f+1) (h.p4++(jO B++T)) m k=(o++(if ui T o≠0 then([],[],ui T o)else gz f (T.drop 8) (m-o.length) true).1,(h.p4++(jO B++T))::(if ui T o≠0 then([],[],ui T o)else gz f (T.drop 8) (m-o.length) true).2.1,(if ui T o≠0 then([],[],ui T o)else gz f (T.drop 8) (m-o.length) true).2.2):=by
 obtain⟨w,u, -⟩ :=QD j i (M:=h.p4++(jO B++T)) rfl (.bool true);obtain⟨t,q,b,p⟩ :=Pu hz T g
 have d:¬(h.p4++(jO B++T)=[]/\k=true):=λe=>by
  have:=aL List.length e.1;simp only [List.length_append,List.length_nil]at this;have n:=a48 (h:=h);omega
 have s:(h.p4++(jO B++T)).drop (rN (h.p4++(jO B++T)))=jO B++T:=by rw[u,ek rfl]
 have r:gT f (t,8) m=if ui T o≠0 then([],[],ui T o)else gz f (T.drop 8) (m-o.length) true:=by
  have c:jO (t,(8:Int)).1.x=T:=by show jO t.x=T;rw[p,vu l]
  split
  · rename_i a;exact Hx rfl c b a
  rename_i a;exact Nj rfl c b (by simpa using a)
 rw[Nq d w,s,q,r];show(t.all++_,_,_)=_;rw[b]
theorem EX (g:h.bd) (d:h.ok=true) (hz:vh B o) (b:∀v∈o,0<=v/\v<256) (c:o.length<=m) (a:∀v∈y,0<=v/\v<256):
  gz (f+1) (p9 h B o++y) m k=(o++(gz f y (m-o.length) true).1,(p9 h B o++y)::(gz f y (m-o.length) true).2.1,(gz f y (m-o.length) true).2.2):=by
 have e:p9 h B o++y=h.p4++(jO B++(Cs o++y)):=by unfold p9;rw[ak,ak]
 rw[e,Np g d hz c (mi (L5 o) a),aa (by rw[TI b];decide),ek (tA o)]
end
theorem NV {l:List Int} (h:∀v∈l,0<=v/\v<256):ot l.length (mM l)=l:=by
 induction l with
 | nil=>rfl
 | cons b l a=>
   have c:=h b (az ..);show(b+256*mM l)%256::ot l.length ((b+256*mM l)/256)=b::l;rw[show(b+256*mM l)%256=b by omega,show(b+256*mM l)/256=mM l by omega,a (λv hv=>h v (aB _ hv))]
theorem Yz {T o:List Int} (h:T.length=8) (b:∀v∈T,0<=v/\v<256) (a:T≠Cs o):ui T o=4:=by
 unfold ui;rw[aa ω,ae];by_cases d:mM (T.take 4)=yU 0 o
 · by_cases c:mM ((T.drop 4).take 4)=(o.length:Int)%4294967296
   · refine absurd ?_ a;have g:=NV (l:=T.take 4) (λv hv=>b v (aH hv));have f:=NV (l:=(T.drop 4).take 4) (λv hv=>b v (aX (aH hv)));rw[aA,show min 4 T.length=4 by omega,d]at g;rw[aA,av,show min 4 (T.length-4)=4 by omega,c]at f;unfold Cs;have e:(T.drop 4).take 4=T.drop 4:=ay (by rw[av];omega);rw[g,f,e,aM]
   exact .inr c
 exact .inl d
theorem YB {x:List Int} {f m:Nat} (h:0<x.length) (b:ix x 0≠31):(gz (f+1) x m true).2.2=2:=by
 have a:jM x=2:=J4 (k:=0) δ (λi hi=>ω) h b;rw[EW (λe=>by rw[e.1]at h;simp at h) (by rw[a];decide)];exact a
set_option maxHeartbeats 8000000
theorem Oc {b:Nat} {w w':World} (h:Below b w w') (q:Nat):Below b w (w'.drewN q):= ⟨h.os,h.tape,h.output,h.size,h.block⟩
theorem Ja:(Tryz.prog.info? 5).map (λi=>(i.zero,i.size,i.bytes))=some (some (.int .u8 0),1,1):=by kernel_rfl
def wP (w:World) (x:List Int) (m:Nat) (e:Ending) (w':World):Prop:=
 ∃A k c,e= .returned (.tuple #[.slice A k c, .int .i64 (gz (x.length+1) x m false).2.2])/\aW .u8 w' w.heap.size 5 A k c (gz (x.length+1) x m false).1/\Below w.heap.size w w'
def Ss (w:World) (e:List Int) (d:Int) (M:Nat) (gk:Nat) (c a b:Value) (wr:World):Prop:=∃(A:Option Addr) (k cp:Nat) (x:List Int) (Ao:Option Addr) (ko co:Nat) (o:List Int) (mc:Nat),
 c= .slice A k cp/\a= .slice Ao ko co/\b= .int .i64 mc/\bU .u8 wr w.heap.size A k x/\k<=cp/\(∀v∈x,0<=v/\v<256)/\aW .u8 wr w.heap.size 5 Ao ko co o/\o.length<=M/\x.length<gk/\mc+gk<=1000001/\
  e=o++(gz gk x (M-o.length) (decide (0<mc))).1/\d=(gz gk x (M-o.length) (decide (0<mc))).2.2/\Below w.heap.size w wr
theorem yh (w:World) (A:Option Addr) (n cp:Nat) (G:List Int) (M:Nat) (hr:bU .u8 w w.heap.size A n G) (eL:n<=cp) (s:∀v∈G,0<=v/\v<256) (ck:G.length<=1000000) (Lx:M<=1000000000):
  Calls Tryz.prog 11 #[.slice A n cp, .int .i64 M] w (wP w G M):=by
 obtain⟨i0,hi,cd,ca,bI⟩ :=aJ Ja;have Hi:=η (⟨hi,cd,ca,bI⟩ :_/\_/\_/\_);have en:¬(M:Int)<0/\(M:Int)<=1000000000/\(0:Int)<=(M:Int):=ω;obtain⟨T1,bt⟩ :=ν ((gz (G.length+1) G M false).1);obtain⟨T2,I3⟩ :=ν ((gz (G.length+1) G M false).2.2);have B:Ss w T1 T2 M (G.length+1) (.slice A n cp) (.slice none 0 0) (.int .i64 0) w:= ⟨A,n,cp,G,none,0,0,[],0,rfl,rfl,rfl,hr,eL,s,aW.dK,aF _,iL _,ω,by rw[aT];exact bt.symm,I3.symm,aw _ _⟩;have HS:=η B
 have AR:Hid (∀A k c w',aW .u8 w' w.heap.size 5 A k c T1->Below w.heap.size w w'->wP w G M (.returned (.tuple #[.slice A k c, .int .i64 T2])) w'):=λA k c w' ho hb=>by
  unfold wP;rw[bt,I3];exact⟨A,k,c,rfl,ho,hb⟩
 obtain⟨K0,I0⟩ :=ν (G.length+1);rw[I0]at HS;have ej:¬M<0:=ω;clear B hr eL s ck hi cd ca bI bt I3 I0;go_enter Tryz.func11,Tryz.ntmps11
 go_wp2_with fail;go_loopg [0,6,7] K0 (Ss w T1 T2 M)
 case atStart=>exact HS.out
 clear HS;obtain⟨A,k,cp,x,Ao,S,co,o,Z,rfl,rfl,rfl,hr,eL,s,ho,ah,Ut,Fc,u,t,hb⟩ :=hrel;obtain⟨f,hf⟩ :∃f,gk=f+1:= ⟨gk-1,ω⟩;rw[hf]at u t;have PR:=hr.1;have al:=ho.1;have eb:(0:Int)<=(Z:Int)/\(Z:Int)<=1000001/\(k:Int)<=1000000/\(0:Int)<=(k:Int):=ω;by_cases oh:k=0/\0<Z
 · obtain⟨rfl,h0⟩ :=oh;have ce:x=[]:=aC PR.symm;rw[ce,aS h0,EY]at u t;have bX:=η (AR.out Ao S co wr (by rw[u,ax];exact ho) hb);have cL:(0:Int)<(Z:Int):=ω;have H2:Hid (T2=8):=t;clear hr eL s ho ah Ut Fc u t hb hf PR al ce AR
   go_wp2_with fail;go_returns;rw[<-H2.out];exact bX.out
 have Fh:¬(x=[]/\decide (0<Z)=true):=λh=>oh ⟨by rw[PR,h.1];rfl,cM h.2⟩;have bp:0<k\/(k=0/\Z=0):=ω;have xT:=hb.size;have HH:=η (Jb wr w.heap.size k cp A x hr xT ω eL s);have hJ:=MX x;have I:=η (⟨hr,eL,s,ho,ah,hb,PR,al⟩ :_/\_/\_/\_/\_/\_/\_/\_);have HG:=η (⟨Ut,Fc,hf,hJ⟩ :_/\_/\_/\_);by_cases C:jM x=0
 rotate_left
 · rw[EW Fh C]at u t;have bX:Hid (∀W,Below wr.heap.size wr W->wP w G M (.returned (.tuple #[.slice Ao S co, .int .i64 T2])) W):=λW hW=>AR.out Ao S co W (by rw[u,ax];exact ho.keeps hW) (hb.trans (hW.mono xT));have HQ:=η C;have H2:Hid (jM x=T2):=t.symm;clear hr eL s ho ah Ut Fc u t hb hf PR al AR Fh oh hJ;rcases bp with h0 | ⟨rfl,rfl⟩
   all_goals
    try (have cL:¬(k:Int)=0/\(0:Int)<(k:Int):=ω)
    try (have du:((k:Int)==0)=false:=ξ)
    clear C
    go_wp2_with fail;refine HH.out.mono ?_;rintro e w1 ⟨X,m',cc,xl,Fc,cm,NK,hX,d,(⟨h0,_⟩ | ⟨h0,rfl⟩)⟩
    · exact absurd h0 HQ.out
    have B:=η (λo=>d.alloc d.size o);rw[H2.out]at h0⊢;have dz:(T2 != 0)=true:=by simpa using h0
    have dy:(T2==0)=false:=by simpa using h0
    clear NK hX d;unfold hagg hz;dsimp only
    go_wp2_with fail;go_returns;exact bX.out _ (B.out _)
 have Dp:0<k:=by
  rcases bp with h | ⟨h,_⟩
  · exact h
  exfalso
  rw[aC (show x.length=0 by omega),a0n]at C;exact absurd C δ
 have cL:¬(k:Int)=0/\(0:Int)<(k:Int):=ω;have du:((k:Int)==0)=false:=ξ;rw[Nq Fh C]at u t;obtain⟨J,bB⟩ :=ν (rN x);rw[bB]at u t hJ;obtain⟨y,hy⟩ :=ν (x.drop J);obtain⟨m,hm⟩ :=ν (M-o.length);rw[hy,hm]at u t;obtain⟨F,hF⟩ :=ν (eU y m);have TS:=zZ y m;have YJ:=uj y m;have cE:F.2≠0:=by rw[<-hF];exact IS.KW _
 have LI:∀v∈y,0<=v/\v<256:=λv hv=>s v (aX (by rw[hy];exact hv));have ab:y.length=k-J:=by rw[<-hy,av,PR]
 have cD:F.2=8->jO F.1.x=y.drop (y.length-F.1.x.length/8):=λh8=>by
  have h9:=(Hu (b:=y) (m:=m) (show(eU y m).2=8 by rw[hF];exact h8)).2;rw[show(start (gG y) m).fin=F from hF]at h9;exact(aL jO h9).symm.trans (vu λv hv=>LI v (aX hv))
 rw[hF]at u t TS YJ;have oP:∀(A:Option Addr) (n c j:Nat),j<=n->∀W,_:=λA n c j hj W=>dc (P:=Tryz.prog) 22 5 Tryz.underlying22 Hi.out.1 Hi.out.2.2.1 A n c hj W;have dk:=oP A k cp J ω;have ad:=hr.dx (j:=J) ω eL;rw[hy]at ad;obtain⟨A9,Hz⟩ :=ν (dx A cp J);obtain⟨k9,K4⟩ :=ν (k-J);obtain⟨c9,cr⟩ :=ν (cp-J);rw[Hz,K4,cr]at dk;rw[Hz,K4]at ad;have cB:((m:Nat):Int)=max ((M:Int)-(S:Int)) 0:=ω;have cj:m<=1000000000:=ω;have HQ:=η (⟨C,bB⟩ :_/\_);have Q:=η (⟨u,t,TS,YJ,cE,cD,hF,hm⟩ :_/\_/\_/\_/\_/\_/\_/\_);have HY:=η (⟨ad,LI,ab,cB,cj,K4,hy⟩ :_/\_/\_/\_/\_/\_/\_);have Rl:=η oP;have ec:(0:Int)<=(S:Int)/\(S:Int)<=(M:Int):=ω;have es:(0:Int)<=(J:Int)/\(J:Int)<=(k:Int):=ω;clear hr eL s ho ah Ut Fc u t hb hf PR al Fh oh hJ C bB hy hm hF TS YJ cE cD LI ab oP ad Hz K4 cr cB cj bp Dp
 go_wp2_with fail;refine HH.out.mono ?_;rintro e w1 ⟨X,m',cc,xl,Fc,cm,NK,hX,d,(⟨_,_,rfl⟩ | ⟨h0,_⟩)⟩;rotate_left
 · exact absurd HQ.out.1 h0
 rw[HQ.out.2];have cX:=η d.size;have B:=η (λo=>d.alloc d.size o);have HI:=η (λo=>FR (w1.alloc o) w.heap.size A9 k9 c9 y ((HY.out.1.below (d.mono xT)).alloc (au xT d.size) o) (au (au xT d.size) σ) HY.out.2.1 (by have:=HY.out;have:=I.out;omega) _ m HY.out.2.2.2.1 HY.out.2.2.2.2.1 F Q.out.2.2.2.2.2.2.1);obtain⟨hv,bl⟩ :=ν (CI x (.slice X m' cc));have cW:hv.ex= .slice X m' cc:=by rw[<-bl];rfl
 rw[bl];clear NK hX d bl Fc cm xT HH;unfold hagg;rw[cW];clear cW
 go_wp2_with fail;refine(HI.out _).mono ?_;rintro r w6 ⟨g,c,R,rfl,hM,cs,hE,am, -, -, -,UX⟩;have mb:Below wr.heap.size wr w6:=(B.out _).trans (cs.mono (B.out _).size);have db:w6.cell? ⟨g,0,none⟩ =some (.slice R.Ao R.no R.co):=hM.cell.cell (i:=0) ω;have yJ:=hM.out;rw[am]at yJ;have Q8:=yJ.rd;have be:=I.out.2.2.2.1.keeps mb;have ac:w.heap.size<=w6.heap.size:=au I.out.2.2.2.2.2.1.size mb.size;have ea:R.no<=m:=by rw[yJ.1];exact Q.out.2.2.1
 have xk:S+R.no<=1000000000:=by have h1:=Q.out.2.2.2.2.2.2.2;have h2:=I.out.2.2.2.2.1;have h3:=I.out.2.2.2.2.2.2.2;omega
 have yD:∀q,c q≠0->¬ai Ao=some q:=λq C h9=>by
  have h1:=(hM.cb q C).1;have h2:=(I.out.2.2.2.1.2.lt h9).2;have h3:=cX.out;rw[jw]at h1;omega
 have U6:¬ai Ao=some g:=yD g (by rw[hM.cg];decide);have ct:∀q,ai R.Ao=some q->¬ai Ao=some q:=λq C=>yD q (by rw[hM.cout q C];decide);have H6:=η (⟨mb,hM.cell,yJ,U6,ct,hE,UX⟩ :_/\_/\_/\_/\_/\_/\_);clear hM cs hE am UX mb yJ yD U6 ct B HI cX
 go_upto_region 13 with (at_builtin;(refine ba .u8 w.heap.size 5 i0 1 rfl (.tmp 42) (.tmp 46) _ rfl Tryz.underlying22 Hi.out.1 Hi.out.2.1 Hi.out.2.2.1 Hi.out.2.2.2 rfl be rfl Q8 ω ω ac ?_)
                         intro A7 c7 p Ch K1 Aa)
 have Gr:bj w6 p (λq=>ai Ao=some q):=(bj.refl w6 _).grown K1 (λq C=> .inl C);have Y:Below w.heap.size wr p:=(H6.out.1.mono I.out.2.2.2.2.2.1.size).trans (Gr.below (λq C=>(I.out.2.2.2.1.2.lt C).1) ac);have pB:=I.out.2.2.2.2.2.1.trans Y;have kz:=Gr.ar H6.out.2.1 H6.out.2.2.2.1;have aE:=Gr.eH H6.out.2.2.1 H6.out.2.2.2.2.1;replace db:p.cell? ⟨g,0,none⟩ =some (.slice R.Ao R.no R.co):=kz.cell (i:=0) ω;have an:p.cell? ⟨g,1,none⟩ =some (.int .i64 R.E):=kz.cell (i:=1) ω;have da:p.cell? ⟨g,2,none⟩ =some (.int .i64 R.rest):=kz.cell (i:=2) ω
 have Xw:Hid (∀q v,v=T2->T1=o++F.1.all->wP w G M (.returned (.tuple #[.slice A7 (S+R.no) c7, .int .i64 v])) (p.drewN q)):=λq v hv ht=>by
  rw[hv];exact AR.out A7 _ c7 _ (by rw[ht];exact Ch.drewN q) (Oc pB q)
 by_cases h8:F.2=8
 rotate_left
 · have cH:R.E=F.2:=by rw[H6.out.2.2.2.2.2.1];unfold Tf;rw[aa h8]
   have O:gT f F m=([],[],F.2):=L0 h8;have hv:=λq=>Xw.out q F.2 (by rw[Q.out.2.1,O]) (by rw[Q.out.1,O];simp);have ci:=Q.out.2.2.2.2.1;rw[cH]at an;obtain⟨V,hV⟩ :=ν (F.2);rw[hV]at an hv ci;have CB:(V==0)=false:=by simpa using ci
   have HV:=η hv;clear Gr Y pB kz aE Xw h8 cH O hV hv Ch K1 Aa be Q8 ac
   go_wp2_with fail;go_quiet (fail)
   go_wp2_with fail;go_returns;exact HV.out _
 have nK:R.E=0:=by rw[H6.out.2.2.2.2.2.1];unfold Tf;rw[ae h8]
 rw[nK]at an;obtain⟨Rn,bv⟩ :=ν (y.length-F.1.x.length/8);have tM:=H6.out.2.2.2.2.2.2 h8;rw[bv]at tM;rw[tM]at da;have PR:=I.out.2.2.2.2.2.2.1;have ab:=HY.out.2.2.1;obtain⟨K,hK⟩ :=ν (J+Rn);have bx:K<=k:=by have:=HY.out.2.2.2.2.2.1;omega
 obtain⟨T,hT⟩ :=ν (x.drop K);have Dk:∀v∈T,0<=v/\v<256:=λv hv=>I.out.2.2.1 v (aX (by rw[hT];exact hv));have cw:jO F.1.x=T:=by rw[Q.out.2.2.2.2.2.1 h8,bv,<-HY.out.2.2.2.2.2.2,bm,hK,hT]
 have U:=(I.out.1.below Y).dx (j:=K) bx I.out.2.1;rw[hT]at U;have dd:=Rl.out A k cp K bx;have Ui:k-K<=cp-K:=by have:=I.out.2.1;omega
 obtain⟨L,hA8⟩ :=ν (dx A cp K);obtain⟨H,Zt⟩ :=ν (k-K);obtain⟨z,bs⟩ :=ν (cp-K);rw[hA8,Zt,bs]at dd;rw[hA8,Zt]at U;rw[Zt,bs]at Ui;have cz:H=T.length:=U.1;have er:(J:Int)+(Rn:Int)=(K:Int)/\(K:Int)<=(k:Int)/\(0:Int)<=(Rn:Int)/\(0:Int)<=(H:Int)/\(H:Int)<=(k:Int):=ω;have cx:T.length<=x.length:=ω;have u:=Q.out.1;have t:=Q.out.2.1;have D:=η (⟨Dk,cw,cz,cx,h8,u,t⟩ :_/\_/\_/\_/\_/\_/\_);have N:=η (⟨Y,pB,Ch,aE,U,Ui⟩ :_/\_/\_/\_/\_/\_);clear Gr Y pB kz aE nK bv tM PR ab hK bx hT Dk cw U Ui hA8 Zt bs cz cx u t Ch K1 Aa be Q8 ac h8;by_cases h5:H<8
 · have hg:ui T F.1.all=5:=by unfold ui;rw[ae (by rw[<-D.out.2.2.1];exact h5)]
   have O:gT f F m=([],[],5):=by rw[Hx D.out.2.2.2.2.1 D.out.2.1 rfl (by rw[hg];decide),hg]
   have hf:=η (Xw.out 0 5 (by rw[D.out.2.2.2.2.2.2,O]) (by rw[D.out.2.2.2.2.2.1,O];simp));have ds:(H:Int)<8:=ω;clear hg O h5 Xw
   go_wp2_with fail;go_returns;exact hf.out
 have ds:¬(H:Int)<8/\(8:Int)<=(H:Int):=ω;have kG:∀W,(Instr.slice 22 (.slice L H z) none (some (.int .i64 4)) none).run Tryz.prog W= .ok (.slice L 4 z) W:=λW=>dV (P:=Tryz.prog) 22 5 Tryz.underlying22 Hi.out.1 Hi.out.2.2.1 L H z (j:=4) (by have:=N.out.2.2.2.2.2;omega) W;have dj:∀W,(Instr.slice 22 (.slice L H z) (some (.int .i64 4)) (some (.int .i64 8)) none).run Tryz.prog W= .ok (.slice (dx L z 4) 4 (z-4)) W:=λW=>fR (P:=Tryz.prog) 22 5 Tryz.underlying22 Hi.out.1 Hi.out.2.2.1 L H z (a:=4) (b:=8) ω (by have:=N.out.2.2.2.2.2;omega) W;have de:∀W,(Instr.slice 22 (.slice L H z) (some (.int .i64 8)) none none).run Tryz.prog W= .ok (.slice (dx L z 8) (H-8) (z-8)) W:=λW=>dc (P:=Tryz.prog) 22 5 Tryz.underlying22 Hi.out.1 Hi.out.2.2.1 L H z (j:=8) ω W;have RN:bU .u8 p w.heap.size L 4 (T.take 4):=N.out.2.2.2.2.1.pre ω;have UR:bU .u8 p w.heap.size (dx L z 4) 4 ((T.drop 4).take 4):=(N.out.2.2.2.2.1.dx (j:=4) ω N.out.2.2.2.2.2).pre (j:=4) ω;have ap:=N.out.2.2.2.2.1.dx (j:=8) ω N.out.2.2.2.2.2;obtain⟨A4,Cb⟩ :=ν (dx L z 4);obtain⟨d4,Am⟩ :=ν (z-4);obtain⟨AF,bE⟩ :=ν (dx L z 8);obtain⟨nF,bi⟩ :=ν (H-8);obtain⟨dF,xY⟩ :=ν (z-8);have cq:nF<=dF:=by have:=N.out.2.2.2.2.2;omega
 rw[Cb,Am]at dj;rw[Cb]at UR;rw[bE,bi,xY]at de;rw[bE,bi]at ap;have Dk:=D.out.1;have ch:∀i,0<=ix F.1.all i/\ix F.1.all i<256:=gp Q.out.2.2.2.1;obtain⟨cv,bo⟩ :=ν (yU 0 F.1.all);obtain⟨v1,oQ⟩ :=ν (mM (T.take 4));obtain⟨v2,ao⟩ :=ν (mM ((T.drop 4).take 4));have dq:=D.out.2.2.1
 have dP:0<=v1/\v1<4294967296:=by
  have h9:=B5 (l:=T.take 4) (λv hv=>Dk v (aH hv));rw[oQ,aA,show min 4 T.length=4 by omega]at h9;exact⟨h9.1,by have:=h9.2;omega⟩
 have JU:∀q,Calls Tryz.prog 32 #[.slice L 4 z] (p.drewN q) λe w'=>e= .returned (.int .i64 v1)/\w'=p.drewN q:=λq=>by
  have:=pV (p.drewN q) w.heap.size 4 z L _ (RN.drewN q) ω (λv hv=>Dk v (aH hv));rw[oQ]at this;exact this
 have Rz:∀q,Calls Tryz.prog 32 #[.slice A4 4 d4] (p.drewN q) λe w'=>e= .returned (.int .i64 v2)/\w'=p.drewN q:=λq=>by
  have:=pV (p.drewN q) w.heap.size 4 d4 A4 _ (UR.drewN q) ω (λv hv=>Dk v (aX (aH hv)));rw[ao]at this;exact this
 have Rt:∀q,Calls Tryz.prog 33 #[.int .u32 0, .slice R.Ao R.no R.co] (p.drewN q) λe w'=>e= .returned (.int .u32 cv)/\w'=p.drewN q:=λq=>by
  have:=J6 0 R.Ao R.no R.co _ F.1.all (p.drewN q) ((N.out.2.2.2.1.rd).drewN q) ch ω ω;rw[show iq (lW (iq 0) F.1.all R.no)=cv by rw[<-bo,N.out.2.2.2.1.1];rfl]at this;exact this.mono λ_ _ h=> ⟨h.1,h.2.symm⟩
 have ef:(R.no:Int).tmod 4294967296=(R.no:Int):=by rw[cK ω];omega
 have eg:(0:Int)<=(R.no:Int)/\(R.no:Int)<=1000000000:=ω
 have hg:ui T F.1.all=if v1≠cv\/v2≠(R.no:Int)then 4 else 0:=by
  unfold ui;rw[aa ω,oQ,ao,bo,show(F.1.all.length:Int)%4294967296=(R.no:Int) by rw[<-N.out.2.2.2.1.1];omega]
 have jK:Hid (v1≠cv\/v2≠(R.no:Int)->∀q,wP w G M (.returned (.tuple #[.slice A7 (S+R.no) c7, .int .i64 4])) (p.drewN q)):=λh q=>by
  have cl:ui T F.1.all=4:=by rw[hg,ae h]
  have O:gT f F m=([],[],4):=by rw[Hx D.out.2.2.2.2.1 D.out.2.1 rfl (by rw[cl];decide),cl]
  exact Xw.out q 4 (by rw[D.out.2.2.2.2.2.2,O]) (by rw[D.out.2.2.2.2.2.1,O];simp)
 have kC:Hid (v1=cv->v2=(R.no:Int)->∀q,Ss w T1 T2 M f (.slice AF nF dF) (.slice A7 (S+R.no) c7) (.int .i64 ((Z:Int)+1)) (p.drewN q)):=λc1 c2 q=>by
  have dp:ui T F.1.all=0:=by rw[hg,aa (by rintro(h | h);exact h c1;exact h c2)]
  have O:gT f F m=gz f (T.drop 8) (m-F.1.all.length) true:=Nj D.out.2.2.2.2.1 D.out.2.1 rfl dp;have Dq:=I.out.2.2.2.2.1;have Uz:=Q.out.2.2.2.2.2.2.2;have nT:=Q.out.2.2.1;have u:=D.out.2.2.2.2.2.1;have t:=D.out.2.2.2.2.2.2;rw[O]at u t;have cA:M-(o++F.1.all).length=m-F.1.all.length:=by rw[af];omega
  have ee:=HG.out.2.2.1;refine⟨AF,nF,dF,T.drop 8,A7,S+R.no,c7,o++F.1.all,Z+1,rfl,rfl,by go_num,ap.drewN q,cq,λv hv=>Dk v (aX hv),N.out.2.2.1.drewN q,by rw[af];omega, ?_, ?_, ?_, ?_,Oc N.out.2.1 q⟩
  · rw[av];have:=D.out.2.2.2.1;have:=HG.out.1;omega
  · have:=HG.out.2.1;omega
  · rw[cA,aS (Nat.succ_pos Z),ak];exact u
  rw[cA,aS (Nat.succ_pos Z)];exact t
 have XR:=η JU;have Cm:=η Rz;have Ri:=η Rt;have dl:Hid (f<gk):=by show f<gk;have:=HG.out.2.2.1;omega
 clear JU Rz Rt RN UR ap Cb Am bE bi xY cq Dk ch bo oQ ao dq hg h5 Xw;by_cases c1:v1=cv
 rotate_left
 · have hf:=η (jK.out (.inl c1));have ew:(v1==cv)=false:=by simpa using c1
   have ev:(v1 != cv)=true:=by simpa using c1
   clear jK kC c1
   go_wp2_with fail;go_quiet ((first | (go_at_call 32;(with_reducible first | exact bK (XR.out _) | exact bK (Cm.out _))) | (go_at_call 33;exact bK (Ri.out _))))
   go_wp2_with fail;go_returns;exact hf.out _
 by_cases c2:v2=(R.no:Int)
 · have hf:=η (kC.out c1 c2);clear jK kC;subst c1 c2
   go_wp2_with fail;go_quiet ((first | (go_at_call 32;(with_reducible first | exact bK (XR.out _) | exact bK (Cm.out _))) | (go_at_call 33;exact bK (Ri.out _))))
   go_wp2_with fail;go_roundg f
   case measure=>exact dl.out
   case rel=>exact hf.out _
 have hf:=η (jK.out (.inr c2));have eu:(v2==(R.no:Int))=false:=by simpa using c2
 have et:(v2 != (R.no:Int))=true:=by simpa using c2
 clear jK kC c2;subst c1
 go_wp2_with fail;go_quiet ((first | (go_at_call 32;(with_reducible first | exact bK (XR.out _) | exact bK (Cm.out _))) | (go_at_call 33;exact bK (Ri.out _))))
 go_wp2_with fail;go_returns;exact hf.out _
end Go.Proofs.YtdhmnlpfhfmpfaaGreat
