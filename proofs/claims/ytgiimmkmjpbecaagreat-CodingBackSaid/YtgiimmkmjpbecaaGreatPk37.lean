/-
  part
-/
import Derived.Test.YtgiimmkmjpbecaaGreatPk29
set_option linter.unusedVariables false
set_option maxRecDepth 100000
set_option maxHeartbeats 8000000
namespace Go.Proofs.YtgiimmkmjpbecaaGreat
open Go.RowKit
structure ZR where
 m:Nat
 A:ax
 n:Nat
 cp:Nat
 l:ag
 p:ax
 sS:Bool
 RJ:Bool
 sum:Int
 en:Bool
 err:Int
def zF (Z:ZR):Nat->Value
 | 0=> .int .i64 Z.m
 | 1=> .slice Z.A Z.n Z.cp
 | 2=> .pointer Z.p
 | 3=> .bool Z.sS
 | 4=> .bool Z.RJ
 | 5=> .int .u32 Z.sum
 | 6=> .bool Z.en
 | _=> .int .i64 Z.err
theorem F3 {P:Nat->Prop} (e:P 0) (d:P 1) (c:P 2) (b:P 3) (h4:P 4) (h5:P 5) (h6:P 6) (h7:P 7):∀j,j<8->P j:=λj a=>by
 obtain rfl | rfl | rfl | rfl | rfl | rfl | rfl | rfl:j=0\/j=1\/j=2\/j=3\/j=4\/j=5\/j=6\/j=7:=ω;all_goals assumption
def zX (g:Nat) (c:Nat->Nat) (A:ax):Nat->Prop:=λk=>k=g\/ai A=some k\/c k≠0
structure ru (w:World) (b0 g:Nat) (c:Nat->Nat) (Z:ZR):Prop where
 cell:Ar w g 8 (zF Z)
 lo:b0<=g
 own:fK .u8 w b0 5 Z.A Z.n Z.cp Z.l
 jc:∀v∈Z.l,0<=v/\v<256
 cg:c g=0
 cA:∀k,ai Z.A=some k->k≠g/\c k=0
 cb:∀k,c k≠0->b0<=k/\k<w.heap.size
 sm:0<=Z.sum/\Z.sum<4294967296
def Cx (w:World) (b0:Nat) (c:Nat->Nat) (x a:ag) (Z:ZR):Prop:=
 (Z.p=none/\Z.sS=false/\Z.RJ=false/\Z.l=x/\a=[]/\∀k,c k=0)\/
 (∃b gd M S,Z.p=some ⟨gd,0,none⟩/\b0<=b/\iy w b gd c M S/\D8 x=0/\
   ((Z.sS=false/\Z.RJ=false/\Z.A=none/\Z.n=0/\Z.cp=0/\Z.l=[]/\ZIn (kD x Z.m) (a++M.out) M S/\M.out.length<=70000)\/
    (Z.sS=true/\(kD x Z.m).2=8/\a=(kD x Z.m).1.all/\∃R,dT R=(kD x Z.m).1.x/\(∀v∈R,0<=v/\v<256)/\((Z.RJ=false/\Z.l=R)\/(Z.RJ=true/\4<=R.length/\wQ R=Z.sum/\Z.l=R.drop 4)))))
section
variable {w w' w'':World} {b0 g:Nat} {c c':Nat->Nat} {Z Z':ZR} {x a:ag} {E E' E'':Nat->Prop}
theorem ru.qb (h:ru w b0 g c Z):∀k,zX g c Z.A k->b0<=k:=λk a=>by
 rcases a with rfl | a | a
 · exact h.lo
 · exact(h.own.lt a).1
 exact(h.cb k a).1
theorem ru.xlt (h:ru w b0 g c Z):∀k,zX g c Z.A k->k<w.heap.size:=λk a=>by
 rcases a with rfl | a | a
 · exact h.cell.lt
 · exact(h.own.lt a).2
 exact(h.cb k a).2
theorem ru.low (h:ru w b0 g c Z):b0<=w.heap.size:=aq h.lo (bE h.cell.lt)
theorem ru.cells (h:ru w b0 g c Z):w.cell? ⟨g,0,none⟩ =some (.int .i64 Z.m)/\w.cell? ⟨g,1,none⟩ =some (.slice Z.A Z.n Z.cp)/\w.cell? ⟨g,2,none⟩ =some (.pointer Z.p)/\w.cell? ⟨g,3,none⟩ =some (.bool Z.sS)/\w.cell? ⟨g,4,none⟩ =some (.bool Z.RJ)/\
  w.cell? ⟨g,5,none⟩ =some (.int .u32 Z.sum)/\w.cell? ⟨g,6,none⟩ =some (.bool Z.en)/\w.cell? ⟨g,7,none⟩ =some (.int .i64 Z.err):=
 ⟨h.cell.cell ω,h.cell.cell ω,h.cell.cell ω,h.cell.cell ω,h.cell.cell ω,h.cell.cell ω,h.cell.cell ω,h.cell.cell ω⟩
theorem ru.Ae (h:ru w b0 g c Z) {i:Nat} (hi:i<8):w.frozen? ⟨g,i,none⟩ =false:=h.cell.frozen' hi
theorem ru.turn (h:ru w b0 g c Z) (b:bb w w' (λk=>k=g)) (i:Ar w' g 8 (zF Z')) (hA:Z'.A=Z.A/\Z'.n=Z.n/\Z'.cp=Z.cp/\Z'.l=Z.l) (f:0<=Z'.sum/\Z'.sum<4294967296):ru w' b0 g c Z':=by
 obtain⟨d,m,j,h4⟩ :=hA;exact⟨i,h.lo,by rw[d,m,j,h4];exact h.own.dx b (λk a e=>(h.cA k a).1 e),by rw[h4];exact h.jc,h.cg,by rw[d];exact h.cA,λk a=> ⟨(h.cb k a).1,aB (h.cb k a).2 b.size⟩,f⟩
theorem ru.dx {F:Nat->Prop} (h:ru w b0 g c Z) (d:bb w w' F) (hF:∀k,F k->k≠g/\ai Z.A≠some k) (b:∀k,c' k≠0->b0<=k/\k<w'.heap.size) (f:c' g=0) (hA:∀k,ai Z.A=some k->c' k=0):ru w' b0 g c' Z:=
 ⟨d.ar h.cell (λe=>(hF g e).1 rfl),h.lo,h.own.dx d (λk a e=>(hF k e).2 a),h.jc,f,λk a=> ⟨(h.cA k a).1,hA k a⟩,b,h.sm⟩
theorem ru.keeps (h:ru w b0 g c Z) (a:Below w.heap.size w w'):ru w' b0 g c Z:=
 ⟨h.cell.keeps a,h.lo,h.own.keeps a,h.jc,h.cg,h.cA,λk b=> ⟨(h.cb k b).1,aB (h.cb k b).2 a.size⟩,h.sm⟩
theorem Cx.keeps (h:Cx w b0 c x a Z) (b:Below w.heap.size w w'):Cx w' b0 c x a Z:=by
 rcases h with h | ⟨g,gd,M,S,f,e,d,h4⟩
 · exact .inl h
 exact .inr ⟨g,gd,M,S,f,e,d.keeps b,h4⟩
theorem Cx.aside {F:Nat->Prop} (h:Cx w b0 c x a Z) (b:bb w w' F) (hF:∀k,F k->c k=0) (d:Z'.m=Z.m/\Z'.A=Z.A/\Z'.n=Z.n/\Z'.cp=Z.cp/\Z'.l=Z.l/\Z'.p=Z.p/\Z'.sS=Z.sS/\Z'.RJ=Z.RJ/\Z'.sum=Z.sum):Cx w' b0 c x a Z':=by
 obtain⟨v,u,t,s,r,q,o,j,i⟩ :=d;unfold Cx at h⊢;rw[v,u,t,s,r,q,o,j,i];rcases h with h | ⟨y,gd,M,S,g,f,e,h4⟩
 · exact .inl h
 exact .inr ⟨y,gd,M,S,g,f,e.aside b hF,h4⟩
end
def Cc (w:World) (b0 g:Nat) (E:Nat->Prop) (x a:ag) (m:Nat) (en hd:Bool):Prop:=
 ∃c Z,ru w b0 g c Z/\Cx w (g+1) c x a Z/\Z.m=m/\Z.en=en/\Z.sum=gI 1 a/\E=zX g c Z.A/\(Z.err=0\/(Z.err=zE x m en/\a=kR x m/\(Z.err=5->en=true)))/\(hd=true->Z.p=none/\Z.err=0)
section
variable {w w':World} {b0 g:Nat} {E:Nat->Prop} {x a:ag} {m:Nat} {en hd:Bool}
theorem Cc.keeps (h:Cc w b0 g E x a m en hd) (b:Below w.heap.size w w'):Cc w' b0 g E x a m en hd:=by
 obtain⟨c,Z,f,e,d⟩ :=h;exact⟨c,Z,f.keeps b,e.keeps b,d⟩
theorem Cc.low (h:Cc w b0 g E x a m en hd):b0<=w.heap.size:=by obtain⟨c,Z,b, -⟩ :=h;exact b.low
theorem Cc.xlt (h:Cc w b0 g E x a m en hd):∀k,E k->b0<=k/\k<w.heap.size:=by
 obtain⟨c,Z,d,_,_,_,_,rfl,_⟩ :=h;exact λk b=> ⟨d.qb k b,d.xlt k b⟩
end
theorem XY (w:World) (most:Int) (m:Nat) (f:(m:Int)=max most 0):
  Calls Tryz.prog 40 #[.int .i64 most] w λe w'=>∃g E,e= .returned (.pointer (some ⟨g,0,none⟩))/\Cc w' w.heap.size g E [] [] m false true/\Below w.heap.size w w':=by
 have h:Hid (∀v:Int,v=(m:Int)->∃g E,Ending.returned (.pointer (some ⟨w.heap.size,0,none⟩))= .returned (.pointer (some ⟨g,0,none⟩))/\
   Cc (w.alloc (.cells #[.int .i64 v, .slice none 0 0, .pointer none, .bool false, .bool false, .int .u32 1, .bool false, .int .i64 0] 114)) w.heap.size g E [] [] m false true/\
   Below w.heap.size w (w.alloc (.cells #[.int .i64 v, .slice none 0 0, .pointer none, .bool false, .bool false, .int .u32 1, .bool false, .int .i64 0] 114))):=by
  rintro v rfl
  refine⟨_,_,rfl, ⟨λ_=>0, ⟨m,none,0,0,[],none,false,false,1,false,0⟩, ⟨Ar.new w _ _ rfl (F3 rfl rfl rfl rfl rfl rfl rfl rfl),af _,fK.di,λv hv=>by simp at hv,rfl,λk b=>by simp [ai]at b,λk b=>absurd rfl b,by show(0:Int)<=1/\(1:Int)<_;omega⟩,
   .inl ⟨rfl,rfl,rfl,rfl,rfl,λ_=>rfl⟩,rfl,rfl,by show(1:Int)=gI 1 [];decide,rfl, .inl rfl,λ_=> ⟨rfl,rfl⟩⟩,(aw _ w).alloc (af _) _⟩
 have c:(most<0/\m=0)\/(0<most/\(m:Int)=most)\/(most=0/\m=0):=ω;clear f;rcases c with ⟨d,a⟩ | ⟨d,a⟩ | ⟨d,a⟩
 all_goals
  have i:=η a;clear a
  try subst d
  go_in
  go_wp2_with fail;go_ret;exact h.out _ (τ i.out)
theorem XX (w:World) (b0 g:Nat) (E:Nat->Prop) (x a:ag) (m:Nat) (hd:Bool) (h:Cc w b0 g E x a m false hd) (o:hd=true):
  Calls Tryz.prog 213 #[.pointer (some ⟨g,0,none⟩)] w λe w'=>e= .returned (.tuple #[])/\Cc w' b0 g E x a m true hd/\Ext b0 w w' E E:=by
 obtain⟨c,Z,b,l,q,h4,h5,rfl,h6,h7⟩ :=h;obtain⟨hp,j⟩ :=h7 o;obtain⟨-, -, -, -, -, -,s, -⟩ :=b.cells;have r:=b.Ae (i:=6) ω;have f:bb w (w.setCell ⟨g,6,none⟩ (.bool true)) (λk=>k=g):=bb.setCell (S:=λk=>k=g) (bb.refl w _) (p:= ⟨g,6,none⟩) (.inl rfl) _
 have n:Hid (Cc (w.setCell ⟨g,6,none⟩ (.bool true)) b0 g (zX g c Z.A) x a m true hd/\Ext b0 w (w.setCell ⟨g,6,none⟩ (.bool true)) (zX g c Z.A) (zX g c Z.A)):=by
  refine⟨⟨c,{ Z with en:=true },b.turn f ((b.cell.cE 6 _).congr (F3 rfl rfl rfl rfl rfl rfl rfl rfl)) ⟨rfl,rfl,rfl,rfl⟩ b.sm,l.aside f (λk d=>by rw[d];exact b.cg) ⟨rfl,rfl,rfl,rfl,rfl,rfl,rfl,rfl,rfl⟩,q,rfl,h5,rfl, .inl j,λ_=> ⟨hp,j⟩⟩,Ext.of (f.more λk d=> .inl d) b.qb b.low λk d=> .inl d⟩
 clear l h5 h6 f
 go_in
 go_wp2_with fail;go_end0;exact⟨rfl,n.out⟩
theorem NZ (w:World) (b0 g:Nat) (E:Nat->Prop) (x:ag) (m:Nat) (h:Cc w b0 g E x [] m false true) (Bd k cp:Nat) (C:ax) (b:ag) (I:bT .u8 w Bd C k b) (G:∀v∈b,0<=v/\v<256) (y:x.length+b.length<=100000000000):
  Calls Tryz.prog 214 #[.pointer (some ⟨g,0,none⟩), .slice C k cp] w λe w'=>∃E',e= .returned (.tuple #[])/\Cc w' b0 g E' (x++b) [] m false true/\Ext b0 w w' E E':=by
 obtain⟨X,hi,s,r,o⟩ :=aL gG;have Hi:=η hi;have gL:=η s;have fN:=η r;have gM:=η o;obtain⟨c,Z,f,h2,P,h4,h5,rfl,h6,h7⟩ :=h;obtain⟨hp,L⟩ :=h7 rfl;rcases h2 with ⟨-,q2,q3,q4, -,q5⟩ | ⟨bI,gd,M,S,q1,_⟩
 case inr=>rw[hp]at q1;cases q1
 obtain⟨-,W,V,k3, -, -,U, -⟩ :=f.cells;rw[hp]at V;rw[h4]at U;have B:=f.own;have F:=B.rd.1;rw[q4]at F B;have rI:=I.1;have J:=f.low
 have K:Hid (∀A2 c2 w2,fK .u8 w2 b0 5 A2 (Z.n+k) c2 (x++b)->w.grownBy w2 (ai Z.A)->(ai A2=ai Z.A\/ai A2=some w.heap.size)->
   ∃E',Cc (w2.setCell ⟨g,1,none⟩ (.slice A2 (Z.n+k) c2)) b0 g E' (x++b) [] m false true/\Ext b0 w (w2.setCell ⟨g,1,none⟩ (.slice A2 (Z.n+k) c2)) (zX g c Z.A) E'):=by
  intro A2 c2 w2 D i H
  have pY:∀q,ai A2=some q->ai Z.A=some q\/w.heap.size<=q:=λq a=>by
   rcases H with e | e
   · exact .inl (e▸a)
   rw[e]at a;injection a with a;exact .inr ω
  have t:∀q,ai A2=some q->q≠g:=λq a=>by
   rcases pY q a with e | e
   · exact(f.cA q e).1
   have:=f.cell.lt;omega
  have z:bb w w2 (λq=>ai Z.A=some q):=(bb.refl w _).grown i λq a=> .inl a;have mf:bb w (w2.setCell ⟨g,1,none⟩ (.slice A2 (Z.n+k) c2)) (zX g c Z.A):=(z.more λq a=> .inr (.inl a)).setCell (p:= ⟨g,1,none⟩) (.inl (.inl rfl)) _;refine⟨zX g c A2, ⟨c,{ Z with A:=A2,n:=Z.n+k,cp:=c2,l:=x++b }, ⟨?_,f.lo,D.far (p:= ⟨g,1,none⟩) (λe=>t g e rfl) _, ?_,f.cg,λq a=> ⟨t q a,q5 q⟩,λq a=>absurd (q5 q) a,f.sm⟩, .inl ⟨hp,q2,q3,rfl,rfl,q5⟩,P,h4,h5,rfl, .inl L,λ_=> ⟨hp,L⟩⟩,Ext.of mf f.qb J λq a=> ?_⟩
  · exact((z.ar f.cell (λe=>(f.cA g e).1 rfl)).cE 1 _).congr (F3 rfl rfl rfl rfl rfl rfl rfl rfl)
  · intro v hv;rcases aQ.1 hv with hv | hv
    · exact f.jc v (by rw[q4];exact hv)
    exact G v hv
  rcases a with a | a | a
  · exact .inl (.inl a)
  · rcases pY q a with e | e
    · exact .inl (.inr (.inl e))
    exact .inr e
  exact absurd (q5 q) a
 have j:=f.cell;have N:∀q,ai Z.A=some q->q≠g:=λq a=>(f.cA q a).1;obtain⟨A,hA⟩ :=ν (Z.A);obtain⟨n,u⟩ :=ν (Z.n);obtain⟨d,hd⟩ :=ν (Z.cp);rw[hA,u,hd]at B;rw[hA,u,hd]at W;rw[hA,u]at K;rw[hA]at N;rw[u]at F;have Y:n+k<=100000000000:=ω;have HA:=η hA;clear f P h5 h6 h7 hi s r o q4 F rI y hA u hd
 go_in
 go_wp2_with (at_builtin;(refine yi .u8 b0 5 X 1 rfl (.tmp 34) (.tmp 35) _ rfl Tryz.underlying22 Hi.out gL.out fN.out gM.out rfl B rfl I ω ω J ?_)
              intro A2 c2 w2 D i H;have O:=((bb.refl w (λq=>ai A=some q)).grown i λq a=> .inl a).ar j (λe=>N g e rfl);have z1:=O.aH 1;have T:=O.az 1)
 obtain⟨E',R,Q⟩ :=K.out A2 c2 w2 D i H;go_end0;exact⟨E',rfl,R,by rw[HA.out];exact Q⟩
theorem u8_and15:∀V:Fin 256,bits .and .u8 (V.val:Int) 15=(V.val:Int)%16:=by decide+kernel
theorem XP:∀V:Fin 256,bits .and .u8 (V.val:Int) 32=32*((V.val:Int)/32%2):=by decide+kernel
theorem a4n {v:Int} (h:0<=v/\v<256):bits .and .u8 v 15=v%16:=by
 obtain⟨n,rfl⟩ :=aF h.1;exact u8_and15 ⟨n,ω⟩
theorem a4p {v:Int} (h:0<=v/\v<256):bits .and .u8 v 32=32*(v/32%2):=by
 obtain⟨n,rfl⟩ :=aF h.1;exact XP ⟨n,ω⟩
theorem or8 {u v:Int} (d:0<=u/\u<256) (hv:0<=v/\v<256):bits .or .i64 (u*256) v=u*256+v:=by
 obtain⟨a,rfl⟩ :=aF d.1;obtain⟨b,rfl⟩ :=aF hv.1;have c:bits .or .i64 (((a*256:Nat):Int)) ((b:Nat):Int)=(((a*256)||| b:Nat):Int):=Bj _ _ ω ω;have e:a*256=a <<< 8:=by rw[dP]
 rw[e,<-fu (show b<2 ^ 8 by omega)]at c;rw[dP]at c;have f:((a:Int))*256=((a*2 ^ 8:Nat):Int):=ω;rw[f,c];omega
def O2 (w:World) (b0 g:Nat) (E:Nat->Prop) (x:ag) (m:Nat) (en:Bool) (e:Ending) (w':World):Prop:=
 (D8 x≠0/\e= .returned (.int .i64 (D8 x))/\∃q,w'=w.drewN q)\/(D8 x=0/\e= .returned (.int .i64 0)/\∃c Z,ru w' b0 g c Z/\Cx w' (g+1) c x [] Z/\Z.m=m/\Z.en=en/\Z.sum=1/\Z.err=0/\Z.p≠none/\Z.sS=false/\Ext b0 w w' E (zX g c Z.A))
theorem tj {x:ag} {i:Nat} (h:i<x.length):ix x i∈x:=by
 have e:ix x i=x[i]:=by simp [ix,h]
 rw[e];exact cF h
theorem NV (w:World) (b0 g:Nat) (c:Nat->Nat) (Z:ZR) (x:ag) (t:ru w b0 g c Z) (hp:Z.p=none) (mA:Z.sS=false) (FJ:Z.RJ=false) (hl:Z.l=x) (cl:∀k,c k=0) (fg:Z.err=0) (hm:Z.m<=1000000000) (yG:Z.sum=1) (ln:x.length<=100000000000) (F:D8 x=0):
  Calls Tryz.prog 218 #[.pointer (some ⟨g,0,none⟩)] w (O2 w b0 g (zX g c Z.A) x Z.m Z.en):=by
 obtain⟨i0,hi,bl,Y,bi⟩ :=aL gG;have Hi:=η hi;have fN:=η Y;clear hi bl Y bi;obtain⟨k0,k1,k2, -⟩ :=t.cells;have H:=t.own;have fG:=H.rd.1;have s:=t.jc;rw[hl]at fG H s;rw[hp]at k2;obtain⟨A,hA⟩ :=ν (Z.A);obtain⟨n,hn⟩ :=ν (Z.n);obtain⟨d,hd⟩ :=ν (Z.cp);rw[hA,hn,hd]at k1 H;rw[hn]at fG;have qc:=η fG;have tJ:(n:Int)<=100000000000/\(0:Int)<=n:=ω;have E:=η (⟨hA,hn,hd⟩ :_/\_/\_);have bB:=η hl;have T:=η (EC F);have bv:=η F;clear F;have nG:¬n=0:=by have:=T.1;omega
 obtain⟨L,off,rfl⟩ :=H.addr ω;have ac:1<=x.length:=ω;have e0:=H.az 0;obtain⟨q,z⟩ :=ν (ix x 0);have ah:0<=q/\q<256:=by rw[<-z];exact s _ (tj ac)
 rw[z]at e0;have cq:w.cell? ⟨L,off,none⟩ =some (.int .u8 q):=e0;have CD:=a4n ah;have cg:(0:Int)<(n:Int)/\0<n:=ω;have N:=η z;clear z;have al:q%16=8:=by rw[<-N.out];exact T.2.1
 have cj:(q%16==8)=true:=by simpa using al
 have I:¬7<q/16:=by rw[<-N.out];exact T.2.2.1
 have ci:decide (7<q/16)=false:=aP I;have ow:¬n=1:=by have:=T.1;omega
 have ab:2<=x.length:=ω;have e1:=H.az 1;obtain⟨U,ll⟩ :=ν (ix x 1);have ad:0<=U/\U<256:=by rw[<-ll];exact s _ (tj ω)
 rw[ll]at e1;have bt:=a4p ad;have sg:=or8 ah ad;have ce:¬(n:Int)<2/\(1:Int)<(n:Int)/\1<n:=ω;have cd:decide ((n:Int)<2)=false:=aP ω;have cc:¬n<2:=ω;have ap:=η ll;have HG:=η (⟨al,I⟩ :_/\_);obtain⟨D,hD⟩ :=ν (q*256+U);obtain⟨Q,hQ⟩ :=ν (U/32%2);have bd:=η (⟨hD,hQ⟩ :_/\_);have cm:Q=0\/Q=1:=ω;have co:0<=D/\D<65536:=ω;rw[hD]at sg;rw[hQ]at bt;have mM:IntKind.i64.wrap (q*256)=q*256:=aM _ ω;clear ll hD hQ;have rG:D%31=0:=by have t:=T.2.2.2.1;rw[N.out,ap.out]at t;have h2:=bd.1;rw[show 256*q+U=D by omega]at t;exact t
 have ck:(D%31==0)=true:=by simpa using rG
 obtain rfl:Q=0:=by have t:=T.2.2.2.2;rw[ap.out,bd.2]at t;exact t
 have hz:D8 x=0:=bv.out;have ao:=η hz;have oh:=cK (P:=Tryz.prog) 22 5 Tryz.underlying22 Hi.out fN.out (some ⟨L,off,none⟩) n d (j:=2) ω;rw[show((2:Nat):Int)=2 from rfl]at oh;obtain⟨J,hJ⟩ :=ν (n-2);rw[hJ]at oh;have HJ:=η hJ;have H1:=η t;have HO:=η H;have bI:=η s;have bx:=η ab;clear fG hl s hn hd nG ac I ow ab hz hJ
 go_in
 go_wp2_with fail;go_quiet (fail);have y:ru (w.drewN nq) b0 g c Z:=H1.keeps ((bb.drewN (bb.refl w (λ_=>False)) nq).below (λ_ h=>h.elim) (af _));have G:=HO.drewN nq;have C:Hid (Ext b0 w (w.drewN nq) (zX g c Z.A) (zX g c Z.A)):= ⟨(bb.drewN (bb.refl w (λ_=>False)) nq).below (λ_ h=>h.elim) H1.low,bb.drewN (bb.refl _ _) nq,λk b=> .inl b⟩;have X:(w.drewN nq).cell? ⟨g,0,none⟩ =some (.int .i64 Z.m):=k0;revert y G C X;generalize w.drewN nq=wq;intro y G C X;have bp:=y.cell.lt;have bo:g+1<=wq.heap.size:=bp
 go_wp2_with fail;refine(Il wq Z.m Z.m ω).mono ?_;rintro e w1 ⟨gd,c1,M,S,rfl,hM,K,QH,ZB,QI,f⟩;have o:=y.keeps K
 have QM:c1 g=0:=by
  by_cases e:c1 g=0
  · exact e
  have:=(hM.cb g e).1;omega
 have z2:=o.Ae (i:=2) ω;obtain⟨-, -,be, -⟩ :=o.cells;have yX:bb w1 (w1.setCell ⟨g,2,none⟩ (.pointer (some ⟨gd,0,none⟩))) (λk=>k=g):=bb.setCell (S:=λk=>k=g) (bb.refl w1 _) (p:= ⟨g,2,none⟩) (.inl rfl) _;have u:ru (w1.setCell ⟨g,2,none⟩ (.pointer (some ⟨gd,0,none⟩))) b0 g c { Z with p:=some ⟨gd,0,none⟩ }:=o.turn yX ((o.cell.cE 2 _).congr (F3 rfl rfl rfl rfl rfl rfl rfl rfl)) ⟨rfl,rfl,rfl,rfl⟩ o.sm;have tS:=hM.aside yX (λk b=>by rw[b];exact QM);have R:Hid (bb wq (w1.setCell ⟨g,2,none⟩ (.pointer (some ⟨gd,0,none⟩))) (λk=>k=g)):=bb.setCell (S:=λk=>k=g) (bb.bC K) (p:= ⟨g,2,none⟩) (.inl rfl) _;clear o hM yX K G;go_upto_region 7 with fail
 revert u tS R;generalize w1.setCell ⟨g,2,none⟩ (.pointer (some ⟨gd,0,none⟩))=w2;intro u tS R;obtain⟨-,W,V, -⟩ :=u.cells;replace W:w2.cell? ⟨g,1,none⟩ =some (.slice (some ⟨L,off,none⟩) n d):=by rw[W,<-E.1,<-E.2.1,<-E.2.2]
 replace V:w2.cell? ⟨g,2,none⟩ =some (.pointer (some ⟨gd,0,none⟩)):=V
 have r:fK .u8 w2 b0 5 (some ⟨L,off,none⟩) n d x:=by
  have h:=u.own;rw[show({ Z with p:=some ⟨gd,0,none⟩ }:ZR).l=x from bB.out,show({ Z with p:=some ⟨gd,0,none⟩ }:ZR).A=some ⟨L,off,none⟩ from E.1,show({ Z with p:=some ⟨gd,0,none⟩ }:ZR).n=n from E.2.1,show({ Z with p:=some ⟨gd,0,none⟩ }:ZR).cp=d from E.2.2]at h;exact h
 have hcut:=(r.cut (j:=2) (ε qc.out bx.out)).rd;rw[HJ.out]at hcut;have IZ:bT .u8 w2.drew w2.heap.size (dw (some ⟨L,off,none⟩) d 2) J (x.drop 2):=hcut;have an:bA w2 c1 w2.drew wq.heap.size gd M S:=tS.refl.drew;have am:=Du an w2.heap.size J (d-2) _ (x.drop 2) IZ (af _) (λv hv=>bI.out v (aW hv)) (by rw[QH,ay];simp;omega);have YF:=η am;have YH:=η tS.refl;have aE:=η (⟨QH,ZB,QI,f⟩ :_/\_/\_/\_);clear am tS r QH ZB QI f be z2 an IZ hcut
 go_wp2_with fail
 go_region_law
  ((go_simp;go_at_call 171;(refine YF.mono ?_))
   rintro e O ⟨A5,n5,d5,rfl,c5,yV,x7⟩;have fY:=x7.2.1.ar u.cell (λe=>e QM);have bM:=fY.aH 1;have ca:=fY.az 1)
 all_goals
  have ch:b0<=w2.heap.size:=u.low
  have bG:Hid (O2 w b0 g (zX g c (some ⟨L,off,none⟩)) x Z.m Z.en (.returned (.int .i64 0)) (O.setCell ⟨g,1,none⟩ (.slice none 0 0))):=by
   rw[<-E.1];have bs:bb O (O.setCell ⟨g,1,none⟩ (.slice none 0 0)) (λk=>k=g):=bb.setCell (S:=λk=>k=g) (bb.refl O _) (p:= ⟨g,1,none⟩) (.inl rfl) _;have AA:c5 g=0:=by rw[x7.2.2 g u.cell.lt];exact QM
   have V4:∀k,c1 k≠0->wq.heap.size<=k:=λk b=>by
    have:=YH.out;obtain⟨c9,UJ,Aq⟩ :=this;rcases aU k w2.heap.size with h | h
    · exact(UJ.cb k (by rw[Aq.2.2 k h];exact b)).1
    exact aq R.size h
   refine .inr ⟨ao.out,rfl,c5,{ Z with p:=some ⟨gd,0,none⟩,A:=none,n:=0,cp:=0,l:=[] }, ⟨?_,u.lo,fK.di,λv hv=>by simp at hv,AA,λk b=>by simp [ai]at b,λk b=> ?_,u.sm⟩, .inr ⟨wq.heap.size,gd,_,S,rfl,bo,yV.aside bs (λk b=>by rw[b];exact AA),ao.out, .inl ⟨mA,FJ,rfl,rfl,rfl,rfl, ?_, ?_⟩⟩,rfl,rfl,yG,fg,σ,mA, ?_⟩
   · exact(fY.cE 1 _).congr (F3 rfl rfl rfl rfl rfl rfl rfl rfl)
   · have:=yV.cb k b;exact⟨aq y.low this.1,by rw[show(O.setCell ⟨g,1,none⟩ (.slice none 0 0)).heap.size=O.heap.size by simp [World.setCell]];exact this.2⟩
   · obtain⟨QH,ZB,QI,f⟩ :=aE.out;refine .inl ⟨start (dT (x.drop 2)) Z.m, ⟨?_,f.st,f.last,f.left,f.c0,f.c1,f.c2,f.lens,f.hd,f.lt,f.ds,f.len,f.tail,f.rem,f.err⟩, .start (dH.dT (x.drop 2)) Z.m,rfl,by show []=[]++M.out;rw[QI];rfl,by show Z.m<=_;omega⟩;show rb (M.B.drop (M.a/8)++x.drop 2) (M.a%8)=dT (x.drop 2);rw[QH,ZB];rfl
   · show M.out.length<=_;rw[aE.2.2.1];simp
   refine C.out.trans ⟨?_, ?_,λk b=> ?_⟩
   · exact(((R.below (λk b=>by rw[b];exact y.lo) y.low).trans (x7.1.mono y.low))).setCell (p:= ⟨g,1,none⟩) y.lo _
   · refine bb.setCell ((R.more λk b=> .inl b).trans x7.2.1 λk b=> .inr (V4 k b)) (p:= ⟨g,1,none⟩) (.inl (.inl rfl)) _
   rcases b with b | b | b
   · exact .inl (.inl b)
   · simp [ai]at b
   exact .inr (yV.cb k b).1
  clear fY yV x7 YF YH C y R u
  go_wp2_with fail;go_ret;rw[E.1];exact bG
theorem WE {h l:Int} (k:Nat) (m:0<=h) (j:0<=l/\l<2 ^ k) (n:h*2 ^ k+l<4294967296):bits .or .u32 (h*2 ^ k) l=h*2 ^ k+l:=by
 obtain⟨a,rfl⟩ :=aF m;obtain⟨b,rfl⟩ :=aF j.1;have e:((a:Nat):Int)*2 ^ k=((a <<< k:Nat):Int):=by rw[dP,ek];simp
 have o:((2 ^ k:Nat):Int)=2 ^ k:=σ
 have g:b<2 ^ k:=by
  have i:((b:Nat):Int)<((2 ^ k:Nat):Int):=by rw[o];exact j.2
  exact Int.ofNat_lt.1 i
 have c:a <<< k+b<4294967296:=by
  have i:(((a:Nat):Int))*2 ^ k+((b:Nat):Int)<4294967296:=n;rw[e]at i;omega
 show bits .or .u32 (((a:Nat):Int)*2 ^ k) ((b:Nat):Int)=((a:Nat):Int)*2 ^ k+((b:Nat):Int);have f:a <<< k<4294967296:=fM (Nat.le_add_right _ _) c;have d:b<4294967296:=fM (Nat.le_add_left _ _) c;rw[e,u32_or_nat _ _ f d,<-fu g,i6]
def yM (w:World) (b0 g:Nat) (c:Nat->Nat) (Z:ZR) (x a:ag) (r:Int) (e:Ending) (w':World):Prop:=
 e= .returned (.int .i64 r)/\∃Z',ru w' b0 g c Z'/\Cx w' (g+1) c x a Z'/\Z'.m=Z.m/\Z'.sum=Z.sum/\Z'.en=Z.en/\Z'.err=Z.err/\Z'.sS=true/\Z'.p=Z.p/\Ext b0 w w' (zX g c Z.A) (zX g c Z'.A)
theorem yM.same {w:World} {b0 g:Nat} {c:Nat->Nat} {Z:ZR} {x a:ag} (d:ru w b0 g c Z) (i:Cx w (g+1) c x a Z) (f:Z.sS=true) {r v:Int} (hv:v=r) (q:Nat):yM w b0 g c Z x a r (.returned (.int .i64 v)) (w.drewN q):=by
 have b:Below w.heap.size w (w.drewN q):=(bb.drewN (bb.refl w (λ_=>False)) q).below (λ_ h=>h.elim) (af _);subst hv;exact⟨rfl,Z,d.keeps b,i.keeps b,rfl,rfl,rfl,rfl,f,rfl,(bb.drewN (bb.refl w (λ_=>False)) q).below (λ_ h=>h.elim) d.low,bb.drewN (bb.refl _ _) q,λk e=> .inl e⟩
theorem Sv (w:World) (b0 g:Nat) (c:Nat->Nat) (Z:ZR) (x a R:ag) (T:ru w b0 g c Z) (E gd:Nat) (M:DM) (S:DS) (hp:Z.p=some ⟨gd,0,none⟩) (X:g+1<=E) (hM:iy w E gd c M S) (hz:D8 x=0) (mA:Z.sS=true) (h8:(kD x Z.m).2=8) (Y:a=(kD x Z.m).1.all)
  (hR:dT R=(kD x Z.m).1.x) (B:∀v∈R,0<=v/\v<256) (DK:R.length<=100000000000) (hl:(Z.RJ=false/\Z.l=R)\/(Z.RJ=true/\4<=R.length/\wQ R=Z.sum/\Z.l=R.drop 4)) (N:Cr R Z.sum Z.en=8):
  Calls Tryz.prog 219 #[.pointer (some ⟨g,0,none⟩)] w (yM w b0 g c Z x a (Cr R Z.sum Z.en)):=by
 have W:Cx w (g+1) c x a Z:= .inr ⟨E,gd,M,S,hp,X,hM,hz, .inr ⟨mA,h8,Y,R,hR,B,hl⟩⟩;obtain⟨i0,hi,an,U,am⟩ :=aL gG;have Hi:=η hi;have fN:=η U;clear hi an U am;have bs:=η (show∃E gd M S,Z.p=some ⟨gd,0,none⟩/\g+1<=E/\iy w E gd c M S/\D8 x=0/\(kD x Z.m).2=8/\a=(kD x Z.m).1.all/\dT R=(kD x Z.m).1.x/\∀v∈R,0<=v/\v<256 from⟨E,gd,M,S,hp,X,hM,hz,h8,Y,hR,B⟩);have H1:=η T;have bt:=η W;have L0:=η mA;obtain⟨-,k1, -, -,k4,k5,k6, -⟩ :=T.cells;have z:=T.own;have L:=z.rd.1;have ao:=T.sm;obtain⟨A,hA⟩ :=ν (Z.A);obtain⟨n,hn⟩ :=ν (Z.n);obtain⟨d,hd⟩ :=ν (Z.cp);obtain⟨s,hs⟩ :=ν (Z.sum);obtain⟨en,C⟩ :=ν (Z.en);rw[hA,hn,hd]at k1 z;rw[hn]at L;rw[hs]at k5 hl ao;rw[C]at k6;rw[hs,C]at N⊢;obtain⟨ac,ab,Ve⟩ :=EE N;subst Ve;have F:=η (⟨ac,ab⟩ :_/\_);clear N ac ab;have HZ:=η (⟨hA,hn,hd,hs,C⟩ :_/\_/\_/\_/\_);clear T W hA hn hd hs C Y h8 hz hM hp X;rcases hl with ⟨Ja,Q⟩ | ⟨Ja,h4,be,Q⟩
 · rw[Ja]at k4;rw[Q]at L z;have aE:¬n<4:=by have:=F.1;omega
   obtain⟨gA,off,rfl⟩ :=z.addr ω;have e0:w.cell? ⟨gA,off,none⟩ =some (.int .u8 (ix R 0)):=z.az 0;have e1:=z.az 1;have e2:=z.az 2;have e3:=z.az 3;have al:=B _ (tj (x:=R) (i:=0) ω);have bp:=B _ (tj (x:=R) (i:=1) ω);have bo:=B _ (tj (x:=R) (i:=2) ω);have bl:=B _ (tj (x:=R) (i:=3) ω);have kh:wQ R=ix R 0*16777216+ix R 1*65536+ix R 2*256+ix R 3:=rfl;obtain⟨o,K⟩ :=ν (ix R 0);obtain⟨f,ll⟩ :=ν (ix R 1);obtain⟨r,I⟩ :=ν (ix R 2);obtain⟨v3,H⟩ :=ν (ix R 3);obtain⟨V,hV⟩ :=ν (wQ R);rw[K,ll,I,H,hV]at kh;rw[K]at e0 al;rw[ll]at e1 bp;rw[I]at e2 bo;rw[H]at e3 bl;have o1:bits .or .u32 (o*16777216) (f*65536)=o*16777216+f*65536:=WE 24 al.1 ⟨ω,by show f*65536<16777216;omega⟩ (by show o*16777216+f*65536<_;omega);obtain⟨y,ah⟩ :=ν (o*16777216+f*65536)
   have o2:bits .or .u32 y (r*256)=y+r*256:=by
    have:=WE (h:=o*256+f) (l:=r*256) 16 ω ⟨ω,by show r*256<65536;omega⟩ (by show(o*256+f)*65536+r*256<_;omega);rw[show(o*256+f)*2 ^ 16=y by show(o*256+f)*65536=y;omega]at this;exact this
   obtain⟨O,ad⟩ :=ν (y+r*256)
   have o3:bits .or .u32 O v3=V:=by
    have:=WE (h:=o*65536+f*256+r) (l:=v3) 8 ω ⟨ω,by show v3<256;omega⟩ (by show(o*65536+f*256+r)*256+v3<_;omega);rw[show(o*65536+f*256+r)*2 ^ 8=O by show(o*65536+f*256+r)*256=O;omega]at this;rw[this];omega
   rw[ah]at o1;rw[ad]at o2;have w0:IntKind.u32.wrap (o*16777216)=o*16777216:=fq _ ω;have w1:IntKind.u32.wrap (f*65536)=f*65536:=fq _ ω;have w2:IntKind.u32.wrap (r*256)=r*256:=fq _ ω;have tJ:¬(n:Int)<4/\(0:Int)<(n:Int)/\(1:Int)<(n:Int)/\(2:Int)<(n:Int)/\(3:Int)<(n:Int):=ω;have bv:¬n<4/\0<n/\1<n/\2<n/\3<n:=ω;have HV:=η hV;have qc:=η L;have HO:=η z;have cc:=η Q;clear K ll I H hV kh ah ad B L aE z Q hR;have D:V=s:=by rw[<-HV.out];exact F.2
   have bM:(V==s)=true:=by simpa using D
   have bB:(V != s)=false:=by simpa using D
   have oh:=cK (P:=Tryz.prog) 22 5 Tryz.underlying22 Hi.out fN.out (some ⟨gA,off,none⟩) n d (j:=4) ω;rw[show((4:Nat):Int)=4 from rfl]at oh;obtain⟨J,hJ⟩ :=ν (n-4);rw[hJ]at oh;have HJ:=η hJ;obtain⟨A2,pY⟩ :=ν (dw (some ⟨gA,off,none⟩) d 4);rw[pY]at oh;have z1:=H1.Ae (i:=1) ω;have z4:=H1.Ae (i:=4) ω
   have mU:Hid (∀q,∃Z',ru (((w.drewN q).setCell ⟨g,1,none⟩ (.slice A2 J (d-4))).setCell ⟨g,4,none⟩ (.bool true)) b0 g c Z'/\Cx (((w.drewN q).setCell ⟨g,1,none⟩ (.slice A2 J (d-4))).setCell ⟨g,4,none⟩ (.bool true)) (g+1) c x a Z'/\Z'.m=Z.m/\Z'.sum=Z.sum/\Z'.en=Z.en/\Z'.err=Z.err/\Z'.sS=true/\Z'.p=Z.p/\
     Ext b0 w (((w.drewN q).setCell ⟨g,1,none⟩ (.slice A2 J (d-4))).setCell ⟨g,4,none⟩ (.bool true)) (zX g c Z.A) (zX g c Z'.A)):=λq=>by
    obtain⟨E,gd,M,S,hp,X,hM,hz,h8,Y,hR,B⟩ :=bs.out;have t:=H1.out;have hcut:=HO.cut (j:=4) (τ qc.out);rw[pY,HJ.out]at hcut;have u:ai A2=ai Z.A:=by rw[HZ.1,<-pY];exact HO.blk 4
    have hc:bb w (((w.drewN q).setCell ⟨g,1,none⟩ (.slice A2 J (d-4))).setCell ⟨g,4,none⟩ (.bool true)) (λk=>k=g):=
     bb.setCell (S:=λk=>k=g) (bb.setCell (S:=λk=>k=g) (bb.drewN (bb.refl w _) q) (p:= ⟨g,1,none⟩) (.inl rfl) _) (p:= ⟨g,4,none⟩) (.inl rfl) _
    refine⟨{ Z with A:=A2,n:=J,cp:=d-4,l:=R.drop 4,RJ:=true }, ⟨?_,t.lo,hcut.dx hc (λk b e=>(t.cA k (by rw[<-u];exact b)).1 e),λv hv=>B v (aW hv),t.cg,λk b=>t.cA k (by rw[<-u];exact b),λk b=> ⟨(t.cb k b).1,aB (t.cb k b).2 hc.size⟩,t.sm⟩,
     .inr ⟨E,gd,M,S,hp,X,hM.aside hc (λk b=>by rw[b];exact t.cg),hz, .inr ⟨L0.out,h8,Y,R,hR,B, .inr ⟨rfl,τ qc.out,by show wQ R=Z.sum;rw[HV.out,HZ.2.2.2.1];exact D,rfl⟩⟩⟩,rfl,rfl,rfl,rfl,L0.out,rfl,Ext.of (hc.more λk b=> .inl b) t.qb t.low λk b=> ?_⟩
    · exact(((t.cell.drewN q).cE 1 _).cE 4 _).congr (F3 rfl rfl rfl rfl rfl rfl rfl rfl)
    rcases b with b | b | b
    · exact .inl (.inl b)
    · exact .inl (.inr (.inl (by rw[<-u];exact b)))
    exact .inl (.inr (.inr b))
   have G:Hid (¬R.length<4/\¬wQ R≠s/\R.length-4=J):= ⟨by rw[<-qc.out];omega,λh=>h (by rw[HV.out];exact D),by rw[<-qc.out];exact HJ⟩;have ca:(J:Int)<=100000000000/\(0:Int)<=J:=by have:=qc.out;omega
   clear hJ pY;have bi:¬0<J:=by have T:=G.2.2;have h2:=F.1;omega
   obtain rfl:J=0:=ω;have hr:Hid (Cr R s true=8):=by show _=_;unfold Cr;rw[a8 G.1,a8 G.2.1,a8 (τ G.2.2),aa rfl]
   clear bi
   go_in
   go_wp2_with fail;go_quiet (fail)
   go_wp2_with fail;go_ret;exact⟨bJ hr.symm,mU.out _⟩
 rw[Ja]at k4;rw[Q]at L;have ap:n=R.length-4:=by rw[L,ay]
 have tJ:(n:Int)<=100000000000/\(0:Int)<=n:=ω;have G:Hid (¬R.length<4/\¬wQ R≠s):= ⟨ω,λh=>h be⟩;have nG:¬0<n:=by have:=F.1;omega
 have bx:¬(0:Int)<(n:Int):=ω;have bd:n=0:=ω;have bG:=η (yM.same H1.out bt.out L0.out (show(8:Int)=Cr R s true by unfold Cr;rw[a8 G.1,a8 G.2,a8 ω,aa rfl]) 0);subst bd;clear L Q ap nG G
 go_in
 go_wp2_with fail;go_ret;exact bG
theorem O0 (x:ag) (m:Nat):∀v∈(kD x m).1.all,0<=v/\v<256:=IS.DC (.start (dH.dT _) m)
def uS (w:World) (b0 g:Nat) (E:Nat->Prop) (x a:ag) (m:Nat) (en:Bool) (b:Int) (p:ax) (n:Nat) (e:Ending) (w':World):Prop:=
 ∃A k cp l r c Z,e= .returned (.tuple #[.slice A k cp, .int .i64 r])/\bT .u8 w' w'.heap.size A k l/\l.length<=n/\ru w' b0 g c Z/\Cx w' (g+1) c x (a++l) Z/\Z.m=m/\Z.en=en/\Z.err=b/\Z.p=p/\Z.sum=gI 1 (a++l)/\Ext b0 w w' E (zX g c Z.A)/\
  ((r=0/\((Z.sS=true/\l=[])\/(Z.sS=false/\0<l.length)))\/(r≠0/\l=[]/\Z.sS=false/\a=kR x m/\r=zE x m en))
theorem NW (w:World) (b0 g:Nat) (c:Nat->Nat) (Z:ZR) (x a:ag) (h1:ru w b0 g c Z) (bI gd:Nat) (M:DM) (S:DS) (hp:Z.p=some ⟨gd,0,none⟩) (P:g+1<=bI) (hM:iy w bI gd c M S) (hz:D8 x=0) (H:Z.sS=false) (L:Z.RJ=false) (hA:Z.A=none) (U:Z.n=0) (X:Z.cp=0) (W:Z.l=[])
  (lO:ZIn (kD x Z.m) (a++M.out) M S) (OZ:M.out.length<=70000) (T:Z.sum=gI 1 a) (n:Nat) (nG:0<n) (wG:n<=1000000000):
  Calls Tryz.prog 220 #[.pointer (some ⟨g,0,none⟩), .int .i64 n] w (uS w b0 g (zX g c Z.A) x a Z.m Z.en Z.err Z.p n):=by
 have an:=Dy hM.refl lO (n:Int) n ω wG ω;obtain⟨-, -,k2, -, -, -, -, -⟩ :=h1.cells;rw[hp]at k2;have YM:=η an;have HH:=η (⟨hp,P,hz,H,L,hA,U,X,W,T⟩ :_/\_/\_/\_/\_/\_/\_/\_/\_/\_);have J:=η h1;have HM:=η hM;have HN:=η (⟨nG,wG⟩ :_/\_);have bp:=η OZ;have tJ:(0:Int)<n/\(n:Int)<=1000000000:=ω;clear an lO OZ h1 hM nG wG hp P hz H L hA U X W T
 go_in
 go_wp2_with fail;refine YM.mono ?_;rintro e d ⟨R,j,d5,r,u,S5,b5,l,I,rfl,lQ,yV,x7,be,CK,QX,hE⟩;obtain⟨hp,P,hz,H,L,hA,U,X,W,T⟩ :=HH.out;have CQ:=lQ.1;have kB:=ED hE;have mJ:(a++M.out)++b5=(a++l)++u.out:=by rw[av,CK,av]
 rw[mJ]at hE;have CO:=KA hE
 have QU:∀v∈l,0<=v/\v<256:=λv hv=>by
  obtain⟨t,ht⟩ :=CO.pre;exact O0 x Z.m v (by rw[ht];simp [hv])
 have Y:I g=0:=by rw[x7.2.2 g J.cell.lt];exact J.cg
 have al:∀k,c k≠0->k≠g/\ai Z.A≠some k:=λk b=> ⟨λe=>b (by rw[e];exact J.cg),λe=>b (J.cA k e).2⟩;have h5:ru d b0 g I Z:=J.dx x7.2.1 al (λk b=> ⟨ε ((yV.cb k b).1) J.lo,(yV.cb k b).2⟩) Y (λk b=>by rw[hA]at b;simp [ai]at b)
 have DR:Ext b0 w d (zX g c Z.A) (zX g I Z.A):=Ext.of (x7.2.1.more λk b=> .inr (.inr b)) J.qb J.low λk b=>by
  rcases b with b | b | b
  · exact .inl (.inl b)
  · exact .inl (.inr (.inl b))
  rcases aU k w.heap.size with h | h
  · exact .inl (.inr (.inr (by rw[<-x7.2.2 k h];exact b)))
  exact .inr h
 obtain⟨-, -,bd, -, -,aE, -, -⟩ :=h5.cells;have z5:=h5.Ae (i:=5) ω;have qD:=h5.sm
 have KL:=De Z.sum R j d5 d.heap.size l d lQ.rd (λi=>by
  have h:=a6z (k:= .u8) (l:=l) (λv hv=>by have:=QU v hv;simp [Lit.wf,IntKind.min,IntKind.max,IntKind.signed,IntKind.bits];omega) δ i;exact bounds_u8 h) qD (τ HN.out)
 have G:Ce (iW Z.sum) (jK Z.sum) l j*65536+uW (iW Z.sum) l j=gI 1 (a++l):=by
  rw[CQ,<-Hx,<-T];rfl
 rw[G]at KL;obtain⟨V,hV⟩ :=ν (gI 1 (a++l));rw[hV]at KL;obtain⟨s0,ab⟩ :=ν (Z.sum);rw[ab]at KL aE;have GZ:0<=V/\V<4294967296:=by rw[<-hV];exact qf _ _
 have y:=η KL;have f:bb d (d.setCell ⟨g,5,none⟩ (.int .u32 V)) (λk=>k=g):=bb.setCell (S:=λk=>k=g) (bb.refl d _) (p:= ⟨g,5,none⟩) (.inl rfl) _;have h6:ru (d.setCell ⟨g,5,none⟩ (.int .u32 V)) b0 g I { Z with sum:=V }:=h5.turn f ((h5.cell.cE 5 _).congr (F3 rfl rfl rfl rfl rfl rfl rfl rfl)) ⟨rfl,rfl,rfl,rfl⟩ GZ;have F:iy (d.setCell ⟨g,5,none⟩ (.int .u32 V)) bI gd I u S5:=yV.aside f (λk b=>by rw[b];exact Y);have O:Ext b0 w (d.setCell ⟨g,5,none⟩ (.int .u32 V)) (zX g c Z.A) (zX g I Z.A):=DR.trans (Ext.of (f.more λk b=> .inl b) h5.qb h5.low λk b=> .inl b)
 have ac:bT .u8 (d.setCell ⟨g,5,none⟩ (.int .u32 V)) d.heap.size R j l:=f.rp lQ.rd (af _) (λh0 ad e b=>by
  have z:ai R=some ad.block:=by rw[e];rfl
  have h8:=(lQ.2.lt z).1;have b:ad.block=g:=b;omega)
 have VT:(d.setCell ⟨g,5,none⟩ (.int .u32 V)).heap.size=d.heap.size:=by simp [World.setCell]
 have cc:(j:Int)<=1000000000/\(0:Int)<=j:=by have:=HN.out;omega
 have E:Hid (∀v:Int,((v=0/\0<l.length)\/(v≠0/\l=[]/\a=kR x Z.m/\v=zE x Z.m Z.en))->uS w b0 g (zX g c Z.A) x a Z.m Z.en Z.err Z.p n (.returned (.tuple #[.slice R j d5, .int .i64 v])) (d.setCell ⟨g,5,none⟩ (.int .u32 V))):=λv hv=>by
  refine⟨R,j,d5,l,v,I,{ Z with sum:=V },rfl,ac.more (jC VT.symm),kB,h6, .inr ⟨bI,gd,u,S5,hp,P,F,hz, .inl ⟨H,L,hA,U,X,W,CO,τ bp.out⟩⟩,rfl,rfl,rfl,rfl,hV.symm,O, ?_⟩;rcases hv with ⟨h,h'⟩ | ⟨h,h',bl,h3⟩
  · exact .inl ⟨h, .inr ⟨H,h'⟩⟩
  exact .inr ⟨h,h',H,bl,h3⟩
 unfold Hs at hE;have HE:=η hE;have H6:=η (⟨h6,F,O,DR⟩ :_/\_/\_/\_);have HV:=η hV;have Tq:=η CQ;have L4:=η kB
 have bM:(d.setCell ⟨g,5,none⟩ (.int .u32 V)).cell? ⟨g,2,none⟩ =some (.pointer (some ⟨gd,0,none⟩)):=by
  obtain⟨-, -,q2, -⟩ :=h6.cells;rw[q2];show some (Value.pointer Z.p)=_;rw[hp]
 rw[hp]at bd;clear h6 F O DR hE hV CQ kB ac VT f h5 KL G CO QU mJ CK QX be Y al ab H L hA U X W T hp P hz GZ qD;have f:=HE.out;clear HE;have C:Hid (D8 x=0):=HH.2.2.1;rcases f with ⟨rfl,q1,q2⟩ | ⟨rfl,q1,q2,q3⟩ | ⟨q1,q2,q3,q4,q5,q6,q7⟩
 · have wF:(0:Int)<(j:Int)/\0<j:=by have:=Tq.out;have:=HN.out;omega
   have hf:=η (E 0 (.inl ⟨rfl,τ Tq.out⟩));clear q2 E
   go_wp2_with fail;refine y.mono ?_;rintro e w8 ⟨rfl,rfl⟩
   go_wp2_with fail;go_returns;exact hf
 · by_cases wF:0<j
   · have CP:(0:Int)<(j:Int):=ω;have hf:=η (E 0 (.inl ⟨rfl,τ Tq.out⟩));clear q2 q3 E
     go_wp2_with fail;refine y.mono ?_;rintro e w8 ⟨rfl,rfl⟩
     go_wp2_with fail;go_returns;exact hf
   have N:l=[]:=aC (τ Tq.out)
   have hf:Hid (uS w b0 g (zX g c Z.A) x a Z.m Z.en Z.err Z.p n (.returned (.tuple #[.slice R j d5, .int .i64 5])) (d.setCell ⟨g,5,none⟩ (.int .u32 V))):=by
    refine E.out 5 (.inr ⟨δ,N, ?_⟩);rcases q3 with ⟨s,q3,q4⟩ | ⟨q3,_⟩
    · obtain⟨e1,z⟩ :=C8 q3 q4;rw[q2,ak,N,ak]at z;refine⟨?_, ?_⟩
      · unfold kR;rw[a8 (by rw[C.out];decide)];exact z.symm
      unfold zE;rw[a8 (by rw[C.out];decide),aa (by rw[e1];decide),e1]
    rw[N]at q3;simp at q3
   have CP:¬(0:Int)<(j:Int):=ω;clear q2 q3 E
   go_wp2_with fail;refine y.mono ?_;rintro e w8 ⟨rfl,rfl⟩
   go_wp2_with fail;go_returns;exact hf
 have wF:j=0:=by have:=Tq.out;rw[q4]at this;simpa using this
 subst wF;by_cases D:r=8
 rotate_left
 · have ca:(r==8)=false:=by simpa using D
   have hf:Hid (uS w b0 g (zX g c Z.A) x a Z.m Z.en Z.err Z.p n (.returned (.tuple #[.slice R 0 d5, .int .i64 r])) (d.setCell ⟨g,5,none⟩ (.int .u32 V))):=by
    refine E.out r (.inr ⟨q1,q4, ?_, ?_⟩)
    · have z:=q7.all;rw[q6,ak,q4,ak]at z;unfold kR;rw[a8 (by rw[C.out];decide)];exact z.symm
    unfold zE;rw[a8 (by rw[C.out];decide),aa (by rw[<-q3];exact D),q3]
   clear q1 q2 q3 q5 q6 q7 E D
   go_wp2_with fail;refine y.mono ?_;rintro e w8 ⟨rfl,rfl⟩
   go_wp2_with fail;go_returns;exact hf
 obtain rfl:r=8:=D;obtain⟨h6,F,O, -⟩ :=H6.out;have Q:(kD x Z.m).2=8:=q3.symm;have ah:S5.err=8:=by rw[q7.err];exact Q
 obtain⟨ap,ao⟩ :=q7.at8 Q;have VO:=a1F (s:=start (dT (x.drop 2)) Z.m) (.start (dH.dT _) Z.m) Q;have tI:=ao.even (.inr (.inr VO));have FO:=ap.x;rw[<-FO,gW]at tI;have bi:=F.lX.le;have rJ:=zP F.refl ah ω
 have sY:dT (u.B.drop (u.a/8))=(kD x Z.m).1.x:=by
  rw[vd,<-FO];unfold rb;rw[show 8*(u.a/8)=u.a by omega]
 have o:a=(kD x Z.m).1.all:=by
  have z:=q7.all;rw[q6,ak,q4,ak]at z;exact z.symm
 have yx:∀v∈u.B.drop (u.a/8),0<=v/\v<256:=λv hv=>F.lX.jc v (aW hv);have Y:I g=0:=h6.cg;have og:g<(d.setCell ⟨g,5,none⟩ (.int .u32 V)).heap.size:=h6.cell.lt;have Vh:=h6.cell;have Cu:=η rJ;have bs:=η (⟨Q,sY,o,yx⟩ :_/\_/\_/\_);have bo:=η q4;clear tI FO bi rJ Q ah VO ap ao sY o yx q1 q2 q3 q5 q6 q7 E h6 F O q4
 go_wp2_with fail;refine y.mono ?_;rintro e w8 ⟨rfl,rfl⟩
 go_wp2_with fail;refine Cu.mono ?_;rintro e w7 ⟨A7,k7,c7,rfl,vG,c8,yv,KN,Ra⟩;have kO:=KN.2.1.ar Vh (λe=>e Y);have bv:=kO.aH 1;have bt:=kO.aH 3;have bB:=kO.az 1;have bx:=kO.az 3
 have hf:Hid (uS w b0 g (zX g c Z.A) x a Z.m Z.en Z.err Z.p n (.returned (.tuple #[.slice none 0 0, .int .i64 0])) ((w7.setCell ⟨g,1,none⟩ (.slice A7 k7 c7)).setCell ⟨g,3,none⟩ (.bool true))):=by
  obtain⟨h6,F,O, -⟩ :=H6.out;obtain⟨Q,sY,o,yx⟩ :=bs.out;obtain⟨hp,P,hz,H,L,hA,U,X,W,T⟩ :=HH.out;have jS:=h6.low;have Mc:∀q,ai A7=some q->(d.setCell ⟨g,5,none⟩ (.int .u32 V)).heap.size<=q:=λq K=>(vG.2.lt K).1;have CE:ai A7≠some g:=λe=>by have:=Mc g e;omega
  have f:bb w7 ((w7.setCell ⟨g,1,none⟩ (.slice A7 k7 c7)).setCell ⟨g,3,none⟩ (.bool true)) (λk=>k=g):=bb.setCell (S:=λk=>k=g) (bb.setCell (S:=λk=>k=g) (bb.refl w7 _) (p:= ⟨g,1,none⟩) (.inl rfl) _) (p:= ⟨g,3,none⟩) (.inl rfl) _;have am:c8 g=0:=by rw[KN.2.2 g og];exact Y
  refine⟨none,0,0,[],0,c8,{ Z with sum:=V,A:=A7,n:=k7,cp:=c7,l:=u.B.drop (u.a/8),sS:=true },rfl, ⟨rfl,Rd.di⟩,aG _, ⟨?_,h6.lo, ?_,yx,am,λq K=> ⟨λe=>CE (by rw[K,e]),Ra q K⟩,λq K=> ⟨?_,aB (yv.cb q K).2 f.size⟩,h6.sm⟩, .inr ⟨bI,gd,_,S5,hp,P,yv.aside f (λk b=>by rw[b];exact am),hz, .inr ⟨rfl,Q,by rw[ak];exact o,_,sY,yx, .inl ⟨L,rfl⟩⟩⟩,rfl,rfl,rfl,rfl, ?_,O.trans ⟨?_, ?_,λk b=> ?_⟩, .inl ⟨rfl, .inl ⟨rfl,rfl⟩⟩⟩
  · exact((kO.cE 1 _).cE 3 _).congr (F3 rfl rfl rfl rfl rfl rfl rfl rfl)
  · exact((vG.more jS).up.far (p:= ⟨g,1,none⟩) CE _).far (p:= ⟨g,3,none⟩) CE _
  · have:=(yv.cb q K).1;have:=h6.lo;omega
  · show V=_;rw[<-HV.out,bo.out]
  · exact((KN.1.mono (τ h6.lo)).setCell (p:= ⟨g,1,none⟩) h6.lo _).setCell (p:= ⟨g,3,none⟩) h6.lo _
  · exact((KN.2.1.more λk b=> .inr (.inr b)).setCell (p:= ⟨g,1,none⟩) (.inl (.inl rfl)) _).setCell (p:= ⟨g,3,none⟩) (.inl (.inl rfl)) _
  rcases b with b | b | b
  · exact .inl (.inl b)
  · exact .inr (Mc k b)
  rcases aU k (d.setCell ⟨g,5,none⟩ (.int .u32 V)).heap.size with h | h
  · exact .inl (.inr (.inr (by rw[<-KN.2.2 k h];exact b)))
  exact .inr h
 clear vG yv KN Ra kO Vh Cu
 go_wp2_with fail;go_returns;exact hf
theorem O1 (x:ag) (m:Nat) (b:(kD x m).2=8):(kD x m).1.x.length<=(dT (x.drop 2)).length:=by
 obtain⟨t,c,a⟩ :=IS.jD (start (dT (x.drop 2)) m);have e:t.step.2=8:=by rw[a];exact b
 have d:(kD x m).1=t:=by
  show(start (dT (x.drop 2)) m).fin.1=t;rw[<-a];exact(IS.step_done e).1
 rw[d];have f:=Xu c;have h4:3*t.x.length<=t.mu:=by unfold IS.mu;omega
 have h5:(start (dT (x.drop 2)) m).mu=3*(dT (x.drop 2)).length:=by unfold IS.mu;rw[a8 (by show¬(0:Nat)=4;omega),a8 (by show¬((0:Nat)=5\/(0:Nat)=2);omega)];rfl
 omega
def JT (Z:ZR):Nat:=match Z.p with | none=>2 | some _=>if Z.sS then 0 else 1
def yO (w:World) (b0 g:Nat) (E:Nat->Prop) (x a:ag) (m:Nat) (en:Bool) (d:Int) (b n:Nat) (e:Ending) (w':World):Prop:=
 ∃A k cp l r c Z,e= .returned (.tuple #[.slice A k cp, .int .i64 r])/\bT .u8 w' w'.heap.size A k l/\l.length<=n/\ru w' b0 g c Z/\Cx w' (g+1) c x (a++l) Z/\Z.m=m/\Z.en=en/\Z.err=d/\Z.sum=gI 1 (a++l)/\Ext b0 w w' E (zX g c Z.A)/\
  ((r=0/\(JT Z<b\/(JT Z=b/\0<l.length)))\/(r≠0/\l=[]/\a=kR x m/\r=zE x m en))
theorem Sy (w:World) (b0 g:Nat) (c:Nat->Nat) (Z:ZR) (x a:ag) (C:ru w b0 g c Z) (h2:Cx w (g+1) c x a Z) (t:Z.sum=gI 1 a) (D:Z.err=0) (N:Z.m<=1000000000) (Q:x.length<=1000000000) (b:ZGd x Z.m Z.en) (n:Nat) (L:0<n) (K:n<=1000000000):
  Calls Tryz.prog 217 #[.pointer (some ⟨g,0,none⟩), .int .i64 n] w (yO w b0 g (zX g c Z.A) x a Z.m Z.en 0 (JT Z) n):=by
 obtain⟨-, -,P,k3, -, -, -, -⟩ :=C.cells;rcases h2 with ⟨hp,q2,q3,q4,q5,q6⟩ | ⟨bI,gd,M,S,hp,qY,O,hz, ⟨p1,p2,p3,p4,B,F,p7,Y⟩ | ⟨p1,p2,p3,R,p4,B,F⟩⟩
 · have J:=η (NV w b0 g c Z x C hp q2 q3 q4 q6 D N (by rw[t,q5];decide) ω b.1);have W:=η b.1;have d:=η (show JT Z=2 by unfold JT;rw[hp]);have HA:=η q5;rw[hp]at P;clear C t D N Q b q2 q3 q4 q5 q6 hp L K
   go_in
   go_wp2_with fail;refine J.mono ?_;rintro e E (⟨hz,rfl,q,rfl⟩ | ⟨hz,rfl,V,u,s,o,l,k,j,i,z,y,f⟩)
   · exact absurd W.out hz
   have hf:Hid (yO w b0 g (zX g c Z.A) x a Z.m Z.en 0 (JT Z) n (.returned (.tuple #[.slice none 0 0, .int .i64 0])) E):=by
    refine⟨none,0,0,[],0,V,u,rfl, ⟨rfl,Rd.di⟩,aG _,s, ?_,l,k,i, ?_,f, .inl ⟨rfl, .inl ?_⟩⟩
    · rw[HA.out];exact o
    · rw[j,HA.out];decide
    rw[d.out];unfold JT;cases U:u.p with
    | none=>exact absurd U z
    | some _=>simp only [y];decide
   clear s o l k j i z y f
   go_wp2_with fail;go_returns;exact hf
 · have J:=η (NW w b0 g c Z x a C bI gd M S hp qY O hz p1 p2 p3 p4 B F p7 Y t n L K);have d:=η (show JT Z=1 by unfold JT;rw[hp,p1];rfl);have HP:=η (⟨hp,D⟩ :_/\_);rw[hp]at P;rw[p1]at k3;clear C t D N Q b O hz p1 p2 p3 p4 B F p7 Y hp L K
   go_in
   go_wp2_with fail;refine J.mono ?_;rintro e E ⟨A5,k5,d5,l5,r,V,u,rfl,s,o,l,k,j,i,z,y,f,X,G⟩
   have hf:Hid (yO w b0 g (zX g c Z.A) x a Z.m Z.en 0 (JT Z) n (.returned (.tuple #[.slice A5 k5 d5, .int .i64 r])) E):=by
    refine⟨A5,k5,d5,l5,r,V,u,rfl,s,o,l,k,j,i,z.trans HP.2,f,X, ?_⟩;have T8:JT u=if u.sS then 0 else 1:=by unfold JT;rw[y,HP.1]
    rcases G with ⟨h, ⟨I,h4⟩ | ⟨I,h4⟩⟩ | ⟨h,I,h4,h5,h6⟩
    · exact .inl ⟨h, .inl (by rw[T8,d.out,I];decide)⟩
    · exact .inl ⟨h, .inr ⟨by rw[T8,d.out,I];rfl,h4⟩⟩
    exact .inr ⟨h,I,h5,h6⟩
   clear s o l k j i z y f X G
   go_wp2_with fail;go_returns;exact hf
 have DK:R.length<=100000000000:=by
  have e:(dT R).length<=(dT (x.drop 2)).length:=by
   rw[p4];exact O1 x Z.m p2
  rw[dQ,dQ,ay]at e;omega
 have J:=η (Sv w b0 g c Z x a R C bI gd M S hp qY O hz p1 p2 p3 p4 B DK F (by rw[<-lC B,p4,t,p3];exact b.2 p2))
 have T:Hid (Cr R Z.sum Z.en=zE x Z.m Z.en):=by
  show _=_;unfold zE;rw[a8 (by rw[hz];decide),a8 (by rw[p2];decide),<-p4,lC B,t,p3]
 have H:Hid (a=kR x Z.m):=by show _=_;unfold kR;rw[a8 (by rw[hz];decide)];exact p3
 have HP:=η (⟨t,D⟩ :_/\_);rw[hp]at P;rw[p1]at k3;clear C t D N Q b O hz p1 p2 p3 p4 B F hp L K DK
 go_in
 go_wp2_with fail;refine J.mono ?_;rintro e E ⟨rfl,u,s,o,l,k,j,i,z,y,f⟩
 have hf:Hid (yO w b0 g (zX g c Z.A) x a Z.m Z.en 0 (JT Z) n (.returned (.tuple #[.slice none 0 0, .int .i64 (Cr R Z.sum Z.en)])) E):=by
  refine⟨none,0,0,[],Cr R Z.sum Z.en,c,u,rfl, ⟨rfl,Rd.di⟩,aG _,s,by rw[ak];exact o,l,j,i.trans HP.2,by rw[ak,k];exact HP.1,f, .inr ⟨by rw[T.out];exact a6T _ _ _,rfl,H.out,T.out⟩⟩
 obtain⟨v,hv⟩ :=ν (Cr R Z.sum Z.en);rw[hv]at hf⊢;clear s o l k j i z y f hv T
 go_wp2_with fail;go_returns;exact hf
theorem Cx.pre {w:World} {b0:Nat} {c:Nat->Nat} {x a:ag} {Z:ZR} (h:Cx w b0 c x a Z):∃t,kR x Z.m=a++t:=by
 rcases h with ⟨_,_,_,_,q5,_⟩ | ⟨j,gd,M,S,hp,g,i,hz, ⟨p1,p2,p3,p4,e,d,b,f⟩ | ⟨p1,p2,p3,R,p4,e,d⟩⟩
 · exact⟨kR x Z.m,by rw[q5];rfl⟩
 · obtain⟨t,ht⟩ :=b.pre;exact⟨M.out++t,by unfold kR;rw[a8 (by rw[hz];decide),ht,av]⟩
 exact⟨[],by unfold kR;rw[a8 (by rw[hz];decide),ak];exact p3.symm⟩
def zOk (x a:ag) (m:Nat) (en:Bool) (b:Int):Prop:=b=0\/(b=zE x m en/\a=kR x m/\(b=5->en=true))
def ZtR (w:World) (b0 g:Nat) (E:Nat->Prop) (x a:ag) (m:Nat) (en:Bool) (n:Nat) (gk:Nat) (d b:Value) (wr:World):Prop:=
 ∃A k cp l e c Z,d= .slice A k cp/\b= .int .i64 e/\aT .u8 wr w.heap.size 5 A k cp l/\k<=n/\ru wr b0 g c Z/\Cx wr (g+1) c x (a++l) Z/\Z.m=m/\Z.en=en/\Z.sum=gI 1 (a++l)/\Ext b0 w wr E (zX g c Z.A)/\(∀q,ai A=some q->¬zX g c Z.A q)/\
  zOk x (a++l) m en Z.err/\(e=0\/(e=zE x m en/\a++l=kR x m/\(Z.err=e\/(Z.err=0/\e=5))))/\Hid (gk=if e=0 then 3*(n-k)+JT Z+1 else 0)
def ZtE (x a:ag) (m:Nat) (en:Bool) (n:Nat) (l:ag) (r:Int):Prop:=
 (∃t,kR x m=a++l++t)/\((r=0/\l.length=n)\/(l.length<n/\a++l=kR x m/\((l≠[]/\r=5)\/(l=[]/\r=zE x m en))))
def wO (w:World) (b0 g:Nat) (E:Nat->Prop) (x a:ag) (m:Nat) (en:Bool) (n:Nat) (e:Ending) (w':World):Prop:=
 ∃A k cp l r E',e= .returned (.tuple #[.slice A k cp, .int .i64 r])/\aT .u8 w' w.heap.size 5 A k cp l/\(∀q,ai A=some q->¬E' q)/\Cc w' b0 g E' x (a++l) m en false/\Ext b0 w w' E E'/\ZtE x a m en n l r
theorem SA (w:World) (b0 g:Nat) (E:Nat->Prop) (x a:ag) (m:Nat) (en hd:Bool) (h:Cc w b0 g E x a m en hd) (hm:m<=1000000000) (ln:x.length<=1000000000) (an:ZGd x m en) (n:Nat) (hn:n<=1000000000):
  Calls Tryz.prog 216 #[.pointer (some ⟨g,0,none⟩), .int .i64 n] w (wO w b0 g E x a m en n):=by
 obtain⟨i0,hi,al,ah,ad⟩ :=aL gG;have Hi:=η hi;have gL:=η al;have fN:=η ah;have gM:=η ad;have tJ:(0:Int)<=n/\(n:Int)<=1000000000:=ω;have HB:=η (⟨hm,ln,hn⟩ :_/\_/\_);have bs:=η an;clear an;have bt:=η h.low
 have jz:∃k,ZtR w b0 g E x a m en n k (.slice none 0 0) (.int .i64 0) w:=by
  obtain⟨c,Z,Y,h2,P,h4,h5,rfl,h6, -⟩ :=h;exact⟨_,none,0,0,[],0,c,Z,rfl,rfl,aT.di,aG _,Y,by rw[ak];exact h2,P,h4,by rw[ak];exact h5,Ext.refl _ _ _,λq b=>by simp [ai]at b,by rw[ak];exact h6, .inl rfl,rfl⟩
 obtain⟨k0,jz⟩ :=jz;have HI:=η jz;clear h jz hi al ah ad hm ln hn
 go_in
 go_wp2_with fail;go_loopg [6,7] k0 (ZtR w b0 g E x a m en n)
 case atStart=>exact HI
 clear HI;obtain⟨A,k,cp,l,e,c,Z,rfl,rfl,ho,AP,Y,h2,P,h4,h5,X,hA,jT,he,hg⟩ :=hrel;obtain⟨-, -, -, -, -, -,k6,k7⟩ :=Y.cells;have z7:=Y.Ae (i:=7) ω;have qB:(k:Int)<=(n:Int)/\(0:Int)<=k:=ω;have o:=ho.1;by_cases N:k<n/\Z.err=0/\e=0
 rotate_left
 · have B6:=h2.pre;rw[P]at B6;obtain⟨t,ht⟩ :=B6;have F:Hid (Cc wr b0 g (zX g c Z.A) x (a++l) m en false):= ⟨c,Z,Y,h2,P,h4,h5,rfl,jT,λh=>by simp at h⟩;have j:Hid (∀r,((r=0/\l.length=n)\/(l.length<n/\a++l=kR x m/\((l≠[]/\r=5)\/(l=[]/\r=zE x m en))))->wO w b0 g E x a m en n (.returned (.tuple #[.slice A k cp, .int .i64 r])) wr):=λr hr=> ⟨A,k,cp,l,r,_,rfl,ho,hA,F.out,X, ⟨t,by rw[ht]⟩,hr⟩;have HL:=η (⟨o,jT,he,X, ⟨t,by rw[ht]⟩⟩ :k=l.length/\zOk x (a++l) m en Z.err/\(e=0\/(e=zE x m en/\a++l=kR x m/\(Z.err=e\/(Z.err=0/\e=5))))/\Ext b0 w wr E (zX g c Z.A)/\∃t,kR x m=a++l++t);obtain⟨er,H⟩ :=ν (Z.err);rw[H]at k7;have PI:=η H;clear Y h2 P h4 h5 hA jT he ho X o k6 z7 ht;by_cases U:k<n
   rotate_left
   · obtain rfl:k=n:=ω;have Vk:¬(k:Int)<(k:Int):=ω;have be:decide (k<k)=false:=aP ω;have hf:Hid (wO w b0 g E x a m en k (.returned (.tuple #[.slice A k cp, .int .i64 0])) wr):=j.out 0 (.inl ⟨rfl,HL.1.symm⟩);clear N H j PI U hg
     go_wp2_with fail;go_returns;exact hf
   have Vk:(k:Int)<(n:Int):=ω;have be:decide (n<=k)=false:=aP ω;by_cases yC:er=0
   · have Hb:¬e=0:=λh=>N ⟨U,H.trans yC,h⟩;have bM:(e==0)=false:=by simpa using Hb
     have W:=(HL.2.2.1).resolve_left Hb
     have ao:e=5:=by
      rcases W.2.2 with h | ⟨_,h⟩
      · rw[PI.out,yC]at h;exact absurd h.symm Hb
      exact h
     have hf:Hid (wO w b0 g E x a m en n (.returned (.tuple #[.slice A k cp, .int .i64 5])) wr):=j.out 5 (.inr ⟨by rw[<-HL.1];exact U,W.2.1,by
      by_cases hl:l=[]
      · exact .inr ⟨hl,by rw[<-W.1];exact ao.symm⟩
      exact .inl ⟨hl,rfl⟩⟩)
     subst yC;clear W ao N H j Hb PI hg;by_cases wF:0<k
     · have CP:(0:Int)<(k:Int):=ω
       go_wp2_with fail;go_returns;exact hf
     have CP:¬(0:Int)<(k:Int):=ω;have bl:decide (0<k)=false:=aP wF
     go_wp2_with fail;go_returns;exact hf
   have bI:(er==0)=false:=by simpa using yC
   have W:er=zE x m en/\a++l=kR x m:=by
    rcases HL.2.1 with h | ⟨h,h',_⟩
    · rw[PI.out]at h;exact absurd h yC
    rw[PI.out]at h;exact⟨h,h'⟩
   by_cases wF:0<k
   · have CP:(0:Int)<(k:Int):=ω;have hf:Hid (wO w b0 g E x a m en n (.returned (.tuple #[.slice A k cp, .int .i64 5])) wr):=j.out 5 (.inr ⟨by rw[<-HL.1];exact U,W.2, .inl ⟨λh=>by have:=HL.1;rw[h]at this;simp at this;omega,rfl⟩⟩);clear W N H j yC PI hg
     go_wp2_with fail;go_returns;exact hf
   have CP:¬(0:Int)<(k:Int):=ω;have bl:decide (0<k)=false:=aP wF;have M:l=[]:=aC (by rw[<-HL.1];omega)
   have hf:Hid (∀q,wO w b0 g E x a m en n (.returned (.tuple #[.slice none 0 0, .int .i64 er])) (wr.drewN q)):=λq=>by
    have bp:Below wr.heap.size wr (wr.drewN q):=(bb.drewN (bb.refl wr (λ_=>False)) q).below (λ_ h=>h.elim) (af _);refine⟨none,0,0,[],er,_,rfl,aT.di,λq b=>by simp [ai]at b, ?_,HL.2.2.2.1.trans ⟨(bb.drewN (bb.refl wr (λ_=>False)) q).below (λ_ h=>h.elim) F.low,bb.drewN (bb.refl _ _) q,λk U=> .inl U⟩, ?_, .inr ⟨ξ,by rw[<-M];exact W.2, .inr ⟨rfl,W.1⟩⟩⟩
    · have:=F.keeps bp;rw[M]at this;exact this
    have:=HL.2.2.2.2;rw[M]at this;exact this
   clear W N H j yC PI M hg
   go_wp2_with fail;go_quiet (fail)
   go_wp2_with fail;go_returns;exact hf.out _
 obtain⟨U,fg,Hb⟩ :=N;subst Hb;have Vk:(k:Int)<(n:Int):=ω;obtain⟨J,hJ⟩ :=ν (n-k);have ca:(n:Int)-(k:Int)=(J:Int)/\(0:Int)<(J:Int):=ω;have R:=Sy wr b0 g c Z x (a++l) Y h2 h5 fg (by rw[P];exact HB.1) HB.2.1 (by rw[P,h4];exact bs) J ω (τ HB.2.2);have HS:=η R;have HG:=η (⟨P,h4,X,hA,o,hJ,AP,U⟩ :_/\_/\_/\_/\_/\_/\_/\_);have HO:=η ho;have H1:=η Y;have ap:Hid (gk=3*(n-k)+JT Z+1):=by have:=hg.out;rw[aa rfl]at this;exact this
 rw[fg]at k7;clear R Y h2 P h4 h5 X hA jT he ho o hJ U k6 z7 fg hg
 go_wp2_with fail;refine HS.mono ?_;rintro e w5 ⟨A5,Q,d5,l5,r,L,I,rfl,T,bd,s1,s2,s3,s4,s5,s6,s7,C⟩;obtain⟨P,h4,X,hA,o,hJ,AP,U⟩ :=HG.out;have CQ:=T.1;have bi:k+Q<=n:=ω;have V:aT .u8 w5 w.heap.size 5 A k cp l:=s7.2.1.dJ HO.out (λq b=>hA q b)
 have rA:∀q,ai A=some q->¬zX g L I.A q:=λq b h9=>by
  rcases s7.2.2 q h9 with h8 | h8
  · exact hA q b h8
  have:=(HO.2.lt b).2;omega
 have Ri:w.heap.size<=w5.heap.size:=aq X.1.size s7.1.size;have CG:Ext b0 w w5 E (zX g L I.A):=X.trans s7;rw[P]at s3 C;rw[h4]at s4 C;have Mn:b0<=w.heap.size:=bt.out
 have iu:Hid (∀s v f,aT .u8 f w.heap.size 5 s (k+Q) v (l++l5)->w5.grownBy f (ai A)->(ai s=ai A\/ai s=some w5.heap.size)->
   ru f b0 g L I/\Cx f (g+1) L x (a++(l++l5)) I/\Ext b0 w f E (zX g L I.A)/\∀q,ai s=some q->¬zX g L I.A q):=λs v f u G O=>by
  have yB:bb w5 f (λq=>ai A=some q):=(bb.refl w5 _).grown G λq b=> .inl b;refine⟨s1.dx yB (λq b=> ⟨λK=>rA q b (.inl K),λK=>rA q b (.inr (.inl K))⟩) (λq b=> ⟨(s1.cb q b).1,aB (s1.cb q b).2 yB.size⟩) s1.cg (λq b=>(s1.cA q b).2), ?_, ?_,λq b=> ?_⟩
  · rw[<-av]
    exact s2.aside yB (λq b=>by
     by_cases K:L q=0
     · exact K
     exact absurd (.inr (.inr K)) (rA q b)) ⟨rfl,rfl,rfl,rfl,rfl,rfl,rfl,rfl,rfl⟩
  · refine⟨CG.1.grown G (aq Mn Ri) (λq b=>aq Mn (V.2.lt b).1),CG.2.1.grown G (λq b=> .inr (V.2.lt b).1),λq b=>CG.2.2 q b⟩
  rcases O with K | K
  · exact rA q (by rw[<-K];exact b)
  rw[K]at b;injection b with b;intro h9;have:=s1.xlt q h9;omega
 have AO:(k:Int)+(Q:Int)<=(n:Int):=ω;have HC:=η C;have HP:=η (⟨s3,s4,s5,s6,CQ,o,U,hJ⟩ :_/\_/\_/\_/\_/\_/\_/\_);have ab:=η (⟨bi,AP⟩ :_/\_);have bB:k+Q<=1000000000:=by have:=HB.2.2;omega
 clear C s1 s2 s3 s4 s5 s6 s7 rA CG CQ o hJ X hA P h4 bd Mn;have hr:=HC.out;clear HC;rcases hr with ⟨rfl,T8⟩ | ⟨MI,M,mJ,am⟩
 · have aE:Hid (3*(n-(k+Q))+JT I+1<gk):=by
    show _<gk;rw[ap.out];have:=HP.2.2.2.2.1;have:=ab.out;rcases T8 with h | ⟨h,h'⟩ <;> omega
   clear T8
   go_wp2_with (at_builtin;(refine bm .u8 w.heap.size 5 i0 1 rfl (.tmp 35) (.tmp 36) _ rfl Tryz.underlying22 Hi.out gL.out fN.out gM.out rfl V rfl T ω ω Ri ?_)
                intro s v f u G O;obtain⟨d,B,z,y⟩ :=iu.out s v f u G O;obtain⟨-, -, -, -, -, -,D,Rq⟩ :=d.cells;rw[HP.2.1]at D;rw[HP.2.2.1]at Rq;have ac:=d.Ae (i:=7) ω)
   have Ts:=η (⟨d,B,z,y,u⟩ :_/\_/\_/\_/\_);clear d B z y u G O iu V T;go_roundg (3*(n-(k+Q))+JT I+1)
   case measure=>exact aE
   obtain⟨d,B,z,y,u⟩ :=Ts.out;exact⟨s,k+Q,v,l++l5,0,L,I,rfl,rfl,u,ab.1,d,B,HP.1,HP.2.1,by rw[<-av];exact HP.2.2.2.1,z,y, .inl HP.2.2.1, .inl rfl,by show _=_;rw[aa rfl]⟩
 subst M;have HR:=η (⟨mJ,am⟩ :_/\_);have bx:(r==0)=false:=by simpa using MI
 have SH:=η MI;have OT:Hid (0<gk):=by show 0<gk;rw[ap.out];omega
 clear mJ am MI;by_cases F:r=5/\en=false
 · obtain⟨rfl,rfl⟩ :=F
   go_wp2_with (at_builtin;(refine bm .u8 w.heap.size 5 i0 1 rfl (.tmp 35) (.tmp 36) _ rfl Tryz.underlying22 Hi.out gL.out fN.out gM.out rfl V rfl T ω ω Ri ?_)
                intro s v f u G O;obtain⟨d,B,z,y⟩ :=iu.out s v f u G O;obtain⟨-, -, -, -, -, -,D,Rq⟩ :=d.cells;rw[HP.2.1]at D;rw[HP.2.2.1]at Rq;have ac:=d.Ae (i:=7) ω)
   have Ts:=η (⟨d,B,z,y,u⟩ :_/\_/\_/\_/\_);clear d B z y u G O iu V T;go_roundg 0
   case measure=>exact OT
   obtain⟨d,B,z,y,u⟩ :=Ts.out;exact⟨s,k+Q,v,l++[],5,L,I,rfl,rfl,u,ab.1,d,B,HP.1,HP.2.1,by rw[<-av];exact HP.2.2.2.1,z,y, .inl HP.2.2.1, .inr ⟨HR.2,by rw[ak];exact HR.1, .inr ⟨HP.2.2.1,rfl⟩⟩,by show _=_;rw[a8 δ]⟩
 have jU:(r≠5)\/(r=5/\en=true):=by
  by_cases h5:r=5
  · right;refine⟨h5, ?_⟩;cases en with
    | true=>rfl
    | false=>exact absurd ⟨h5,rfl⟩ F
  exact .inl h5
 have bG:Hid (∀s v f,aT .u8 f w.heap.size 5 s (k+Q) v (l++[])->ru f b0 g L I->Cx f (g+1) L x (a++(l++[])) I->Ext b0 w f E (zX g L I.A)->(∀q,ai s=some q->¬zX g L I.A q)->(r=5->en=true)->
   ZtR w b0 g E x a m en n 0 (.slice s (k+Q) v) (.int .i64 r) (f.setCell ⟨g,7,none⟩ (.int .i64 r))):=λs v f u d B z y T=>by
  have C:bb f (f.setCell ⟨g,7,none⟩ (.int .i64 r)) (λk=>k=g):=bb.setCell (S:=λk=>k=g) (bb.refl f _) (p:= ⟨g,7,none⟩) (.inl rfl) _;refine⟨s,k+Q,v,l++[],r,L,{ I with err:=r },rfl,rfl,u.far (p:= ⟨g,7,none⟩) (λK=>y g K (.inl rfl)) _,ab.1,d.turn C ((d.cell.cE 7 _).congr (F3 rfl rfl rfl rfl rfl rfl rfl rfl)) ⟨rfl,rfl,rfl,rfl⟩ d.sm,B.aside C (λq b=>by rw[b];exact d.cg) ⟨rfl,rfl,rfl,rfl,rfl,rfl,rfl,rfl,rfl⟩,HP.1,HP.2.1,by rw[<-av];exact HP.2.2.2.1,z.trans (Ext.of (C.more λq b=> .inl b) d.qb d.low λq b=> .inl b),y, ?_, .inr ⟨HR.2,by rw[ak];exact HR.1, .inl rfl⟩,by show _=_;rw[a8 SH.out]⟩;exact .inr ⟨HR.2,by rw[ak];exact HR.1,T⟩
 clear F;rcases jU with h5 | ⟨rfl,rfl⟩
 · have cd:(r==5)=false:=by simpa using h5
   have bo:Hid (r=5->en=true):=λK=>absurd K h5;have bv:¬r=0:=SH.out;have cc:¬r=5:=h5;clear h5
   go_wp2_with (at_builtin;(refine bm .u8 w.heap.size 5 i0 1 rfl (.tmp 35) (.tmp 36) _ rfl Tryz.underlying22 Hi.out gL.out fN.out gM.out rfl V rfl T ω ω Ri ?_)
                intro s v f u G O;obtain⟨d,B,z,y⟩ :=iu.out s v f u G O;obtain⟨-, -, -, -, -, -,D,Rq⟩ :=d.cells;rw[HP.2.1]at D;rw[HP.2.2.1]at Rq;have ac:=d.Ae (i:=7) ω)
   have hz:=η (bG s v f u d B z y bo.out);clear d B z y u G O iu V T bG;go_roundg 0
   case measure=>exact OT
   case rel=>exact hz
 go_wp2_with (at_builtin;(refine bm .u8 w.heap.size 5 i0 1 rfl (.tmp 35) (.tmp 36) _ rfl Tryz.underlying22 Hi.out gL.out fN.out gM.out rfl V rfl T ω ω Ri ?_)
              intro s v f u G O;obtain⟨d,B,z,y⟩ :=iu.out s v f u G O;obtain⟨-, -, -, -, -, -,D,Rq⟩ :=d.cells;rw[HP.2.1]at D;rw[HP.2.2.1]at Rq;have ac:=d.Ae (i:=7) ω)
 have hz:=η (bG s v f u d B z y (by first | exact λ_=>rfl | exact λ_=>trivial | simp));clear d B z y u G O iu V T bG;go_roundg 0
 case measure=>exact OT
 case rel=>exact hz
theorem Cc.dx {w w':World} {b0 g:Nat} {E:Nat->Prop} {x a:ag} {m:Nat} {en hd:Bool} {F:Nat->Prop} (h:Cc w b0 g E x a m en hd) (f:bb w w' F) (hF:∀k,F k->¬E k):Cc w' b0 g E x a m en hd:=by
 obtain⟨c,Z,d,j,i,h4,h5,rfl,h6⟩ :=h
 exact⟨c,Z,d.dx f (λk b=> ⟨λe=>hF k b (.inl e),λe=>hF k b (.inr (.inl e))⟩) (λk b=> ⟨(d.cb k b).1,aB (d.cb k b).2 f.size⟩) d.cg (λk b=>(d.cA k b).2),j.aside f (λk b=>by
  by_cases e:c k=0
  · exact e
  exact absurd (.inr (.inr e)) (hF k b)) ⟨rfl,rfl,rfl,rfl,rfl,rfl,rfl,rfl,rfl⟩,i,h4,h5,rfl,h6⟩
end Go.Proofs.YtgiimmkmjpbecaaGreat
