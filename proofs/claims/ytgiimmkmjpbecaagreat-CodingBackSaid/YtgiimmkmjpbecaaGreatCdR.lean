/-
  part
-/
import Derived.Test.YtgiimmkmjpbecaaGreatCodT
import Derived.Test.YtgiimmkmjpbecaaGreatCodX
import Derived.Test.YtgiimmkmjpbecaaGreatPk31
import Derived.Test.YtgiimmkmjpbecaaGreatPk37
import Derived.Test.YtgiimmkmjpbecaaGreatRgy
set_option linter.unusedVariables false
set_option maxRecDepth 100000
set_option maxHeartbeats 4000000
namespace Go.Proofs.YtgiimmkmjpbecaaGreat
open Go.RowKit
def Dj (k:Nat) (x:ag) (m:Nat):ag:=if k=0 then x.take m else if k=1 then(gz (x.length+1) x m false).1 else kR x m
def Ol (k:Nat) (x:ag) (m:Nat):Int:=if k=0 then(if m<x.length then 6 else 8)else if k=1 then(gz (x.length+1) x m false).2.2 else zE x m true
def xI (k:Nat) (F X:ag):Prop:=(k=0/\F=X)\/(0<k/\∃B,pA B X/\((k=1/\F=KI vH B X)\/(k=2/\F=lV B (oy (gI 1 X)))))
section
variable {k m:Nat} {F X:ag}
theorem Ux {f:Nat} {B:ag} {e:Bool} (c:pA B X) (b:∀v∈X,0<=v/\v<256) (a:X.length<=m):gz (f+2) (KI vH B X) m e=(X,[KI vH B X],8):=by
 have e:KI vH B X=[31,139,8,0,0,0,0,0,0,0]++(gU B++xS X):=by unfold KI;rw[B5]
 obtain⟨i,g, -⟩ :=pJ (gU B++xS X);have h:=Uy (f:=f+1) (k:= ‹Bool›) i g δ c a (M7 X)
 have d:wA (xS X) X=0:=by
  have:=II b []
  rwa [ak]at this
 have hd:(xS X).drop 8=[]:=cV (by rw[sX];omega);rw[e,h,a8 (by rw[d];decide),hd,Ma,ak]
theorem xM (h:xI k F X) (d:∀v∈X,0<=v/\v<256) (a:X.length<=m):Dj k F m=X/\Ol k F m=8:=by
 unfold Dj Ol;rcases h with ⟨rfl,rfl⟩ | ⟨_,B,b, ⟨rfl,rfl⟩ | ⟨rfl,rfl⟩⟩
 · rw[aa rfl,aa rfl,a8 ω,aA a];exact⟨rfl,rfl⟩
 · rw[a8 δ,aa rfl,a8 δ,aa rfl];have c:(KI vH B X).length+1=(KI vH B X).length-1+2:=by rw[Zr];omega
   rw[c,Ux b d a];exact⟨rfl,rfl⟩
 rw[a8 δ,a8 δ,a8 δ,a8 δ,b.a7g _ m a,b.e_ _ (F5 (qf 1 X)) m a];have h:=KB (gI 1 X) (qf 1 X) [];rw[ak]at h;rw[h];exact⟨rfl,rfl⟩
theorem yS {x:ag} {M:Nat} {t:IS} (h:(start (dT x) M).fin=(t,8)) (c:m<t.all.length):(start (dT x) m).fin.2=6/\(start (dT x) m).fin.1.all=t.all.take m:=by
 have a:=TQ (b:=x) (M:=M) (m:=m) (by rw[h]);rw[h]at a;exact a.1 c
theorem Qd (h:xI k F X) (c:m<X.length):Dj k F m=X.take m/\Ol k F m=6:=by
 unfold Dj Ol;rcases h with ⟨rfl,rfl⟩ | ⟨_,B,d, ⟨rfl,rfl⟩ | ⟨rfl,rfl⟩⟩
 · rw[aa rfl,aa rfl,aa c];exact⟨rfl,rfl⟩
 · rw[a8 δ,aa rfl,a8 δ,aa rfl];obtain⟨t,b,a, -⟩ :=sW d (xS X) (af X.length);obtain⟨c1,c2⟩ :=yS b (m:=m) (by rw[a];exact c);rw[a]at c2;have e:KI vH B X=[31,139,8,0,0,0,0,0,0,0]++(gU B++xS X):=by unfold KI;rw[B5]
   obtain⟨g,f, -⟩ :=pJ (gU B++xS X);rw[<-e]at g f;have hd:(KI vH B X).drop 10=gU B++xS X:=by rw[e];rfl
   have hF:eL ((KI vH B X).drop (Cz (KI vH B X))) m=(start (dT (gU B++xS X)) m).fin:=by rw[f,hd];rfl
   rw[OI σ g,LW (by rw[hF,c1];decide),hF];show _++[]=_/\_;rw[ak];exact⟨c2,c1⟩
 rw[a8 δ,a8 δ,a8 δ,a8 δ];obtain⟨t,b,a, -⟩ :=d.Uf (oy (gI 1 X)) X.length (af _);have hz:D8 (lV B (oy (gI 1 X)))=0:=wy _;unfold kD at b;obtain⟨c1,c2⟩ :=yS b (m:=m) (by rw[a];exact c);rw[a]at c2;have e:kD (lV B (oy (gI 1 X))) m=(start (dT ((lV B (oy (gI 1 X))).drop 2)) m).fin:=rfl;refine⟨?_, ?_⟩
 · unfold kR;rw[a8 (by rw[hz];decide),e];exact c2
 unfold zE;rw[a8 (by rw[hz];decide),e,aa (by rw[c1];decide)];exact c1
theorem wS (h:xI k F X) (g:∀v∈X,0<=v/\v<256):k=1->YU 0 F:=λf=>by
 subst f;rcases h with ⟨h,_⟩ | ⟨_,B,d, ⟨_,rfl⟩ | ⟨h,_⟩⟩
 · exact absurd h δ
 · refine .inr ⟨gU B++xS X,by unfold KI;rw[B5],λm a=> ?_⟩;rcases aU m X.length with h | h
   · obtain⟨t,c,b, -⟩ :=sW d (xS X) (af X.length);have c1:=(yS c (m:=m) (by rw[b];exact h)).1;unfold eL at a;rw[c1]at a;exact absurd a δ
   obtain⟨t,c,b,i⟩ :=sW d (xS X) h;have e:=II g [];rw[ak]at e;rw[c];show wA (gU t.x) t.all=0/\(gU t.x).drop 8=[];rw[b,i,lC (M7 X)];exact⟨e,cV (by rw[sX];omega)⟩
 exact absurd h δ
theorem wT (h:xI k F X):k=2->ZGd F m true:=λf=>by
 subst f;rcases h with ⟨h,_⟩ | ⟨_,B,d, ⟨h,_⟩ | ⟨_,rfl⟩⟩
 · exact absurd h δ
 · exact absurd h δ
 refine⟨wy _,λb=> ?_⟩;rcases aU m X.length with h | h
 · obtain⟨t,a,c, -⟩ :=d.Uf (oy (gI 1 X)) X.length (af _);unfold kD at a b;have c1:=(yS a (m:=m) (by rw[c];exact h)).1;rw[c1]at b;exact absurd b δ
 obtain⟨t,a,c,g⟩ :=d.Uf (oy (gI 1 X)) m h;rw[a];show Cr (gU t.x) (gI 1 t.all) true=8;have e:=KB (gI 1 X) (qf 1 X) [];rw[ak]at e;rw[c,g,lC (F5 (qf 1 X)),e];rfl
end
theorem NQ (L:ag):∃Q,L=Q++rest L/\Q.length%8=0/\gU L=gU Q:=by
 refine⟨L.take (8*(L.length/8)), ?_, ?_,(Ia L).symm⟩
 · unfold rest;rw[aO]
 rw[aD];omega
theorem Qp {X P Q:ag} {d:jO} (h:nU X P d) (b:d.L=Q++rest d.L) (a:Q.length%8=0):nU X (P++Q) { d with L:=rest d.L }:=by
 obtain⟨all,kinds,stops,fz,pre,h⟩ :=h;exact⟨_,_,_,_,_,h.taken b a⟩
def zr (H T:ag) (s N:Nat) (X O:ag) (d:jO) (hd tl:ag):Prop:=
 (s=0/\tl=[]/\∃P,DB (100*X.length) X P d/\P.length%8=0/\P.length<=3000000*N/\O++hd=H++gU P/\hd.length<=10)\/
 (s=1/\tl=T/\∃P,pA (P++d.L) X/\P.length%8=0/\P.length<=3000000*N/\d.L.length<=3000000/\O++hd=H++gU P/\hd.length<=10)\/
 (s=2/\hd=[]/\tl=[]/\∃B,pA B X/\B.length<=3000000*N/\O=H++(gU B++T))
section
variable {H T T' X O hd tl:ag} {s N:Nat} {d:jO}
theorem zr.new (lev:Int) (a:H.length<=10):zr H T 0 0 [] [] (CV lev) H []:=
 .inl ⟨rfl,rfl,[],DB.new lev,rfl,af _,by rw[ba];show H=H++gU [];rw[show gU []=[] from rfl,ak],a⟩
theorem zr.open_ (h:zr H T 0 N X O d hd tl):tl=[]/\∃P,DB (100*X.length) X P d/\P.length%8=0/\P.length<=3000000*N/\O++hd=H++gU P/\hd.length<=10:=by
 rcases h with h | h | h
 · exact h.2
 · exact absurd h.1 δ
 exact absurd h.1 δ
theorem zr.write (h:zr H T 0 N X O d hd tl) (b:ag) (n:Nat) (a:b.length<=n) (c:∀v∈b,0<=v/\v<256) (i:(X++b).length<=20000):zr H T' 0 N (X++b) O (iJ n d b) hd tl:=by
 obtain⟨g,P,f,e,h4,h5,h6⟩ :=h.open_;refine .inl ⟨rfl,g,P,(DB.write n b f a ω c).more ?_,e,h4,h5,h6⟩;rw[ae];omega
theorem zr.close (h:zr H T 0 N X O d hd tl) (e:X.length<=20000):zr H T 1 N X O (ng d) hd T:=by
 obtain⟨f,P,a,b,h4,h5,h6⟩ :=h.open_;have c:=a.a27;exact .inr (.inl ⟨rfl,rfl,P,Qo a.1,b,h4,ω,h5,h6⟩)
theorem zr.take (h:zr H T s N X O d hd tl) (e:s<2) (g:X.length<=20000):zr H T (if s=0 then 0 else 2) (N+1) X (O++(hd++gU d.L++tl)) { d with L:=rest d.L } [] []:=by
 rcases h with ⟨rfl,rfl,P,a,b,h4,h5,h6⟩ | ⟨rfl,rfl,P,a,b,h4,h5,h6,h7⟩ | ⟨rfl, -⟩
 · obtain⟨Q,q1,q2,q3⟩ :=NQ d.L;have i:Q.length<=d.L.length:=by rw[q1,ae];omega
   have c:=a.size;have f:(rest d.L).length<=d.L.length:=by rw[jh];exact Nat.mod_le _ _
   refine .inl ⟨aa rfl,rfl,P++Q, ⟨Qp a.1 q1 q2, ?_⟩,by rw[ae];omega,by rw[ae];omega, ?_,σ⟩
   · have:=a.2;show(rest d.L).length+100*d.raw.length<=_;omega
   rw[ak,ak,<-av,h5,q3,av,<-rO b]
 · refine .inr (.inr ⟨a8 δ,rfl,rfl,P++d.L,a,by rw[ae];omega, ?_⟩);rw[<-av,<-av,h6,rO b];simp [List.append_assoc]
 omega
theorem zr.bound (h:zr H T s N X O d hd tl) (c:s<2) (e:X.length<=20000) (f:T.length<=8):hd.length<=100000/\tl.length<=100000/\d.L.length<=3000000:=by
 rcases h with ⟨rfl,rfl,P,a,b,h4,h5,h6⟩ | ⟨rfl,rfl,P,a,b,h4,h5,h6,h7⟩ | ⟨rfl, -⟩
 · have:=a.size;exact⟨ω,σ,ω⟩
 · exact⟨ω,ω,ω⟩
 omega
theorem zr.gz (h:zr vH.p4 (xS X) 2 N X O d hd tl):xI 1 O X/\O.length<=18+375000*N:=by
 rcases h with h | h | ⟨-, -, -,B,a,b,rfl⟩
 · exact absurd h.1 δ
 · exact absurd h.1 δ
 refine⟨.inr ⟨δ,B,a, .inl ⟨rfl,rfl⟩⟩, ?_⟩;rw[ae,ae,jm,sX,B5];show 10+_<=_;omega
theorem zr.zl (h:zr [120,156] (oy (gI 1 X)) 2 N X O d hd tl):xI 2 O X/\O.length<=18+375000*N:=by
 rcases h with h | h | ⟨-, -, -,B,a,b,rfl⟩
 · exact absurd h.1 δ
 · exact absurd h.1 δ
 refine⟨.inr ⟨δ,B,a, .inr ⟨rfl,by unfold lV;rw[av]⟩⟩, ?_⟩;rw[ae,ae,jm];show 2+(_+4)<=_;omega
end
def Di (t:TypeId) (g:Nat):Nat->Value:=λ_=> .iface t (.pointer (some ⟨g,0,none⟩))
def Hk (w:World) (q t ty g:Nat):Prop:=w.heap[q]?=some (.cells #[.iface t (.pointer (some ⟨g,0,none⟩))] ty (0,0))
section
variable {w w':World} {q t ty g:Nat}
theorem Hk.ar (h:Hk w q t ty g):Ar w q 1 (Di t g):= ⟨_,ty,(0,0),h, .inr rfl,af _,λi hi=>by
 obtain rfl:i=0:=ω;rfl⟩
theorem Hk.lt (h:Hk w q t ty g):q<w.heap.size:=h.ar.lt
theorem Hk.dx {F:Nat->Prop} (h:Hk w q t ty g) (a:bb w w' F) (hF:¬F q):Hk w' q t ty g:=(a.block q h.lt hF).trans h
theorem Hk.ne (h:Hk w q t ty g) {b0 n c:Nat} {A:ax} {l:ag} {e:Nat} (b:aT .u8 w b0 e A n c l) (d:e≠ty):ai A≠some q:=λhA=>by
 rcases b.2 with ⟨rfl,_⟩ | ⟨i,f,rfl,_,a,_⟩
 · simp [ai]at hA
 simp [ai]at hA;subst hA;unfold Hk at h;rw[h]at a;injection a with a;injection a with _ a _;exact d a.symm
end
def Da (w:World) (b0 q:Nat) (E:Nat->Prop) (k s N:Nat) (X O:ag):Prop:=
 b0<=q/\((k=0/\∃g A n c l,Hk w q 55 52 g/\oQ w b0 g A n c l (decide (0<s))/\O++l=X/\(s=2->l=[])/\E=(λj=>j=q\/foot A g j)/\¬foot A g q)\/
  (k=1/\∃g G d hd tl,Hk w q 43 52 g/\EK w b0 g G d (decide (0<s)) hd (zK 0 X) X.length tl/\zr vH.p4 (xS X) s N X O d hd tl/\E=(λj=>j=q\/G j)/\¬G q)\/
  (k=2/\∃g G d hd tl,Hk w q 53 52 g/\F2 w b0 g G d (decide (0<s)) hd (gI 1 X) tl/\zr [120,156] (oy (gI 1 X)) s N X O d hd tl/\E=(λj=>j=q\/G j)/\¬G q))
section
variable {w w':World} {b0 q:Nat} {E:Nat->Prop} {k s N:Nat} {X O:ag}
theorem Da.qb (h:Da w b0 q E k s N X O):∀j,E j->b0<=j/\j<w.heap.size:=by
 obtain⟨f, ⟨-,g,A,n,c,l,e,a, -, -,rfl, -⟩ | ⟨-,g,G,d,hd,tl,e,a, -,rfl, -⟩ | ⟨-,g,G,d,hd,tl,e,a, -,rfl, -⟩⟩ :=h
 · rintro j (rfl | rfl | b)
   · exact⟨f,e.lt⟩
   · exact⟨a.lo,a.cell.lt⟩
   exact a.own.2.lt b
 · rintro j (rfl | b)
   · exact⟨f,e.lt⟩
   exact a.qb j b
 rintro j (rfl | b)
 · exact⟨f,e.lt⟩
 exact a.qb j b
theorem Da.dx {F:Nat->Prop} (h:Da w b0 q E k s N X O) (a:bb w w' F) (hF:∀j,F j->¬E j):Da w' b0 q E k s N X O:=by
 obtain⟨o, ⟨rfl,g,A,n,c,l,m,i,f,h4,rfl,h5⟩ | ⟨rfl,g,G,d,hd,tl,m,i,f,rfl,h5⟩ | ⟨rfl,g,G,d,hd,tl,m,i,f,rfl,h5⟩⟩ :=h
 · exact⟨o, .inl ⟨rfl,g,A,n,c,l,m.dx a (λe=>hF _ e (.inl rfl)),i.dx a (λj b e=>hF j e (.inr b)),f,h4,rfl,h5⟩⟩
 · exact⟨o, .inr (.inl ⟨rfl,g,G,d,hd,tl,m.dx a (λe=>hF _ e (.inl rfl)),i.dx a (λj b e=>hF j b (.inr e)),f,rfl,h5⟩)⟩
 exact⟨o, .inr (.inr ⟨rfl,g,G,d,hd,tl,m.dx a (λe=>hF _ e (.inl rfl)),i.dx a (λj b e=>hF j b (.inr e)),f,rfl,h5⟩)⟩
theorem Da.keeps (h:Da w b0 q E k s N X O) (a:Below w.heap.size w w'):Da w' b0 q E k s N X O:=h.dx (F:=λ_=>False) (bb.bC a) (λ_=>False.elim)
end
theorem ia {w w':World} {b0 q:Nat} {E E':Nat->Prop} (h:Ext b0 w w' E E') (b:q<w.heap.size) (hE:¬E q):Ext b0 w w' (λj=>j=q\/E j) (λj=>j=q\/E' j)/\¬E' q:=
 ⟨⟨h.1,h.2.1.more (λj a=> .inr a),λj a=>a.elim (λe=> .inl (.inl e)) (λe=>(h.2.2 j e).imp .inr id)⟩,λe=>(h.2.2 q e).elim hE (λc=>ω)⟩
theorem vq {w w':World} {b0 g:Nat} {A A':ax} {F:Nat->Prop} (c:bb w w' F) (hF:∀j,F j->foot A g j) (a:∀j,foot A g j->b0<=j) (d:b0<=w.heap.size) (hA:∀k,ai A'=some k->ai A=some k\/w.heap.size<=k):Ext b0 w w' (foot A g) (foot A' g):=
 Ext.of (c.more hF) a d (λk b=>b.elim (λe=> .inl (.inl e)) (λe=>(hA k e).imp .inr id))
theorem oQ.Ui {w:World} {b0 g n c:Nat} {A:ax} {l:ag} {done:Bool} (h:oQ w b0 g A n c l done):∀j,foot A g j->b0<=j:=λj a=>a.elim (λe=>by have:=h.lo;omega) (λe=>(h.own.2.lt e).1)
def CeN (w:World) (k:Nat) (e:Ending) (w':World):Prop:=∃q E,e= .returned (.pointer (some ⟨q,0,none⟩))/\Da w' w.heap.size q E k 0 0 [] []/\Below w.heap.size w w'
theorem wR {w w':World} {b0 g:Nat} (t ty:TypeId) (a:Below b0 w w') (b:b0<=w.heap.size):
  Hk (w'.alloc (.cells #[.iface t (.pointer (some ⟨g,0,none⟩))] ty)) w'.heap.size t ty g/\Below b0 w (w'.alloc (.cells #[.iface t (.pointer (some ⟨g,0,none⟩))] ty))/\Below w'.heap.size w' (w'.alloc (.cells #[.iface t (.pointer (some ⟨g,0,none⟩))] ty)):=
 ⟨cR w' _,a.alloc (aq b a.size) _,(aw _ _).alloc (af _) _⟩
theorem Qc (w:World) (k:Nat) (h:k<=2) (lev:Int) (d: -9223372036854775808<=lev/\lev<=9223372036854775807):
  Calls Tryz.prog 6 #[.int .i64 k, .int .i64 lev] w (CeN w k):=by
 obtain rfl | rfl | rfl:k=0\/k=1\/k=2:=ω
 · go_in
   go_wp2;go_ret
   have f:Ar (w.alloc (.cells #[.slice none 0 0, .bool false] 57)) w.heap.size 2 (plF none 0 0 false):=Ar.new w _ _ rfl λi hi=>by
    obtain rfl | rfl:i=0\/i=1:=ω;all_goals rfl
   obtain⟨b1,b2,b3⟩ :=wR (w':=w.alloc (.cells #[.slice none 0 0, .bool false] 57)) (g:=w.heap.size) 55 52 ((aw w.heap.size w).alloc (af _) _) (af _);have e:(w.alloc (.cells #[.slice none 0 0, .bool false] 57)).heap.size=w.heap.size+1:=σ;rw[e]at b1;refine⟨_,_,rfl, ⟨ω, .inl ⟨rfl,w.heap.size,none,0,0,[],b1, ⟨f.keeps b3,af _,aT.di,by simp [ai]⟩,rfl,λ_=>rfl,rfl, ?_⟩⟩,b2⟩;rintro(e | e)
   · omega
   simp [ai]at e
 · go_in
   go_wp2_with fail;refine(M0 lev w d).mono ?_;rintro e w1 ⟨g,G,rfl,c,a⟩;have b:=η (⟨c,a⟩ :_/\_);clear c a
   go_wp2_with fail;go_ret;obtain⟨b1,b2,b3⟩ :=wR (g:=g) 43 52 b.2 (af _);refine⟨_,_,rfl, ⟨b.2.size, .inr (.inl ⟨rfl,g,G,_,_,_,b1,b.1.keeps b3, ?_,rfl,λe=>by have:=(b.1.qb _ e).2;omega⟩)⟩,b2⟩;exact zr.new (H:=[31,139,8,0,0,0,0,0,0,0]) lev δ
 go_in
 go_wp2_with fail;refine(Sw lev w d).mono ?_;rintro e w1 ⟨g,G,rfl,c,a⟩;have b:=η (⟨c,a⟩ :_/\_);clear c a
 go_wp2_with fail;go_ret;obtain⟨b1,b2,b3⟩ :=wR (g:=g) 53 52 b.2 (af _);exact⟨_,_,rfl, ⟨b.2.size, .inr (.inr ⟨rfl,g,G,_,_,_,b1,b.1.keeps b3,zr.new lev δ,rfl,λe=>by have:=(b.1.qb _ e).2;omega⟩)⟩,b2⟩
def CeX (w:World) (b0 q:Nat) (E:Nat->Prop) (k s N:Nat) (X O:ag) (w':World):Prop:=∃E',Da w' b0 q E' k s N X O/\Ext b0 w w' E E'
section
variable {w:World} {b0 q:Nat} {E:Nat->Prop} {k N:Nat} {X O:ag}
theorem Da.lt {s:Nat} (h:Da w b0 q E k s N X O):q<w.heap.size:=by
 obtain⟨_, ⟨-,g,A,n,c,l,a, -⟩ | ⟨-,g,G,d,hd,tl,a, -⟩ | ⟨-,g,G,d,hd,tl,a, -⟩⟩ :=h <;> exact a.lt
theorem oQ.ext {w w':World} {b0 g n c:Nat} {A A':ax} {l:ag} {done:Bool} {F:Nat->Prop} (h:oQ w b0 g A n c l done) (d:b0<=w.heap.size) (b:bb w w' F) (hF:∀j,F j->foot A g j) (hA:ai A'=ai A\/∀k,ai A'=some k->w.heap.size<=k):Ext b0 w w' (foot A g) (foot A' g):=
 vq b hF h.Ui d (λk a=>by
  rcases hA with e | e
  · exact .inl (e▸a)
  exact .inr (e k a))
theorem xL (h:Da w b0 q E k 0 N X O) (C:ax) (m c:Nat) (x:ag) (s:bT .u8 w w.heap.size C m x) (L:m<=c) (B:0<m->∀u,C=some u->¬E u.block) (o:∀v∈x,0<=v/\v<256) (D:(X++x).length<=20000) (U:∀v∈X,0<=v/\v<256):
  Calls Tryz.prog 8 #[.pointer (some ⟨q,0,none⟩), .slice C m c] w λe w'=>e= .returned (.int .i64 0)/\CeX w b0 q E k 0 N (X++x) O w':=by
 have M:b0<=w.heap.size:=aq h.1 (bE h.lt);have T:X.length+m<=20000:=by rw[ae]at D;rw[s.1];exact D
 have i:m=x.length:=s.1;obtain⟨F, ⟨rfl,g,A,n,cc,l,b,p,f,h4,rfl,h5⟩ | ⟨rfl,g,G,d,hd,tl,b,p,f,rfl,h5⟩ | ⟨rfl,g,G,d,hd,tl,b,p,f,rfl,h5⟩⟩ :=h
 · have R:n+m<=1000000000:=by
    have:=p.own.1;have V:=bf List.length f;rw[ae]at V;omega
   refine(Fg w b0 q g n cc w.heap.size m c A C l x b.ar p s M R).mono ?_;rintro e w2 ⟨A',n',c',rfl,p1,p2,p3⟩;obtain⟨z,y⟩ :=ia (p.ext M p2 (λ_ S=>S) (p3.imp id (λe k t=>by rw[e]at t;injection t with t;omega))) b.lt h5;exact⟨rfl,_, ⟨F, .inl ⟨rfl,g,A',n',c',_,b.dx p2 h5,p1,by rw[<-av,f],λe=>absurd e δ,rfl,y⟩⟩,z⟩
 · have c0:=b.ar.az 0;unfold Di at c0;have hD:=f.open_.2;obtain⟨P,hD, -⟩ :=hD;have I:=η (IE p hD C m c x s L (λH u e t=>B H u e (.inr t)) o ω ω ω);have a:=η (⟨b,h5,f.write (T':=xS (X++x)) x m ω o D,F⟩ :_/\_/\_/\_);have Q:=η i;clear b p f h5 hD B s i
   go_in
   go_wp2_with fail;refine I.mono ?_;rintro r w2 ⟨rfl,K,p1,p2⟩;rw[Ou δ U,show(X.length:Int)+m=((X++x).length:Nat) by rw[ae,Q.out];omega]at p1
   have J:Hid (CeX w b0 q (λj=>j=q\/G j) 1 0 N (X++x) O w2):=by
    obtain⟨z,y⟩ :=ia p2 a.1.lt a.2.1;exact⟨_, ⟨a.2.2.2, .inr (.inl ⟨rfl,g,K,_,_,_,a.1.dx p2.2.1 a.2.1,p1,a.2.2.1,rfl,y⟩)⟩,z⟩
   clear p1 p2
   go_wp2_with fail;go_ret;exact⟨rfl,J.out⟩
 have c0:=b.ar.az 0;unfold Di at c0;obtain⟨P,hD, -⟩ :=f.open_.2;have I:=η (Kz p hD C m c x s L (λH u e t=>B H u e (.inr t)) o ω ω);have a:=η (⟨b,h5,f.write (T':=oy (gI 1 (X++x))) x m ω o D,F⟩ :_/\_/\_/\_);have Q:=η i;clear b p f h5 hD B s i
 go_in
 go_wp2_with fail;refine I.mono ?_;rintro r w2 ⟨rfl,K,p1,p2⟩;rw[Hx]at p1
 have J:Hid (CeX w b0 q (λj=>j=q\/G j) 2 0 N (X++x) O w2):=by
  obtain⟨z,y⟩ :=ia p2 a.1.lt a.2.1;exact⟨_, ⟨a.2.2.2, .inr (.inr ⟨rfl,g,K,_,_,_,a.1.dx p2.2.1 a.2.1,p1,a.2.2.1,rfl,y⟩)⟩,z⟩
 clear p1 p2
 go_wp2_with fail;go_ret;exact⟨rfl,J.out⟩
theorem Ic (h:Da w b0 q E k 0 N X O) (u:X.length<=20000):
  Calls Tryz.prog 9 #[.pointer (some ⟨q,0,none⟩)] w λe w'=>e= .returned (.int .i64 0)/\CeX w b0 q E k 1 N X O w':=by
 have v:b0<=w.heap.size:=aq h.1 (bE h.lt);obtain⟨o, ⟨rfl,g,A,n,cc,l,b,f,c,h4,rfl,h5⟩ | ⟨rfl,g,G,d,hd,tl,b,f,c,rfl,h5⟩ | ⟨rfl,g,G,d,hd,tl,b,f,c,rfl,h5⟩⟩ :=h
 · refine(Ff w b0 q g n cc A l b.ar f).mono ?_;rintro e w2 ⟨rfl,p1,p2⟩;obtain⟨m,i⟩ :=ia (f.ext v p2 (λ_ x=> .inl x) (.inl rfl)) b.lt h5;exact⟨rfl,_, ⟨o, .inl ⟨rfl,g,A,n,cc,l,b.dx p2 (λe=>h5 (.inl e)),p1,c,λe=>absurd e δ,rfl,i⟩⟩,m⟩
 · have c0:=b.ar.az 0;unfold Di at c0;obtain⟨P,hD, -⟩ :=c.open_.2;have p:=η (ID f hD ω);have a:=η (⟨b,h5,c.close u,o⟩ :_/\_/\_/\_);clear b f c h5 hD
   go_in
   go_wp2_with fail;refine p.mono ?_;rintro r w2 ⟨rfl,t,p1,p2⟩;rw[show tW 4 (zK 0 X)++tW 4 (X.length:Int)=xS X by unfold xS;rw[show((X.length:Nat):Int)%4294967296=X.length by omega]]at p1
   have s:Hid (CeX w b0 q (λj=>j=q\/G j) 1 1 N X O w2):=by
    obtain⟨m,i⟩ :=ia p2 a.1.lt a.2.1;exact⟨_, ⟨a.2.2.2, .inr (.inl ⟨rfl,g,t,_,_,_,a.1.dx p2.2.1 a.2.1,p1,a.2.2.1,rfl,i⟩)⟩,m⟩
   clear p1 p2
   go_wp2_with fail;go_ret;exact⟨rfl,s.out⟩
 have c0:=b.ar.az 0;unfold Di at c0;obtain⟨P,hD, -⟩ :=c.open_.2;have p:=η (Ky f hD ω);have a:=η (⟨b,h5,c.close u,o⟩ :_/\_/\_/\_);clear b f c h5 hD
 go_in
 go_wp2_with fail;refine p.mono ?_;rintro r w2 ⟨rfl,t,p1,p2⟩
 have s:Hid (CeX w b0 q (λj=>j=q\/G j) 2 1 N X O w2):=by
  obtain⟨m,i⟩ :=ia p2 a.1.lt a.2.1;exact⟨_, ⟨a.2.2.2, .inr (.inr ⟨rfl,g,t,_,_,_,a.1.dx p2.2.1 a.2.1,p1,a.2.2.1,rfl,i⟩)⟩,m⟩
 clear p1 p2
 go_wp2_with fail;go_ret;exact⟨rfl,s.out⟩
def CeT (w:World) (b0 q:Nat) (E:Nat->Prop) (k s N:Nat) (X O:ag) (e:Ending) (w':World):Prop:=
 ∃A n c t E',e= .returned (.slice A n c)/\aT .u8 w' b0 5 A n c t/\(∀j,ai A=some j->¬E' j)/\Da w' b0 q E' k (if s=0 then 0 else 2) (N+1) X (O++t)/\Ext b0 w w' E E'
theorem Lr {s:Nat} (h:Da w b0 q E k s N X O) (u:s<2) (v:X.length<=20000):
  Calls Tryz.prog 10 #[.pointer (some ⟨q,0,none⟩)] w (CeT w b0 q E k s N X O):=by
 have C:b0<=w.heap.size:=aq h.1 (bE h.lt)
 have m:decide (0<if s=0 then 0 else 2)=decide (0<s):=by
  obtain rfl | rfl:s=0\/s=1:=ω;all_goals rfl
 obtain⟨x, ⟨rfl,g,A,n,cc,l,b,i,f,h4,rfl,h5⟩ | ⟨rfl,g,G,d,hd,tl,b,i,f,rfl,h5⟩ | ⟨rfl,g,G,d,hd,tl,b,i,f,rfl,h5⟩⟩ :=h
 · refine(Iw w b0 q g n cc A l _ b.ar i).mono ?_;rintro e w2 ⟨rfl,p1,p2,p3⟩;obtain⟨t,p⟩ :=ia (i.ext C p3 (λ_ c=> .inl c) (A':=none) (.inr λk D=>by simp [ai]at D)) b.lt h5;refine⟨A,n,cc,l,_,rfl,p1, ?_, ⟨x, .inl ⟨rfl,g,none,0,0,[],b.dx p3 (λe=>h5 (.inl e)),by rw[m];exact p2,by rw[ak];exact f,λ_=>rfl,rfl,p⟩⟩,t⟩;rintro j c (rfl | rfl | e)
   · exact h5 (.inr c)
   · exact i.apart c
   simp [ai]at e
 · have c0:=b.ar.az 0;unfold Di at c0;have o:=f.bound u v (by rw[sX];omega);have y:=η (M4 i ⟨o.1,o.2.1,ω⟩);have a:=η (⟨b,h5,f.take u v,x⟩ :_/\_/\_/\_);clear b i f h5 o
   go_in
   go_wp2_with fail;refine y.mono ?_;rintro r w2 ⟨A,n,c2,B,rfl,p0,p3,p1,p2⟩
   have z:Hid (CeT w b0 q (λj=>j=q\/G j) 1 s N X O (.returned (.slice A n c2)) w2):=by
    obtain⟨t,p⟩ :=ia p2 a.1.lt a.2.1;refine⟨A,n,c2,_,_,rfl,p0, ?_, ⟨a.2.2.2, .inr (.inl ⟨rfl,g,B,_,_,_,a.1.dx p2.2.1 a.2.1,by rw[m];exact p1,a.2.2.1,rfl,p⟩)⟩,t⟩;rintro j c (rfl | e)
    · exact(a.1.dx p2.2.1 a.2.1).ne p0 δ c
    exact p3 j c e
   clear p1 p2 p3 p0
   go_wp2_with fail;go_ret;exact z
 have c0:=b.ar.az 0;unfold Di at c0;have o:=f.bound u v (by show 4<=8;decide);have y:=η (NY i ⟨o.1,o.2.1,ω⟩);have a:=η (⟨b,h5,f.take u v,x⟩ :_/\_/\_/\_);clear b i f h5 o
 go_in
 go_wp2_with fail;refine y.mono ?_;rintro r w2 ⟨A,n,c2,B,rfl,p0,p3,p1,p2⟩
 have z:Hid (CeT w b0 q (λj=>j=q\/G j) 2 s N X O (.returned (.slice A n c2)) w2):=by
  obtain⟨t,p⟩ :=ia p2 a.1.lt a.2.1;refine⟨A,n,c2,_,_,rfl,p0, ?_, ⟨a.2.2.2, .inr (.inr ⟨rfl,g,B,_,_,_,a.1.dx p2.2.1 a.2.1,by rw[m];exact p1,a.2.2.1,rfl,p⟩)⟩,t⟩;rintro j c (rfl | e)
  · exact(a.1.dx p2.2.1 a.2.1).ne p0 δ c
  exact p3 j c e
 clear p1 p2 p3 p0
 go_wp2_with fail;go_ret;exact z
end
section
variable {w:World} {b0 g:Nat} {E:Nat->Prop} {d:jO} {hd tl:ag} {s z:Int}
theorem Fs (h:EK w b0 g E d true hd s z tl) (v:Value):Calls Tryz.prog 88 #[.pointer (some ⟨g,0,none⟩),v] w λe w'=>e= .returned (.int .i64 8)/\w=w':=by
 obtain⟨b1,l,c,M,H,T,a,rfl,rfl,rfl⟩ :=h;obtain⟨n,j,i,f,b⟩ :=a.cells;have m:=η (xQ w l v a.enc.cells.2.2.2.2.2);clear a j i f b
 go_in
 go_wp2_with fail;refine m.mono ?_;rintro e w1 ⟨rfl,k⟩;obtain rfl:=k
 go_wp2_with fail;go_ret;exact⟨rfl,rfl⟩
theorem Fo (h:EK w b0 g E d true hd s z tl):Calls Tryz.prog 85 #[.pointer (some ⟨g,0,none⟩)] w λe w'=>e= .returned (.int .i64 8)/\w=w':=by
 obtain⟨b1,l,c,M,H,T,a,rfl,rfl,rfl⟩ :=h;obtain⟨n,j,i,f,b⟩ :=a.cells;have m:=η (xO w l a.enc.cells.2.2.2.2.2);clear a j i f b
 go_in
 go_wp2_with fail;refine m.mono ?_;rintro e w1 ⟨rfl,k⟩;obtain rfl:=k
 go_wp2_with fail;go_ret;exact⟨rfl,rfl⟩
theorem GM (h:F2 w b0 g E d true hd s tl):Calls Tryz.prog 157 #[.pointer (some ⟨g,0,none⟩)] w λe w'=>e= .returned (.int .i64 8)/\w=w':=by
 obtain⟨k,c,M,H,T,a,rfl,rfl,rfl⟩ :=h;obtain⟨m,i,f,b⟩ :=a.cells;have l:=η (xO w k a.enc.cells.2.2.2.2.2);clear a i f b
 go_in
 go_wp2_with fail;refine l.mono ?_;rintro e w1 ⟨rfl,j⟩;obtain rfl:=j
 go_wp2_with fail;go_ret;exact⟨rfl,rfl⟩
theorem CX {n c:Nat} {A:ax} {l:ag} (h:oQ w b0 g A n c l true) (v:Value):Calls Tryz.prog 166 #[.pointer (some ⟨g,0,none⟩),v] w λe w'=>e= .returned (.int .i64 8)/\w=w':=by
 have c1:=h.cell.az 1;unfold plF at c1
 go_in
 go_wp2;go_ret;exact⟨rfl,rfl⟩
theorem CW {n c:Nat} {A:ax} {l:ag} (h:oQ w b0 g A n c l true):Calls Tryz.prog 163 #[.pointer (some ⟨g,0,none⟩)] w λe w'=>e= .returned (.int .i64 8)/\w=w':=by
 have c1:=h.cell.az 1;unfold plF at c1
 go_in
 go_wp2;go_ret;exact⟨rfl,rfl⟩
end
section
variable {w:World} {b0 q:Nat} {E:Nat->Prop} {k N:Nat} {X O:ag}
theorem F9 (h:Da w b0 q E k 2 N X O) (v:Value):Calls Tryz.prog 8 #[.pointer (some ⟨q,0,none⟩),v] w λe w'=>e= .returned (.int .i64 8)/\w=w':=by
 obtain⟨i, ⟨rfl,g,A,n,cc,l,b,a, -⟩ | ⟨rfl,g,G,d,hd,tl,b,a, -⟩ | ⟨rfl,g,G,d,hd,tl,b,a, -⟩⟩ :=h
 · have c0:=b.ar.az 0;unfold Di at c0;have f:=η (CX a v);clear b a
   go_in
   go_wp2_with fail;refine f.mono ?_;rintro e w1 ⟨rfl,c⟩;obtain rfl:=c
   go_wp2_with fail;go_ret;exact⟨rfl,rfl⟩
 · have c0:=b.ar.az 0;unfold Di at c0;have f:=η (Fs a v);clear b a
   go_in
   go_wp2_with fail;refine f.mono ?_;rintro e w1 ⟨rfl,c⟩;obtain rfl:=c
   go_wp2_with fail;go_ret;exact⟨rfl,rfl⟩
 have c0:=b.ar.az 0;unfold Di at c0;have f:=η (GQ a v);clear b a
 go_in
 go_wp2_with fail;refine f.mono ?_;rintro e w1 ⟨rfl,c⟩;obtain rfl:=c
 go_wp2_with fail;go_ret;exact⟨rfl,rfl⟩
theorem F8 (h:Da w b0 q E k 2 N X O):Calls Tryz.prog 9 #[.pointer (some ⟨q,0,none⟩)] w λe w'=>e= .returned (.int .i64 8)/\w=w':=by
 obtain⟨i, ⟨rfl,g,A,n,cc,l,b,a, -⟩ | ⟨rfl,g,G,d,hd,tl,b,a, -⟩ | ⟨rfl,g,G,d,hd,tl,b,a, -⟩⟩ :=h
 · have c0:=b.ar.az 0;unfold Di at c0;have f:=η (CW a);clear b a
   go_in
   go_wp2_with fail;refine f.mono ?_;rintro e w1 ⟨rfl,c⟩;obtain rfl:=c
   go_wp2_with fail;go_ret;exact⟨rfl,rfl⟩
 · have c0:=b.ar.az 0;unfold Di at c0;have f:=η (Fo a);clear b a
   go_in
   go_wp2_with fail;refine f.mono ?_;rintro e w1 ⟨rfl,c⟩;obtain rfl:=c
   go_wp2_with fail;go_ret;exact⟨rfl,rfl⟩
 have c0:=b.ar.az 0;unfold Di at c0;have f:=η (GM a);clear b a
 go_in
 go_wp2_with fail;refine f.mono ?_;rintro e w1 ⟨rfl,c⟩;obtain rfl:=c
 go_wp2_with fail;go_ret;exact⟨rfl,rfl⟩
end
def O3 (w:World) (b0 q:Nat) (E:Nat->Prop) (k m s:Nat) (x a:ag):Prop:=
 b0<=q/\∃g G,¬G q/\E=(λj=>j=q\/G j)/\
  ((k=0/\Hk w q 91 67 g/\∃A n c l,oT w b0 g A n c l ((m-a.length:Nat):Int) (decide (1<s))/\x=a++l/\a.length<=m/\G=foot A g)\/
   (k=1/\Hk w q 87 67 g/\((s=2/\∃b,KZ w b0 g G (gz (x.length+1) x m false) a b)\/(s<2/\a=[]/\∃A n c,GN w b0 g m A n c x false/\G=gX g (λ_=>0) (λ_=>False) A none/\(s=0->A=none/\n=0/\c=0))))\/
   (k=2/\Hk w q 89 67 g/\∃hd,Cc w b0 g G x a m (decide (1<s)) hd/\(s<2->hd=true)))
section
variable {w w':World} {b0 q k m s:Nat} {E:Nat->Prop} {x a:ag}
theorem oT.Ui {w:World} {b0 g n c:Nat} {A:ax} {l:ag} {M:Int} {en:Bool} (h:oT w b0 g A n c l M en):∀j,foot A g j->b0<=j/\j<w.heap.size:=λj a=>a.elim (λe=> ⟨τ h.lo,τ h.cell.lt⟩) (λe=>h.own.2.lt e)
theorem GN.Ui {w:World} {b0 g m n cp:Nat} {A:ax} {l:ag} {en:Bool} (h:GN w b0 g m A n cp l en):∀j,gX g (λ_=>0) (λ_=>False) A none j->b0<=j/\j<w.heap.size:=λj a=>by
 rcases a with rfl | a | a | a | a
 · exact⟨h.lo,h.cell.lt⟩
 · exact h.own.lt a
 · simp [ai]at a
 · exact a.elim
 exact absurd rfl a
theorem O3.qb (h:O3 w b0 q E k m s x a):∀j,E j->b0<=j/\j<w.heap.size:=by
 obtain⟨o,g,G,p,rfl, ⟨-,f,A,n,c,l,d, -, -,rfl⟩ | ⟨-,f, ⟨-,i,d⟩ | ⟨-, -,A,n,c,d,rfl, -⟩⟩ | ⟨-,f,hd,d, -⟩⟩ :=h
 · exact λj b=>b.elim (λe=> ⟨ω,τ f.lt⟩) (d.Ui j)
 · exact λj b=>b.elim (λe=> ⟨ω,τ f.lt⟩) (d.xlt j)
 · exact λj b=>b.elim (λe=> ⟨ω,τ f.lt⟩) (d.Ui j)
 exact λj b=>b.elim (λe=> ⟨ω,τ f.lt⟩) (d.xlt j)
theorem O3.lt (h:O3 w b0 q E k m s x a):q<w.heap.size:=by
 obtain⟨b,g,G,c,rfl,h | h | h⟩ :=h <;> exact h.2.1.lt
theorem O3.dx {F:Nat->Prop} (h:O3 w b0 q E k m 2 x a) (b:bb w w' F) (hF:∀j,F j->¬E j):O3 w' b0 q E k m 2 x a:=by
 obtain⟨p,g,G,r,rfl, ⟨rfl,i,A,n,c,l,d,o⟩ | ⟨rfl,i, ⟨-,s,d⟩ | ⟨d, -⟩⟩ | ⟨rfl,i,hd,d,o⟩⟩ :=h
 · exact⟨p,g,G,r,rfl, .inl ⟨rfl,i.dx b (λe=>hF _ e (.inl rfl)),A,n,c,l,d.dx b (λj f e=>hF j e (.inr (o.2.2▸f))),o⟩⟩
 · exact⟨p,g,G,r,rfl, .inr (.inl ⟨rfl,i.dx b (λe=>hF _ e (.inl rfl)), .inl ⟨rfl,s,d.dx b (λj f e=>hF j f (.inr e))⟩⟩)⟩
 · omega
 exact⟨p,g,G,r,rfl, .inr (.inr ⟨rfl,i.dx b (λe=>hF _ e (.inl rfl)),hd,d.dx b (λj f e=>hF j f (.inr e)),o⟩)⟩
end
def CdN (w:World) (k m:Nat) (e:Ending) (w':World):Prop:=∃q E,e= .returned (.pointer (some ⟨q,0,none⟩))/\O3 w' w.heap.size q E k m 0 [] []/\Below w.heap.size w w'
theorem Qb (w:World) (k:Nat) (n:k<=2) (most:Int) (m:Nat) (c:(m:Int)=max most 0):
  Calls Tryz.prog 25 #[.int .i64 k, .int .i64 most] w (CdN w k m):=by
 obtain rfl | rfl | rfl:k=0\/k=1\/k=2:=ω
 · have h:∀v:Int,v=(m:Int)->CdN w 0 m (.returned (.pointer (some ⟨w.heap.size+1,0,none⟩))) ((w.alloc (.cells #[.slice none 0 0, .int .i64 v, .bool false] 93)).alloc (.cells #[.iface 91 (.pointer (some ⟨w.heap.size,0,none⟩))] 67)):=by
    rintro v rfl
    have j:Ar (w.alloc (.cells #[.slice none 0 0, .int .i64 (m:Int), .bool false] 93)) w.heap.size 3 (S9 none 0 0 m false):=Ar.new w _ _ rfl λi hi=>by
     obtain rfl | rfl | rfl:i=0\/i=1\/i=2:=ω;all_goals rfl
    obtain⟨b1,b2,b3⟩ :=wR (w':=w.alloc (.cells #[.slice none 0 0, .int .i64 (m:Int), .bool false] 93)) (g:=w.heap.size) 91 67 ((aw w.heap.size w).alloc (af _) _) (af _);have e:(w.alloc (.cells #[.slice none 0 0, .int .i64 (m:Int), .bool false] 93)).heap.size=w.heap.size+1:=σ;rw[e]at b1;refine⟨_,_,rfl, ⟨ω,w.heap.size,foot none w.heap.size, ?_,rfl, .inl ⟨rfl,b1,none,0,0,[], ⟨j.keeps b3,af _,aT.di,by simp [ai]⟩,rfl,aG _,rfl⟩⟩,b2⟩;rintro(e | e)
    · omega
    simp [ai]at e
   have l:=η (h _ c.symm);clear h c
   go_in
   go_wp2;go_ret;exact l
 · have f:=η (QB w most m c);clear c
   go_in
   go_wp2_with fail;refine f.mono ?_;rintro e w1 ⟨g,rfl,d,a⟩;have b:=η (⟨d,a⟩ :_/\_);clear d a f
   go_wp2_with fail;go_ret;obtain⟨b1,b2,b3⟩ :=wR (g:=g) 87 67 b.2 (af _);exact⟨_,_,rfl, ⟨b.2.size,g,_,λe=>by have:=(b.1.Ui _ e).2;omega,rfl, .inr (.inl ⟨rfl,b1, .inr ⟨δ,rfl,none,0,0,b.1.keeps b3,rfl,λ_=> ⟨rfl,rfl,rfl⟩⟩⟩)⟩,b2⟩
 have f:=η (XY w most m c);clear c
 go_in
 go_wp2_with fail;refine f.mono ?_;rintro e w1 ⟨g,G,rfl,d,a⟩;have b:=η (⟨d,a⟩ :_/\_);clear d a f
 go_wp2_with fail;go_ret;obtain⟨b1,b2,b3⟩ :=wR (g:=g) 89 67 b.2 (af _);exact⟨_,_,rfl, ⟨b.2.size,g,G,λe=>by have:=(b.1.xlt _ e).2;omega,rfl, .inr (.inr ⟨rfl,b1,true,b.1.keeps b3,λ_=>rfl⟩)⟩,b2⟩
section
variable {w:World} {b0 q k m:Nat} {E:Nat->Prop} {x a:ag}
def CdX (w:World) (b0 q:Nat) (E:Nat->Prop) (k m s:Nat) (x a:ag) (w':World):Prop:=∃E',O3 w' b0 q E' k m s x a/\Ext b0 w w' E E'
theorem Lp (h:O3 w b0 q E k m 0 [] []) (y n cp:Nat) (C:ax) (b:ag) (p:bT .u8 w y C n b) (u:∀v∈b,0<=v/\v<256) (J:b.length<=1000000):
  Calls Tryz.prog 26 #[.pointer (some ⟨q,0,none⟩), .slice C n cp] w λe w'=>e= .returned (.tuple #[])/\CdX w b0 q E k m 1 b [] w':=by
 have B:b0<=w.heap.size:=aq h.1 (bE h.lt);have F:Hid (n=b.length):=p.1;obtain⟨z,g,G,x,rfl, ⟨rfl,i,A,I,c,l,f,o,h4,rfl⟩ | ⟨rfl,i, ⟨f, -⟩ | ⟨-, -,A,I,c,f,rfl,o⟩⟩ | ⟨rfl,i,hd,f,o⟩⟩ :=h
 · have K:l=[]:=by
    have:=bf List.length o;simp at this;exact aC this.symm
   have M:I=0:=by rw[f.own.1,K];rfl
   subst K M;refine(Ii w b0 q g 0 c y n cp A C [] b _ i.ar f p B (τ F.out)).mono ?_;rintro e w2 ⟨A',n',c',rfl,p1,p2,p3⟩
   obtain⟨t,s⟩ :=ia (vq p2 (λ_ a=>a) (λj a=>(f.Ui j a).1) B (A':=A') (λj a=>by
    rcases p3 with e | e
    · exact .inl (e▸a)
    rw[e]at a;injection a with a;exact .inr ω)) i.lt x
   exact⟨rfl,_, ⟨z,g,_,s,rfl, .inl ⟨rfl,i.dx p2 x,A',n',c',b,p1,rfl,h4,rfl⟩⟩,t⟩
 · omega
 · obtain⟨rfl,rfl,rfl⟩ :=o rfl;have c0:=i.ar.az 0;unfold Di at c0;have D:=η (LZ w b0 g m f y n cp C b p u ω);have d:=η (⟨i,x,z,f⟩ :_/\_/\_/\_);clear i f o p
   go_in
   go_wp2_with fail;refine D.mono ?_;rintro r w2 ⟨A,L,c2,rfl,p1,p2,p3⟩
   have H:Hid (CdX w b0 q (λj=>j=q\/gX g (λ_=>0) (λ_=>False) none none j) 1 m 1 b [] w2):=by
    obtain⟨t,s⟩ :=ia (Ext.of (E:=gX g (λ_=>0) (λ_=>False) none none) (E':=gX g (λ_=>0) (λ_=>False) A none) (p2.more λj a=> .inl a) (λj a=>(d.2.2.2.Ui j a).1) B (λj a=>by
     rcases a with a | a | a
     · exact .inl (.inl a)
     · exact .inr (p3 j a)
     exact .inl (.inr (.inr a)))) d.1.lt d.2.1
    exact⟨_, ⟨d.2.2.1,g,_,s,rfl, .inr (.inl ⟨rfl,d.1.dx p2 (λe=>d.2.1 (.inl e)), .inr ⟨δ,rfl,A,L,c2,p1,rfl,λe=>absurd e δ⟩⟩)⟩,t⟩
   clear p1 p2 p3
   go_wp2_with fail
   first
    | go_end0
    | go_returns
   exact⟨rfl,H.out⟩
 obtain rfl:=o δ;have c0:=i.ar.az 0;unfold Di at c0;have D:=η (NZ w b0 g G [] m f y n cp C b p u ξ);have d:=η (⟨i,x,z⟩ :_/\_/\_);clear i f o p
 go_in
 go_wp2_with fail;refine D.mono ?_;rintro r w2 ⟨N,rfl,p1,p2⟩;rw[ba]at p1
 have H:Hid (CdX w b0 q (λj=>j=q\/G j) 2 m 1 b [] w2):=by
  obtain⟨t,s⟩ :=ia p2 d.1.lt d.2.1;exact⟨_, ⟨d.2.2,g,_,s,rfl, .inr (.inr ⟨rfl,d.1.dx p2.2.1 d.2.1,true,p1,λ_=>rfl⟩)⟩,t⟩
 clear p1 p2
 go_wp2_with fail
 first
  | go_end0
  | go_returns
 exact⟨rfl,H.out⟩
theorem Qa (h:O3 w b0 q E k m 1 x []) (D:m<=1000000000) (C:x.length<=1000000) (t:k=1->YU 0 x):
  Calls Tryz.prog 27 #[.pointer (some ⟨q,0,none⟩)] w λe w'=>e= .returned (.tuple #[])/\CdX w b0 q E k m 2 x [] w':=by
 have B:b0<=w.heap.size:=aq h.1 (bE h.lt);obtain⟨u,g,G,s,rfl, ⟨rfl,d,A,p,c,l,f,i,h4,rfl⟩ | ⟨rfl,d, ⟨f, -⟩ | ⟨-, -,A,p,c,f,rfl,i⟩⟩ | ⟨rfl,d,hd,f,i⟩⟩ :=h
 · refine(LH w b0 q g p c A l _ _ d.ar f).mono ?_;rintro e w2 ⟨rfl,p1,p2⟩;obtain⟨o,n⟩ :=ia (vq p2 (λ_ b=> .inl b) (λj b=>(f.Ui j b).1) B (A':=A) (λj b=> .inl b)) d.lt s;exact⟨rfl,_, ⟨u,g,_,n,rfl, .inl ⟨rfl,d.dx p2 (λe=>s (.inl e)),A,p,c,l,p1,i,h4,rfl⟩⟩,o⟩
 · omega
 · have c0:=d.ar.az 0;unfold Di at c0;have y:=η (t rfl);clear t;have v:=η (QA w b0 g m p c A x f);have a:=η (⟨d,s,u,f⟩ :_/\_/\_/\_);clear d f i
   go_in
   go_wp2_with fail;refine v.mono ?_;rintro r w2 ⟨rfl,p1,p2⟩
   have z:Hid (CdX w b0 q (λj=>j=q\/gX g (λ_=>0) (λ_=>False) A none j) 1 m 2 x [] w2):=by
    obtain⟨o,n⟩ :=ia (Ext.of (E:=gX g (λ_=>0) (λ_=>False) A none) (E':=gX g (λ_=>0) (λ_=>False) A none) (p2.more λj b=> .inl b) (λj b=>(a.2.2.2.Ui j b).1) B (λj b=> .inl b)) a.1.lt a.2.1;exact⟨_, ⟨a.2.2.1,g,_,n,rfl, .inr (.inl ⟨rfl,a.1.dx p2 (λe=>a.2.1 (.inl e)), .inl ⟨rfl,_,p1.st D C y.out⟩⟩)⟩,o⟩
   clear p1 p2
   go_wp2_with fail
   first
    | go_end0
    | go_returns
   exact⟨rfl,z.out⟩
 obtain rfl:=i δ;have c0:=d.ar.az 0;unfold Di at c0;clear t;have v:=η (XX w b0 g G x [] m true f rfl);have a:=η (⟨d,s,u⟩ :_/\_/\_);clear d f i
 go_in
 go_wp2_with fail;refine v.mono ?_;rintro r w2 ⟨rfl,p1,p2⟩
 have z:Hid (CdX w b0 q (λj=>j=q\/G j) 2 m 2 x [] w2):=by
  obtain⟨o,n⟩ :=ia p2 a.1.lt a.2.1;exact⟨_, ⟨a.2.2,g,_,n,rfl, .inr (.inr ⟨rfl,a.1.dx p2.2.1 a.2.1,true,p1,λ_=>rfl⟩)⟩,o⟩
 clear p1 p2
 go_wp2_with fail
 first
  | go_end0
  | go_returns
 exact⟨rfl,z.out⟩
def CdE (Y:ag) (Z:Int) (a:ag) (n:Nat) (l:ag) (r:Int):Prop:=
 (∃t,Y=a++l++t)/\((r=0/\l.length=n)\/(l.length<n/\a++l=Y/\((l≠[]/\r=5)\/(l=[]/\r=Z))))
theorem Xj {m n K:Nat} {x a l:ag} (c:x=a++l) (i:a.length<=m) (o:K=min n (min l.length (m-a.length))):CdE (Dj 0 x m) (Ol 0 x m) a n (l.take K) (D5 n K (l.length-K) true)/\(a++l.take K).length<=m/\m-a.length-K=m-(a++l.take K).length/\x=(a++l.take K)++l.drop K:=by
 have e:Dj 0 x m=a++l.take (m-a.length):=by
  show x.take m=_;rw[c,iQ,aA i]
 have j:Ol 0 x m=if m<x.length then 6 else 8:=rfl;have b:(l.take K).length=K:=by rw[aD];omega
 have k:x.length=a.length+l.length:=by rw[c,ae]
 refine⟨⟨⟨(l.drop K).take (m-a.length-K), ?_⟩, ?_⟩,by rw[ae,b];omega,by rw[ae,b];omega,by rw[av,aO,c]⟩
 · rw[e,av];congr 1;rw[<-List.take_add];congr 1;omega
 unfold D5;by_cases d:K=n
 · rw[aa d];exact .inl ⟨rfl,by rw[b,d]⟩
 rw[a8 d];refine .inr ⟨by rw[b];omega, ?_, ?_⟩
 · rw[e];congr 1;rcases aU (m-a.length) l.length with h | h
   · congr 1;omega
   rw[aA h,aA ω]
 by_cases g:0<K
 · rw[aa g];exact .inl ⟨λe=>by rw[e]at b;simp at b;omega,rfl⟩
 rw[a8 g];refine .inr ⟨aC ω, ?_⟩;rw[j];by_cases f:0<l.length-K
 · rw[aa f,aa ω]
 rw[a8 f,aa rfl,a8 (by omega:¬m<x.length)]
def CdT (w:World) (b0 q:Nat) (E:Nat->Prop) (k m:Nat) (x a:ag) (n:Nat) (e:Ending) (w':World):Prop:=
 ∃A no c l r E',e= .returned (.tuple #[.slice A no c, .int .i64 r])/\bT .u8 w' w'.heap.size A no l/\no<=c/\(∀j,ai A=some j->w.heap.size<=j/\¬E' j)/\O3 w' b0 q E' k m 2 x (a++l)/\Ext b0 w w' E E'/\CdE (Dj k x m) (Ol k x m) a n l r
theorem Lq (h:O3 w b0 q E k m 2 x a) (W:m<=1000000000) (Y:x.length<=1000000) (u:k=2->ZGd x m true) (n:Nat) (Q:n<=1000000000):
  Calls Tryz.prog 28 #[.pointer (some ⟨q,0,none⟩), .int .i64 n] w (CdT w b0 q E k m x a n):=by
 have S:b0<=w.heap.size:=aq h.1 (bE h.lt);have I:=η u;clear u;obtain⟨C,g,G,H,rfl, ⟨rfl,o,A,z,c,l,f,p,h4,rfl⟩ | ⟨rfl,o, ⟨-,V,f⟩ | ⟨f, -⟩⟩ | ⟨rfl,o,hd,f,p⟩⟩ :=h
 · have c0:=o.ar.az 0;unfold Di at c0;have T:z=l.length:=f.own.1;have U:l.length<=1000000:=by have:=bf List.length p;rw[ae]at this;omega
   obtain⟨K,F⟩ :∃K,K=min n (min z (m-a.length)):= ⟨_,rfl⟩;have v:=η (Gw w b0 g z c (m-a.length) n K A l true f S ω ω ω F);obtain⟨N,M,L,J⟩ :=Xj (n:=n) (K:=K) p h4 (by rw[<-T];exact F);have b:=η (⟨o,H,C,f,N,M,L,J⟩ :_/\_/\_/\_/\_/\_/\_/\_);clear o f p h4 T U F N M L J
   go_in
   go_wp2_with fail;refine v.mono ?_;rintro r w2 ⟨Ao,no,co,A',n',c',rfl,p1,p2,p3,p4,i,P,O⟩;obtain⟨R,D⟩ :=ν (D5 n K (l.length-K) true)
   have y:Hid (CdT w b0 q (λj=>j=q\/foot A g j) 0 m x a n (.returned (.tuple #[.slice Ao no co, .int .i64 R])) w2):=by
    obtain⟨t,s⟩ :=ia (vq p3 (λ_ d=> .inl d) (λj d=>(b.2.2.2.1.Ui j d).1) S (A':=A') (λj d=> .inr (P j d))) b.1.lt b.2.1;refine⟨Ao,no,co,l.take K,R,_,rfl,p1,p4,λj d=> ⟨i j d, ?_⟩, ⟨b.2.2.1,g,_,s,rfl, .inl ⟨rfl,b.1.dx p3 (λe=>b.2.1 (.inl e)),A',n',c',l.drop K, ?_,b.2.2.2.2.2.2.2,b.2.2.2.2.2.1,rfl⟩⟩,t,by rw[<-D];exact b.2.2.2.2.1⟩
    · rintro(e | e | e)
      · have:=i j d;have:=b.1.lt;omega
      · have:=i j d;have:=b.2.2.2.1.cell.lt;omega
      exact O j d e
    rw[<-b.2.2.2.2.2.2.1];exact p2
   rw[D];clear p1 p2 p3 p4 i P O D
   go_wp2_with fail;go_returns;exact y
 · have c0:=o.ar.az 0;unfold Di at c0;have v:=η (QG w b0 g G _ a V f n Q);have b:=η (⟨o,H,C,f⟩ :_/\_/\_/\_);clear o f
   go_in
   go_wp2_with fail;refine v.mono ?_;rintro r w2 ⟨Ao,no,co,l,R,X,B,rfl,p1,p2,p3,p4,i⟩
   have y:Hid (CdT w b0 q (λj=>j=q\/G j) 1 m x a n (.returned (.tuple #[.slice Ao no co, .int .i64 R])) w2):=by
    obtain⟨t,s⟩ :=ia p4 b.1.lt b.2.1;refine⟨Ao,no,co,l,R,_,rfl,p1.rd,p1.2.iT,λj d=> ⟨(p1.2.lt d).1, ?_⟩, ⟨b.2.2.1,g,_,s,rfl, .inr (.inl ⟨rfl,b.1.dx p4.2.1 b.2.1, .inl ⟨rfl,B,p3⟩⟩)⟩,t,i.1, ?_⟩
    · rintro(e | e)
      · have:=(p1.2.lt d).1;have:=b.1.lt;omega
      exact p2 j d e
    rcases i.2 with h | ⟨h,h', -,p⟩
    · exact .inl h
    exact .inr ⟨h,h',p⟩
   clear p1 p2 p3 p4 i
   go_wp2_with fail;go_returns;exact y
 · omega
 have c0:=o.ar.az 0;unfold Di at c0;have v:=η (SA w b0 g G x a m true hd f W ω (I rfl) n Q);have b:=η (⟨o,H,C,f⟩ :_/\_/\_/\_);clear o f p
 go_in
 go_wp2_with fail;refine v.mono ?_;rintro r w2 ⟨Ao,no,co,l,R,X,rfl,p1,p2,p3,p4,i⟩
 have y:Hid (CdT w b0 q (λj=>j=q\/G j) 2 m x a n (.returned (.tuple #[.slice Ao no co, .int .i64 R])) w2):=by
  obtain⟨t,s⟩ :=ia p4 b.1.lt b.2.1;refine⟨Ao,no,co,l,R,_,rfl,p1.rd,p1.2.iT,λj d=> ⟨(p1.2.lt d).1, ?_⟩, ⟨b.2.2.1,g,_,s,rfl, .inr (.inr ⟨rfl,b.1.dx p4.2.1 b.2.1,false,p3,λe=>absurd e δ⟩)⟩,t,i⟩;rintro(e | e)
  · have:=(p1.2.lt d).1;have:=b.1.lt;omega
  exact p2 j d e
 clear p1 p2 p3 p4 i
 go_wp2_with fail;go_returns;exact y
end
theorem Wb (w:World) (k:Int) (b:0<=k/\k<256):Calls Tryz.prog 7 #[.int .u8 k] w λe w'=>e= .returned (.int .i64 ((k%3).toNat:Nat))/\w=w':=by
 have d:k.tmod 3=k%3:=eJ b.1;have a:((k%3).toNat:Int)=k%3:=Int.toNat_of_nonneg ω;have c:0<=k%3/\k%3<3:=ω;rw[a];obtain⟨v,hv⟩ :=ν (k%3);rw[hv]at d c⊢;clear a hv
 go_in
 go_wp2;go_ret;exact⟨rfl,rfl⟩
def KY (w:World) (k:Nat) (x:ag) (m:Nat) (e:Ending) (w':World):Prop:=
 ∃A n c,e= .returned (.tuple #[.slice A n c, .int .i64 (Ol k x m)])/\aT .u8 w' w.heap.size 5 A n c (Dj k x m)/\Below w.heap.size w w'
theorem X3 (w:World) (k:Nat) (O:k<=2) (A:ax) (n cp:Nat) (x:ag) (m:Nat) (c:bT .u8 w w.heap.size A n x) (G:n<=cp) (b:∀v∈x,0<=v/\v<256) (a:x.length<=1000000) (l:m<=1000000000) (r:(k=1->YU 0 x)/\(k=2->ZGd x m true)):
  Calls Tryz.prog 11 #[.int .i64 k, .slice A n cp, .int .i64 m] w (KY w k x m):=by
 have N:(0:Int)<=m:=ω;obtain rfl | rfl | rfl:k=0\/k=1\/k=2:=ω
 · clear r;obtain⟨F,hi,q,d,p⟩ :=aL mG;have f:=λh=>dR (P:=Tryz.prog) 22 5 Tryz.underlying22 hi d A n cp (j:=m) h;have Hi:=η (⟨hi,q,d,p⟩ :_/\_/\_/\_);have B:n=x.length:=c.1;have z:Hid (Ol 0 x m=(if m<n then 6 else 8)/\Dj 0 x m=x.take m):= ⟨by rw[B];rfl,rfl⟩;clear hi q d p;by_cases C:m<n
   · have K:(m:Int)<n:=ω;have I:bT .u8 w w.heap.size A m (x.take m):=bT.pre c ω;have H:=f ω;have y:Hid (Ol 0 x m=6):=by rw[z.1];exact aa C
     have J:m<=1000000:=ω;clear f c B a b l
     go_in
     go_wp2_with (at_builtin;(refine bm .u8 w.heap.size 5 F 1 rfl (.tmp 29) (.tmp 32) _ rfl Tryz.underlying22 Hi.1 Hi.2.1 Hi.2.2.1 Hi.2.2.2 rfl (aT.lit rfl [] _ (af _) σ) rfl (I.alloc (af _) _) ξ ω σ ?_)
                  intro A2 d2 w2 s g L)
     go_returns;simp only [List.nil_append,Nat.zero_add]at s;exact⟨A2,m,d2,by rw[y.out];simp,by rw[z.2];exact s,((aw _ w).alloc (af _) _).grown g σ (by simp [ai])⟩
   have K:¬(m:Int)<n:=ω;have y:Hid (Ol 0 x m=8/\Dj 0 x m=x):= ⟨by rw[z.1];exact a8 C,by rw[z.2,aA ω]⟩;have M:n<=1000000:=ω;clear f B a b l C
   go_in
   go_wp2_with (at_builtin;(refine bm .u8 w.heap.size 5 F 1 rfl (.tmp 34) (.tmp 35) _ rfl Tryz.underlying22 Hi.1 Hi.2.1 Hi.2.2.1 Hi.2.2.2 rfl (aT.lit rfl [] _ (af _) σ) rfl (c.alloc (af _) _) ξ ω σ ?_)
                intro A2 d2 w2 s g L)
   go_returns;simp only [List.nil_append,Nat.zero_add]at s;exact⟨A2,n,d2,by rw[y.1];simp,by rw[y.2];exact s,((aw _ w).alloc (af _) _).grown g σ (by simp [ai])⟩
 · have D:=η (JS w A n cp x m c G b a l (r.1 rfl));clear c b a l r
   go_in
   go_wp2_with fail;refine D.mono ?_;rintro e w2 ⟨A2,o,c2,rfl,u,t⟩;obtain⟨V,i⟩ :=ν ((gz (x.length+1) x m false).2.2);have E:Hid (KY w 1 x m (.returned (.tuple #[.slice A2 o c2, .int .i64 V])) w2):= ⟨A2,o,c2,by rw[<-i];rfl,u,t⟩;rw[i];clear u t i
   go_wp2_with fail;go_returns;exact E
 have D:=η (K1 w A n cp x m m c G b ω ω l (r.2 rfl));clear c b a l r
 go_in
 go_wp2_with fail;refine D.mono ?_;rintro e w2 ⟨A2,o,c2,rfl,u,t⟩;obtain⟨V,i⟩ :=ν (zE x m true);have E:Hid (KY w 2 x m (.returned (.tuple #[.slice A2 o c2, .int .i64 V])) w2):= ⟨A2,o,c2,by rw[<-i];rfl,u,t⟩;rw[i];clear u t i
 go_wp2_with fail;go_returns;exact E
def a16 (w:World) (q k m:Nat) (x:ag) (gk:Nat) (c b:Value) (wx:World):Prop:=∃(i:Nat) (Ao:ax) (no co:Nat) (a:ag) (E:Nat->Prop),
 c= .slice Ao no co/\b= .int .i64 i/\aT .u8 wx w.heap.size 5 Ao no co a/\(∀j,ai Ao=some j->¬E j)/\O3 wx w.heap.size q E k m 2 x a/\(i*500=a.length\/(a=Dj k x m/\i*500<=a.length+500))/\(∃t,Dj k x m=a++t)/\Below w.heap.size w wx/\gk=5000-i
theorem Ib (w:World) (k:Nat) (z:k<=2) (A:ax) (n cp:Nat) (x:ag) (most:Int) (m:Nat) (hm:(m:Int)=max most 0) (tU:m<=3000) (hr:bT .u8 w w.heap.size A n x) (U:∀v∈x,0<=v/\v<256) (d:x.length<=1000000) (hY:(Dj k x m).length<=3000) (qE:(k=1->YU 0 x)/\(k=2->ZGd x m true)):
  Calls Tryz.prog 13 #[.int .i64 k, .slice A n cp, .int .i64 most] w (KY w k x m):=by
 obtain⟨i0,hi,K,J,I⟩ :=aL mG;have Hi:=η (⟨hi,K,J,I⟩ :_/\_/\_/\_);have f:=η (⟨hr,U,d,tU,hY⟩ :_/\_/\_/\_/\_);have HN:=η (Qb w k z most m hm);have V:=η qE;clear qE;clear hi K J I hr U d hm tU z hY
 go_in
 go_wp2_with fail;refine HN.mono ?_;rintro e w1 ⟨q,E1,rfl,C,p⟩;have HF:=η (Lp C w.heap.size n cp A x (f.1.below p) f.2.1 f.2.2.1);have KC:=η p;clear C p HN
 go_wp2_with fail;refine HF.mono ?_;rintro e w2 ⟨rfl,E2,B,x2⟩;have HE:=η (Qa B (τ f.2.2.2.1) f.2.2.1 V.1);have KD:=η (KC.trans x2.1);clear B x2 HF
 go_wp2_with fail;refine HE.mono ?_;rintro e w3 ⟨rfl,E3,Y,x3⟩;have hrel:a16 w q k m x 5000 (.slice none 0 0) (.int .i64 0) w3:= ⟨0,none,0,0,[],E3,rfl,rfl,aT.di,λj b=>by simp [ai]at b,Y, .inl rfl, ⟨_,rfl⟩,KD.trans x3.1,rfl⟩;have H3:=η hrel;clear hrel Y x3 HE
 go_wp2_with fail;go_loopg [9,10] 5000 (a16 w q k m x)
 case atStart=>exact H3
 obtain⟨i,Ao,no,co,a,E,rfl,rfl,ho,hs,hz,T, ⟨t,ht⟩,hb,hg⟩ :=hrel;have Q:=f.2.2.2.2;have DT:a.length<=3000:=by rw[ht,ae]at Q;omega
 have S:i<=10:=ω;have ah:(i:Int)<5000/\(0:Int)<=(i:Int):=ω;have HT:=η (Lq hz (τ f.2.2.2.1) f.2.2.1 V.2 500 δ);have H:=η (⟨ho,hs,T,hb,hg,DT,S⟩ :_/\_/\_/\_/\_/\_/\_);have ac:no<=3000:=by rw[ho.1];exact DT
 clear ho hs hz T hb hg DT S Q ht
 go_wp2_with fail;refine HT.mono ?_;rintro e Z ⟨A5,g,c5,l,r,E5,rfl,W,ad,O,G,L, ⟨u,y⟩,o⟩;have P:=L.2.1.dJ H.1 (λk z e=>H.2.1 k z e);have M:∀j,ai Ao=some j->¬E5 j:=λj b e=>(L.dis (X:=λq=>ai Ao=some q) (λq hq=>(H.1.2.lt hq).2) (λq hq T5=>H.2.1 q T5 hq)) j e b
 have CQ:g<=500:=by
  rw[W.1];rcases o with ⟨_,h⟩ | ⟨h,_⟩ <;> omega
 have AZ:w.heap.size<=Z.heap.size:=(H.2.2.2.1.trans L.1).size;have rI:g=l.length:=W.1;have c:=η (⟨O,G,L, ⟨u,y⟩,o,M,rI⟩ :_/\_/\_/\(∃u,_=_)/\_/\_/\_);clear O G L o M y rI
 go_upto_region 10 with (at_builtin;(refine bm .u8 w.heap.size 5 i0 1 rfl (.tmp 30) (.tmp 31) _ rfl Tryz.underlying22 Hi.1 Hi.2.1 Hi.2.2.1 Hi.2.2.2 rfl P rfl W ω ω AZ ?_)
                         intro A6 c6 w6 il jH fk)
 have Ck:bb Z w6 (λk=>ai Ao=some k):=(bb.refl Z _).grown jH (λk z=> .inl z);have F:=c.2.1.dx Ck (λj b=>c.2.2.2.2.2.1 j b);have kE:=(H.2.2.2.1.trans c.2.2.1.1).trans (Ck.below (λj b=>(H.1.2.lt b).1) AZ)
 have N:∀j,ai A6=some j->¬E5 j:=λj b=>by
  rcases fk with e | e
  · exact c.2.2.2.2.2.1 j (e▸b)
  rw[e]at b;injection b with b;intro h;have:=(c.2.1.qb j h).2;omega
 have D:=η (⟨il,F,kE,N⟩ :_/\_/\_/\_);clear Ck F kE N il jH fk P W;by_cases h0:g=0
 · subst h0;have R:l=[]:=aC c.2.2.2.2.2.2.symm
   have bG:r=Ol k x m/\a=Dj k x m:=by
    rcases c.2.2.2.2.1 with ⟨_,h⟩ | ⟨_,C, ⟨B,_⟩ | ⟨_,B⟩⟩
    · rw[R]at h;simp at h
    · exact absurd R B
    exact⟨B,by rw[<-C,R,ak]⟩
   have s:=η (⟨R,bG⟩ :_/\_);clear R bG
   go_wp2_with fail;go_returns;refine⟨A6,no+0,c6,by rw[s.2.1];rfl, ?_,D.2.2.1⟩;have:=D.1;rw[s.1,ak]at this;rw[<-s.2.2];exact this
 have an:¬(g:Int)=0/\(0:Int)<(g:Int):=ω;have am:((g:Int)==0)=false:=by simpa using h0
 have iu:(i+1)*500=(a++l).length\/(a++l=Dj k x m/\(i+1)*500<=(a++l).length+500):=by
  have rI:=c.2.2.2.2.2.2
  have ab:a≠Dj k x m:=λe=>by
   obtain⟨u,y⟩ :=c.2.2.2.1;have Y:(Dj k x m).length=a.length+l.length+u.length:=by rw[y,ae,ae]
   rw[<-e]at Y;omega
  have al:i*500=a.length:=by
   rcases H.2.2.1 with h | ⟨h,_⟩
   · exact h
   exact absurd h ab
  rw[ae];rcases c.2.2.2.2.1 with ⟨_,h⟩ | ⟨h,C,_⟩
  · exact .inl ω
  exact .inr ⟨C,ω⟩
 have pj:=η iu;clear iu h0
 go_wp2_with fail;go_roundg (5000-(i+1))
 case measure=>have:=H.2.2.2.2.1;have:=H.2.2.2.2.2.2;omega
 case rel=>exact⟨i+1,A6,no+g,c6,a++l,E5,rfl,by go_num,D.1,D.2.2.2,D.2.1,pj.out,by obtain⟨u,y⟩ :=c.2.2.2.1;exact⟨u,y⟩,D.2.2.1,rfl⟩
end Go.Proofs.YtgiimmkmjpbecaaGreat
