/-
  part
-/
import Derived.Test.YtgiimmkmjpbecaaGreatPk10
import Derived.Test.YtgiimmkmjpbecaaGreatPk16
import Derived.Test.YtgiimmkmjpbecaaGreatTab
set_option linter.unusedVariables false
set_option maxRecDepth 100000
set_option maxHeartbeats 4000000
namespace Go.Proofs.YtgiimmkmjpbecaaGreat
open Go.RowKit
theorem NN (w:World) (i B d:Nat) (l:ag) (u:Value) (s:Int) (ht:yq w i B d l) (y:l.length<=288) (m:s<0\/(l.length:Int)<=s\/ix l s.toNat=0):
  Calls Tryz.prog 121 #[.pointer (some ⟨d,0,none⟩),u, .int .i64 s] w λe w'=>e= .returned (.bool false)/\w=w':=by
 obtain⟨Al,x,As,cl,cc,cs,t,a,o,n, -⟩ :=ht;have j:=t.az 0;have g:Hg Al l.length cl x l.length cc (cf l 16 0) As (uI l 15).length cs (tu l 15:Nat) 0= .slice Al l.length cl:=rfl;rw[g]at j;have p:(0:Int)<=(l.length:Int)/\(l.length:Int)<=288:=ω;have b:s<0\/(¬s<0/\(l.length:Int)<=s)\/(0<=s/\s<(l.length:Int)/\ix l s.toNat=0):=ω;clear g m;rcases b with h | ⟨h,v⟩ | ⟨h,v,c⟩
 · go_in
   go_wp2;go_ret;exact⟨rfl,rfl⟩
 · go_in
   go_wp2;go_ret;exact⟨rfl,rfl⟩
 obtain⟨k,rfl⟩ :=aF h;have q:k<l.length:=ω;obtain⟨z,rfl,r,c1⟩ :=a.at_ q;have f:ix l k=0:=by simpa using c
 rw[f]at c1;clear c f
 go_in
 go_wp2;go_ret;exact⟨rfl,rfl⟩
def La (w:World) (b0 g:Nat) (A:ax) (L:ag) (e:Ending) (w':World):Prop:=
 ∃A' n' c',e= .returned (.bool true)/\pX w' b0 g A' n' c' L/\bb w w' (foot A g)/\(∀k,ai A'=some k->ai A=some k\/w.heap.size<=k)
theorem Sq (w:World) (E B y b0 g n c:Nat) (A:ax) (l L:ag) (s:Nat) (ht:yq w E B y l) (t:l.length<=288) (H:pX w b0 g A n c L) (a:L.length<=4000000000000) (h:s<l.length) (S:1<=ix l s) (R:ix l s<=15):
  Calls Tryz.prog 121 #[.pointer (some ⟨y,0,none⟩), .pointer (some ⟨g,0,none⟩), .int .i64 s] w (La w b0 g A (L++cN l s)):=by
 obtain⟨Al,r,As,cl,cc,cs,u,i,j,I, -⟩ :=ht;have G:=u.az 0;have F:=u.az 1;have D:Hg Al l.length cl r l.length cc (cf l 16 0) As (uI l 15).length cs (tu l 15:Nat) 0= .slice Al l.length cl:=rfl;have z:Hg Al l.length cl r l.length cc (cf l 16 0) As (uI l 15).length cs (tu l 15:Nat) 1= .slice r l.length cc:=rfl;rw[D]at G;rw[z]at F;have K:(0:Int)<=(s:Int)/\(s:Int)<(l.length:Int)/\(l.length:Int)<=288:=ω;obtain⟨Z,rfl,O,c0⟩ :=i.at_ h;obtain⟨Y,rfl,M,c1⟩ :=j.at_ h;rw[qF l t h]at c1;obtain⟨N,hN⟩ :=aF (show 0<=ix l s by omega);have Q:1<=(N:Int)/\(N:Int)<=15:=ω;have d:cN l s=dt (JQ (fj l s) N) N:=by unfold cN;rw[hN];rfl
 obtain⟨C,hC⟩ :=ν (fj l s)
 have p:(0:Int)<=C/\(C:Int)<4294967296:=by
  rw[<-hC];unfold fj;have W:=uB l t (v:=(ix l s).toNat) ω;have V:=lG l s (ix l s).toNat;split <;> omega
 rw[hN]at c0;rw[hC]at c1 d;have x:=X8 C N;have hp:=gu (show N<=15 by omega);have J:(2:Int) ^ 15=32768:=rfl;obtain⟨X,o⟩ :=ν (JQ C N);rw[o]at x d;have P:0<=X/\X<4294967296:=ω;have T:=η o;have q:=η d;have b:(N:Int)<=32:=ω;have U:((N:Int)==0)=false:=ξ;clear hN hC o d x hp J S R D z
 go_in
 go_wp2_with fail;refine(Nt _ C N p ⟨Q.1,b⟩).mono ?_;rintro e w1 ⟨rfl,rfl⟩;rw[T.out]
 go_wp2_with fail;refine(Gf _ _ _ _ _ _ _ H X N P b a).mono ?_;rintro e w2 ⟨A',n',c',rfl,f,k,m⟩;go_wp2;go_ret;rw[q.out];exact⟨A',n',c',rfl,f,k,m⟩
def a1V (w:World) (b0 g:Nat) (A:ax) (L:ag) (e:Ending) (w':World):Prop:=
 ∃A' n' c' b,e= .returned (.bool b)/\pX w' b0 g A' n' c' L/\bb w w' (foot A g)/\(∀k,ai A'=some k->ai A=some k\/w.heap.size<=k)
theorem BZ (w:World) (d B b b0 g n c:Nat) (A:ax) (l L:ag) (s:Nat) (ht:yq w d B b l) (j:l.length<=288) (f:pX w b0 g A n c L) (a:L.length<=4000000000000) (m:∀i,i<l.length->0<=ix l i/\ix l i<=15):
  Calls Tryz.prog 121 #[.pointer (some ⟨b,0,none⟩), .pointer (some ⟨g,0,none⟩), .int .i64 s] w (a1V w b0 g A (L++cN l s)):=by
 by_cases h:s<l.length/\1<=ix l s
 · refine(Sq w d B b b0 g n c A l L s ht j f a h.1 h.2 (m s h.1).2).mono ?_;rintro e w' ⟨A',n',c',rfl,u,t,r⟩;exact⟨A',n',c',true,rfl,u,t,r⟩
 have o:ix l s=0:=by
  by_cases e:s<l.length
  · have:=m s e;omega
  unfold ix;rw[au,bq ω];rfl
 have q:cN l s=[]:=aC (by rw[fZ,o];rfl);refine(NN w d B b l _ s ht j (.inr (.inr (by rw[aY];exact o)))).mono ?_;rintro e w' ⟨rfl,rfl⟩;refine⟨A,n,c,false,rfl, ?_,bb.refl _ _,λk p=> .inl p⟩;rw[q,ak];exact f
theorem lW.dx {w w':World} {B n:Nat} {A:ax} {l:List bY} {S:Nat->Prop} (h:lW w B A n l) (f:bb w w' S) (o:B<=w.heap.size) (k:0<n->∀a,A=some a->¬S a.block):lW w' B A n l:= ⟨h.1,λd=>by
 obtain⟨a,e,g,c⟩ :=h.2 d;have b:∀j,w'.cell? (a.add j)=w.cell? (a.add j):=λj=>f.cell (by rw[bH];omega) (by rw[bH];exact k d a e);exact⟨a,e,g,λi hi=>by obtain⟨c1,c2,m⟩ :=c i hi;exact⟨(b _).trans c1,(b _).trans c2,(b _).trans m⟩⟩⟩
structure ky (w2 wr:World) (b0 g:Nat) (A:ax) (L:ag):Prop where
 Su:∃A' n' c',pX wr b0 g A' n' c' L/\∀k,ai A'=some k->ai A=some k\/w2.heap.size<=k
 dx:bb w2 wr (foot A g)
theorem ky.alloc {w2 wr:World} {b0 g:Nat} {A:ax} {L:ag} (h:ky w2 wr b0 g A L) (o:Obj):ky w2 (wr.alloc o) b0 g A L:=by
 obtain⟨⟨A',n',c',c,b⟩,a⟩ :=h;exact⟨⟨A',n',c',c.keeps ((aw _ wr).alloc (af _) o),b⟩,a.alloc o⟩
theorem ky.next {w2 wr w':World} {b0 g:Nat} {A A1:ax} {n' c':Nat} {d:ag} {A':ax} (h:bb w2 wr (foot A g)) (wB:∀k,ai A1=some k->ai A=some k\/w2.heap.size<=k) (e:pX w' b0 g A' n' c' d) (f:bb wr w' (foot A1 g)) (c:∀k,ai A'=some k->ai A1=some k\/wr.heap.size<=k):ky w2 w' b0 g A d:=by
 refine⟨⟨A',n',c',e,λk b=> ?_⟩,h.trans f λk b=> ?_⟩
 · rcases c k b with a | a
   · exact wB k a
   exact .inr (aq h.size a)
 rcases b with rfl | b
 · exact .inl (.inl rfl)
 rcases wB k b with a | a
 · exact .inl (.inr a)
 exact .inr a
section
variable {w2 wr:World} {b0 g:Nat} {A:ax} {L:ag}
theorem ky.put (h:ky w2 wr b0 g A L) (V:Int) (N:Nat) (c:0<=V/\V<4294967296) (hN:(N:Int)<=32) (a:L.length<=4000000000000):
  Calls Tryz.prog 103 #[.pointer (some ⟨g,0,none⟩), .int .u32 V, .int .i64 N] wr λe w'=>e= .returned (.tuple #[])/\ky w2 w' b0 g A (L++dt V N):=by
 obtain⟨⟨A1,b,c1,i,f⟩,d⟩ :=h;refine(Gf wr b0 g b c1 A1 L i V N c hN a).mono ?_;rintro e w' ⟨A',n',c',rfl,h4,h5,h6⟩;exact⟨rfl,ky.next d f h4 h5 h6⟩
theorem ky.sym (h:ky w2 wr b0 g A L) {c B f:Nat} {l:ag} (ht:yq w2 c B f l) (p:B<=w2.heap.size) (d:∀k,c<=k->k<B->¬foot A g k) (s:Nat) (n:l.length<=288) (o:∀i,i<l.length->0<=ix l i/\ix l i<=15) (a:L.length<=4000000000000):
  Calls Tryz.prog 121 #[.pointer (some ⟨f,0,none⟩), .pointer (some ⟨g,0,none⟩), .int .i64 s] wr λe w'=>(∃b,e= .returned (.bool b))/\ky w2 w' b0 g A (L++cN l s):=by
 obtain⟨⟨A1,m,c1,r,q⟩,j⟩ :=h;refine(BZ wr c B f b0 g m c1 A1 l L s (ht.dx j p d) n r a o).mono ?_;rintro e w' ⟨A',n',c',b,rfl,h4,h5,h6⟩;exact⟨⟨b,rfl⟩,ky.next j q h4 h5 h6⟩
end
structure Cs (w2 wk wr:World) (p:Nat) (b0 g:Nat) (A:ax) (L:ag):Prop where
 Su:∃A' n' c',pX wr b0 g A' n' c' L/\(∀k,ai A'=some k->ai A=some k\/w2.heap.size<=k)/\¬foot A' g p
 dx:bb w2 wr (foot A g)
 kp:wr.heap[p]?=wk.heap[p]?
 lt:p<wr.heap.size
section
variable {w2 wk wr:World} {p b0 g:Nat} {A:ax} {L:ag}
theorem Cs.new (h:ky w2 wr b0 g A L) (o:Obj):Cs w2 (wr.alloc o) (wr.alloc o) wr.heap.size b0 g A L:=by
 obtain⟨⟨A',n',c',a,c⟩,b⟩ :=h;exact⟨⟨A',n',c',a.keeps ((aw _ wr).alloc (af _) o),c,λe=>by have:=(a.eG e).2;omega⟩,b.alloc o,rfl,σ⟩
theorem Cs.old (h:Cs w2 wk wr p b0 g A L):ky w2 wr b0 g A L:=by
 obtain⟨⟨A',n',c',c,b,_⟩,a,_,_⟩ :=h;exact⟨⟨A',n',c',c,b⟩,a⟩
theorem Cs.cell (h:Cs w2 wk wr p b0 g A L) {m:Nat} {f:Nat->Value} (a:Ar wk p m f) {i:Nat} (hi:i<m):wr.cell? ⟨p,i,none⟩ =some (f i):=(a.same h.kp).cell hi
theorem Cs.next {w':World} {A1:ax} {n' c':Nat} {i:ag} {A':ax} (h:Cs w2 wk wr p b0 g A L) (a:¬foot A1 g p) (wB:∀k,ai A1=some k->ai A=some k\/w2.heap.size<=k) (f:pX w' b0 g A' n' c' i) (d:bb wr w' (foot A1 g)) (b:∀k,ai A'=some k->ai A1=some k\/wr.heap.size<=k):Cs w2 wk w' p b0 g A i:=by
 obtain⟨m,l⟩ :=ky.next h.dx wB f d b
 refine⟨⟨A',n',c',f,λk j=> ?_,λe=> ?_⟩,l,(d.block p h.lt a).trans h.kp,aB h.lt d.size⟩
 · rcases b k j with c | c
   · exact wB k c
   exact .inr (aq h.dx.size c)
 rcases e with e | e
 · exact a (.inl e)
 rcases b p e with c | c
 · exact a (.inr c)
 have:=h.lt;omega
theorem Cs.put (h:Cs w2 wk wr p b0 g A L) (V:Int) (N:Nat) (c:0<=V/\V<4294967296) (hN:(N:Int)<=32) (a:L.length<=4000000000000):
  Calls Tryz.prog 103 #[.pointer (some ⟨g,0,none⟩), .int .u32 V, .int .i64 N] wr λe w'=>e= .returned (.tuple #[])/\Cs w2 wk w' p b0 g A (L++dt V N):=by
 obtain⟨A1,b,c1,f,d,h4⟩ :=h.Su;refine(Gf wr b0 g b c1 A1 L f V N c hN a).mono ?_;rintro e w' ⟨A',n',c',rfl,h5,h6,h7⟩;exact⟨rfl,h.next h4 d h5 h6 h7⟩
theorem Cs.sym (h:Cs w2 wk wr p b0 g A L) {c B f:Nat} {l:ag} (ht:yq w2 c B f l) (o:B<=w2.heap.size) (d:∀k,c<=k->k<B->¬foot A g k) (s:Nat) (m:l.length<=288) (n:∀i,i<l.length->0<=ix l i/\ix l i<=15) (a:L.length<=4000000000000):
  Calls Tryz.prog 121 #[.pointer (some ⟨f,0,none⟩), .pointer (some ⟨g,0,none⟩), .int .i64 s] wr λe w'=>(∃b,e= .returned (.bool b))/\Cs w2 wk w' p b0 g A (L++cN l s):=by
 obtain⟨A1,j,c1,r,q,h4⟩ :=h.Su;refine(BZ wr c B f b0 g j c1 A1 l L s (ht.dx h.dx o d) m r a n).mono ?_;rintro e w' ⟨A',n',c',b,rfl,h5,h6,h7⟩;exact⟨⟨b,rfl⟩,h.next h4 q h5 h6 h7⟩
end
def TkR (w2:World) (b0 g:Nat) (A:ax) (L lit bn:ag) (aj:List bY) (n:Nat) (gk:Nat) (v:Value) (wx:World):Prop:=
 ∃k:Nat,v= .int .i64 k/\k<=n/\Hid (ky w2 wx b0 g A (L++iZ lit bn (aj.take k)))/\Hid (gk=n-k)
theorem uL (w:World) (b0 g n c:Nat) (A:ax) (L:ag) (hw:pX w b0 g A n c L) (Bt:Nat) (At:ax) (nt ct:Nat) (aj:List bY) (hT:lW w Bt At nt aj) (o:Bt<=w.heap.size) (df:0<nt->∀u,At=some u->¬foot A g u.block)
  (nC:∀t∈aj,cn t/\0<=t.lit/\t.lit<256) (l:L.length+48*nt+15<=4000000000000) (Bl:Nat) (Al:ax) (nl cl:Nat) (lit:ag) (hl:bT .i64 w Bl Al nl lit) (ah:Bl<=w.heap.size) (fG:nl<=288) (H:bg lit 15=0)
  (Bd:Nat) (Ad:ax) (nd cd:Nat) (bn:ag) (hd:bT .i64 w Bd Ad nd bn) (KM:Bd<=w.heap.size) (Cm:nd<=288) (K:bg bn 15=0):
  Calls Tryz.prog 109 #[.pointer (some ⟨g,0,none⟩), .slice At nt ct, .slice Al nl cl, .slice Ad nd cd] w λe w'=>e= .returned (.tuple #[])/\ky w w' b0 g A (L++ke lit bn aj):=by
 have Md:=nY w Al nl cl Bl lit 15 hl ah fG H;obtain⟨l1,l2, -⟩ :=kV H;obtain⟨d1,d2, -⟩ :=kV K;have KC:=η Md;have f:=η (⟨l1,l2,d1,d2⟩ :_/\_/\_/\_);have x:=η (⟨hT,o,df,nC,l⟩ :_/\_/\_/\_/\_);have HD:=η (⟨hd,KM,Cm,K⟩ :_/\_/\_/\_);have HW:=η hw;have R5:(0:Int)<=nt/\(nt:Int)<=4000000000000:=ω;clear Md l1 l2 d1 d2 hT o df nC l hd KM Cm K hw hl ah fG H
 go_in
 go_wp2_with fail;refine KC.mono ?_;rintro e w1 ⟨ga,rfl,r,a⟩;have KD:=η (nY w1 Ad nd cd Bd bn 15 (HD.1.below (a.mono HD.2.1)) (aq HD.2.1 a.size) HD.2.2.1 HD.2.2.2);have am:=η (⟨r,a⟩ :_/\_);clear r a
 go_wp2_with fail;refine KD.mono ?_;rintro e w2 ⟨gb,rfl,CH,B⟩;obtain⟨r,a⟩ :=am.out;obtain⟨hT,o,df,nC,l⟩ :=x.out;have nM:=a.trans (B.mono a.size);have T:ky w2 w2 b0 g A L:= ⟨⟨A,n,c,HW.keeps nM,λk hk=> .inl hk⟩,bb.refl _ _⟩;have G:∀k,foot A g k->k<w.heap.size:=λk hk=>(HW.eG hk).2
 have C:=η (⟨r.keeps (af _) B,CH,λk (h:w.heap.size<=k) (_:k<w1.heap.size) e=>by have:=G k e;omega,λk (h:w1.heap.size<=k) (_:k<w2.heap.size) e=>by have:=G k e;have:=a.size;omega⟩ :
  yq w2 w.heap.size w1.heap.size ga lit/\yq w2 w1.heap.size w2.heap.size gb bn/\(∀k,w.heap.size<=k->k<w1.heap.size->¬foot A g k)/\∀k,w1.heap.size<=k->k<w2.heap.size->¬foot A g k)
 have ap:=η (hT.below (nM.mono o));have bi:=η (aq o nM.size);have Cv:=η T;have Tl:=η (⟨nM,B.size⟩ :_/\_);clear CH B r a hT o df nC l nM T G am KD
 go_wp2_with fail;go_loopg [29] nt (TkR w2 b0 g A L lit bn aj nt)
 case atStart=>exact⟨0,rfl,aG _,by have h:=Cv.out;show ky w2 w2 b0 g A (L++[]);rw[ak];exact h,rfl⟩
 clear Cv;obtain⟨k,rfl,hk,U,hg⟩ :=hrel;by_cases p:k<nt
 rotate_left
 · obtain rfl:k=nt:=ω;have qB:¬(k:Int)<(k:Int):=ω;have jB:aj.take k=aj:=aA (by rw[<-x.1.1];exact af _);have F:=U.out;rw[jB]at F
   have z:(L++iZ lit bn aj).length<=4000000000000:=by
    have h1:=zo f.2.1 f.2.2.2 aj λt ht=>(x.2.2.2.1 t ht).1;have:=x.2.2.2.2;have:=x.1.1;rw[ae];omega
   have PN:=η (F.sym C.1 Tl.2 C.2.2.1 256 f.1 f.2.1 z);clear F z jB U p hg
   go_wp2_with fail;refine PN.mono ?_;rintro e w5 ⟨⟨b,rfl⟩,h5⟩
   have bG:Hid (ky w w5 b0 g A (L++ke lit bn aj)):=by
    obtain⟨⟨A',n',c',q1,q2⟩,q3⟩ :=h5;refine⟨⟨A',n',c',by unfold ke;rw[<-av];exact q1,λq J=> ?_⟩,(bb.bC Tl.1).trans q3 λq J=> .inl J⟩;rcases q2 q J with h | h
    · exact .inl h
    exact .inr (aq Tl.1.size h)
   clear h5
   go_wp2_with fail;go_end0;exact⟨rfl,bG.out⟩
 have qB:(k:Int)<(nt:Int)/\(0:Int)<=(k:Int):=ω;have ab:=ap.dx U.out.dx bi.out (λh0 u e=>x.2.2.1 h0 u e);obtain⟨u,hA,z,V⟩ :=ab.2 ω;obtain⟨a0,a1,a2⟩ :=V k p;rw[kT _ _ _ ω]at a1 a2;have rI:k<aj.length:=by rw[<-x.1.1];exact p
 have S:=x.2.2.2.1 (dM aj k) (by
  have e:dM aj k=aj[k]:=by simp [dM,rI]
  rw[e];exact cF rI)
 have iu:=wj rI;obtain⟨⟨T0,N,D⟩,ht⟩ :∃t:bY,dM aj k=t:= ⟨_,rfl⟩;rw[ht]at a0 a1 a2 S iu;obtain⟨m,rfl⟩ :∃m:Nat,T0=(m:Int):= ⟨T0.toNat,by have:=S.2.1;have h:0<=T0:=this;omega⟩;replace a0:wr.cell? (u.add (k*3))=some (.int .u8 (m:Int)):=a0;replace a1:wr.cell? { block:=(u.add (k*3)).block,off:=(u.add (k*3)).off+1 }=some (.int .i64 N):=a1;replace a2:wr.cell? { block:=(u.add (k*3)).block,off:=(u.add (k*3)).off+2 }=some (.int .i64 D):=a2
 have Y:(L++iZ lit bn (aj.take k)).length<=3999999999952:=by
  have h1:=zo f.2.1 f.2.2.2 (aj.take k) λt ht=>(x.2.2.2.1 t (aN ht)).1;have:=x.2.2.2.2;rw[aD]at h1;rw[ae];have:min k aj.length<=k:=eR _ _;omega
 have pj:=η (show L++iZ lit bn (aj.take (k+1))=(L++iZ lit bn (aj.take k))++sM lit bn ⟨(m:Int),N,D⟩ by rw[iu,Ew,Ex,av]);have aE:=η S;have bl:(0:Int)<=(m:Int)/\(m:Int)<256:=S.2;have s:=η Y;have ot:=η p;clear ab V ht iu S Y z rI p;subst hA;by_cases Mh:N=0
 · subst Mh;have Re:=(U.out.alloc (.cells #[.int .u8 (m:Int), .int .i64 0, .int .i64 D] 132)).sym C.1 Tl.2 C.2.2.1 m f.1 f.2.1 (τ s.out);have PN:=η Re
   have bG:Hid (∀w',ky w2 w' b0 g (L:=(L++iZ lit bn (aj.take k))++cN lit m) A->ky w2 w' b0 g A (L++iZ lit bn (aj.take (k+1)))):=λw' h=>by
    rw[pj.out];unfold sM;rw[aa rfl];exact h
   clear Re
   go_wp2_with fail;refine PN.mono ?_;rintro e w5 ⟨⟨b,rfl⟩,h5⟩;have h6:=η (bG w5 h5);clear h5 bG
   go_wp2_with fail;go_roundg (nt-(k+1))
   case measure=>have:=hg.out;have:=ot.out;omega
   case rel=>exact⟨k+1,by go_num,ot.out,h6,rfl⟩
 obtain⟨⟨I,d⟩, ⟨d1,d2⟩,Tb,Tg⟩ :=sN aE.1 Mh;replace I:3<=N:=I;replace d:N<=258:=d;replace d1:1<=D:=d1;replace d2:D<=32768:=d2;have v1:=(mC I).a1D d;have P:=(mC I).2.1;have v2:=(kM d1).a1C d2;have O:=(kM d1).2.1;have GY:=(Jm (jq N) (by have:jq N<=28:=Tb;omega)).2.2;have yu:=(LF (fe D) (by have:fe D<=29:=Tg;omega)).2.2;have UI:jq N<=28:=Tb;have UL:fe D<=29:=Tg;have px:(2:Nat) ^ lE (jq N)<=2 ^ 5:=bw ω GY;have Jb:(2:Nat) ^ dE (fe D)<=2 ^ 13:=bw ω yu;have Q:=Cs.new U.out (.cells #[.int .u8 (m:Int), .int .i64 N, .int .i64 D] 132);have R:=BV wr (m:Int) N D 132;have X:=sr N (wr.alloc (.cells #[.int .u8 (m:Int), .int .i64 N, .int .i64 D] 132));have K:∀W,Calls Tryz.prog 123 #[.int .i64 D] W (nT dB dE 1 32768 0 29 D W):=λW=>qm D W
 have Z:Hid (sM lit bn ⟨(m:Int),N,D⟩ =cN lit (257+jq N)++dt (N-((lB (jq N):Nat):Int)) (lE (jq N))++cN bn (fe D)++dt (D-((dB (fe D):Nat):Int)) (dE (fe D))):=by
  show _=_;unfold sM;rw[a8 Mh]
 have H:=λv (h:kK lB lE 3 258 257 28 N v)=>zG h ⟨I,d⟩;have Mu:=λv (h:kK dB dE 1 32768 0 29 D v)=>wU h ⟨d1,d2⟩;obtain⟨j,hj⟩ :=ν (jq N);obtain⟨q,J⟩ :=ν (fe D);rw[hj]at v1 P GY UI px Z H;rw[J]at v2 O yu UL Jb Z Mu;obtain⟨E1,y⟩ :=ν (lE j);obtain⟨E2,Vd⟩ :=ν (dE q);obtain⟨V1,ll⟩ :=ν (N-((lB j:Nat):Int));obtain⟨V2,E⟩ :=ν (D-((dB q:Nat):Int));obtain⟨M,ac⟩ :=ν (257+j);rw[ll,y,ac]at Z;rw[E,Vd]at Z;have UM:(257:Int)+(j:Int)=(M:Int):=ω;have YE:Hid (∀v,kK lB lE 3 258 257 28 N v->v= .tuple #[.int .i64 (M:Int), .int .i64 (E1:Int), .int .i64 V1]):=λv h=>by have:=H v h;rw[this,ll,y,UM]
 have SE:Hid (∀v,kK dB dE 1 32768 0 29 D v->v= .tuple #[.int .i64 (q:Int), .int .i64 (E2:Int), .int .i64 V2]):=λv h=>by have:=Mu v h;rw[this,E,Vd]
 rw[y]at GY px v1;rw[Vd]at yu Jb v2;have bp:0<=V1/\V1<32:=by have h5:(2:Nat) ^ 5=32:=rfl;omega
 have bo:0<=V2/\V2<8192:=by have h5:(2:Nat) ^ 13=8192:=rfl;omega
 have bt:(0:Int)<=(E1:Int)/\(E1:Int)<=5/\(0:Int)<=(E2:Int)/\(E2:Int)<=13:=ω;have EL:=η X;have xJ:=η K;have be:=η (Q.sym C.1 Tl.2 C.2.2.1 M f.1 f.2.1 (τ s.out));have ao:=η R;have bs:(N==0)=false:=by simpa using Mh
 clear v1 P v2 O GY yu UI UL px Jb Q R X K H Mu hj J y Vd ll E ac UM I d d1 d2 Tb Tg
 go_wp2_with fail;refine EL.mono ?_;rintro e w5 ⟨⟨v,rfl,hv⟩,rfl⟩;rw[YE.out v hv];clear hv
 go_wp2_with fail;refine be.mono ?_;rintro e w6 ⟨⟨b6,rfl⟩,h6⟩;have PL:=η (h6.put V1 E1 ω ω (by have:=s.out;have:=pd f.2.1 M;rw[ae];omega));clear h6
 go_wp2_with fail;refine PL.mono ?_;rintro e w7 ⟨rfl,h7⟩;have cd:w7.cell? ⟨wr.heap.size,2,none⟩ =some (.int .i64 D):=h7.cell ao.out (i:=2) ω;have bd:=η (h7.sym C.2.1 (af _) C.2.2.2 q f.2.2.1 f.2.2.2 (by have:=s.out;have:=pd f.2.1 M;rw[ae,ae,aR];omega));clear h7
 go_wp2_with fail;refine(xJ _).mono ?_;rintro e w8 ⟨⟨v,rfl,hv⟩,rfl⟩;rw[SE.out v hv];clear hv cd
 go_wp2_with fail;refine bd.mono ?_;rintro e w9 ⟨⟨b9,rfl⟩,h9⟩;have EP:=η (h9.put V2 E2 ω ω (by have:=s.out;have:=pd f.2.1 M;have:=pd f.2.2.2 q;rw[ae,ae,ae,aR];omega));clear h9
 go_wp2_with fail;refine EP.mono ?_;rintro e Sr ⟨rfl,al⟩
 have an:=η (show ky w2 Sr b0 g A (L++iZ lit bn (aj.take (k+1))) from by
  have h:=al.old;rw[pj.out,Z.out]
  simpa [List.append_assoc] using h)
 clear al
 go_wp2_with fail;go_roundg (nt-(k+1))
 case measure=>have:=hg.out;have:=ot.out;omega
 case rel=>exact⟨k+1,by go_num,ot.out,an,rfl⟩
theorem ky.keeps {w2 wr w':World} {b0 g:Nat} {A:ax} {L:ag} (h:ky w2 wr b0 g A L) (a:Below wr.heap.size wr w'):ky w2 w' b0 g A L:=by
 obtain⟨⟨A',n',c',e,d⟩,c⟩ :=h;exact⟨⟨A',n',c',e.keeps a,d⟩,c.trans (S':=λ_=>False) (bb.bC a) λk b=>b.elim⟩
theorem ky.start {w w1:World} {b0 g n c:Nat} {A:ax} {L:ag} (b:pX w b0 g A n c L) (a:Below w.heap.size w w1):ky w w1 b0 g A L:=
 ⟨⟨A,n,c,b.keeps a,λk d=> .inl d⟩,bb.bC a⟩
theorem Ku (w:World) (b0 g n c:Nat) (A:ax) (L:ag) (D:pX w b0 g A n c L) (At:ax) (nt ct:Nat) (aj:List bY) (d:lW w w.heap.size At nt aj) (b:0<nt->∀p,At=some p->¬foot A g p.block) (v:∀t∈aj,0<=t.lit/\t.lit<256)
  (Ar:ax) (m cr:Nat) (last:Bool) (u:dI 1 aj m=true) (a:L.length<=3000000000000):
  Calls Tryz.prog 101 #[.pointer (some ⟨g,0,none⟩), .int .i64 1, .slice At nt ct, .slice Ar m cr, .bool last] w λe w'=>e= .returned (.bool true)/\ky w w' b0 g A (L++dt (if last then 1 else 0) 1++dt 1 2++ke ij iV aj):=by
 have y:aj.length<1048576/\∀t∈aj,cn t:=by
  unfold dI at u;rw[a8 δ]at u;by_cases h:¬((1:Int)=1\/(1:Int)=2)\/1048576<=aj.length
  · rw[aa h]at u;exact absurd u δ
  rw[a8 h,gK]at u;exact⟨ω,λt ht=>cM (u t ht)⟩
 have E:=d.1;have HM:=η (qH w 1 At nt ct aj d ω Ar m cr);have HF:=η u;have x:=η (⟨D,d,b,v,y.1,y.2,a,E⟩ :_/\_/\_/\_/\_/\_/\_/\_);clear d u D b v y a E;obtain⟨mk,Q⟩ :=ν ((if last=true then(1:Int)else 0):Int);have J:mk=if last=true then(1:Int)else 0:=Q.symm;rw[Q];clear Q;cases last with
 | false=>
   obtain rfl:mk=0:=J
   go_in
   go_wp2_with fail;refine HM.mono ?_;rintro e w1 ⟨rfl,k⟩;rw[HF.out];have V:=η (ky.start x.1 k);have X:=η (V.put 0 1 δ δ (τ x.2.2.2.2.2.2.1));clear k
   go_wp2_with fail;refine X.mono ?_;rintro e w2 ⟨rfl,M⟩;have W:=η (M.put 1 2 δ δ (by rw[ae,aR];have:=x.2.2.2.2.2.2.1;omega));clear M
   go_wp2_with fail;refine W.mono ?_;rintro e O ⟨rfl,K⟩;have Y:=η K;clear K
   go_wp2_with fail;refine(pI O).mono ?_;rintro e q ⟨Af,cf,Z,cg,rfl,I,H,j⟩;obtain⟨D,d,b,v,z,G,a,E⟩ :=x.out;have h4:=Y.keeps j;obtain⟨⟨A4,P,T,f,Ch⟩,r⟩ :=h4;have l:lW q w.heap.size At nt aj:=d.dx r (af _) b
   have F:=uL q b0 g P T A4 _ f w.heap.size At nt ct aj l r.size (λC p e i=>by
     have S:p.block<w.heap.size:=by
      obtain⟨PT,s,B,_⟩ :=d.2 C;rw[e]at s;injection s with s;rw[s];exact B
     rcases i with i | i
     · exact b C p e (.inl i)
     rcases Ch _ i with h | h
     · exact b C p e (.inr h)
     omega)
    (λt ht=> ⟨G t ht,v t ht⟩) (by rw[ae,ae,aR,aR];omega) q.heap.size Af 288 cf ij I.rd (af _) δ mn.1 q.heap.size Z 32 cg iV H.rd (af _) δ mn.2
   have U:=η F;have o:=η (⟨Ch,r⟩ :_/\_);clear F l f Ch r D d b v z G a E I H j
   go_wp2_with fail;refine U.mono ?_;rintro e N ⟨rfl,h5⟩
   have R:=η (show ky w N b0 g A (L++dt 0 1++dt 1 2++ke ij iV aj) from by
    obtain⟨⟨A5,n5,c5,q1,q2⟩,q3⟩ :=h5;exact ky.next o.2 o.1 q1 q3 q2)
   clear h5
   go_wp2_with fail;go_ret;exact⟨rfl,R.out⟩
 | true=>
   obtain rfl:mk=1:=J
   go_in
   go_wp2_with fail;refine HM.mono ?_;rintro e w1 ⟨rfl,k⟩;rw[HF.out];have V:=η (ky.start x.1 k);have X:=η (V.put 1 1 δ δ (τ x.2.2.2.2.2.2.1));clear k
   go_wp2_with fail;refine X.mono ?_;rintro e w2 ⟨rfl,M⟩;have W:=η (M.put 1 2 δ δ (by rw[ae,aR];have:=x.2.2.2.2.2.2.1;omega));clear M
   go_wp2_with fail;refine W.mono ?_;rintro e O ⟨rfl,K⟩;have Y:=η K;clear K
   go_wp2_with fail;refine(pI O).mono ?_;rintro e q ⟨Af,cf,Z,cg,rfl,I,H,j⟩;obtain⟨D,d,b,v,z,G,a,E⟩ :=x.out;have h4:=Y.keeps j;obtain⟨⟨A4,P,T,f,Ch⟩,r⟩ :=h4;have l:lW q w.heap.size At nt aj:=d.dx r (af _) b
   have F:=uL q b0 g P T A4 _ f w.heap.size At nt ct aj l r.size (λC p e i=>by
     have S:p.block<w.heap.size:=by
      obtain⟨PT,s,B,_⟩ :=d.2 C;rw[e]at s;injection s with s;rw[s];exact B
     rcases i with i | i
     · exact b C p e (.inl i)
     rcases Ch _ i with h | h
     · exact b C p e (.inr h)
     omega)
    (λt ht=> ⟨G t ht,v t ht⟩) (by rw[ae,ae,aR,aR];omega) q.heap.size Af 288 cf ij I.rd (af _) δ mn.1 q.heap.size Z 32 cg iV H.rd (af _) δ mn.2
   have U:=η F;have o:=η (⟨Ch,r⟩ :_/\_);clear F l f Ch r D d b v z G a E I H j
   go_wp2_with fail;refine U.mono ?_;rintro e N ⟨rfl,h5⟩
   have R:=η (show ky w N b0 g A (L++dt 1 1++dt 1 2++ke ij iV aj) from by
    obtain⟨⟨A5,n5,c5,q1,q2⟩,q3⟩ :=h5;exact ky.next o.2 o.1 q1 q3 q2)
   clear h5
   go_wp2_with fail;go_ret;exact⟨rfl,R.out⟩
theorem TL (w:World) (kind:Int) (At:ax) (nt ct:Nat) (aj:List bY) (c:lW w w.heap.size At nt aj) (d:(nt:Int)<=4611686018427387904) (Ar:ax) (m cr:Nat) (b:dI kind aj m=false):
  Calls Tryz.prog 112 #[.int .i64 kind, .slice At nt ct, .slice Ar m cr] w λe w'=>e= .returned (.int .i64 (-1))/\Below w.heap.size w w':=by
 have f:=η (qH w kind At nt ct aj c d Ar m cr);have g:=η b;clear c b
 go_in
 go_wp2_with fail;refine f.mono ?_;rintro e w1 ⟨rfl,a⟩;rw[g.out]
 go_wp2_with fail;go_ret;exact⟨rfl,a⟩
theorem F4 (w:World) (At:ax) (nt ct:Nat) (aj:List bY) (c:lW w w.heap.size At nt aj) (d:(nt:Int)<=4611686018427387904) (Ar:ax) (m cr:Nat) (b:m<=65535):
  Calls Tryz.prog 112 #[.int .i64 0, .slice At nt ct, .slice Ar m cr] w λe w'=>e= .returned (.int .i64 (40+8*(m:Int)))/\Below w.heap.size w w':=by
 have f:=η (qH w 0 At nt ct aj c d Ar m cr);have g:=η (show dI 0 aj m=true by unfold dI;rw[aa rfl];exact aX b);have h:(0:Int)<=(m:Int)/\(m:Int)<=65535:=ω;clear c b
 go_in
 go_wp2_with fail;refine f.mono ?_;rintro e w1 ⟨rfl,a⟩;rw[g.out]
 go_wp2_with fail;go_ret;exact⟨rfl,a⟩
structure DM where
 gi:Nat
 Ai:ax
 ni:Nat
 ci:Nat
 B:ag
 a:Nat
 gw:Nat
 Aw:ax
 nw:Nat
 cw:Nat
 l:ag
 Ao:ax
 no:Nat
 co:Nat
 out:ag
 Al:ax
 nl:Nat
 cl:Nat
 lens:ag
 hp:ax
 lp:ax
 dp:ax
 hd:Option (ag)
 lt:Option (ag)
 ds:Option (ag)
structure DS where
 most:Nat
 err:Int
 st:Nat
 last:Bool
 left:Nat
 c0:Nat
 c1:Nat
 c2:Nat
 len:Nat
def dF (M:DM) (S:DS):Nat->Value
 | 0=> .pointer (some ⟨M.gi,0,none⟩)
 | 1=> .pointer (some ⟨M.gw,0,none⟩)
 | 2=> .int .i64 S.most
 | 3=> .slice M.Ao M.no M.co
 | 4=> .int .i64 S.err
 | 5=> .int .i64 S.st
 | 6=> .bool S.last
 | 7=> .int .i64 S.left
 | 8=> .int .i64 S.c0
 | 9=> .int .i64 S.c1
 | 10=> .int .i64 S.c2
 | 11=> .slice M.Al M.nl M.cl
 | 12=> .pointer M.hp
 | 13=> .pointer M.lp
 | 14=> .pointer M.dp
 | _=> .int .i64 S.len
theorem fc {P:Nat->Prop} (n:P 0) (m:P 1) (k:P 2) (i:P 3) (h4:P 4) (h5:P 5) (h6:P 6) (h7:P 7) (h:P 8) (g:P 9) (e:P 10) (d:P 11) (c:P 12) (b:P 13) (a:P 14) (l:P 15):
  ∀j,j<16->P j:=λj f=>by
 obtain rfl | rfl | rfl | rfl | rfl | rfl | rfl | rfl | rfl | rfl | rfl | rfl | rfl | rfl | rfl | rfl:j=0\/j=1\/j=2\/j=3\/j=4\/j=5\/j=6\/j=7\/j=8\/j=9\/j=10\/j=11\/j=12\/j=13\/j=14\/j=15:=ω;all_goals assumption
def kS (w:World) (b0:Nat) (c:Nat->Nat) (p:ax) (l:ag):Prop:=
 ∃a B b,p=some ⟨b,0,none⟩/\yq w a B b l/\b0<=a/\B<=w.heap.size/\l.length<=288/\∀k,a<=k->k<B->c k=6
structure iy (w:World) (b0 g:Nat) (c:Nat->Nat) (M:DM) (S:DS):Prop where
 cell:Ar w g 16 (dF M S)
 cg:c g=1
 lX:pW w b0 M.gi M.Ai M.ni M.ci M.B M.a
 cr:∀k,foot M.Ai M.gi k->c k=2
 GI:yP w b0 M.gw M.Aw M.nw M.cw M.l
 cw:∀k,foot M.Aw M.gw k->c k=3
 out:aT .u8 w b0 5 M.Ao M.no M.co M.out
 co:∀k,ai M.Ao=some k->c k=4
 lens:aT .i64 w b0 3 M.Al M.nl M.cl M.lens
 cl:∀k,ai M.Al=some k->c k=5
 th:∀l,M.hd=some l->kS w b0 c M.hp l
 tl:∀l,M.lt=some l->kS w b0 c M.lp l
 td:∀l,M.ds=some l->kS w b0 c M.dp l
 cb:∀k,c k≠0->b0<=k/\k<w.heap.size
 bB:M.B.length<=100000000000
def bA (w0:World) (c0:Nat->Nat) (w:World) (b0 g:Nat) (M:DM) (S:DS):Prop:=∃c,iy w b0 g c M S/\DE b0 w0 c0 w c
section
variable {w w' w0:World} {b0 g:Nat} {c c0:Nat->Nat} {M:DM} {S:DS}
theorem iy.refl (h:iy w b0 g c M S):bA w c w b0 g M S:= ⟨c,h,aw _ _,bb.refl _ _,λ_ _=>rfl⟩
theorem iy.lo (h:iy w b0 g c M S):b0<=w.heap.size:=by have:=h.cb g (by rw[h.cg];decide);omega
theorem kS.dx {c':Nat->Nat} {F:Nat->Prop} {p:ax} {l:ag} (h:kS w b0 c p l) (d:bb w w' F) (hF:∀k,F k->c k≠6) (g:∀k,k<w.heap.size->c' k=c k):kS w' b0 c' p l:=by
 obtain⟨e,B,n,m,j,i,h4,h5,h6⟩ :=h;exact⟨e,B,n,m,j.dx d h4 (λk b a f=>hF k f (h6 k b a)),i,aq h4 d.size,h5,λk b a=>(g k ω).trans (h6 k b a)⟩
theorem iy.reader (h:iy w b0 g c M S) (m:bb w w' (foot M.Ai M.gi)) {A':ax} {n' c' a':Nat} {B':ag} (q:pW w' b0 M.gi A' n' c' B' a') (hf:∀k,foot A' M.gi k->foot M.Ai M.gi k\/w.heap.size<=k) (r:B'.length<=100000000000):
  iy w' b0 g (cT c w.heap.size (foot A' M.gi) 2) { M with Ai:=A',ni:=n',ci:=c',B:=B',a:=a' } S:=by
 have hF:∀k,foot M.Ai M.gi k->c k=2:=h.cr;have p:∀k i,c k=i->i≠0->k<w.heap.size:=λk i j f=>(h.cb k ω).2;have d:∀k,k<w.heap.size->cT c w.heap.size (foot A' M.gi) 2 k=c k:=λk b=>bZ b;have o:∀k i,c k=i->i≠0->cT c w.heap.size (foot A' M.gi) 2 k=i:=λk i j f=>(d k (p k i j f)).trans j
 exact⟨m.ar h.cell (λe=>by have:=hF g e;have:=h.cg;omega),o _ _ h.cg δ,q,λk b=>by
   rcases aU k w.heap.size with j | j
   · rcases hf k b with f | f
     · exact o k 2 (hF k f) δ
     omega
   exact fO j b,
  h.GI.dx m (λk b e=>by have:=hF k e;have:=h.cw k b;omega),λk b=>o k 3 (h.cw k b) δ,
  m.dJ h.out (λk b e=>by have:=hF k e;have:=h.co k b;omega),λk b=>o k 4 (h.co k b) δ,
  m.dJ h.lens (λk b e=>by have:=hF k e;have:=h.cl k b;omega),λk b=>o k 5 (h.cl k b) δ,
  λl n=>(h.th l n).dx m (λk b e=>by have:=hF k b;omega) d,λl n=>(h.tl l n).dx m (λk b e=>by have:=hF k b;omega) d,λl n=>(h.td l n).dx m (λk b e=>by have:=hF k b;omega) d,
  λk b=>by
   rcases gq b with ⟨j,f⟩ | ⟨j,f⟩
   · exact⟨(h.cb k f).1,aB j m.size⟩
   exact q.eG f,r⟩
theorem iy.C6 (h:iy w b0 g c M S) (j:bb w w' (foot M.Aw M.gw)) {A':ax} {n' c':Nat} {l':ag} (p:yP w' b0 M.gw A' n' c' l') (hf:∀k,foot A' M.gw k->foot M.Aw M.gw k\/w.heap.size<=k):
  iy w' b0 g (cT c w.heap.size (foot A' M.gw) 3) { M with Aw:=A',nw:=n',cw:=c',l:=l' } S:=by
 have hF:∀k,foot M.Aw M.gw k->c k=3:=h.cw;have o:∀k i,c k=i->i≠0->k<w.heap.size:=λk i f d=>(h.cb k ω).2;have b:∀k,k<w.heap.size->cT c w.heap.size (foot A' M.gw) 3 k=c k:=λk a=>bZ a;have n:∀k i,c k=i->i≠0->cT c w.heap.size (foot A' M.gw) 3 k=i:=λk i f d=>(b k (o k i f d)).trans f
 exact⟨j.ar h.cell (λe=>by have:=hF g e;have:=h.cg;omega),n _ _ h.cg δ,
  h.lX.dx j (λk a e=>by have:=hF k e;have:=h.cr k a;omega),λk a=>n k 2 (h.cr k a) δ,p,λk a=>by
   rcases aU k w.heap.size with f | f
   · rcases hf k a with d | d
     · exact n k 3 (hF k d) δ
     omega
   exact fO f a,
  j.dJ h.out (λk a e=>by have:=hF k e;have:=h.co k a;omega),λk a=>n k 4 (h.co k a) δ,
  j.dJ h.lens (λk a e=>by have:=hF k e;have:=h.cl k a;omega),λk a=>n k 5 (h.cl k a) δ,
  λl m=>(h.th l m).dx j (λk a e=>by have:=hF k a;omega) b,λl m=>(h.tl l m).dx j (λk a e=>by have:=hF k a;omega) b,λl m=>(h.td l m).dx j (λk a e=>by have:=hF k a;omega) b,
  λk a=>by
   rcases gq a with ⟨f,d⟩ | ⟨f,d⟩
   · exact⟨(h.cb k d).1,aB f j.size⟩
   exact p.eG d,h.bB⟩
theorem iy.outs (h:iy w b0 g c M S) (j:bb w w' (λk=>k=g\/ai M.Ao=some k)) {A':ax} {n' c':Nat} {l':ag} {S':DS} (q:Ar w' g 16 (dF { M with Ao:=A',no:=n',co:=c',out:=l' } S')) (p:aT .u8 w' b0 5 A' n' c' l')
  (hf:∀k,ai A'=some k->ai M.Ao=some k\/w.heap.size<=k):
  iy w' b0 g (cT c w.heap.size (λk=>ai A'=some k) 4) { M with Ao:=A',no:=n',co:=c',out:=l' } S':=by
 have hF:∀k,(k=g\/ai M.Ao=some k)->c k=1\/c k=4:=λk a=>by
  rcases a with rfl | a
  · exact .inl h.cg
  exact .inr (h.co k a)
 have o:∀k i,c k=i->i≠0->k<w.heap.size:=λk i f d=>(h.cb k ω).2;have b:∀k,k<w.heap.size->cT c w.heap.size (λk=>ai A'=some k) 4 k=c k:=λk a=>bZ a;have n:∀k i,c k=i->i≠0->cT c w.heap.size (λk=>ai A'=some k) 4 k=i:=λk i f d=>(b k (o k i f d)).trans f
 exact⟨q,n _ _ h.cg δ,
  h.lX.dx j (λk a e=>by have:=hF k e;have:=h.cr k a;omega),λk a=>n k 2 (h.cr k a) δ,
  h.GI.dx j (λk a e=>by have:=hF k e;have:=h.cw k a;omega),λk a=>n k 3 (h.cw k a) δ,p,λk a=>by
   rcases aU k w.heap.size with f | f
   · rcases hf k a with d | d
     · exact n k 4 (h.co k d) δ
     omega
   exact fO f a,
  j.dJ h.lens (λk a e=>by have:=hF k e;have:=h.cl k a;omega),λk a=>n k 5 (h.cl k a) δ,
  λl m=>(h.th l m).dx j (λk a e=>by have:=hF k a;omega) b,λl m=>(h.tl l m).dx j (λk a e=>by have:=hF k a;omega) b,λl m=>(h.td l m).dx j (λk a e=>by have:=hF k a;omega) b,
  λk a=>by
   rcases gq a with ⟨f,d⟩ | ⟨f,d⟩
   · exact⟨(h.cb k d).1,aB f j.size⟩
   exact p.2.lt d,h.bB⟩
theorem iy.FY (h:iy w b0 g c M S) (j:bb w w' (λk=>k=g\/ai M.Al=some k)) {A':ax} {n' c':Nat} {l':ag} {S':DS} (q:Ar w' g 16 (dF { M with Al:=A',nl:=n',cl:=c',lens:=l' } S')) (p:aT .i64 w' b0 3 A' n' c' l')
  (hf:∀k,ai A'=some k->ai M.Al=some k\/w.heap.size<=k):
  iy w' b0 g (cT c w.heap.size (λk=>ai A'=some k) 5) { M with Al:=A',nl:=n',cl:=c',lens:=l' } S':=by
 have hF:∀k,(k=g\/ai M.Al=some k)->c k=1\/c k=5:=λk a=>by
  rcases a with rfl | a
  · exact .inl h.cg
  exact .inr (h.cl k a)
 have o:∀k i,c k=i->i≠0->k<w.heap.size:=λk i f d=>(h.cb k ω).2;have b:∀k,k<w.heap.size->cT c w.heap.size (λk=>ai A'=some k) 5 k=c k:=λk a=>bZ a;have n:∀k i,c k=i->i≠0->cT c w.heap.size (λk=>ai A'=some k) 5 k=i:=λk i f d=>(b k (o k i f d)).trans f
 exact⟨q,n _ _ h.cg δ,
  h.lX.dx j (λk a e=>by have:=hF k e;have:=h.cr k a;omega),λk a=>n k 2 (h.cr k a) δ,
  h.GI.dx j (λk a e=>by have:=hF k e;have:=h.cw k a;omega),λk a=>n k 3 (h.cw k a) δ,
  j.dJ h.out (λk a e=>by have:=hF k e;have:=h.co k a;omega),λk a=>n k 4 (h.co k a) δ,p,λk a=>by
   rcases aU k w.heap.size with f | f
   · rcases hf k a with d | d
     · exact n k 5 (h.cl k d) δ
     omega
   exact fO f a,
  λl m=>(h.th l m).dx j (λk a e=>by have:=hF k a;omega) b,λl m=>(h.tl l m).dx j (λk a e=>by have:=hF k a;omega) b,λl m=>(h.td l m).dx j (λk a e=>by have:=hF k a;omega) b,
  λk a=>by
   rcases gq a with ⟨f,d⟩ | ⟨f,d⟩
   · exact⟨(h.cb k d).1,aB f j.size⟩
   exact p.2.lt d,h.bB⟩
theorem iy.keeps (h:iy w b0 g c M S) (b:Below w.heap.size w w'):iy w' b0 g c M S:=by
 have e:bb w w' (λ_=>False):=bb.bC b
 exact⟨h.cell.keeps b,h.cg,h.lX.keeps b,h.cr,h.GI.keeps b,h.cw,h.out.keeps b,h.co,h.lens.keeps b,h.cl,
  λl d=>(h.th l d).dx e (λk a=>a.elim) (λ_ _=>rfl),λl d=>(h.tl l d).dx e (λk a=>a.elim) (λ_ _=>rfl),λl d=>(h.td l d).dx e (λk a=>a.elim) (λ_ _=>rfl),
  λk a=> ⟨(h.cb k a).1,aB (h.cb k a).2 b.size⟩,h.bB⟩
theorem bA.reader (h:bA w0 c0 w b0 g M S) (d:bb w w' (foot M.Ai M.gi)) {A':ax} {n' c' a':Nat} {B':ag} (e:pW w' b0 M.gi A' n' c' B' a') (hf:∀k,foot A' M.gi k->foot M.Ai M.gi k\/w.heap.size<=k) (f:B'.length<=100000000000):
  bA w0 c0 w' b0 g { M with Ai:=A',ni:=n',ci:=c',B:=B',a:=a' } S:=by
 obtain⟨c,h,hd⟩ :=h;exact⟨_,h.reader d e hf f,hd.step h.lo (λk b=>(h.cb k b).1) (d.more λk b=>by rw[h.cr k b];decide) λk b=>bZ b⟩
theorem bA.moved (h:bA w0 c0 w b0 g M S) (e:bb w w' (λk=>k=M.gi)) {a':Nat} (d:pW w' b0 M.gi M.Ai M.ni M.ci M.B a'):bA w0 c0 w' b0 g { M with a:=a' } S:=
 h.reader (e.more λk b=> .inl b) d (λk b=> .inl b) (by obtain⟨c,h,_⟩ :=h;exact h.bB)
theorem bA.C6 (h:bA w0 c0 w b0 g M S) (b:bb w w' (foot M.Aw M.gw)) {A':ax} {n' c':Nat} {l':ag} (d:yP w' b0 M.gw A' n' c' l') (hf:∀k,foot A' M.gw k->foot M.Aw M.gw k\/w.heap.size<=k):
  bA w0 c0 w' b0 g { M with Aw:=A',nw:=n',cw:=c',l:=l' } S:=by
 obtain⟨c,h,hd⟩ :=h;exact⟨_,h.C6 b d hf,hd.step h.lo (λk a=>(h.cb k a).1) (b.more λk a=>by rw[h.cw k a];decide) λk a=>bZ a⟩
theorem bA.outs (h:bA w0 c0 w b0 g M S) (b:bb w w' (λk=>k=g\/ai M.Ao=some k)) {A':ax} {n' c':Nat} {l':ag} {S':DS} (e:Ar w' g 16 (dF { M with Ao:=A',no:=n',co:=c',out:=l' } S')) (d:aT .u8 w' b0 5 A' n' c' l')
  (hf:∀k,ai A'=some k->ai M.Ao=some k\/w.heap.size<=k):bA w0 c0 w' b0 g { M with Ao:=A',no:=n',co:=c',out:=l' } S':=by
 obtain⟨c,h,hd⟩ :=h
 exact⟨_,h.outs b e d hf,hd.step h.lo (λk a=>(h.cb k a).1) (b.more λk a=>by
  rcases a with rfl | a
  · rw[h.cg];decide
  rw[h.co k a];decide) λk a=>bZ a⟩
theorem bA.FY (h:bA w0 c0 w b0 g M S) (b:bb w w' (λk=>k=g\/ai M.Al=some k)) {A':ax} {n' c':Nat} {l':ag} {S':DS} (e:Ar w' g 16 (dF { M with Al:=A',nl:=n',cl:=c',lens:=l' } S')) (d:aT .i64 w' b0 3 A' n' c' l')
  (hf:∀k,ai A'=some k->ai M.Al=some k\/w.heap.size<=k):bA w0 c0 w' b0 g { M with Al:=A',nl:=n',cl:=c',lens:=l' } S':=by
 obtain⟨c,h,hd⟩ :=h
 exact⟨_,h.FY b e d hf,hd.step h.lo (λk a=>(h.cb k a).1) (b.more λk a=>by
  rcases a with rfl | a
  · rw[h.cg];decide
  rw[h.cl k a];decide) λk a=>bZ a⟩
theorem bA.keeps (h:bA w0 c0 w b0 g M S) (b:Below w.heap.size w w'):bA w0 c0 w' b0 g M S:=by
 obtain⟨c,h,hd⟩ :=h;exact⟨c,h.keeps b,hd.step h.lo (λk a=>(h.cb k a).1) (bb.bC b) λk a=>rfl⟩
theorem bA.drewN (h:bA w0 c0 w b0 g M S) (q:Nat):bA w0 c0 (w.drewN q) b0 g M S:=h.keeps (below_drewN (aw _ _) q)
theorem bA.drew (h:bA w0 c0 w b0 g M S):bA w0 c0 w.drew b0 g M S:=h.keeps (aw _ _).drew
theorem bA.put (h:bA w0 c0 w b0 g M S) {i:Nat} (hi:i<16) (v:Value) (S':DS) (hF:∀j,j<16->upd (dF M S) i v j=dF M S' j):bA w0 c0 (w.setCell ⟨g,i,none⟩ v) b0 g M S':=by
 obtain⟨c,h,hd⟩ :=h;have a:ai M.Ao≠some g:=λe=>by have:=h.co g e;have:=h.cg;omega
 have:=bA.outs ⟨c,h,hd⟩ (w':=w.setCell ⟨g,i,none⟩ v) (A':=M.Ao) (n':=M.no) (c':=M.co) (l':=M.out) (S':=S') ((bb.refl w _).setCell (p:= ⟨g,i,none⟩) (.inl (.inl rfl)) v) ((h.cell.iz hi v).congr hF) (h.out.far (p:= ⟨g,i,none⟩) a v) (λk b=> .inl b);exact this
theorem bA.apart (h:bA w0 c0 w b0 g M S):ai M.Ao≠some g/\ai M.Al≠some g/\M.gi≠g/\M.gw≠g:=by
 obtain⟨c,h,hd⟩ :=h;have a:=h.cg;exact⟨λe=>by have:=h.co g e;omega,λe=>by have:=h.cl g e;omega,λe=>by have:=h.cr g (.inl e.symm);omega,λe=>by have:=h.cw g (.inl e.symm);omega⟩
theorem bA.cell (h:bA w0 c0 w b0 g M S):Ar w g 16 (dF M S):=by obtain⟨c,h,hd⟩ :=h;exact h.cell
theorem bA.lX (h:bA w0 c0 w b0 g M S):pW w b0 M.gi M.Ai M.ni M.ci M.B M.a:=by obtain⟨c,h,hd⟩ :=h;exact h.lX
theorem bA.GI (h:bA w0 c0 w b0 g M S):yP w b0 M.gw M.Aw M.nw M.cw M.l:=by obtain⟨c,h,hd⟩ :=h;exact h.GI
theorem bA.out (h:bA w0 c0 w b0 g M S):aT .u8 w b0 5 M.Ao M.no M.co M.out:=by obtain⟨c,h,hd⟩ :=h;exact h.out
theorem bA.lens (h:bA w0 c0 w b0 g M S):aT .i64 w b0 3 M.Al M.nl M.cl M.lens:=by obtain⟨c,h,hd⟩ :=h;exact h.lens
theorem bA.lo (h:bA w0 c0 w b0 g M S):b0<=w.heap.size:=by obtain⟨c,h,hd⟩ :=h;exact h.lo
theorem bA.big (h:bA w0 c0 w b0 g M S):M.B.length<=100000000000:=by obtain⟨c,h,hd⟩ :=h;exact h.bB
theorem iy.tab (h:iy w b0 g c M S) {p:ax} {l:ag} (ht:kS w b0 c p l):∃a B b,p=some ⟨b,0,none⟩/\yq w a B b l/\B<=w.heap.size/\l.length<=288/\∀k,a<=k->k<B->k≠M.gi:=by
 obtain⟨a,B,b,j,i,m,h4,h5,h6⟩ :=ht;exact⟨a,B,b,j,i,h4,h5,λk f d e=>by have:=h6 k f d;have:=h.cr M.gi (.inl rfl);subst e;omega⟩
theorem bA.a9H (h:bA w0 c0 w b0 g M S) {l:ag} (d:M.hd=some l):∃a B b,M.hp=some ⟨b,0,none⟩/\yq w a B b l/\B<=w.heap.size/\l.length<=288/\∀k,a<=k->k<B->k≠M.gi:=by
 obtain⟨c,h,hd⟩ :=h;exact h.tab (h.th l d)
theorem bA.a9I (h:bA w0 c0 w b0 g M S) {l:ag} (d:M.lt=some l):∃a B b,M.lp=some ⟨b,0,none⟩/\yq w a B b l/\B<=w.heap.size/\l.length<=288/\∀k,a<=k->k<B->k≠M.gi:=by
 obtain⟨c,h,hd⟩ :=h;exact h.tab (h.tl l d)
theorem bA.a9G (h:bA w0 c0 w b0 g M S) {l:ag} (d:M.ds=some l):∃a B b,M.dp=some ⟨b,0,none⟩/\yq w a B b l/\B<=w.heap.size/\l.length<=288/\∀k,a<=k->k<B->k≠M.gi:=by
 obtain⟨c,h,hd⟩ :=h;exact h.tab (h.td l d)
theorem iy.tabs (h:iy w b0 g c M S) {p:ax} {l:ag} {i:Nat} (r:Below w.heap.size w w') (hp:p=some ⟨i,0,none⟩) (ht:yq w' w.heap.size w'.heap.size i l) (o:l.length<=288):
  iy w' b0 g (cT c w.heap.size (λk=>w.heap.size<=k/\k<w'.heap.size) 6) M S/\kS w' b0 (cT c w.heap.size (λk=>w.heap.size<=k/\k<w'.heap.size) 6) p l:=by
 have b:=h.keeps r;have a:∀k,c k≠0->cT c w.heap.size (λk=>w.heap.size<=k/\k<w'.heap.size) 6 k=c k:=λk b=>bZ (h.cb k b).2
 have e:∀{p l},kS w' b0 c p l->kS w' b0 (cT c w.heap.size (λk=>w.heap.size<=k/\k<w'.heap.size) 6) p l:=λ{p l} e=>by
  obtain⟨n,B,i,m,f,s,h4,h5,h6⟩ :=e;exact⟨n,B,i,m,f,s,h4,h5,λk d j=>by rw[a k (by rw[h6 k d j];decide)];exact h6 k d j⟩
 refine⟨⟨b.cell,(a g (by rw[h.cg];decide)).trans h.cg,b.lX,λk q=>(a k (by rw[h.cr k q];decide)).trans (h.cr k q),b.GI,λk q=>(a k (by rw[h.cw k q];decide)).trans (h.cw k q),b.out,λk q=>(a k (by rw[h.co k q];decide)).trans (h.co k q),b.lens,λk q=>(a k (by rw[h.cl k q];decide)).trans (h.cl k q),
  λl q=>e (b.th l q),λl q=>e (b.tl l q),λl q=>e (b.td l q),λk q=> ?_,h.bB⟩, ⟨w.heap.size,w'.heap.size,i,hp,ht,h.lo,af _,o,λk d j=>fO d ⟨d,j⟩⟩⟩
 rcases gq q with ⟨m,f⟩ | ⟨m,f⟩
 · exact b.cb k f
 exact⟨aq h.lo m,f.2⟩
theorem bA.a0K (h:bA w0 c0 w b0 g M S) {l:ag} {f:Nat} (s:Below w.heap.size w w') (ht:yq w' w.heap.size w'.heap.size f l) (z:l.length<=288):
  bA w0 c0 (w'.setCell ⟨g,12,none⟩ (.pointer (some ⟨f,0,none⟩))) b0 g { M with hp:=some ⟨f,0,none⟩,hd:=some l } S/\
  bA w0 c0 (w'.setCell ⟨g,13,none⟩ (.pointer (some ⟨f,0,none⟩))) b0 g { M with lp:=some ⟨f,0,none⟩,lt:=some l } S/\
  bA w0 c0 (w'.setCell ⟨g,14,none⟩ (.pointer (some ⟨f,0,none⟩))) b0 g { M with dp:=some ⟨f,0,none⟩,ds:=some l } S:=by
 obtain⟨c,h,hd⟩ :=h;obtain⟨a,t⟩ :=h.tabs (p:=some ⟨f,0,none⟩) s rfl ht z;have n:=hd.step (w':=w') (c':=cT c w.heap.size (λk=>w.heap.size<=k/\k<w'.heap.size) 6) h.lo (λk b=>(h.cb k b).1) (bb.bC s) λk b=>bZ b;generalize cT c w.heap.size (λk=>w.heap.size<=k/\k<w'.heap.size) 6=cc at a t n;have r:ai M.Ao≠some g:=λe=>by have:=h.co g e;have:=h.cg;omega
 have A:ai M.Al≠some g:=λe=>by have:=h.cl g e;have:=h.cg;omega
 have Bb:∀(i:Nat) (v:Value) (d:DM),i<16->(∀j,j<16->upd (dF M S) i v j=dF d S j)->d={ M with hp:=d.hp,lp:=d.lp,dp:=d.dp,hd:=d.hd,lt:=d.lt,ds:=d.ds }->
   (∀l,d.hd=some l->kS w' b0 cc d.hp l)->(∀l,d.lt=some l->kS w' b0 cc d.lp l)->(∀l,d.ds=some l->kS w' b0 cc d.dp l)->bA w0 c0 (w'.setCell ⟨g,i,none⟩ v) b0 g d S:=by
  intro i v d hi hF B y x u;have m:bb w' (w'.setCell ⟨g,i,none⟩ v) (λk=>k=g):=(bb.refl w' (λk=>k=g)).setCell (p:= ⟨g,i,none⟩) (.inl rfl) v;have o:∀{p l},kS w' b0 cc p l->kS (w'.setCell ⟨g,i,none⟩ v) b0 cc p l:=λht=>ht.dx m (λk b=>by subst b;rw[a.cg];decide) λ_ _=>rfl
  refine⟨cc, ⟨(a.cell.iz hi v).congr hF,a.cg, ?_, ?_, ?_, ?_, ?_, ?_, ?_, ?_,λl q=>o (y l q),λl q=>o (x l q),λl q=>o (u l q),λk b=> ⟨(a.cb k b).1,aB (a.cb k b).2 m.size⟩, ?_⟩,
   n.step a.lo (λk b=>(a.cb k b).1) (m.more λk b=>by subst b;rw[a.cg];decide) λ_ _=>rfl⟩
  all_goals rw[B]
  · exact a.lX.dx m (λk b e=>by have:=a.cr k b;have:=a.cg;subst e;omega)
  · exact a.cr
  · exact a.GI.dx m (λk b e=>by have:=a.cw k b;have:=a.cg;subst e;omega)
  · exact a.cw
  · exact m.dJ a.out (λk b e=>by subst e;exact r b)
  · exact a.co
  · exact m.dJ a.lens (λk b e=>by subst e;exact A b)
  · exact a.cl
  exact a.bB
 refine⟨Bb 12 _ _ ω (fc rfl rfl rfl rfl rfl rfl rfl rfl rfl rfl rfl rfl rfl rfl rfl rfl) rfl (λl' q=> ?_) a.tl a.td,Bb 13 _ _ ω (fc rfl rfl rfl rfl rfl rfl rfl rfl rfl rfl rfl rfl rfl rfl rfl rfl) rfl a.th (λl' q=> ?_) a.td,Bb 14 _ _ ω (fc rfl rfl rfl rfl rfl rfl rfl rfl rfl rfl rfl rfl rfl rfl rfl rfl) rfl a.th a.tl (λl' q=> ?_)⟩
 all_goals
  injection q with q;subst q;exact t
end
theorem Bj (a b:Nat) (g:a<4611686018427387904) (f:b<4611686018427387904):bits .or .i64 (a:Int) (b:Int)=((a||| b:Nat):Int):=by
 have e:a||| b<2 ^ 62:=Nat.or_lt_two_pow ω ω
 have d:(BitVec.ofInt 64 (a:Int)).toNat=a:=by
  rw[gv,ic];exact dO ω
 have c:(BitVec.ofInt 64 (b:Int)).toNat=b:=by
  rw[gv,ic];exact dO ω
 show IntKind.i64.wrap ((BitVec.ofInt 64 (a:Int)||| BitVec.ofInt 64 (b:Int)).toNat:Int)=_;rw[BitVec.toNat_or,d,c,IntKind.wrap_i64];omega
theorem WG {h b:Int} (a:0<=h) (d:h<4294967296) (c:b=0\/b=1):bits .or .i64 (2*h) b=2*h+b:=by
 obtain⟨X,rfl⟩ :=aF a;obtain⟨Y,rfl⟩ :=aF (show 0<=b by omega);have e:(2*(X:Int))=((X*2 ^ 1:Nat):Int):=ξ;rw[e,Bj _ _ ω ω,Nat.or_comm,ez,Nat.or_comm,<-eC ω];simp
theorem PX {x:Int} (a:0<=x) (b:x<4294967296):bits .and .u32 x 1=x%2:=by
 obtain⟨X,rfl⟩ :=aF a;have:=u32_and_nat X 1 ω ω;rw[Nat.and_one_is_mod]at this;have e:((1:Nat):Int)=1:=rfl;rw[e]at this;rw[this];omega
theorem bT.aside {k:IntKind} {w w':World} {B n b g:Nat} {A:ax} {l:ag} (h:bT k w B A n l) (m:bb w w' (λk=>k=g)) (p:B<=w.heap.size) (j:∀q,ai A=some q->b<=q) (d:∀k,b<=k->k<B->k≠g):bT k w' B A n l:=
 ⟨h.1,λf=>by
   obtain⟨o,e,c,a⟩ :=h.2 f;exact⟨o,e,c,λi hi=>(m.cell (by rw[bH];omega) (by rw[bH];exact d _ (j _ (by rw[e];rfl)) c)).trans (a i hi)⟩⟩
def lu (w:World) (b0 g n c a:Nat) (A:ax) (b l:ag) (e:Ending) (w':World):Prop:=
 e= .returned (.tuple #[.int .i64 (aK l (rb b a)).1, .int .i64 (aK l (rb b a)).2.2])/\pW w' b0 g A n c b (a+(aK l (rb b a)).2.1)/\bb w w' (λk=>k=g)
def YP (w:World) (l x:ag) (H:Nat) (v f t a n:Value) (wr:World):Prop:=
 ∃(k q:Nat),1<=k/\k<=H+1/\n= .int .i64 k/\v= .int .i64 (2*hv x (k-1))/\f= .int .i64 (nJ l k:Nat)/\t= .int .i64 (below l (k-1):Nat)/\a= .int .u32 (fL ((x.take H).drop (k-1)))/\fh l x (k-1)=0/\wr=w.drewN q
theorem a7j (l:ag) {n:Nat} (b:1<=n) (a:n<=15):cf l 16 0 n=cnt l l.length n:=by unfold cf;rw[a8 ω,aa ω]
theorem xH (w:World) (t0 B gt b0 g n c a:Nat) (A:ax) (l I:ag) (ht:yq w t0 B gt l) (hl:l.length<=288) (C:pW w b0 g A n c I a) (u:I.length<=1000000000000) (CF:B<=w.heap.size) (df:∀k,t0<=k->k<B->k≠g):
  Calls Tryz.prog 207 #[.pointer (some ⟨gt,0,none⟩), .pointer (some ⟨g,0,none⟩)] w (lu w b0 g n c a A I l):=by
 obtain⟨Al,Ac,As,cl,cc,cs,eT,cj,ck,bp,bB,bx, -, -,cb⟩ :=ht;have bv:=df gt bB bx;obtain⟨x,X⟩ :=ν (rb I a);have FP:dH x:=by rw[<-X];exact dH.rb I a
 obtain⟨f,OY⟩ :=ν (tu l 15);have co:f<=15:=by rw[<-OY];exact MV l 15
 have ln:8*n-a=x.length:=by rw[<-X,gW,C.mW]
 have bd:=eT.az 19;have ab:=eT.az 18;have ao:Hg Al l.length cl Ac l.length cc (cf l 16 0) As (uI l 15).length cs (tu l 15:Nat) 19= .int .i64 f:=by rw[OY];rfl
 have aE:Hg Al l.length cl Ac l.length cc (cf l 16 0) As (uI l 15).length cs (tu l 15:Nat) 18= .slice As (uI l 15).length cs:=rfl;rw[ao]at bd;rw[aE]at ab;obtain⟨H,hH⟩ :=ν (min x.length f);have cx:H<=15:=ω;have bM:H<=(rb I a).length:=by rw[X];omega
 have d:aK l (rb I a)=if fh l x H≠0 then(D6 l (fh l x H) (hv x (fh l x H)-nJ l (fh l x H)).toNat,fh l x H,0)else if H<f then(0,0,5)else if f=0/\x.length=0 then(0,0,5)else(0,0,3):=by
  rw[X];unfold aK;rw[OY,hH]
 have Ho:=η d;have HX:=η X;have ce:=η ln;have ci:(0:Int)<=(x.length:Int)/\(x.length:Int)<=8000000000000:=by have:=C.mW;omega
 have ca:((x.length:Int)<(f:Int)/\x.length=H)\/((f:Int)<(x.length:Int)/\f=H)\/(x.length=f/\f=H):=ω;have cz:=η OY;have ch:=η hH;have lY:=η eT;clear d X ln OY hH ao aE
 have pK:Hid (∀q,Calls Tryz.prog 175 #[.pointer (some ⟨g,0,none⟩)] (w.drewN q) λe w'=>e= .returned (.int .i64 x.length)/\∃m,w'=(w.drewN q).drewN m):=λq=>by
  have:=jg _ _ _ _ _ _ _ _ (C.drewN q) u
  rwa [ce.out]at this
 go_in
 go_wp2;go_cut [9] (λs9 wx=>s9= .int .i64 H/\∃q,wx=w.drewN q)
 case first=>
  rcases ca with ⟨h1,N⟩ | ⟨h1,N⟩ | ⟨h1,N⟩
  · have t:=η N;clear N;go_quiet ((go_at_call 175;exact eI (pK _)))
    all_goals
     go_wp2_with fail;go_meet;exact⟨by rw[t.out],_,rfl⟩
  · have t:=η N;clear N;go_quiet ((go_at_call 175;exact eI (pK _)))
    all_goals
     go_wp2_with fail;go_meet;exact⟨by rw[t.out],_,rfl⟩
  have t:=η N;have cd:(x.length:Int)=(f:Int):=ω;clear N h1;go_quiet ((go_at_call 175;exact eI (pK _)))
  all_goals
   go_wp2_with fail;go_meet;exact⟨by first | rw[t.out] | (rw[cd,t.out]),_,rfl⟩
 obtain⟨rfl,q0,rfl⟩ :=hcut;have Rj:=C.drewN q0
 go_wp2_with fail;refine(Pq _ _ _ _ _ _ _ _ Rj u H ω bM).mono ?_;rintro e w1 ⟨rfl,q1,rfl⟩;rw[HX.out]
 go_wp2_with fail
 go_loopw [6,7,8,10,12] (YP w l x H) (λ_ _ _ _ n _=>H+1-(intOf n).toNat)
 case atStart=>exact⟨1,q0+q1,af _,ω,rfl,rfl,rfl,rfl,rfl,rfl,rfl⟩
 obtain⟨k,q,yY,cp,rfl,rfl,rfl,rfl,rfl,y,rfl⟩ :=hrel;by_cases cm:k<=H
 rotate_left
 · obtain rfl:k=H+1:=ω;rw[bW]at y⊢;obtain⟨V,F⟩ :=ν (hv x H);rw[F];have qB:((H+1:Nat):Int)=(H:Int)+1:=ω;have d:=Ho.out;rw[y,a8 ω]at d;have cw:H<=f:=by have:=ch.out;omega
   have CL:bb w (w.drewN q) (λk=>k=g):=(bb.refl w _).drewN q;clear F;by_cases l9:H<f
   · rw[aa l9]at d;have hI:(H:Int)<(f:Int):=ω;have T:=η d;clear d y;go_wp2
     go_ret2
     unfold lu;rw[T.out];exact⟨rfl,C.drewN q,CL⟩
   rw[a8 l9]at d;have hI:¬(H:Int)<(f:Int):=ω;by_cases Z:f=0
   rotate_left
   · rw[a8 (λh=>Z h.1)]at d;have T:=η d;have ac:((f:Int)==0)=false:=by simpa using Z
     clear d y Z;go_wp2
     go_ret2
     unfold lu;rw[T.out];exact⟨rfl,C.drewN q,CL⟩
   by_cases o:x.length=0
   · rw[aa ⟨Z,o⟩]at d;have T:=η d;have ac:(f:Int)=0:=ω;have cy:=η o;have D:=pK.out q;rw[o]at D;clear d y Z o
     go_wp2_with fail;refine D.mono ?_;rintro e w5 ⟨rfl,q5,rfl⟩;go_wp2
     go_ret2
     unfold lu;rw[T.out];exact⟨rfl,C.drewN (q+q5),(bb.refl w _).drewN (q+q5)⟩
   rw[a8 (λh=>o h.2)]at d;have T:=η d;have ac:(f:Int)=0:=ω;have Cp:((x.length:Int)==0)=false:=by simpa using o
   have D:=pK.out q;clear d y Z o
   go_wp2_with fail;refine D.mono ?_;rintro e w5 ⟨rfl,q5,rfl⟩;go_wp2
   go_ret2
   unfold lu;rw[T.out];exact⟨rfl,C.drewN (q+q5),(bb.refl w _).drewN (q+q5)⟩
 obtain⟨p,rfl⟩ :∃p,k=p+1:= ⟨k-1,ω⟩;rw[bW]at y⊢;obtain⟨W,AO⟩ :=ν (p+1:Nat);have E:=P8 FP p;have S:=P8 FP (p+1);have CN:=VX FP (LQ y);have MH:(2:Int) ^ (p+1)<=32768:=by have:=gu (show p+1<=15 by omega);simpa using this
 have iu:=uB l hl (v:=p+1) ω
 have DN:ix x p=0\/ix x p=1:=by
  unfold ix;rw[au];cases e:x[p]? with
  | none=>simp
  | some v=>simpa using FP v (cu e)
 have Y:hv x (p+1)=2*hv x p+ix x p:=rfl
 have hdr:(x.take H).drop p=ix x p::(x.take H).drop (p+1):=by
  rw[bQ ξ];congr 1;simp [ix,show p<x.length by omega]
 have mJ:fL ((x.take H).drop p)=ix x p+2*fL ((x.take H).drop (p+1)):=by rw[hdr];rfl
 have pL:=kr ((FP.ua H).dU p);have fG:=gu (show((x.take H).drop p).length<=15 by simp;omega);have P:=lG l l.length (p+1);have z:=kf y;obtain⟨h,hh⟩ :=ν (hv x p);obtain⟨b,hb⟩ :=ν (ix x p);obtain⟨V,F⟩ :=ν (hv x (p+1));obtain⟨N1,KP⟩ :=ν (fL ((x.take H).drop p));obtain⟨N2,SS⟩ :=ν (fL ((x.take H).drop (p+1)));rw[hh,KP];rw[KP,hb,SS]at mJ;rw[KP]at pL;rw[hh]at E Y;rw[F]at S CN Y;rw[hb]at DN Y;have CD:(2:Int) ^ 15=32768:=rfl;have am:0<=N1/\N1<4294967296:=ω;have e1:bits .and .u32 N1 1=b:=by rw[PX am.1 am.2];omega
 have e3:N1/2=N2:=ω;have e2:bits .or .i64 (2*h) b=V:=by rw[WG E.1 (by have:=gu (show p<=15 by omega);omega) DN];exact Y.symm
 have kc:=eT.cell (i:=2+(p+1)) ω
 have r:Hg Al l.length cl Ac l.length cc (cf l 16 0) As (uI l 15).length cs (tu l 15:Nat) (2+(p+1))= .int .i64 (cnt l l.length (p+1):Nat):=by
  unfold Hg;rw[a8 ω,a8 ω,a8 ω,a8 ω,bP,a7j l ω ω]
 rw[r]at kc;have R:below l p<=15*288:=aq (I2 l p) (gD ω hl);obtain⟨K,O⟩ :=ν (nJ l (p+1));obtain⟨ct,L⟩ :=ν (cnt l l.length (p+1));obtain⟨bl,Q⟩ :=ν (below l p);rw[O,Q];rw[L]at kc P;rw[O]at iu CN;rw[Q]at R;have hit:xg l x (p+1)=decide (V<(K:Int)+(ct:Int)):=by unfold xg;rw[F,O,L]
 rw[hit]at z;rw[AO]at kc⊢
 have nB:0<=h/\h<=32768/\0<=V/\V<=32768/\(K:Int)<=V/\(0:Int)<=ct/\(ct:Int)<=288/\(0:Int)<=bl/\(bl:Int)<=4320/\(1:Int)<=W/\(W:Int)<=15/\(W:Int)<=(H:Int)/\(0:Int)<=K:=by
  have:=gu (show p<=15 by omega);omega
 have qY:0<=b/\b<=1:=ω;by_cases cq:V-(K:Int)<(ct:Int)
 rotate_left
 · have s:fh l x (p+1)=0:=by rw[z,a8 ξ]
   have bG:Hid (fh l x (p+1)=0):=s;have lZ:Hid (below l (p+1)=bl+ct):=by show _=_;rw[below,Q,L]
   have QY:Hid (nJ l (p+1+1)=2*(K+ct)):=by show _=_;show 2*(nJ l (p+1)+cnt l l.length (p+1))=_;rw[O,L]
   have HV:=η F;have EO:=η SS;have U:=η AO;clear O L Q hit z s F KP SS hh hb Y mJ fG pL hdr DN R iu P E S CN MH y r CD AO
   go_wp2_with fail;go_roundw
   case rel=>exact⟨W+1,q,ω,ω,by go_num,by rw[bW,<-U.out,HV.out];go_num,by rw[<-U.out,QY.out];go_num,by rw[bW,<-U.out,lZ.out];go_num,by rw[bW,<-U.out,EO.out],by rw[bW,<-U.out];exact bG,rfl⟩
   case measure=>simp [intOf];omega
 have s:fh l x (p+1)=p+1:=by rw[z,aa ξ]
 have ah:fh l x H=p+1:=by rw[sV (m:=p+1) (by rw[s];omega) ω,s]
 obtain⟨J,hJ⟩ :=aF (show 0<=V-(K:Int) by omega);have an:J<ct:=ω;have VJ:=a3K l (n:=p) (m:=15) (j:=J) ω (by rw[L];exact an);rw[Q]at VJ
 have bI:bl+J<(uI l 15).length:=by
  rw[qQ];have:=Li l (show p+1<=15 by omega);rw[below,Q,L]at this;omega
 have B3:aK l (rb I a)=(D6 l (p+1) J,p+1,0):=by
  rw[Ho.out,ah,aa ω,F,O];have:(V-(K:Int)).toNat=J:=ω;rw[this]
 have bt:(bl:Int)+V-(K:Int)=((bl+J:Nat):Int):=ω;have bs:W<=(rb I a).length:=by rw[<-AO];omega
 obtain⟨Sx,al⟩ :=ν (D6 l (p+1) J);rw[al]at VJ B3;obtain⟨SL,G⟩ :=ν ((uI l 15).length:Nat);obtain⟨M,hM⟩ :=ν (bl+J:Nat);rw[hM]at bt VJ;rw[hM,G]at bI;have cv:(0:Int)<=M/\(M:Int)<(SL:Int):=ω;have cg:=η B3;have U:=η AO;have O7:=η G;have a7a:=η VJ;rw[G]at ab;have bi:=C.drewN q;clear O L Q hit z s ah F KP SS hh hb Y mJ fG pL hdr DN R iu P E S CN MH y r CD AO B3 G VJ hJ an hM al
 go_wp2_with fail;refine(Fq _ _ _ _ _ _ _ _ bi u W ω bs).mono ?_;rintro e w5 ⟨rfl,ox,od⟩;have um:bb w w5 (λk=>k=g):=((bb.refl w _).drewN q).trans od λk hk=> .inl hk;have fY:=um.ar eT bv;have be:=fY.az 18;have ap:Hg Al l.length cl Ac l.length cc (cf l 16 0) As (uI l 15).length cs (tu l 15:Nat) 18= .slice As SL cs:=by rw[<-O7.out];rfl
 rw[ap]at be;have bo:=bp.aside um CF cb df;obtain⟨ad,rfl,cr,c5⟩ :=bo.at_ (i:=M) (τ O7.out);rw[a7a.out]at c5;clear ap;go_wp2
 go_ret2
 unfold lu;rw[cg.out,U.out];exact⟨rfl,ox,um⟩
end Go.Proofs.YtgiimmkmjpbecaaGreat
