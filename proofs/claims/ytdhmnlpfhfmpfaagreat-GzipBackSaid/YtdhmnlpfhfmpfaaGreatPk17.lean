/-
  part
-/
import Derived.Test.YtdhmnlpfhfmpfaaGreatPk10
import Derived.Test.YtdhmnlpfhfmpfaaGreatPk16
import Derived.Test.YtdhmnlpfhfmpfaaGreatTab
set_option linter.unusedVariables false
set_option maxRecDepth 100000
set_option maxHeartbeats 4000000
namespace Go.Proofs.YtdhmnlpfhfmpfaaGreat
open Go.RowKit
theorem MU (w:World) (j B d:Nat) (l:aj) (u:Value) (s:Int) (ht:yR w j B d l) (z:l.length<=288) (n:s<0\/(l.length:Int)<=s\/ix l s.toNat=0):
  Calls Tryz.prog 111 #[.pointer (some ⟨d,0,none⟩),u, .int .i64 s] w λe w'=>e= .returned (.bool false)/\w=w':=by
 obtain⟨Al,y,As,cl,cc,cs,v,a,p,o, -⟩ :=ht;have m:=v.cell (i:=0) ω;have g:GD Al l.length cl y l.length cc (cf l 16 0) As (uW l 15).length cs (tK l 15:Nat) 0= .slice Al l.length cl:=rfl;rw[g]at m;have q:(0:Int)<=(l.length:Int)/\(l.length:Int)<=288:=ω;have b:s<0\/(¬s<0/\(l.length:Int)<=s)\/(0<=s/\s<(l.length:Int)/\ix l s.toNat=0):=ω;clear g n;rcases b with h | ⟨h,x⟩ | ⟨h,x,c⟩
 · go_enter Tryz.func111,Tryz.ntmps111;go_wp2;go_ret;exact⟨rfl,rfl⟩
 · go_enter Tryz.func111,Tryz.ntmps111;go_wp2;go_ret;exact⟨rfl,rfl⟩
 obtain⟨k,rfl⟩ :=aJ h;have r:k<l.length:=ω;obtain⟨A,rfl,t,c1⟩ :=a.at_ r;have f:ix l k=0:=by simpa using c
 rw[f]at c1;clear c f;go_enter Tryz.func111,Tryz.ntmps111;go_wp2;go_ret;exact⟨rfl,rfl⟩
def Kw (w:World) (b0 g:Nat) (A:ay) (L:aj) (e:Ending) (w':World):Prop:=
 ∃A' n' c',e= .returned (.bool true)/\qw w' b0 g A' n' c' L/\bk w w' (foot A g)/\(∀k,ak A'=some k->ak A=some k\/w.heap.size<=k)
theorem RF (w:World) (E B y b0 g n c:Nat) (A:ay) (l L:aj) (s:Nat) (ht:yR w E B y l) (u:l.length<=288) (H:qw w b0 g A n c L) (a:L.length<=4000000000000) (j:s<l.length) (S:1<=ix l s) (R:ix l s<=15):
  Calls Tryz.prog 111 #[.pointer (some ⟨y,0,none⟩), .pointer (some ⟨g,0,none⟩), .int .i64 s] w (Kw w b0 g A (L++cR l s)):=by
 obtain⟨Al,t,As,cl,cc,cs,x,k,m,I, -⟩ :=ht;have G:=x.cell (i:=0) ω;have F:=x.cell (i:=1) ω;have D:GD Al l.length cl t l.length cc (cf l 16 0) As (uW l 15).length cs (tK l 15:Nat) 0= .slice Al l.length cl:=rfl;have z:GD Al l.length cl t l.length cc (cf l 16 0) As (uW l 15).length cs (tK l 15:Nat) 1= .slice t l.length cc:=rfl;rw[D]at G;rw[z]at F;have K:(0:Int)<=(s:Int)/\(s:Int)<(l.length:Int)/\(l.length:Int)<=288:=ω;obtain⟨ad,rfl,O,c0⟩ :=k.at_ j;obtain⟨Z,rfl,M,c1⟩ :=m.at_ j;rw[qP l u j]at c1;obtain⟨N,hN⟩ :=aJ (show 0<=ix l s by omega);have Q:1<=(N:Int)/\(N:Int)<=15:=ω;have f:cR l s=dw (Jo (fk l s) N) N:=by unfold cR;rw[hN];rfl
 obtain⟨C,hC⟩ :=ν (fk l s)
 have r:(0:Int)<=C/\(C:Int)<4294967296:=by
  rw[<-hC];unfold fk;have Y:=uO l u (v:=(ix l s).toNat) ω;have W:=lU l s (ix l s).toNat;split <;> omega
 rw[hN]at c0;rw[hC]at c1 f;have b:=WU C N;have hp:=gy (show N<=15 by omega);have J:(2:Int) ^ 15=32768:=rfl;obtain⟨X,q⟩ :=ν (Jo C N);rw[q]at b f;have P:0<=X/\X<4294967296:=ω;have T:=η q;have U:=η f;have d:(N:Int)<=32:=ω;have V:((N:Int)==0)=false:=ξ;clear hN hC q f b hp J S R D z;go_enter Tryz.func111,Tryz.ntmps111
 go_wp2_with fail;refine(MD _ C N r ⟨Q.1,d⟩).mono ?_;rintro e w1 ⟨rfl,rfl⟩;rw[T.out]
 go_wp2_with fail;refine(FQ _ _ _ _ _ _ _ H X N P d a).mono ?_;rintro e w2 ⟨A',n',c',rfl,h,o,p⟩;go_wp2;go_ret;rw[U.out];exact⟨A',n',c',rfl,h,o,p⟩
def a2u (w:World) (b0 g:Nat) (A:ay) (L:aj) (e:Ending) (w':World):Prop:=
 ∃A' n' c' b,e= .returned (.bool b)/\qw w' b0 g A' n' c' L/\bk w w' (foot A g)/\(∀k,ak A'=some k->ak A=some k\/w.heap.size<=k)
theorem C6 (w:World) (d B b b0 g n c:Nat) (A:ay) (l L:aj) (s:Nat) (ht:yR w d B b l) (j:l.length<=288) (f:qw w b0 g A n c L) (a:L.length<=4000000000000) (m:∀i,i<l.length->0<=ix l i/\ix l i<=15):
  Calls Tryz.prog 111 #[.pointer (some ⟨b,0,none⟩), .pointer (some ⟨g,0,none⟩), .int .i64 s] w (a2u w b0 g A (L++cR l s)):=by
 by_cases h:s<l.length/\1<=ix l s
 · refine(RF w d B b b0 g n c A l L s ht j f a h.1 h.2 (m s h.1).2).mono ?_;rintro e w' ⟨A',n',c',rfl,u,t,r⟩;exact⟨A',n',c',true,rfl,u,t,r⟩
 have o:ix l s=0:=by
  by_cases e:s<l.length
  · have:=m s e;omega
  unfold ix;rw[aq,bw ω];rfl
 have q:cR l s=[]:=aG (by rw[fY,o];rfl);refine(MU w d B b l _ s ht j (.inr (.inr (by rw[aX];exact o)))).mono ?_;rintro e w' ⟨rfl,rfl⟩;refine⟨A,n,c,false,rfl, ?_,bk.refl _ _,λk p=> .inl p⟩;rw[q,aA];exact f
theorem mn.fC {w w':World} {B n:Nat} {A:ay} {l:List cy} {S:Nat->Prop} (h:mn w B A n l) (f:bk w w' S) (o:B<=w.heap.size) (k:0<n->∀a,A=some a->¬S a.block):mn w' B A n l:= ⟨h.1,λd=>by
 obtain⟨a,e,g,c⟩ :=h.2 d;have b:∀j,w'.cell? (a.add j)=w.cell? (a.add j):=λj=>f.cell (by rw[bG];omega) (by rw[bG];exact k d a e);exact⟨a,e,g,λi hi=>by obtain⟨c1,c2,m⟩ :=c i hi;exact⟨(b _).trans c1,(b _).trans c2,(b _).trans m⟩⟩⟩
structure kH (w2 wr:World) (b0 g:Nat) (A:ay) (L:aj):Prop where
 RI:∃A' n' c',qw wr b0 g A' n' c' L/\∀k,ak A'=some k->ak A=some k\/w2.heap.size<=k
 fC:bk w2 wr (foot A g)
theorem kH.alloc {w2 wr:World} {b0 g:Nat} {A:ay} {L:aj} (h:kH w2 wr b0 g A L) (o:Obj):kH w2 (wr.alloc o) b0 g A L:=by
 obtain⟨⟨A',n',c',c,b⟩,a⟩ :=h;exact⟨⟨A',n',c',c.keeps ((ax _ wr).alloc (ai _) o),b⟩,a.alloc o⟩
theorem kH.next {w2 wr w':World} {b0 g:Nat} {A A1:ay} {n' c':Nat} {d:aj} {A':ay} (h:bk w2 wr (foot A g)) (wV:∀k,ak A1=some k->ak A=some k\/w2.heap.size<=k) (e:qw w' b0 g A' n' c' d) (f:bk wr w' (foot A1 g)) (c:∀k,ak A'=some k->ak A1=some k\/wr.heap.size<=k):kH w2 w' b0 g A d:=by
 refine⟨⟨A',n',c',e,λk b=> ?_⟩,h.trans f λk b=> ?_⟩
 · rcases c k b with a | a
   · exact wV k a
   exact .inr (aw h.size a)
 rcases b with rfl | b
 · exact .inl (.inl rfl)
 rcases wV k b with a | a
 · exact .inl (.inr a)
 exact .inr a
section
variable {w2 wr:World} {b0 g:Nat} {A:ay} {L:aj}
theorem kH.put (h:kH w2 wr b0 g A L) (V:Int) (N:Nat) (c:0<=V/\V<4294967296) (hN:(N:Int)<=32) (a:L.length<=4000000000000):
  Calls Tryz.prog 68 #[.pointer (some ⟨g,0,none⟩), .int .u32 V, .int .i64 N] wr λe w'=>e= .returned (.tuple #[])/\kH w2 w' b0 g A (L++dw V N):=by
 obtain⟨⟨A1,b,c1,i,f⟩,d⟩ :=h;refine(FQ wr b0 g b c1 A1 L i V N c hN a).mono ?_;rintro e w' ⟨A',n',c',rfl,h4,h5,h6⟩;exact⟨rfl,kH.next d f h4 h5 h6⟩
theorem kH.sym (h:kH w2 wr b0 g A L) {c B f:Nat} {l:aj} (ht:yR w2 c B f l) (p:B<=w2.heap.size) (d:∀k,c<=k->k<B->¬foot A g k) (s:Nat) (n:l.length<=288) (o:∀i,i<l.length->0<=ix l i/\ix l i<=15) (a:L.length<=4000000000000):
  Calls Tryz.prog 111 #[.pointer (some ⟨f,0,none⟩), .pointer (some ⟨g,0,none⟩), .int .i64 s] wr λe w'=>(∃b,e= .returned (.bool b))/\kH w2 w' b0 g A (L++cR l s):=by
 obtain⟨⟨A1,m,c1,r,q⟩,j⟩ :=h;refine(C6 wr c B f b0 g m c1 A1 l L s (ht.fC j p d) n r a o).mono ?_;rintro e w' ⟨A',n',c',b,rfl,h4,h5,h6⟩;exact⟨⟨b,rfl⟩,kH.next j q h4 h5 h6⟩
end
structure Cs (w2 wk wr:World) (p:Nat) (b0 g:Nat) (A:ay) (L:aj):Prop where
 RI:∃A' n' c',qw wr b0 g A' n' c' L/\(∀k,ak A'=some k->ak A=some k\/w2.heap.size<=k)/\¬foot A' g p
 fC:bk w2 wr (foot A g)
 kp:wr.heap[p]?=wk.heap[p]?
 lt:p<wr.heap.size
section
variable {w2 wk wr:World} {p b0 g:Nat} {A:ay} {L:aj}
theorem Cs.new (h:kH w2 wr b0 g A L) (o:Obj):Cs w2 (wr.alloc o) (wr.alloc o) wr.heap.size b0 g A L:=by
 obtain⟨⟨A',n',c',a,c⟩,b⟩ :=h;exact⟨⟨A',n',c',a.keeps ((ax _ wr).alloc (ai _) o),c,λe=>τ ((a.eK e).2)⟩,b.alloc o,rfl,σ⟩
theorem Cs.old (h:Cs w2 wk wr p b0 g A L):kH w2 wr b0 g A L:=by
 obtain⟨⟨A',n',c',c,b,_⟩,a,_,_⟩ :=h;exact⟨⟨A',n',c',c,b⟩,a⟩
theorem Cs.cell (h:Cs w2 wk wr p b0 g A L) {m:Nat} {f:Nat->Value} (a:Ar wk p m f) {i:Nat} (hi:i<m):wr.cell? ⟨p,i,none⟩ =some (f i):=(a.same h.kp).cell hi
theorem Cs.next {w':World} {A1:ay} {n' c':Nat} {i:aj} {A':ay} (h:Cs w2 wk wr p b0 g A L) (a:¬foot A1 g p) (wV:∀k,ak A1=some k->ak A=some k\/w2.heap.size<=k) (f:qw w' b0 g A' n' c' i) (d:bk wr w' (foot A1 g)) (b:∀k,ak A'=some k->ak A1=some k\/wr.heap.size<=k):Cs w2 wk w' p b0 g A i:=by
 obtain⟨m,l⟩ :=kH.next h.fC wV f d b
 refine⟨⟨A',n',c',f,λk j=> ?_,λe=> ?_⟩,l,(d.block p h.lt a).trans h.kp,aB h.lt d.size⟩
 · rcases b k j with c | c
   · exact wV k c
   exact .inr (aw h.fC.size c)
 rcases e with e | e
 · exact a (.inl e)
 rcases b p e with c | c
 · exact a (.inr c)
 have:=h.lt;omega
theorem Cs.put (h:Cs w2 wk wr p b0 g A L) (V:Int) (N:Nat) (c:0<=V/\V<4294967296) (hN:(N:Int)<=32) (a:L.length<=4000000000000):
  Calls Tryz.prog 68 #[.pointer (some ⟨g,0,none⟩), .int .u32 V, .int .i64 N] wr λe w'=>e= .returned (.tuple #[])/\Cs w2 wk w' p b0 g A (L++dw V N):=by
 obtain⟨A1,b,c1,f,d,h4⟩ :=h.RI;refine(FQ wr b0 g b c1 A1 L f V N c hN a).mono ?_;rintro e w' ⟨A',n',c',rfl,h5,h6,h7⟩;exact⟨rfl,h.next h4 d h5 h6 h7⟩
theorem Cs.sym (h:Cs w2 wk wr p b0 g A L) {c B f:Nat} {l:aj} (ht:yR w2 c B f l) (o:B<=w2.heap.size) (d:∀k,c<=k->k<B->¬foot A g k) (s:Nat) (m:l.length<=288) (n:∀i,i<l.length->0<=ix l i/\ix l i<=15) (a:L.length<=4000000000000):
  Calls Tryz.prog 111 #[.pointer (some ⟨f,0,none⟩), .pointer (some ⟨g,0,none⟩), .int .i64 s] wr λe w'=>(∃b,e= .returned (.bool b))/\Cs w2 wk w' p b0 g A (L++cR l s):=by
 obtain⟨A1,j,c1,r,q,h4⟩ :=h.RI;refine(C6 wr c B f b0 g j c1 A1 l L s (ht.fC h.fC o d) m r a n).mono ?_;rintro e w' ⟨A',n',c',b,rfl,h5,h6,h7⟩;exact⟨⟨b,rfl⟩,h.next h4 q h5 h6 h7⟩
end
def TkR (w2:World) (b0 g:Nat) (A:ay) (L lit bm:aj) (au:List cy) (n:Nat) (gk:Nat) (v:Value) (wx:World):Prop:=
 ∃k:Nat,v= .int .i64 k/\k<=n/\Hid (kH w2 wx b0 g A (L++iW lit bm (au.take k)))/\Hid (gk=n-k)
theorem uZ (w:World) (b0 g n c:Nat) (A:ay) (L:aj) (hw:qw w b0 g A n c L) (Bt:Nat) (At:ay) (nt ct:Nat) (au:List cy) (hT:mn w Bt At nt au) (o:Bt<=w.heap.size) (dA:0<nt->∀u,At=some u->¬foot A g u.block)
  (nL:∀t∈au,cF t/\0<=t.lit/\t.lit<256) (l:L.length+48*nt+15<=4000000000000) (Bl:Nat) (Al:ay) (nl cl:Nat) (lit:aj) (hl:bT .i64 w Bl Al nl lit) (ae:Bl<=w.heap.size) (fz:nl<=288) (H:bg lit 15=0)
  (Bd:Nat) (Ad:ay) (nd cd:Nat) (bm:aj) (hd:bT .i64 w Bd Ad nd bm) (K7:Bd<=w.heap.size) (B9:nd<=288) (K:bg bm 15=0):
  Calls Tryz.prog 90 #[.pointer (some ⟨g,0,none⟩), .slice At nt ct, .slice Al nl cl, .slice Ad nd cd] w λe w'=>e= .returned (.tuple #[])/\kH w w' b0 g A (L++kr lit bm au):=by
 have Lj:=oo w Al nl cl Bl lit 15 hl ae fz H;obtain⟨l1,l2, -⟩ :=ln H;obtain⟨d1,d2, -⟩ :=ln K;have N7:=η Lj;have f:=η (⟨l1,l2,d1,d2⟩ :_/\_/\_/\_);have x:=η (⟨hT,o,dA,nL,l⟩ :_/\_/\_/\_/\_);have HD:=η (⟨hd,K7,B9,K⟩ :_/\_/\_/\_);have HW:=η hw;have Qw:(0:Int)<=nt/\(nt:Int)<=4000000000000:=ω;clear Lj l1 l2 d1 d2 hT o dA nL l hd K7 B9 K hw hl ae fz H;go_enter Tryz.func90,Tryz.ntmps90
 go_wp2_with fail;refine N7.out.mono ?_;rintro e w1 ⟨ga,rfl,r,a⟩;have CT:=η (oo w1 Ad nd cd Bd bm 15 (HD.out.1.below (a.mono HD.out.2.1)) (aw HD.out.2.1 a.size) HD.out.2.2.1 HD.out.2.2.2);have al:=η (⟨r,a⟩ :_/\_);clear r a
 go_wp2_with fail;refine CT.out.mono ?_;rintro e w2 ⟨gb,rfl,Il,B⟩;obtain⟨r,a⟩ :=al.out;obtain⟨hT,o,dA,nL,l⟩ :=x.out;have pE:=a.trans (B.mono a.size);have T:kH w2 w2 b0 g A L:= ⟨⟨A,n,c,HW.out.keeps pE,λk hk=> .inl hk⟩,bk.refl _ _⟩;have G:∀k,foot A g k->k<w.heap.size:=λk hk=>(HW.out.eK hk).2
 have C:=η (⟨r.keeps (ai _) B,Il,λk (h:w.heap.size<=k) (_:k<w1.heap.size) e=>τ (G k e),λk (h:w1.heap.size<=k) (_:k<w2.heap.size) e=>ε (G k e) a.size⟩ :
  yR w2 w.heap.size w1.heap.size ga lit/\yR w2 w1.heap.size w2.heap.size gb bm/\(∀k,w.heap.size<=k->k<w1.heap.size->¬foot A g k)/\∀k,w1.heap.size<=k->k<w2.heap.size->¬foot A g k)
 have XU:=η (hT.below (pE.mono o));have ap:=η (aw o pE.size);have wU:=η T;have SQ:=η (⟨pE,B.size⟩ :_/\_);clear Il B r a hT o dA nL l pE T G al CT
 go_wp2_with fail;go_loopg [29] nt (TkR w2 b0 g A L lit bm au nt)
 case atStart=>exact⟨0,rfl,aF _,by have h:=wU.out;show kH w2 w2 b0 g A (L++[]);rw[aA];exact h,rfl⟩
 clear wU;obtain⟨k,rfl,hk,U,hg⟩ :=hrel;by_cases p:k<nt
 rotate_left
 · obtain rfl:k=nt:=ω;have pM:¬(k:Int)<(k:Int):=ω;have jJ:au.take k=au:=aC (by rw[<-x.out.1.1];exact ai _);have F:=U.out;rw[jJ]at F
   have z:(L++iW lit bm au).length<=4000000000000:=by
    have h1:=zK f.out.2.1 f.out.2.2.2 au λt ht=>(x.out.2.2.2.1 t ht).1;have:=x.out.2.2.2.2;have:=x.out.1.1;rw[ag];omega
   have P6:=η (F.sym C.out.1 SQ.out.2 C.out.2.2.1 256 f.out.1 f.out.2.1 z);clear F z jJ U p hg
   go_wp2_with fail;refine P6.out.mono ?_;rintro e w5 ⟨⟨b,rfl⟩,h5⟩
   have cu:Hid (kH w w5 b0 g A (L++kr lit bm au)):=by
    obtain⟨⟨A',n',c',q1,q2⟩,q3⟩ :=h5;refine⟨⟨A',n',c',by unfold kr;rw[<-av];exact q1,λq J=> ?_⟩,(bk.bJ SQ.out.1).trans q3 λq J=> .inl J⟩;rcases q2 q J with h | h
    · exact .inl h
    exact .inr (aw SQ.out.1.size h)
   clear h5
   go_wp2_with fail;go_end0;exact⟨rfl,cu.out⟩
 have pM:(k:Int)<(nt:Int)/\(0:Int)<=(k:Int):=ω;have ab:=XU.out.fC U.out.fC ap.out (λh0 u e=>x.out.2.2.1 h0 u e);obtain⟨u,hA,z,V⟩ :=ab.2 ω;obtain⟨a0,a1,a2⟩ :=V k p;rw[lj _ _ _ ω]at a1 a2;have xG:k<au.length:=by rw[<-x.out.1.1];exact p
 have S:=x.out.2.2.2.1 (dV au k) (by
  have e:dV au k=au[k]:=by simp [dV,xG]
  rw[e];exact bU xG)
 have jA:=wQ xG;obtain⟨⟨T0,N,D⟩,ht⟩ :∃t:cy,dV au k=t:= ⟨_,rfl⟩;rw[ht]at a0 a1 a2 S jA;obtain⟨m,rfl⟩ :∃m:Nat,T0=(m:Int):= ⟨T0.toNat,by have:=S.2.1;have h:0<=T0:=this;omega⟩;replace a0:wr.cell? (u.add (k*3))=some (.int .u8 (m:Int)):=a0;replace a1:wr.cell? { block:=(u.add (k*3)).block,off:=(u.add (k*3)).off+1 }=some (.int .i64 N):=a1;replace a2:wr.cell? { block:=(u.add (k*3)).block,off:=(u.add (k*3)).off+2 }=some (.int .i64 D):=a2
 have Y:(L++iW lit bm (au.take k)).length<=3999999999952:=by
  have h1:=zK f.out.2.1 f.out.2.2.2 (au.take k) λt ht=>(x.out.2.2.2.1 t (aO ht)).1;have:=x.out.2.2.2.2;rw[aD]at h1;rw[ag];have:min k au.length<=k:=eW _ _;omega
 have qs:=η (show L++iW lit bm (au.take (k+1))=(L++iW lit bm (au.take k))++tv lit bm ⟨(m:Int),N,D⟩ by rw[jA,Ei,Ej,av]);have an:=η S;have aE:(0:Int)<=(m:Int)/\(m:Int)<256:=S.2;have s:=η Y;have oG:=η p;clear ab V ht jA S Y z xG p;subst hA;by_cases Lp:N=0
 · subst Lp;have QG:=(U.out.alloc (.cells #[.int .u8 (m:Int), .int .i64 0, .int .i64 D] 109)).sym C.out.1 SQ.out.2 C.out.2.2.1 m f.out.1 f.out.2.1 (τ s.out);have P6:=η QG
   have cu:Hid (∀w',kH w2 w' b0 g (L:=(L++iW lit bm (au.take k))++cR lit m) A->kH w2 w' b0 g A (L++iW lit bm (au.take (k+1)))):=λw' h=>by
    rw[qs.out];unfold tv;rw[af rfl];exact h
   clear QG
   go_wp2_with fail;refine P6.out.mono ?_;rintro e w5 ⟨⟨b,rfl⟩,h5⟩;have h6:=η (cu.out w5 h5);clear h5 cu
   go_wp2_with fail;go_roundg (nt-(k+1))
   case measure=>have:=hg.out;have:=oG.out;omega
   case rel=>exact⟨k+1,by go_num,oG.out,h6,rfl⟩
 obtain⟨⟨I,d⟩, ⟨d1,d2⟩,SE,SH⟩ :=tz an.out.1 Lp;replace I:3<=N:=I;replace d:N<=258:=d;replace d1:1<=D:=d1;replace d2:D<=32768:=d2;have v1:=(mN I).a2c d;have P:=(mN I).2.1;have v2:=(kY d1).a2b d2;have O:=(kY d1).2.1;have Gx:=(IY (jm N) (by have:jm N<=28:=SE;omega)).2.2;have yT:=(KU (fj D) (by have:fj D<=29:=SH;omega)).2.2;have Ut:jm N<=28:=SE;have Uw:fj D<=29:=SH;have pN:(2:Nat) ^ lE (jm N)<=2 ^ 5:=bC ω Gx;have IJ:(2:Nat) ^ dE (fj D)<=2 ^ 13:=bC ω yT;have Q:=Cs.new U.out (.cells #[.int .u8 (m:Int), .int .i64 N, .int .i64 D] 109);have R:=BZ wr (m:Int) N D 109;have X:=sP N (wr.alloc (.cells #[.int .u8 (m:Int), .int .i64 N, .int .i64 D] 109));have K:∀W,Calls Tryz.prog 113 #[.int .i64 D] W (oc dB dE 1 32768 0 29 D W):=λW=>qE D W
 have Z:Hid (tv lit bm ⟨(m:Int),N,D⟩ =cR lit (257+jm N)++dw (N-((lB (jm N):Nat):Int)) (lE (jm N))++cR bm (fj D)++dw (D-((dB (fj D):Nat):Int)) (dE (fj D))):=by
  show _=_;unfold tv;rw[aa Lp]
 have H:=λv (h:kV lB lE 3 258 257 28 N v)=>Ae h ⟨I,d⟩;have Lx:=λv (h:kV dB dE 1 32768 0 29 D v)=>xp h ⟨d1,d2⟩;obtain⟨j,hj⟩ :=ν (jm N);obtain⟨q,J⟩ :=ν (fj D);rw[hj]at v1 P Gx Ut pN Z H;rw[J]at v2 O yT Uw IJ Z Lx;obtain⟨E1,y⟩ :=ν (lE j);obtain⟨E2,V3⟩ :=ν (dE q);obtain⟨V1,pj⟩ :=ν (N-((lB j:Nat):Int));obtain⟨V2,E⟩ :=ν (D-((dB q:Nat):Int));obtain⟨M,ac⟩ :=ν (257+j);rw[pj,y,ac]at Z;rw[E,V3]at Z;have Ux:(257:Int)+(j:Int)=(M:Int):=ω;have RO:Hid (∀v,kV lB lE 3 258 257 28 N v->v= .tuple #[.int .i64 (M:Int), .int .i64 (E1:Int), .int .i64 V1]):=λv h=>by have:=H v h;rw[this,pj,y,Ux]
 have RN:Hid (∀v,kV dB dE 1 32768 0 29 D v->v= .tuple #[.int .i64 (q:Int), .int .i64 (E2:Int), .int .i64 V2]):=λv h=>by have:=Lx v h;rw[this,E,V3]
 rw[y]at Gx pN v1;rw[V3]at yT IJ v2;have bi:0<=V1/\V1<32:=by have h5:(2:Nat) ^ 5=32:=rfl;omega
 have be:0<=V2/\V2<8192:=by have h5:(2:Nat) ^ 13=8192:=rfl;omega
 have bo:(0:Int)<=(E1:Int)/\(E1:Int)<=5/\(0:Int)<=(E2:Int)/\(E2:Int)<=13:=ω;have Ev:=η X;have yf:=η K;have P5:=η (Q.sym C.out.1 SQ.out.2 C.out.2.2.1 M f.out.1 f.out.2.1 (τ s.out));have RU:=η R;have bl:(N==0)=false:=by simpa using Lp
 clear v1 P v2 O Gx yT Ut Uw pN IJ Q R X K H Lx hj J y V3 pj E ac Ux I d d1 d2 SE SH
 go_wp2_with fail;refine Ev.out.mono ?_;rintro e w5 ⟨⟨v,rfl,hv⟩,rfl⟩;rw[RO.out v hv];clear hv
 go_wp2_with fail;refine P5.out.mono ?_;rintro e w6 ⟨⟨b6,rfl⟩,h6⟩;have vh:=η (h6.put V1 E1 ω ω (by have:=s.out;have:=pK f.out.2.1 M;rw[ag];omega));clear h6
 go_wp2_with fail;refine vh.out.mono ?_;rintro e w7 ⟨rfl,h7⟩;have cd:w7.cell? ⟨wr.heap.size,2,none⟩ =some (.int .i64 D):=h7.cell RU.out (i:=2) ω;have ao:=η (h7.sym C.out.2.1 (ai _) C.out.2.2.2 q f.out.2.2.1 f.out.2.2.2 (by have:=s.out;have:=pK f.out.2.1 M;rw[ag,ag,aR];omega));clear h7
 go_wp2_with fail;refine(yf.out _).mono ?_;rintro e w8 ⟨⟨v,rfl,hv⟩,rfl⟩;rw[RN.out v hv];clear hv cd
 go_wp2_with fail;refine ao.out.mono ?_;rintro e w9 ⟨⟨b9,rfl⟩,h9⟩;have Ex:=η (h9.put V2 E2 ω ω (by have:=s.out;have:=pK f.out.2.1 M;have:=pK f.out.2.2.2 q;rw[ag,ag,ag,aR];omega));clear h9
 go_wp2_with fail;refine Ex.out.mono ?_;rintro e Gi ⟨rfl,ah⟩
 have am:=η (show kH w2 Gi b0 g A (L++iW lit bm (au.take (k+1))) from by
  have h:=ah.old;rw[qs.out,Z.out]
  simpa [List.append_assoc] using h)
 clear ah
 go_wp2_with fail;go_roundg (nt-(k+1))
 case measure=>have:=hg.out;have:=oG.out;omega
 case rel=>exact⟨k+1,by go_num,oG.out,am,rfl⟩
theorem kH.keeps {w2 wr w':World} {b0 g:Nat} {A:ay} {L:aj} (h:kH w2 wr b0 g A L) (a:Below wr.heap.size wr w'):kH w2 w' b0 g A L:=by
 obtain⟨⟨A',n',c',e,d⟩,c⟩ :=h;exact⟨⟨A',n',c',e.keeps a,d⟩,c.trans (S':=λ_=>False) (bk.bJ a) λk b=>b.elim⟩
theorem kH.start {w w1:World} {b0 g n c:Nat} {A:ay} {L:aj} (b:qw w b0 g A n c L) (a:Below w.heap.size w w1):kH w w1 b0 g A L:=
 ⟨⟨A,n,c,b.keeps a,λk d=> .inl d⟩,bk.bJ a⟩
theorem JX (w:World) (b0 g n c:Nat) (A:ay) (L:aj) (D:qw w b0 g A n c L) (At:ay) (nt ct:Nat) (au:List cy) (d:mn w w.heap.size At nt au) (b:0<nt->∀p,At=some p->¬foot A g p.block) (v:∀t∈au,0<=t.lit/\t.lit<256)
  (Ar:ay) (m cr:Nat) (last:Bool) (u:dS 1 au m=true) (a:L.length<=3000000000000):
  Calls Tryz.prog 65 #[.pointer (some ⟨g,0,none⟩), .int .i64 1, .slice At nt ct, .slice Ar m cr, .bool last] w λe w'=>e= .returned (.bool true)/\kH w w' b0 g A (L++dw (if last then 1 else 0) 1++dw 1 2++kr im iU au):=by
 have Q:au.length<1048576/\∀t∈au,cF t:=by
  unfold dS at u;rw[aa δ]at u;by_cases h:¬((1:Int)=1\/(1:Int)=2)\/1048576<=au.length
  · rw[af h]at u;exact absurd u δ
  rw[aa h,gM]at u;exact⟨ω,λt ht=>cP (u t ht)⟩
 have E:=d.1;have HM:=η (qV w 1 At nt ct au d ω Ar m cr);have HF:=η u;have x:=η (⟨D,d,b,v,Q.1,Q.2,a,E⟩ :_/\_/\_/\_/\_/\_/\_/\_);clear d u D b v Q a E;obtain⟨mk,R⟩ :=ν ((if last=true then(1:Int)else 0):Int);have J:mk=if last=true then(1:Int)else 0:=R.symm;rw[R];clear R;cases last with
 | false=>
   obtain rfl:mk=0:=J;go_enter Tryz.func65,Tryz.ntmps65
   go_wp2_with fail;refine HM.out.mono ?_;rintro e w1 ⟨rfl,k⟩;rw[HF.out];have V:=η (kH.start x.out.1 k);have X:=η (V.out.put 0 1 δ δ (τ x.out.2.2.2.2.2.2.1));clear k
   go_wp2_with fail;refine X.out.mono ?_;rintro e w2 ⟨rfl,M⟩;have W:=η (M.put 1 2 δ δ (by rw[ag,aR];have:=x.out.2.2.2.2.2.2.1;omega));clear M
   go_wp2_with fail;refine W.out.mono ?_;rintro e O ⟨rfl,K⟩;have Y:=η K;clear K
   go_wp2_with fail;refine(pV O).mono ?_;rintro e q ⟨Af,cf,Z,cg,rfl,I,H,j⟩;obtain⟨D,d,b,v,y,G,a,E⟩ :=x.out;have h4:=Y.out.keeps j;obtain⟨⟨A4,P,U,f,Ck⟩,r⟩ :=h4;have l:mn q w.heap.size At nt au:=d.fC r (ai _) b
   have F:=uZ q b0 g P U A4 _ f w.heap.size At nt ct au l r.size (λB p e i=>by
     have T:p.block<w.heap.size:=by
      obtain⟨Cw,s,z,_⟩ :=d.2 B;rw[e]at s;injection s with s;rw[s];exact z
     rcases i with i | i
     · exact b B p e (.inl i)
     rcases Ck _ i with h | h
     · exact b B p e (.inr h)
     omega)
    (λt ht=> ⟨G t ht,v t ht⟩) (by rw[ag,ag,aR,aR];omega) q.heap.size Af 288 cf im I.rd (ai _) δ mI.1 q.heap.size Z 32 cg iU H.rd (ai _) δ mI.2
   have C:=η F;have o:=η (⟨Ck,r⟩ :_/\_);clear F l f Ck r D d b v y G a E I H j
   go_wp2_with fail;refine C.out.mono ?_;rintro e N ⟨rfl,h5⟩
   have S:=η (show kH w N b0 g A (L++dw 0 1++dw 1 2++kr im iU au) from by
    obtain⟨⟨A5,n5,c5,q1,q2⟩,q3⟩ :=h5;exact kH.next o.out.2 o.out.1 q1 q3 q2)
   clear h5
   go_wp2_with fail;go_ret;exact⟨rfl,S.out⟩
 | true=>
   obtain rfl:mk=1:=J;go_enter Tryz.func65,Tryz.ntmps65
   go_wp2_with fail;refine HM.out.mono ?_;rintro e w1 ⟨rfl,k⟩;rw[HF.out];have V:=η (kH.start x.out.1 k);have X:=η (V.out.put 1 1 δ δ (τ x.out.2.2.2.2.2.2.1));clear k
   go_wp2_with fail;refine X.out.mono ?_;rintro e w2 ⟨rfl,M⟩;have W:=η (M.put 1 2 δ δ (by rw[ag,aR];have:=x.out.2.2.2.2.2.2.1;omega));clear M
   go_wp2_with fail;refine W.out.mono ?_;rintro e O ⟨rfl,K⟩;have Y:=η K;clear K
   go_wp2_with fail;refine(pV O).mono ?_;rintro e q ⟨Af,cf,Z,cg,rfl,I,H,j⟩;obtain⟨D,d,b,v,y,G,a,E⟩ :=x.out;have h4:=Y.out.keeps j;obtain⟨⟨A4,P,U,f,Ck⟩,r⟩ :=h4;have l:mn q w.heap.size At nt au:=d.fC r (ai _) b
   have F:=uZ q b0 g P U A4 _ f w.heap.size At nt ct au l r.size (λB p e i=>by
     have T:p.block<w.heap.size:=by
      obtain⟨Cw,s,z,_⟩ :=d.2 B;rw[e]at s;injection s with s;rw[s];exact z
     rcases i with i | i
     · exact b B p e (.inl i)
     rcases Ck _ i with h | h
     · exact b B p e (.inr h)
     omega)
    (λt ht=> ⟨G t ht,v t ht⟩) (by rw[ag,ag,aR,aR];omega) q.heap.size Af 288 cf im I.rd (ai _) δ mI.1 q.heap.size Z 32 cg iU H.rd (ai _) δ mI.2
   have C:=η F;have o:=η (⟨Ck,r⟩ :_/\_);clear F l f Ck r D d b v y G a E I H j
   go_wp2_with fail;refine C.out.mono ?_;rintro e N ⟨rfl,h5⟩
   have S:=η (show kH w N b0 g A (L++dw 1 1++dw 1 2++kr im iU au) from by
    obtain⟨⟨A5,n5,c5,q1,q2⟩,q3⟩ :=h5;exact kH.next o.out.2 o.out.1 q1 q3 q2)
   clear h5
   go_wp2_with fail;go_ret;exact⟨rfl,S.out⟩
theorem Tl (w:World) (kind:Int) (At:ay) (nt ct:Nat) (au:List cy) (c:mn w w.heap.size At nt au) (d:(nt:Int)<=4611686018427387904) (Ar:ay) (m cr:Nat) (b:dS kind au m=false):
  Calls Tryz.prog 93 #[.int .i64 kind, .slice At nt ct, .slice Ar m cr] w λe w'=>e= .returned (.int .i64 (-1))/\Below w.heap.size w w':=by
 have f:=η (qV w kind At nt ct au c d Ar m cr);have g:=η b;clear c b;go_enter Tryz.func93,Tryz.ntmps93
 go_wp2_with fail;refine f.out.mono ?_;rintro e w1 ⟨rfl,a⟩;rw[g.out]
 go_wp2_with fail;go_ret;exact⟨rfl,a⟩
theorem EE (w:World) (At:ay) (nt ct:Nat) (au:List cy) (c:mn w w.heap.size At nt au) (d:(nt:Int)<=4611686018427387904) (Ar:ay) (m cr:Nat) (b:m<=65535):
  Calls Tryz.prog 93 #[.int .i64 0, .slice At nt ct, .slice Ar m cr] w λe w'=>e= .returned (.int .i64 (40+8*(m:Int)))/\Below w.heap.size w w':=by
 have f:=η (qV w 0 At nt ct au c d Ar m cr);have g:=η (show dS 0 au m=true by unfold dS;rw[af rfl];exact aS b);have h:(0:Int)<=(m:Int)/\(m:Int)<=65535:=ω;clear c b;go_enter Tryz.func93,Tryz.ntmps93
 go_wp2_with fail;refine f.out.mono ?_;rintro e w1 ⟨rfl,a⟩;rw[g.out]
 go_wp2_with fail;go_ret;exact⟨rfl,a⟩
structure DM where
 gi:Nat
 Ai:ay
 ni:Nat
 ci:Nat
 B:aj
 a:Nat
 gw:Nat
 Aw:ay
 nw:Nat
 cw:Nat
 l:aj
 Ao:ay
 no:Nat
 co:Nat
 out:aj
 Al:ay
 nl:Nat
 cl:Nat
 lens:aj
 hp:ay
 lp:ay
 dp:ay
 hd:Option (aj)
 lt:Option (aj)
 ds:Option (aj)
structure DS where
 most:Nat
 err:Int
 st:Nat
 last:Bool
 left:Nat
 c0:Nat
 c1:Nat
 c2:Nat
 len:Nat
def dF (M:DM) (S:DS):Nat->Value
 | 0=> .pointer (some ⟨M.gi,0,none⟩)
 | 1=> .pointer (some ⟨M.gw,0,none⟩)
 | 2=> .int .i64 S.most
 | 3=> .slice M.Ao M.no M.co
 | 4=> .int .i64 S.err
 | 5=> .int .i64 S.st
 | 6=> .bool S.last
 | 7=> .int .i64 S.left
 | 8=> .int .i64 S.c0
 | 9=> .int .i64 S.c1
 | 10=> .int .i64 S.c2
 | 11=> .slice M.Al M.nl M.cl
 | 12=> .pointer M.hp
 | 13=> .pointer M.lp
 | 14=> .pointer M.dp
 | _=> .int .i64 S.len
theorem fg {P:Nat->Prop} (n:P 0) (m:P 1) (i:P 2) (h:P 3) (h4:P 4) (h5:P 5) (h6:P 6) (h7:P 7) (g:P 8) (f:P 9) (d:P 10) (c:P 11) (l:P 12) (b:P 13) (a:P 14) (k:P 15):
  ∀j,j<16->P j:=λj e=>by
 obtain rfl | rfl | rfl | rfl | rfl | rfl | rfl | rfl | rfl | rfl | rfl | rfl | rfl | rfl | rfl | rfl:j=0\/j=1\/j=2\/j=3\/j=4\/j=5\/j=6\/j=7\/j=8\/j=9\/j=10\/j=11\/j=12\/j=13\/j=14\/j=15:=ω;all_goals assumption
def l9 (w:World) (b0:Nat) (c:Nat->Nat) (p:ay) (l:aj):Prop:=
 ∃a B b,p=some ⟨b,0,none⟩/\yR w a B b l/\b0<=a/\B<=w.heap.size/\l.length<=288/\∀k,a<=k->k<B->c k=6
structure jg (w:World) (b0 g:Nat) (c:Nat->Nat) (M:DM) (S:DS):Prop where
 cell:Ar w g 16 (dF M S)
 cg:c g=1
 mC:qu w b0 M.gi M.Ai M.ni M.ci M.B M.a
 cr:∀k,foot M.Ai M.gi k->c k=2
 Gj:zn w b0 M.gw M.Aw M.nw M.cw M.l
 cw:∀k,foot M.Aw M.gw k->c k=3
 out:ba .u8 w b0 5 M.Ao M.no M.co M.out
 co:∀k,ak M.Ao=some k->c k=4
 lens:ba .i64 w b0 3 M.Al M.nl M.cl M.lens
 cl:∀k,ak M.Al=some k->c k=5
 th:∀l,M.hd=some l->l9 w b0 c M.hp l
 tl:∀l,M.lt=some l->l9 w b0 c M.lp l
 td:∀l,M.ds=some l->l9 w b0 c M.dp l
 cb:∀k,c k≠0->b0<=k/\k<w.heap.size
 bB:M.B.length<=100000000000
def bF (w0:World) (c0:Nat->Nat) (w:World) (b0 g:Nat) (M:DM) (S:DS):Prop:=∃c,jg w b0 g c M S/\DE b0 w0 c0 w c
section
variable {w w' w0:World} {b0 g:Nat} {c c0:Nat->Nat} {M:DM} {S:DS}
theorem jg.refl (h:jg w b0 g c M S):bF w c w b0 g M S:= ⟨c,h,ax _ _,bk.refl _ _,λ_ _=>rfl⟩
theorem jg.lo (h:jg w b0 g c M S):b0<=w.heap.size:=by have:=h.cb g (by rw[h.cg];decide);omega
theorem l9.fC {c':Nat->Nat} {F:Nat->Prop} {p:ay} {l:aj} (h:l9 w b0 c p l) (d:bk w w' F) (hF:∀k,F k->c k≠6) (g:∀k,k<w.heap.size->c' k=c k):l9 w' b0 c' p l:=by
 obtain⟨e,B,n,m,j,i,h4,h5,h6⟩ :=h;exact⟨e,B,n,m,j.fC d h4 (λk b a f=>hF k f (h6 k b a)),i,aw h4 d.size,h5,λk b a=>(g k ω).trans (h6 k b a)⟩
theorem jg.reader (h:jg w b0 g c M S) (m:bk w w' (foot M.Ai M.gi)) {A':ay} {n' c' a':Nat} {B':aj} (q:qu w' b0 M.gi A' n' c' B' a') (hf:∀k,foot A' M.gi k->foot M.Ai M.gi k\/w.heap.size<=k) (r:B'.length<=100000000000):
  jg w' b0 g (cW c w.heap.size (foot A' M.gi) 2) { M with Ai:=A',ni:=n',ci:=c',B:=B',a:=a' } S:=by
 have hF:∀k,foot M.Ai M.gi k->c k=2:=h.cr;have p:∀k i,c k=i->i≠0->k<w.heap.size:=λk i j f=>(h.cb k ω).2;have d:∀k,k<w.heap.size->cW c w.heap.size (foot A' M.gi) 2 k=c k:=λk b=>cC b;have o:∀k i,c k=i->i≠0->cW c w.heap.size (foot A' M.gi) 2 k=i:=λk i j f=>(d k (p k i j f)).trans j
 exact⟨m.ar h.cell (λe=>by have:=hF g e;have:=h.cg;omega),o _ _ h.cg δ,q,λk b=>by
   rcases aV k w.heap.size with j | j
   · rcases hf k b with f | f
     · exact o k 2 (hF k f) δ
     omega
   exact fO j b,
  h.Gj.fC m (λk b e=>by have:=hF k e;have:=h.cw k b;omega),λk b=>o k 3 (h.cw k b) δ,
  m.dX h.out (λk b e=>by have:=hF k e;have:=h.co k b;omega),λk b=>o k 4 (h.co k b) δ,
  m.dX h.lens (λk b e=>by have:=hF k e;have:=h.cl k b;omega),λk b=>o k 5 (h.cl k b) δ,
  λl n=>(h.th l n).fC m (λk b e=>by have:=hF k b;omega) d,λl n=>(h.tl l n).fC m (λk b e=>by have:=hF k b;omega) d,λl n=>(h.td l n).fC m (λk b e=>by have:=hF k b;omega) d,
  λk b=>by
   rcases gq b with ⟨j,f⟩ | ⟨j,f⟩
   · exact⟨(h.cb k f).1,aB j m.size⟩
   exact q.eK f,r⟩
theorem jg.Ca (h:jg w b0 g c M S) (j:bk w w' (foot M.Aw M.gw)) {A':ay} {n' c':Nat} {l':aj} (p:zn w' b0 M.gw A' n' c' l') (hf:∀k,foot A' M.gw k->foot M.Aw M.gw k\/w.heap.size<=k):
  jg w' b0 g (cW c w.heap.size (foot A' M.gw) 3) { M with Aw:=A',nw:=n',cw:=c',l:=l' } S:=by
 have hF:∀k,foot M.Aw M.gw k->c k=3:=h.cw;have o:∀k i,c k=i->i≠0->k<w.heap.size:=λk i f d=>(h.cb k ω).2;have b:∀k,k<w.heap.size->cW c w.heap.size (foot A' M.gw) 3 k=c k:=λk a=>cC a;have n:∀k i,c k=i->i≠0->cW c w.heap.size (foot A' M.gw) 3 k=i:=λk i f d=>(b k (o k i f d)).trans f
 exact⟨j.ar h.cell (λe=>by have:=hF g e;have:=h.cg;omega),n _ _ h.cg δ,
  h.mC.fC j (λk a e=>by have:=hF k e;have:=h.cr k a;omega),λk a=>n k 2 (h.cr k a) δ,p,λk a=>by
   rcases aV k w.heap.size with f | f
   · rcases hf k a with d | d
     · exact n k 3 (hF k d) δ
     omega
   exact fO f a,
  j.dX h.out (λk a e=>by have:=hF k e;have:=h.co k a;omega),λk a=>n k 4 (h.co k a) δ,
  j.dX h.lens (λk a e=>by have:=hF k e;have:=h.cl k a;omega),λk a=>n k 5 (h.cl k a) δ,
  λl m=>(h.th l m).fC j (λk a e=>by have:=hF k a;omega) b,λl m=>(h.tl l m).fC j (λk a e=>by have:=hF k a;omega) b,λl m=>(h.td l m).fC j (λk a e=>by have:=hF k a;omega) b,
  λk a=>by
   rcases gq a with ⟨f,d⟩ | ⟨f,d⟩
   · exact⟨(h.cb k d).1,aB f j.size⟩
   exact p.eK d,h.bB⟩
theorem jg.outs (h:jg w b0 g c M S) (j:bk w w' (λk=>k=g\/ak M.Ao=some k)) {A':ay} {n' c':Nat} {l':aj} {S':DS} (q:Ar w' g 16 (dF { M with Ao:=A',no:=n',co:=c',out:=l' } S')) (p:ba .u8 w' b0 5 A' n' c' l')
  (hf:∀k,ak A'=some k->ak M.Ao=some k\/w.heap.size<=k):
  jg w' b0 g (cW c w.heap.size (λk=>ak A'=some k) 4) { M with Ao:=A',no:=n',co:=c',out:=l' } S':=by
 have hF:∀k,(k=g\/ak M.Ao=some k)->c k=1\/c k=4:=λk a=>by
  rcases a with rfl | a
  · exact .inl h.cg
  exact .inr (h.co k a)
 have o:∀k i,c k=i->i≠0->k<w.heap.size:=λk i f d=>(h.cb k ω).2;have b:∀k,k<w.heap.size->cW c w.heap.size (λk=>ak A'=some k) 4 k=c k:=λk a=>cC a;have n:∀k i,c k=i->i≠0->cW c w.heap.size (λk=>ak A'=some k) 4 k=i:=λk i f d=>(b k (o k i f d)).trans f
 exact⟨q,n _ _ h.cg δ,
  h.mC.fC j (λk a e=>by have:=hF k e;have:=h.cr k a;omega),λk a=>n k 2 (h.cr k a) δ,
  h.Gj.fC j (λk a e=>by have:=hF k e;have:=h.cw k a;omega),λk a=>n k 3 (h.cw k a) δ,p,λk a=>by
   rcases aV k w.heap.size with f | f
   · rcases hf k a with d | d
     · exact n k 4 (h.co k d) δ
     omega
   exact fO f a,
  j.dX h.lens (λk a e=>by have:=hF k e;have:=h.cl k a;omega),λk a=>n k 5 (h.cl k a) δ,
  λl m=>(h.th l m).fC j (λk a e=>by have:=hF k a;omega) b,λl m=>(h.tl l m).fC j (λk a e=>by have:=hF k a;omega) b,λl m=>(h.td l m).fC j (λk a e=>by have:=hF k a;omega) b,
  λk a=>by
   rcases gq a with ⟨f,d⟩ | ⟨f,d⟩
   · exact⟨(h.cb k d).1,aB f j.size⟩
   exact p.2.lt d,h.bB⟩
theorem jg.FD (h:jg w b0 g c M S) (j:bk w w' (λk=>k=g\/ak M.Al=some k)) {A':ay} {n' c':Nat} {l':aj} {S':DS} (q:Ar w' g 16 (dF { M with Al:=A',nl:=n',cl:=c',lens:=l' } S')) (p:ba .i64 w' b0 3 A' n' c' l')
  (hf:∀k,ak A'=some k->ak M.Al=some k\/w.heap.size<=k):
  jg w' b0 g (cW c w.heap.size (λk=>ak A'=some k) 5) { M with Al:=A',nl:=n',cl:=c',lens:=l' } S':=by
 have hF:∀k,(k=g\/ak M.Al=some k)->c k=1\/c k=5:=λk a=>by
  rcases a with rfl | a
  · exact .inl h.cg
  exact .inr (h.cl k a)
 have o:∀k i,c k=i->i≠0->k<w.heap.size:=λk i f d=>(h.cb k ω).2;have b:∀k,k<w.heap.size->cW c w.heap.size (λk=>ak A'=some k) 5 k=c k:=λk a=>cC a;have n:∀k i,c k=i->i≠0->cW c w.heap.size (λk=>ak A'=some k) 5 k=i:=λk i f d=>(b k (o k i f d)).trans f
 exact⟨q,n _ _ h.cg δ,
  h.mC.fC j (λk a e=>by have:=hF k e;have:=h.cr k a;omega),λk a=>n k 2 (h.cr k a) δ,
  h.Gj.fC j (λk a e=>by have:=hF k e;have:=h.cw k a;omega),λk a=>n k 3 (h.cw k a) δ,
  j.dX h.out (λk a e=>by have:=hF k e;have:=h.co k a;omega),λk a=>n k 4 (h.co k a) δ,p,λk a=>by
   rcases aV k w.heap.size with f | f
   · rcases hf k a with d | d
     · exact n k 5 (h.cl k d) δ
     omega
   exact fO f a,
  λl m=>(h.th l m).fC j (λk a e=>by have:=hF k a;omega) b,λl m=>(h.tl l m).fC j (λk a e=>by have:=hF k a;omega) b,λl m=>(h.td l m).fC j (λk a e=>by have:=hF k a;omega) b,
  λk a=>by
   rcases gq a with ⟨f,d⟩ | ⟨f,d⟩
   · exact⟨(h.cb k d).1,aB f j.size⟩
   exact p.2.lt d,h.bB⟩
theorem jg.keeps (h:jg w b0 g c M S) (b:Below w.heap.size w w'):jg w' b0 g c M S:=by
 have e:bk w w' (λ_=>False):=bk.bJ b
 exact⟨h.cell.keeps b,h.cg,h.mC.keeps b,h.cr,h.Gj.keeps b,h.cw,h.out.keeps b,h.co,h.lens.keeps b,h.cl,
  λl d=>(h.th l d).fC e (λk a=>a.elim) (λ_ _=>rfl),λl d=>(h.tl l d).fC e (λk a=>a.elim) (λ_ _=>rfl),λl d=>(h.td l d).fC e (λk a=>a.elim) (λ_ _=>rfl),
  λk a=> ⟨(h.cb k a).1,aB (h.cb k a).2 b.size⟩,h.bB⟩
theorem bF.reader (h:bF w0 c0 w b0 g M S) (d:bk w w' (foot M.Ai M.gi)) {A':ay} {n' c' a':Nat} {B':aj} (e:qu w' b0 M.gi A' n' c' B' a') (hf:∀k,foot A' M.gi k->foot M.Ai M.gi k\/w.heap.size<=k) (f:B'.length<=100000000000):
  bF w0 c0 w' b0 g { M with Ai:=A',ni:=n',ci:=c',B:=B',a:=a' } S:=by
 obtain⟨c,h,hd⟩ :=h;exact⟨_,h.reader d e hf f,hd.step h.lo (λk b=>(h.cb k b).1) (d.more λk b=>by rw[h.cr k b];decide) λk b=>cC b⟩
theorem bF.moved (h:bF w0 c0 w b0 g M S) (e:bk w w' (λk=>k=M.gi)) {a':Nat} (d:qu w' b0 M.gi M.Ai M.ni M.ci M.B a'):bF w0 c0 w' b0 g { M with a:=a' } S:=
 h.reader (e.more λk b=> .inl b) d (λk b=> .inl b) (by obtain⟨c,h,_⟩ :=h;exact h.bB)
theorem bF.Ca (h:bF w0 c0 w b0 g M S) (b:bk w w' (foot M.Aw M.gw)) {A':ay} {n' c':Nat} {l':aj} (d:zn w' b0 M.gw A' n' c' l') (hf:∀k,foot A' M.gw k->foot M.Aw M.gw k\/w.heap.size<=k):
  bF w0 c0 w' b0 g { M with Aw:=A',nw:=n',cw:=c',l:=l' } S:=by
 obtain⟨c,h,hd⟩ :=h;exact⟨_,h.Ca b d hf,hd.step h.lo (λk a=>(h.cb k a).1) (b.more λk a=>by rw[h.cw k a];decide) λk a=>cC a⟩
theorem bF.outs (h:bF w0 c0 w b0 g M S) (b:bk w w' (λk=>k=g\/ak M.Ao=some k)) {A':ay} {n' c':Nat} {l':aj} {S':DS} (e:Ar w' g 16 (dF { M with Ao:=A',no:=n',co:=c',out:=l' } S')) (d:ba .u8 w' b0 5 A' n' c' l')
  (hf:∀k,ak A'=some k->ak M.Ao=some k\/w.heap.size<=k):bF w0 c0 w' b0 g { M with Ao:=A',no:=n',co:=c',out:=l' } S':=by
 obtain⟨c,h,hd⟩ :=h
 exact⟨_,h.outs b e d hf,hd.step h.lo (λk a=>(h.cb k a).1) (b.more λk a=>by
  rcases a with rfl | a
  · rw[h.cg];decide
  rw[h.co k a];decide) λk a=>cC a⟩
theorem bF.FD (h:bF w0 c0 w b0 g M S) (b:bk w w' (λk=>k=g\/ak M.Al=some k)) {A':ay} {n' c':Nat} {l':aj} {S':DS} (e:Ar w' g 16 (dF { M with Al:=A',nl:=n',cl:=c',lens:=l' } S')) (d:ba .i64 w' b0 3 A' n' c' l')
  (hf:∀k,ak A'=some k->ak M.Al=some k\/w.heap.size<=k):bF w0 c0 w' b0 g { M with Al:=A',nl:=n',cl:=c',lens:=l' } S':=by
 obtain⟨c,h,hd⟩ :=h
 exact⟨_,h.FD b e d hf,hd.step h.lo (λk a=>(h.cb k a).1) (b.more λk a=>by
  rcases a with rfl | a
  · rw[h.cg];decide
  rw[h.cl k a];decide) λk a=>cC a⟩
theorem bF.keeps (h:bF w0 c0 w b0 g M S) (b:Below w.heap.size w w'):bF w0 c0 w' b0 g M S:=by
 obtain⟨c,h,hd⟩ :=h;exact⟨c,h.keeps b,hd.step h.lo (λk a=>(h.cb k a).1) (bk.bJ b) λk a=>rfl⟩
theorem bF.drewN (h:bF w0 c0 w b0 g M S) (q:Nat):bF w0 c0 (w.drewN q) b0 g M S:=h.keeps (below_drewN (ax _ _) q)
theorem bF.drew (h:bF w0 c0 w b0 g M S):bF w0 c0 w.drew b0 g M S:=h.keeps (ax _ _).drew
theorem bF.put (h:bF w0 c0 w b0 g M S) {i:Nat} (hi:i<16) (v:Value) (S':DS) (hF:∀j,j<16->upd (dF M S) i v j=dF M S' j):bF w0 c0 (w.setCell ⟨g,i,none⟩ v) b0 g M S':=by
 obtain⟨c,h,hd⟩ :=h;have a:ak M.Ao≠some g:=λe=>by have:=h.co g e;have:=h.cg;omega
 have:=bF.outs ⟨c,h,hd⟩ (w':=w.setCell ⟨g,i,none⟩ v) (A':=M.Ao) (n':=M.no) (c':=M.co) (l':=M.out) (S':=S') ((bk.refl w _).setCell (p:= ⟨g,i,none⟩) (.inl (.inl rfl)) v) ((h.cell.bK hi v).congr hF) (h.out.far (p:= ⟨g,i,none⟩) a v) (λk b=> .inl b);exact this
theorem bF.apart (h:bF w0 c0 w b0 g M S):ak M.Ao≠some g/\ak M.Al≠some g/\M.gi≠g/\M.gw≠g:=by
 obtain⟨c,h,hd⟩ :=h;have a:=h.cg;exact⟨λe=>τ (h.co g e),λe=>τ (h.cl g e),λe=>τ (h.cr g (.inl e.symm)),λe=>τ (h.cw g (.inl e.symm))⟩
theorem bF.cell (h:bF w0 c0 w b0 g M S):Ar w g 16 (dF M S):=by obtain⟨c,h,hd⟩ :=h;exact h.cell
theorem bF.mC (h:bF w0 c0 w b0 g M S):qu w b0 M.gi M.Ai M.ni M.ci M.B M.a:=by obtain⟨c,h,hd⟩ :=h;exact h.mC
theorem bF.Gj (h:bF w0 c0 w b0 g M S):zn w b0 M.gw M.Aw M.nw M.cw M.l:=by obtain⟨c,h,hd⟩ :=h;exact h.Gj
theorem bF.out (h:bF w0 c0 w b0 g M S):ba .u8 w b0 5 M.Ao M.no M.co M.out:=by obtain⟨c,h,hd⟩ :=h;exact h.out
theorem bF.lens (h:bF w0 c0 w b0 g M S):ba .i64 w b0 3 M.Al M.nl M.cl M.lens:=by obtain⟨c,h,hd⟩ :=h;exact h.lens
theorem bF.lo (h:bF w0 c0 w b0 g M S):b0<=w.heap.size:=by obtain⟨c,h,hd⟩ :=h;exact h.lo
theorem bF.big (h:bF w0 c0 w b0 g M S):M.B.length<=100000000000:=by obtain⟨c,h,hd⟩ :=h;exact h.bB
theorem jg.tab (h:jg w b0 g c M S) {p:ay} {l:aj} (ht:l9 w b0 c p l):∃a B b,p=some ⟨b,0,none⟩/\yR w a B b l/\B<=w.heap.size/\l.length<=288/\∀k,a<=k->k<B->k≠M.gi:=by
 obtain⟨a,B,b,j,i,m,h4,h5,h6⟩ :=ht;exact⟨a,B,b,j,i,h4,h5,λk f d e=>by have:=h6 k f d;have:=h.cr M.gi (.inl rfl);subst e;omega⟩
theorem bF.b1i (h:bF w0 c0 w b0 g M S) {l:aj} (d:M.hd=some l):∃a B b,M.hp=some ⟨b,0,none⟩/\yR w a B b l/\B<=w.heap.size/\l.length<=288/\∀k,a<=k->k<B->k≠M.gi:=by
 obtain⟨c,h,hd⟩ :=h;exact h.tab (h.th l d)
theorem bF.b1j (h:bF w0 c0 w b0 g M S) {l:aj} (d:M.lt=some l):∃a B b,M.lp=some ⟨b,0,none⟩/\yR w a B b l/\B<=w.heap.size/\l.length<=288/\∀k,a<=k->k<B->k≠M.gi:=by
 obtain⟨c,h,hd⟩ :=h;exact h.tab (h.tl l d)
theorem bF.b1h (h:bF w0 c0 w b0 g M S) {l:aj} (d:M.ds=some l):∃a B b,M.dp=some ⟨b,0,none⟩/\yR w a B b l/\B<=w.heap.size/\l.length<=288/\∀k,a<=k->k<B->k≠M.gi:=by
 obtain⟨c,h,hd⟩ :=h;exact h.tab (h.td l d)
theorem jg.tabs (h:jg w b0 g c M S) {p:ay} {l:aj} {i:Nat} (r:Below w.heap.size w w') (hp:p=some ⟨i,0,none⟩) (ht:yR w' w.heap.size w'.heap.size i l) (o:l.length<=288):
  jg w' b0 g (cW c w.heap.size (λk=>w.heap.size<=k/\k<w'.heap.size) 6) M S/\l9 w' b0 (cW c w.heap.size (λk=>w.heap.size<=k/\k<w'.heap.size) 6) p l:=by
 have b:=h.keeps r;have a:∀k,c k≠0->cW c w.heap.size (λk=>w.heap.size<=k/\k<w'.heap.size) 6 k=c k:=λk b=>cC (h.cb k b).2
 have e:∀{p l},l9 w' b0 c p l->l9 w' b0 (cW c w.heap.size (λk=>w.heap.size<=k/\k<w'.heap.size) 6) p l:=λ{p l} e=>by
  obtain⟨n,B,i,m,f,s,h4,h5,h6⟩ :=e;exact⟨n,B,i,m,f,s,h4,h5,λk d j=>by rw[a k (by rw[h6 k d j];decide)];exact h6 k d j⟩
 refine⟨⟨b.cell,(a g (by rw[h.cg];decide)).trans h.cg,b.mC,λk q=>(a k (by rw[h.cr k q];decide)).trans (h.cr k q),b.Gj,λk q=>(a k (by rw[h.cw k q];decide)).trans (h.cw k q),b.out,λk q=>(a k (by rw[h.co k q];decide)).trans (h.co k q),b.lens,λk q=>(a k (by rw[h.cl k q];decide)).trans (h.cl k q),
  λl q=>e (b.th l q),λl q=>e (b.tl l q),λl q=>e (b.td l q),λk q=> ?_,h.bB⟩, ⟨w.heap.size,w'.heap.size,i,hp,ht,h.lo,ai _,o,λk d j=>fO d ⟨d,j⟩⟩⟩
 rcases gq q with ⟨m,f⟩ | ⟨m,f⟩
 · exact b.cb k f
 exact⟨aw h.lo m,f.2⟩
theorem bF.a0O (h:bF w0 c0 w b0 g M S) {l:aj} {f:Nat} (s:Below w.heap.size w w') (ht:yR w' w.heap.size w'.heap.size f l) (z:l.length<=288):
  bF w0 c0 (w'.setCell ⟨g,12,none⟩ (.pointer (some ⟨f,0,none⟩))) b0 g { M with hp:=some ⟨f,0,none⟩,hd:=some l } S/\
  bF w0 c0 (w'.setCell ⟨g,13,none⟩ (.pointer (some ⟨f,0,none⟩))) b0 g { M with lp:=some ⟨f,0,none⟩,lt:=some l } S/\
  bF w0 c0 (w'.setCell ⟨g,14,none⟩ (.pointer (some ⟨f,0,none⟩))) b0 g { M with dp:=some ⟨f,0,none⟩,ds:=some l } S:=by
 obtain⟨c,h,hd⟩ :=h;obtain⟨a,t⟩ :=h.tabs (p:=some ⟨f,0,none⟩) s rfl ht z;have n:=hd.step (w':=w') (c':=cW c w.heap.size (λk=>w.heap.size<=k/\k<w'.heap.size) 6) h.lo (λk b=>(h.cb k b).1) (bk.bJ s) λk b=>cC b;generalize cW c w.heap.size (λk=>w.heap.size<=k/\k<w'.heap.size) 6=cc at a t n;have r:ak M.Ao≠some g:=λe=>by have:=h.co g e;have:=h.cg;omega
 have A:ak M.Al≠some g:=λe=>by have:=h.cl g e;have:=h.cg;omega
 have ze:∀(i:Nat) (v:Value) (d:DM),i<16->(∀j,j<16->upd (dF M S) i v j=dF d S j)->d={ M with hp:=d.hp,lp:=d.lp,dp:=d.dp,hd:=d.hd,lt:=d.lt,ds:=d.ds }->
   (∀l,d.hd=some l->l9 w' b0 cc d.hp l)->(∀l,d.lt=some l->l9 w' b0 cc d.lp l)->(∀l,d.ds=some l->l9 w' b0 cc d.dp l)->bF w0 c0 (w'.setCell ⟨g,i,none⟩ v) b0 g d S:=by
  intro i v d hi hF B y x u;have m:bk w' (w'.setCell ⟨g,i,none⟩ v) (λk=>k=g):=(bk.refl w' (λk=>k=g)).setCell (p:= ⟨g,i,none⟩) (.inl rfl) v;have o:∀{p l},l9 w' b0 cc p l->l9 (w'.setCell ⟨g,i,none⟩ v) b0 cc p l:=λht=>ht.fC m (λk b=>by subst b;rw[a.cg];decide) λ_ _=>rfl
  refine⟨cc, ⟨(a.cell.bK hi v).congr hF,a.cg, ?_, ?_, ?_, ?_, ?_, ?_, ?_, ?_,λl q=>o (y l q),λl q=>o (x l q),λl q=>o (u l q),λk b=> ⟨(a.cb k b).1,aB (a.cb k b).2 m.size⟩, ?_⟩,
   n.step a.lo (λk b=>(a.cb k b).1) (m.more λk b=>by subst b;rw[a.cg];decide) λ_ _=>rfl⟩
  all_goals rw[B]
  · exact a.mC.fC m (λk b e=>by have:=a.cr k b;have:=a.cg;subst e;omega)
  · exact a.cr
  · exact a.Gj.fC m (λk b e=>by have:=a.cw k b;have:=a.cg;subst e;omega)
  · exact a.cw
  · exact m.dX a.out (λk b e=>by subst e;exact r b)
  · exact a.co
  · exact m.dX a.lens (λk b e=>by subst e;exact A b)
  · exact a.cl
  exact a.bB
 refine⟨ze 12 _ _ ω (fg rfl rfl rfl rfl rfl rfl rfl rfl rfl rfl rfl rfl rfl rfl rfl rfl) rfl (λl' q=> ?_) a.tl a.td,ze 13 _ _ ω (fg rfl rfl rfl rfl rfl rfl rfl rfl rfl rfl rfl rfl rfl rfl rfl rfl) rfl a.th (λl' q=> ?_) a.td,ze 14 _ _ ω (fg rfl rfl rfl rfl rfl rfl rfl rfl rfl rfl rfl rfl rfl rfl rfl rfl) rfl a.th a.tl (λl' q=> ?_)⟩
 all_goals
  injection q with q;subst q;exact t
end
theorem Mq (a b:Nat) (g:a<4611686018427387904) (f:b<4611686018427387904):bits .or .i64 (a:Int) (b:Int)=((a||| b:Nat):Int):=by
 have e:a||| b<2 ^ 62:=Nat.or_lt_two_pow ω ω
 have d:(BitVec.ofInt 64 (a:Int)).toNat=a:=by
  rw[gB,ij];exact dW ω
 have c:(BitVec.ofInt 64 (b:Int)).toNat=b:=by
  rw[gB,ij];exact dW ω
 show IntKind.i64.wrap ((BitVec.ofInt 64 (a:Int)||| BitVec.ofInt 64 (b:Int)).toNat:Int)=_;rw[BitVec.toNat_or,d,c,IntKind.wrap_i64];omega
theorem Wv {h b:Int} (a:0<=h) (d:h<4294967296) (c:b=0\/b=1):bits .or .i64 (2*h) b=2*h+b:=by
 obtain⟨X,rfl⟩ :=aJ a;obtain⟨Y,rfl⟩ :=aJ (show 0<=b by omega);have e:(2*(X:Int))=((X*2 ^ 1:Nat):Int):=ξ;rw[e,Mq _ _ ω ω,Nat.or_comm,eE,Nat.or_comm,<-eI ω];simp
theorem Pe {x:Int} (a:0<=x) (b:x<4294967296):bits .and .u32 x 1=x%2:=by
 obtain⟨X,rfl⟩ :=aJ a;have:=u32_and_nat X 1 ω ω;rw[Nat.and_one_is_mod]at this;have e:((1:Nat):Int)=1:=rfl;rw[e]at this;rw[this];omega
theorem bT.aside {k:IntKind} {w w':World} {B n b g:Nat} {A:ay} {l:aj} (h:bT k w B A n l) (m:bk w w' (λk=>k=g)) (p:B<=w.heap.size) (j:∀q,ak A=some q->b<=q) (d:∀k,b<=k->k<B->k≠g):bT k w' B A n l:=
 ⟨h.1,λf=>by
   obtain⟨o,e,c,a⟩ :=h.2 f;exact⟨o,e,c,λi hi=>(m.cell (by rw[bG];omega) (by rw[bG];exact d _ (j _ (by rw[e];rfl)) c)).trans (a i hi)⟩⟩
def lM (w:World) (b0 g n c a:Nat) (A:ay) (b l:aj) (e:Ending) (w':World):Prop:=
 e= .returned (.tuple #[.int .i64 (aK l (rb b a)).1, .int .i64 (aK l (rb b a)).2.2])/\qu w' b0 g A n c b (a+(aK l (rb b a)).2.1)/\bk w w' (λk=>k=g)
def YF (w:World) (l x:aj) (H:Nat) (v f t a n:Value) (wr:World):Prop:=
 ∃(k q:Nat),1<=k/\k<=H+1/\n= .int .i64 k/\v= .int .i64 (2*hv x (k-1))/\f= .int .i64 (nQ l k:Nat)/\t= .int .i64 (below l (k-1):Nat)/\a= .int .u32 (fM ((x.take H).drop (k-1)))/\fh l x (k-1)=0/\wr=w.drewN q
theorem a8S (l:aj) {n:Nat} (b:1<=n) (a:n<=15):cf l 16 0 n=cnt l l.length n:=by unfold cf;rw[aa ω,af ω]
theorem ye (w:World) (t0 B gt b0 g n c a:Nat) (A:ay) (l I:aj) (ht:yR w t0 B gt l) (hl:l.length<=288) (C:qu w b0 g A n c I a) (u:I.length<=1000000000000) (yq:B<=w.heap.size) (dA:∀k,t0<=k->k<B->k≠g):
  Calls Tryz.prog 147 #[.pointer (some ⟨gt,0,none⟩), .pointer (some ⟨g,0,none⟩)] w (lM w b0 g n c a A I l):=by
 obtain⟨Al,Ac,As,cl,cc,cs,gu,cm,cn,bs,bI,bB, -, -,ce⟩ :=ht;have bx:=dA gt bI bB;obtain⟨x,X⟩ :=ν (rb I a);have IQ:dO x:=by rw[<-X];exact dO.rb I a
 obtain⟨f,O1⟩ :=ν (tK l 15);have cp:f<=15:=by rw[<-O1];exact Me l 15
 have mf:8*n-a=x.length:=by rw[<-X,iw,C.nB]
 have aE:=gu.cell (i:=19) ω;have ab:=gu.cell (i:=18) ω;have an:GD Al l.length cl Ac l.length cc (cf l 16 0) As (uW l 15).length cs (tK l 15:Nat) 19= .int .i64 f:=by rw[O1];rfl
 have ap:GD Al l.length cl Ac l.length cc (cf l 16 0) As (uW l 15).length cs (tK l 15:Nat) 18= .slice As (uW l 15).length cs:=rfl;rw[an]at aE;rw[ap]at ab;obtain⟨H,hH⟩ :=ν (min x.length f);have cx:H<=15:=ω;have cb:H<=(rb I a).length:=by rw[X];omega
 have d:aK l (rb I a)=if fh l x H≠0 then(CQ l (fh l x H) (hv x (fh l x H)-nQ l (fh l x H)).toNat,fh l x H,0)else if H<f then(0,0,5)else if f=0/\x.length=0 then(0,0,5)else(0,0,3):=by
  rw[X];unfold aK;rw[O1,hH]
 have GK:=η d;have HX:=η X;have ch:=η mf;have ck:(0:Int)<=(x.length:Int)/\(x.length:Int)<=8000000000000:=by have:=C.nB;omega
 have cd:((x.length:Int)<(f:Int)/\x.length=H)\/((f:Int)<(x.length:Int)/\f=H)\/(x.length=f/\f=H):=ω;have cA:=η O1;have cj:=η hH;have nI:=η gu;clear d X mf O1 hH an ap
 have pY:Hid (∀q,Calls Tryz.prog 104 #[.pointer (some ⟨g,0,none⟩)] (w.drewN q) λe w'=>e= .returned (.int .i64 x.length)/\∃m,w'=(w.drewN q).drewN m):=λq=>by
  have:=jd _ _ _ _ _ _ _ _ (C.drewN q) u
  rwa [ch.out]at this
 go_enter Tryz.func147,Tryz.ntmps147;go_wp2;go_cut [9] (λs9 wx=>s9= .int .i64 H/\∃q,wx=w.drewN q)
 case first=>
  rcases cd with ⟨h1,N⟩ | ⟨h1,N⟩ | ⟨h1,N⟩
  · have t:=η N;clear N;go_quiet ((go_at_call 104;exact dM (pY.out _)))
    all_goals
     go_wp2_with fail;go_meet;exact⟨by rw[t.out],_,rfl⟩
  · have t:=η N;clear N;go_quiet ((go_at_call 104;exact dM (pY.out _)))
    all_goals
     go_wp2_with fail;go_meet;exact⟨by rw[t.out],_,rfl⟩
  have t:=η N;have cg:(x.length:Int)=(f:Int):=ω;clear N h1;go_quiet ((go_at_call 104;exact dM (pY.out _)))
  all_goals
   go_wp2_with fail;go_meet;exact⟨by first | rw[t.out] | (rw[cg,t.out]),_,rfl⟩
 obtain⟨rfl,q0,rfl⟩ :=hcut;have bo:=C.drewN q0
 go_wp2_with fail;refine(Oz _ _ _ _ _ _ _ _ bo u H ω cb).mono ?_;rintro e w1 ⟨rfl,q1,rfl⟩;rw[HX.out]
 go_wp2_with fail
 go_loopw [6,7,8,10,12] (YF w l x H) (λ_ _ _ _ n _=>H+1-(intOf n).toNat)
 case atStart=>exact⟨1,q0+q1,ai _,ω,rfl,rfl,rfl,rfl,rfl,rfl,rfl⟩
 obtain⟨k,q,xF,cq,rfl,rfl,rfl,rfl,rfl,y,rfl⟩ :=hrel;by_cases co:k<=H
 rotate_left
 · obtain rfl:k=H+1:=ω;rw[bX]at y⊢;obtain⟨V,F⟩ :=ν (hv x H);rw[F];have pM:((H+1:Nat):Int)=(H:Int)+1:=ω;have d:=GK.out;rw[y,aa ω]at d;have cw:H<=f:=by have:=cj.out;omega
   have CE:bk w (w.drewN q) (λk=>k=g):=(bk.refl w _).drewN q;clear F;by_cases jE:H<f
   · rw[af jE]at d;have hI:(H:Int)<(f:Int):=ω;have T:=η d;clear d y;go_wp2
     go_ret2
     unfold lM;rw[T.out];exact⟨rfl,C.drewN q,CE⟩
   rw[aa jE]at d;have hI:¬(H:Int)<(f:Int):=ω;by_cases Y:f=0
   rotate_left
   · rw[aa (λh=>Y h.1)]at d;have T:=η d;have ac:((f:Int)==0)=false:=by simpa using Y
     clear d y Y;go_wp2
     go_ret2
     unfold lM;rw[T.out];exact⟨rfl,C.drewN q,CE⟩
   by_cases o:x.length=0
   · rw[af ⟨Y,o⟩]at d;have T:=η d;have ac:(f:Int)=0:=ω;have cz:=η o;have D:=pY.out q;rw[o]at D;clear d y Y o
     go_wp2_with fail;refine D.mono ?_;rintro e w5 ⟨rfl,q5,rfl⟩;go_wp2
     go_ret2
     unfold lM;rw[T.out];exact⟨rfl,C.drewN (q+q5),(bk.refl w _).drewN (q+q5)⟩
   rw[aa (λh=>o h.2)]at d;have T:=η d;have ac:(f:Int)=0:=ω;have Cp:((x.length:Int)==0)=false:=by simpa using o
   have D:=pY.out q;clear d y Y o
   go_wp2_with fail;refine D.mono ?_;rintro e w5 ⟨rfl,q5,rfl⟩;go_wp2
   go_ret2
   unfold lM;rw[T.out];exact⟨rfl,C.drewN (q+q5),(bk.refl w _).drewN (q+q5)⟩
 obtain⟨p,rfl⟩ :∃p,k=p+1:= ⟨k-1,ω⟩;rw[bX]at y⊢;obtain⟨W,Z⟩ :=ν (p+1:Nat);have E:=Ob IQ p;have S:=Ob IQ (p+1);have yB:=VN IQ (L9 y);have LP:(2:Int) ^ (p+1)<=32768:=by have:=gy (show p+1<=15 by omega);simpa using this
 have jA:=uO l hl (v:=p+1) ω
 have vR:ix x p=0\/ix x p=1:=by
  unfold ix;rw[aq];cases e:x[p]? with
  | none=>simp
  | some v=>simpa using IQ v (cT e)
 have CM:hv x (p+1)=2*hv x p+ix x p:=rfl
 have hdr:(x.take H).drop p=ix x p::(x.take H).drop (p+1):=by
  rw[bR ξ];congr 1;simp [ix,show p<x.length by omega]
 have mK:fM ((x.take H).drop p)=ix x p+2*fM ((x.take H).drop (p+1)):=by rw[hdr];rfl
 have qO:=kC ((IQ.um H).ed p);have fz:=gy (show((x.take H).drop p).length<=15 by simp;omega);have P:=lU l l.length (p+1);have z:=kv y;obtain⟨h,hh⟩ :=ν (hv x p);obtain⟨b,hb⟩ :=ν (ix x p);obtain⟨V,F⟩ :=ν (hv x (p+1));obtain⟨N1,F3⟩ :=ν (fM ((x.take H).drop p));obtain⟨N2,Sg⟩ :=ν (fM ((x.take H).drop (p+1)));rw[hh,F3];rw[F3,hb,Sg]at mK;rw[F3]at qO;rw[hh]at E CM;rw[F]at S yB CM;rw[hb]at vR CM;have Dl:(2:Int) ^ 15=32768:=rfl;have al:0<=N1/\N1<4294967296:=ω;have e1:bits .and .u32 N1 1=b:=by rw[Pe al.1 al.2];omega
 have e3:N1/2=N2:=ω;have e2:bits .or .i64 (2*h) b=V:=by rw[Wv E.1 (by have:=gy (show p<=15 by omega);omega) vR];exact CM.symm
 have kc:=gu.cell (i:=2+(p+1)) ω
 have r:GD Al l.length cl Ac l.length cc (cf l 16 0) As (uW l 15).length cs (tK l 15:Nat) (2+(p+1))= .int .i64 (cnt l l.length (p+1):Nat):=by
  unfold GD;rw[aa ω,aa ω,aa ω,aa ω,bQ,a8S l ω ω]
 rw[r]at kc;have R:below l p<=15*288:=aw (He l p) (gG ω hl);obtain⟨K,O⟩ :=ν (nQ l (p+1));obtain⟨ct,L⟩ :=ν (cnt l l.length (p+1));obtain⟨bl,Q⟩ :=ν (below l p);rw[O,Q];rw[L]at kc P;rw[O]at jA yB;rw[Q]at R;have hit:xD l x (p+1)=decide (V<(K:Int)+(ct:Int)):=by unfold xD;rw[F,O,L]
 rw[hit]at z;rw[Z]at kc⊢
 have nK:0<=h/\h<=32768/\0<=V/\V<=32768/\(K:Int)<=V/\(0:Int)<=ct/\(ct:Int)<=288/\(0:Int)<=bl/\(bl:Int)<=4320/\(1:Int)<=W/\(W:Int)<=15/\(W:Int)<=(H:Int)/\(0:Int)<=K:=by
  have:=gy (show p<=15 by omega);omega
 have Cl:0<=b/\b<=1:=ω;by_cases cr:V-(K:Int)<(ct:Int)
 rotate_left
 · have s:fh l x (p+1)=0:=by rw[z,aa ξ]
   have bL:Hid (fh l x (p+1)=0):=s;have mr:Hid (below l (p+1)=bl+ct):=by show _=_;rw[below,Q,L]
   have Kj:Hid (nQ l (p+1+1)=2*(K+ct)):=by show _=_;show 2*(nQ l (p+1)+cnt l l.length (p+1))=_;rw[O,L]
   have HV:=η F;have rF:=η Sg;have U:=η Z;clear O L Q hit z s F F3 Sg hh hb CM mK fz qO hdr vR R jA P E S yB LP y r Dl Z
   go_wp2_with fail;go_roundw
   case rel=>exact⟨W+1,q,ω,ω,by go_num,by rw[bX,<-U.out,HV.out];go_num,by rw[<-U.out,Kj.out];go_num,by rw[bX,<-U.out,mr.out];go_num,by rw[bX,<-U.out,rF.out],by rw[bX,<-U.out];exact bL.out,rfl⟩
   case measure=>simp [intOf];omega
 have s:fh l x (p+1)=p+1:=by rw[z,af ξ]
 have ae:fh l x H=p+1:=by rw[tI (m:=p+1) (by rw[s];omega) ω,s]
 obtain⟨J,hJ⟩ :=aJ (show 0<=V-(K:Int) by omega);have am:J<ct:=ω;have VD:=a4N l (n:=p) (m:=15) (j:=J) ω (by rw[L];exact am);rw[Q]at VD
 have ca:bl+J<(uW l 15).length:=by
  rw[rr];have:=KE l (show p+1<=15 by omega);rw[below,Q,L]at this;omega
 have zz:aK l (rb I a)=(CQ l (p+1) J,p+1,0):=by
  rw[GK.out,ae,af ω,F,O];have:(V-(K:Int)).toNat=J:=ω;rw[this]
 have bv:(bl:Int)+V-(K:Int)=((bl+J:Nat):Int):=ω;have bt:W<=(rb I a).length:=by rw[<-Z];omega
 obtain⟨Sx,ah⟩ :=ν (CQ l (p+1) J);rw[ah]at VD zz;obtain⟨SL,G⟩ :=ν ((uW l 15).length:Nat);obtain⟨M,hM⟩ :=ν (bl+J:Nat);rw[hM]at bv VD;rw[hM,G]at ca;have cv:(0:Int)<=M/\(M:Int)<(SL:Int):=ω;have ci:=η zz;have U:=η Z;have CV:=η G;have a8L:=η VD;rw[G]at ab;have bi:=C.drewN q;clear O L Q hit z s ae F F3 Sg hh hb CM mK fz qO hdr vR R jA P E S yB LP y r Dl Z zz G VD hJ am hM ah
 go_wp2_with fail;refine(EW _ _ _ _ _ _ _ _ bi u W ω bt).mono ?_;rintro e w5 ⟨rfl,rL,oz⟩;have uF:bk w w5 (λk=>k=g):=((bk.refl w _).drewN q).trans oz λk hk=> .inl hk;have gW:=uF.ar gu bx;have be:=gW.cell (i:=18) ω;have ao:GD Al l.length cl Ac l.length cc (cf l 16 0) As (uW l 15).length cs (tK l 15:Nat) 18= .slice As SL cs:=by rw[<-CV.out];rfl
 rw[ao]at be;have bp:=bs.aside uF yq ce dA;obtain⟨ad,rfl,cu,c5⟩ :=bp.at_ (i:=M) (τ CV.out);rw[a8L.out]at c5;clear ao;go_wp2
 go_ret2
 unfold lM;rw[ci.out,U.out];exact⟨rfl,rL,uF⟩
end Go.Proofs.YtdhmnlpfhfmpfaaGreat
