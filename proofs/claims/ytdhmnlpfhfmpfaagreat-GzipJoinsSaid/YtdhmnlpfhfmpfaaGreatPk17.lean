/-
  part
-/
import Derived.Test.YtdhmnlpfhfmpfaaGreatPk10
import Derived.Test.YtdhmnlpfhfmpfaaGreatPk16
import Derived.Test.YtdhmnlpfhfmpfaaGreatTab
set_option linter.unusedVariables false
set_option maxRecDepth 100000
set_option maxHeartbeats 4000000
namespace Go.Proofs.YtdhmnlpfhfmpfaaGreat
open Go.RowKit
theorem MD (w:World) (g B c:Nat) (l:List Int) (u:Value) (s:Int) (ht:yv w g B c l) (z:l.length<=288) (m:s<0\/(l.length:Int)<=s\/ix l s.toNat=0):
  Calls Tryz.prog 111 #[.pointer (some ⟨c,0,none⟩),u, .int .i64 s] w λe w'=>e= .returned (.bool false)/\w=w':=by
 obtain⟨Al,y,As,cl,cc,cs,v,o,p,n, -⟩ :=ht;have j:=v.cell (i:=0) ω;have f:Gv Al l.length cl y l.length cc (cf l 16 0) As (uO l 15).length cs (tB l 15:Nat) 0= .slice Al l.length cl:=rfl;rw[f]at j;have q:(0:Int)<=(l.length:Int)/\(l.length:Int)<=288:=ω;have a:s<0\/(¬s<0/\(l.length:Int)<=s)\/(0<=s/\s<(l.length:Int)/\ix l s.toNat=0):=ω;clear f m;rcases a with h | ⟨h,x⟩ | ⟨h,x,b⟩
 · go_enter Tryz.func111,Tryz.ntmps111;go_wp2;go_ret;exact⟨rfl,rfl⟩
 · go_enter Tryz.func111,Tryz.ntmps111;go_wp2;go_ret;exact⟨rfl,rfl⟩
 obtain⟨k,rfl⟩ :=aG h;have r:k<l.length:=ω;obtain⟨A,rfl,t,c1⟩ :=o.at_ r;have d:ix l k=0:=by simpa using b
 rw[d]at c1;clear b d;go_enter Tryz.func111,Tryz.ntmps111;go_wp2;go_ret;exact⟨rfl,rfl⟩
def Kl (w:World) (b0 g:Nat) (A:Option Addr) (L:List Int) (e:Ending) (w':World):Prop:=
 ∃A' n' c',e= .returned (.bool true)/\qf w' b0 g A' n' c' L/\bj w w' (foot A g)/\(∀k,ai A'=some k->ai A=some k\/w.heap.size<=k)
theorem R8 (w:World) (E B y b0 g n c:Nat) (A:Option Addr) (l L:List Int) (s:Nat) (ht:yv w E B y l) (u:l.length<=288) (H:qf w b0 g A n c L) (a:L.length<=4000000000000) (j:s<l.length) (T:1<=ix l s) (S:ix l s<=15):
  Calls Tryz.prog 111 #[.pointer (some ⟨y,0,none⟩), .pointer (some ⟨g,0,none⟩), .int .i64 s] w (Kl w b0 g A (L++cN l s)):=by
 obtain⟨Al,t,As,cl,cc,cs,x,J,k,I, -⟩ :=ht;have G:=x.cell (i:=0) ω;have F:=x.cell (i:=1) ω;have D:Gv Al l.length cl t l.length cc (cf l 16 0) As (uO l 15).length cs (tB l 15:Nat) 0= .slice Al l.length cl:=rfl;have z:Gv Al l.length cl t l.length cc (cf l 16 0) As (uO l 15).length cs (tB l 15:Nat) 1= .slice t l.length cc:=rfl;rw[D]at G;rw[z]at F;have M:(0:Int)<=(s:Int)/\(s:Int)<(l.length:Int)/\(l.length:Int)<=288:=ω;obtain⟨ad,rfl,P,c0⟩ :=J.at_ j;obtain⟨Z,rfl,O,c1⟩ :=k.at_ j;rw[qD l u j]at c1;obtain⟨N,hN⟩ :=aG (show 0<=ix l s by omega);have R:1<=(N:Int)/\(N:Int)<=15:=ω;have f:cN l s=dv (J9 (fo l s) N) N:=by unfold cN;rw[hN];rfl
 obtain⟨C,hC⟩ :=ν (fo l s)
 have q:(0:Int)<=C/\(C:Int)<4294967296:=by
  rw[<-hC];unfold fo;have Y:=uG l u (v:=(ix l s).toNat) ω;have W:=lI l s (ix l s).toNat;split <;> omega
 rw[hN]at c0;rw[hC]at c1 f;have b:=Wf C N;have hp:=gq (show N<=15 by omega);have K:(2:Int) ^ 15=32768:=rfl;obtain⟨X,p⟩ :=ν (J9 C N);rw[p]at b f;have Q:0<=X/\X<4294967296:=ω;have U:=η p;have r:=η f;have d:(N:Int)<=32:=ω;have V:((N:Int)==0)=false:=ξ;clear hN hC p f b hp K T S D z;go_enter Tryz.func111,Tryz.ntmps111
 go_wp2_with fail;refine(Mm _ C N q ⟨R.1,d⟩).mono ?_;rintro e w1 ⟨rfl,rfl⟩;rw[U.out]
 go_wp2_with fail;refine(FK _ _ _ _ _ _ _ H X N Q d a).mono ?_;rintro e w2 ⟨A',n',c',rfl,h,m,o⟩;go_wp2;go_ret;rw[r.out];exact⟨A',n',c',rfl,h,m,o⟩
def a1O (w:World) (b0 g:Nat) (A:Option Addr) (L:List Int) (e:Ending) (w':World):Prop:=
 ∃A' n' c' b,e= .returned (.bool b)/\qf w' b0 g A' n' c' L/\bj w w' (foot A g)/\(∀k,ai A'=some k->ai A=some k\/w.heap.size<=k)
theorem BV (w:World) (d B b b0 g n c:Nat) (A:Option Addr) (l L:List Int) (s:Nat) (ht:yv w d B b l) (j:l.length<=288) (f:qf w b0 g A n c L) (a:L.length<=4000000000000) (m:∀i,i<l.length->0<=ix l i/\ix l i<=15):
  Calls Tryz.prog 111 #[.pointer (some ⟨b,0,none⟩), .pointer (some ⟨g,0,none⟩), .int .i64 s] w (a1O w b0 g A (L++cN l s)):=by
 by_cases h:s<l.length/\1<=ix l s
 · refine(R8 w d B b b0 g n c A l L s ht j f a h.1 h.2 (m s h.1).2).mono ?_;rintro e w' ⟨A',n',c',rfl,u,t,r⟩;exact⟨A',n',c',true,rfl,u,t,r⟩
 have o:ix l s=0:=by
  by_cases e:s<l.length
  · have:=m s e;omega
  unfold ix;rw[aq,br ω];rfl
 have q:cN l s=[]:=aC (by rw[fU,o];rfl);refine(MD w d B b l _ s ht j (.inr (.inr (by rw[aU];exact o)))).mono ?_;rintro e w' ⟨rfl,rfl⟩;refine⟨A,n,c,false,rfl, ?_,bj.refl _ _,λk p=> .inl p⟩;rw[q,ax];exact f
theorem lV.fz {w w':World} {B n:Nat} {A:Option Addr} {l:List cu} {S:Nat->Prop} (h:lV w B A n l) (f:bj w w' S) (o:B<=w.heap.size) (k:0<n->∀a,A=some a->¬S a.block):lV w' B A n l:= ⟨h.1,λd=>by
 obtain⟨a,e,g,c⟩ :=h.2 d;have b:∀j,w'.cell? (a.add j)=w.cell? (a.add j):=λj=>f.cell (by rw[bH];omega) (by rw[bH];exact k d a e);exact⟨a,e,g,λi hi=>by obtain⟨c1,c2,m⟩ :=c i hi;exact⟨(b _).trans c1,(b _).trans c2,(b _).trans m⟩⟩⟩
structure kv (w2 wr:World) (b0 g:Nat) (A:Option Addr) (L:List Int):Prop where
 Rb:∃A' n' c',qf wr b0 g A' n' c' L/\∀k,ai A'=some k->ai A=some k\/w2.heap.size<=k
 fz:bj w2 wr (foot A g)
theorem kv.alloc {w2 wr:World} {b0 g:Nat} {A:Option Addr} {L:List Int} (h:kv w2 wr b0 g A L) (o:Obj):kv w2 (wr.alloc o) b0 g A L:=by
 obtain⟨⟨A',n',c',c,b⟩,a⟩ :=h;exact⟨⟨A',n',c',c.keeps ((aw _ wr).alloc (ag _) o),b⟩,a.alloc o⟩
theorem kv.next {w2 wr w':World} {b0 g:Nat} {A A1:Option Addr} {n' c':Nat} {d:List Int} {A':Option Addr} (h:bj w2 wr (foot A g)) (wF:∀k,ai A1=some k->ai A=some k\/w2.heap.size<=k) (e:qf w' b0 g A' n' c' d) (f:bj wr w' (foot A1 g)) (c:∀k,ai A'=some k->ai A1=some k\/wr.heap.size<=k):kv w2 w' b0 g A d:=by
 refine⟨⟨A',n',c',e,λk b=> ?_⟩,h.trans f λk b=> ?_⟩
 · rcases c k b with a | a
   · exact wF k a
   exact .inr (au h.size a)
 rcases b with rfl | b
 · exact .inl (.inl rfl)
 rcases wF k b with a | a
 · exact .inl (.inr a)
 exact .inr a
section
variable {w2 wr:World} {b0 g:Nat} {A:Option Addr} {L:List Int}
theorem kv.put (h:kv w2 wr b0 g A L) (V:Int) (N:Nat) (c:0<=V/\V<4294967296) (hN:(N:Int)<=32) (a:L.length<=4000000000000):
  Calls Tryz.prog 68 #[.pointer (some ⟨g,0,none⟩), .int .u32 V, .int .i64 N] wr λe w'=>e= .returned (.tuple #[])/\kv w2 w' b0 g A (L++dv V N):=by
 obtain⟨⟨A1,b,c1,i,f⟩,d⟩ :=h;refine(FK wr b0 g b c1 A1 L i V N c hN a).mono ?_;rintro e w' ⟨A',n',c',rfl,h4,h5,h6⟩;exact⟨rfl,kv.next d f h4 h5 h6⟩
theorem kv.sym (h:kv w2 wr b0 g A L) {c B f:Nat} {l:List Int} (ht:yv w2 c B f l) (p:B<=w2.heap.size) (d:∀k,c<=k->k<B->¬foot A g k) (s:Nat) (n:l.length<=288) (o:∀i,i<l.length->0<=ix l i/\ix l i<=15) (a:L.length<=4000000000000):
  Calls Tryz.prog 111 #[.pointer (some ⟨f,0,none⟩), .pointer (some ⟨g,0,none⟩), .int .i64 s] wr λe w'=>(∃b,e= .returned (.bool b))/\kv w2 w' b0 g A (L++cN l s):=by
 obtain⟨⟨A1,m,c1,r,q⟩,j⟩ :=h;refine(BV wr c B f b0 g m c1 A1 l L s (ht.fz j p d) n r a o).mono ?_;rintro e w' ⟨A',n',c',b,rfl,h4,h5,h6⟩;exact⟨⟨b,rfl⟩,kv.next j q h4 h5 h6⟩
end
structure Ck (w2 wk wr:World) (p:Nat) (b0 g:Nat) (A:Option Addr) (L:List Int):Prop where
 Rb:∃A' n' c',qf wr b0 g A' n' c' L/\(∀k,ai A'=some k->ai A=some k\/w2.heap.size<=k)/\¬foot A' g p
 fz:bj w2 wr (foot A g)
 kp:wr.heap[p]?=wk.heap[p]?
 lt:p<wr.heap.size
section
variable {w2 wk wr:World} {p b0 g:Nat} {A:Option Addr} {L:List Int}
theorem Ck.new (h:kv w2 wr b0 g A L) (o:Obj):Ck w2 (wr.alloc o) (wr.alloc o) wr.heap.size b0 g A L:=by
 obtain⟨⟨A',n',c',a,c⟩,b⟩ :=h;exact⟨⟨A',n',c',a.keeps ((aw _ wr).alloc (ag _) o),c,λe=>by have:=(a.eJ e).2;omega⟩,b.alloc o,rfl,σ⟩
theorem Ck.old (h:Ck w2 wk wr p b0 g A L):kv w2 wr b0 g A L:=by
 obtain⟨⟨A',n',c',c,b,_⟩,a,_,_⟩ :=h;exact⟨⟨A',n',c',c,b⟩,a⟩
theorem Ck.cell (h:Ck w2 wk wr p b0 g A L) {m:Nat} {f:Nat->Value} (a:Ar wk p m f) {i:Nat} (hi:i<m):wr.cell? ⟨p,i,none⟩ =some (f i):=(a.same h.kp).cell hi
theorem Ck.next {w':World} {A1:Option Addr} {n' c':Nat} {i:List Int} {A':Option Addr} (h:Ck w2 wk wr p b0 g A L) (a:¬foot A1 g p) (wF:∀k,ai A1=some k->ai A=some k\/w2.heap.size<=k) (f:qf w' b0 g A' n' c' i) (d:bj wr w' (foot A1 g)) (b:∀k,ai A'=some k->ai A1=some k\/wr.heap.size<=k):Ck w2 wk w' p b0 g A i:=by
 obtain⟨m,l⟩ :=kv.next h.fz wF f d b
 refine⟨⟨A',n',c',f,λk j=> ?_,λe=> ?_⟩,l,(d.block p h.lt a).trans h.kp,aD h.lt d.size⟩
 · rcases b k j with c | c
   · exact wF k c
   exact .inr (au h.fz.size c)
 rcases e with e | e
 · exact a (.inl e)
 rcases b p e with c | c
 · exact a (.inr c)
 have:=h.lt;omega
theorem Ck.put (h:Ck w2 wk wr p b0 g A L) (V:Int) (N:Nat) (c:0<=V/\V<4294967296) (hN:(N:Int)<=32) (a:L.length<=4000000000000):
  Calls Tryz.prog 68 #[.pointer (some ⟨g,0,none⟩), .int .u32 V, .int .i64 N] wr λe w'=>e= .returned (.tuple #[])/\Ck w2 wk w' p b0 g A (L++dv V N):=by
 obtain⟨A1,b,c1,f,d,h4⟩ :=h.Rb;refine(FK wr b0 g b c1 A1 L f V N c hN a).mono ?_;rintro e w' ⟨A',n',c',rfl,h5,h6,h7⟩;exact⟨rfl,h.next h4 d h5 h6 h7⟩
theorem Ck.sym (h:Ck w2 wk wr p b0 g A L) {c B f:Nat} {l:List Int} (ht:yv w2 c B f l) (o:B<=w2.heap.size) (d:∀k,c<=k->k<B->¬foot A g k) (s:Nat) (m:l.length<=288) (n:∀i,i<l.length->0<=ix l i/\ix l i<=15) (a:L.length<=4000000000000):
  Calls Tryz.prog 111 #[.pointer (some ⟨f,0,none⟩), .pointer (some ⟨g,0,none⟩), .int .i64 s] wr λe w'=>(∃b,e= .returned (.bool b))/\Ck w2 wk w' p b0 g A (L++cN l s):=by
 obtain⟨A1,j,c1,r,q,h4⟩ :=h.Rb;refine(BV wr c B f b0 g j c1 A1 l L s (ht.fz h.fz o d) m r a n).mono ?_;rintro e w' ⟨A',n',c',b,rfl,h5,h6,h7⟩;exact⟨⟨b,rfl⟩,h.next h4 q h5 h6 h7⟩
end
def TkR (w2:World) (b0 g:Nat) (A:Option Addr) (L lit bk:List Int) (aj:List cu) (n:Nat) (gk:Nat) (v:Value) (wx:World):Prop:=
 ∃k:Nat,v= .int .i64 k/\k<=n/\Hid (kv w2 wx b0 g A (L++iQ lit bk (aj.take k)))/\Hid (gk=n-k)
theorem uS (w:World) (b0 g n c:Nat) (A:Option Addr) (L:List Int) (hw:qf w b0 g A n c L) (Bt:Nat) (At:Option Addr) (nt ct:Nat) (aj:List cu) (hT:lV w Bt At nt aj) (o:Bt<=w.heap.size) (dy:0<nt->∀u,At=some u->¬foot A g u.block)
  (nA:∀t∈aj,cC t/\0<=t.lit/\t.lit<256) (l:L.length+48*nt+15<=4000000000000) (Bl:Nat) (Al:Option Addr) (nl cl:Nat) (lit:List Int) (hl:bU .i64 w Bl Al nl lit) (ah:Bl<=w.heap.size) (fX:nl<=288) (H:bb lit 15=0)
  (Bd:Nat) (Ad:Option Addr) (nd cd:Nat) (bk:List Int) (hd:bU .i64 w Bd Ad nd bk) (JR:Bd<=w.heap.size) (AQ:nd<=288) (K:bb bk 15=0):
  Calls Tryz.prog 90 #[.pointer (some ⟨g,0,none⟩), .slice At nt ct, .slice Al nl cl, .slice Ad nd cd] w λe w'=>e= .returned (.tuple #[])/\kv w w' b0 g A (L++jY lit bk aj):=by
 have Gn:=o0 w Al nl cl Bl lit 15 hl ah fX H;obtain⟨l1,l2, -⟩ :=kX H;obtain⟨d1,d2, -⟩ :=kX K;have Es:=η Gn;have f:=η (⟨l1,l2,d1,d2⟩ :_/\_/\_/\_);have x:=η (⟨hT,o,dy,nA,l⟩ :_/\_/\_/\_/\_);have HD:=η (⟨hd,JR,AQ,K⟩ :_/\_/\_/\_);have HW:=η hw;have Q0:(0:Int)<=nt/\(nt:Int)<=4000000000000:=ω;clear Gn l1 l2 d1 d2 hT o dy nA l hd JR AQ K hw hl ah fX H;go_enter Tryz.func90,Tryz.ntmps90
 go_wp2_with fail;refine Es.out.mono ?_;rintro e w1 ⟨ga,rfl,r,a⟩;have GC:=η (o0 w1 Ad nd cd Bd bk 15 (HD.out.1.below (a.mono HD.out.2.1)) (au HD.out.2.1 a.size) HD.out.2.2.1 HD.out.2.2.2);have am:=η (⟨r,a⟩ :_/\_);clear r a
 go_wp2_with fail;refine GC.out.mono ?_;rintro e w2 ⟨gb,rfl,Dk,B⟩;obtain⟨r,a⟩ :=am.out;obtain⟨hT,o,dy,nA,l⟩ :=x.out;have ln:=a.trans (B.mono a.size);have T:kv w2 w2 b0 g A L:= ⟨⟨A,n,c,HW.out.keeps ln,λk hk=> .inl hk⟩,bj.refl _ _⟩;have G:∀k,foot A g k->k<w.heap.size:=λk hk=>(HW.out.eJ hk).2
 have C:=η (⟨r.keeps (ag _) B,Dk,λk (h:w.heap.size<=k) (_:k<w1.heap.size) e=>by have:=G k e;omega,λk (h:w1.heap.size<=k) (_:k<w2.heap.size) e=>by have:=G k e;have:=a.size;omega⟩ :
  yv w2 w.heap.size w1.heap.size ga lit/\yv w2 w1.heap.size w2.heap.size gb bk/\(∀k,w.heap.size<=k->k<w1.heap.size->¬foot A g k)/\∀k,w1.heap.size<=k->k<w2.heap.size->¬foot A g k)
 have Xh:=η (hT.below (ln.mono o));have be:=η (au o ln.size);have Cn:=η T;have Sa:=η (⟨ln,B.size⟩ :_/\_);clear Dk B r a hT o dy nA l ln T G am GC
 go_wp2_with fail;go_loopg [29] nt (TkR w2 b0 g A L lit bk aj nt)
 case atStart=>exact⟨0,rfl,aF _,by have h:=Cn.out;show kv w2 w2 b0 g A (L++[]);rw[ax];exact h,rfl⟩
 clear Cn;obtain⟨k,rfl,hk,U,hg⟩ :=hrel;by_cases p:k<nt
 rotate_left
 · obtain rfl:k=nt:=ω;have qh:¬(k:Int)<(k:Int):=ω;have jF:aj.take k=aj:=ay (by rw[<-x.out.1.1];exact ag _);have F:=U.out;rw[jF]at F
   have z:(L++iQ lit bk aj).length<=4000000000000:=by
    have h1:=zv f.out.2.1 f.out.2.2.2 aj λt ht=>(x.out.2.2.2.1 t ht).1;have:=x.out.2.2.2.2;have:=x.out.1.1;rw[af];omega
   have OD:=η (F.sym C.out.1 Sa.out.2 C.out.2.2.1 256 f.out.1 f.out.2.1 z);clear F z jF U p hg
   go_wp2_with fail;refine OD.out.mono ?_;rintro e w5 ⟨⟨b,rfl⟩,h5⟩
   have bX:Hid (kv w w5 b0 g A (L++jY lit bk aj)):=by
    obtain⟨⟨A',n',c',q1,q2⟩,q3⟩ :=h5;refine⟨⟨A',n',c',by unfold jY;rw[<-ak];exact q1,λq J=> ?_⟩,(bj.bA Sa.out.1).trans q3 λq J=> .inl J⟩;rcases q2 q J with h | h
    · exact .inl h
    exact .inr (au Sa.out.1.size h)
   clear h5
   go_wp2_with fail;go_end0;exact⟨rfl,bX.out⟩
 have qh:(k:Int)<(nt:Int)/\(0:Int)<=(k:Int):=ω;have ab:=Xh.out.fz U.out.fz be.out (λh0 u e=>x.out.2.2.1 h0 u e);obtain⟨u,hA,z,V⟩ :=ab.2 ω;obtain⟨a0,a1,a2⟩ :=V k p;rw[kV _ _ _ ω]at a1 a2;have uv:k<aj.length:=by rw[<-x.out.1.1];exact p
 have S:=x.out.2.2.2.1 (dT aj k) (by
  have e:dT aj k=aj[k]:=by simp [dT,uv]
  rw[e];exact cF uv)
 have iX:=wB uv;obtain⟨⟨T0,N,D⟩,ht⟩ :∃t:cu,dT aj k=t:= ⟨_,rfl⟩;rw[ht]at a0 a1 a2 S iX;obtain⟨m,rfl⟩ :∃m:Nat,T0=(m:Int):= ⟨T0.toNat,by have:=S.2.1;have h:0<=T0:=this;omega⟩;replace a0:wr.cell? (u.add (k*3))=some (.int .u8 (m:Int)):=a0;replace a1:wr.cell? { block:=(u.add (k*3)).block,off:=(u.add (k*3)).off+1 }=some (.int .i64 N):=a1;replace a2:wr.cell? { block:=(u.add (k*3)).block,off:=(u.add (k*3)).off+2 }=some (.int .i64 D):=a2
 have Y:(L++iQ lit bk (aj.take k)).length<=3999999999952:=by
  have h1:=zv f.out.2.1 f.out.2.2.2 (aj.take k) λt ht=>(x.out.2.2.2.1 t (aH ht)).1;have:=x.out.2.2.2.2;rw[aA]at h1;rw[af];have:min k aj.length<=k:=eX _ _;omega
 have pA:=η (show L++iQ lit bk (aj.take (k+1))=(L++iQ lit bk (aj.take k))++sT lit bk ⟨(m:Int),N,D⟩ by rw[iX,Ef,Eg,ak]);have ao:=η S;have bi:(0:Int)<=(m:Int)/\(m:Int)<256:=S.2;have s:=η Y;have oX:=η p;clear ab V ht iX S Y z uv p;subst hA;by_cases Lc:N=0
 · subst Lc;have Qc:=(U.out.alloc (.cells #[.int .u8 (m:Int), .int .i64 0, .int .i64 D] 109)).sym C.out.1 Sa.out.2 C.out.2.2.1 m f.out.1 f.out.2.1 (by have:=s.out;omega);have OD:=η Qc
   have bX:Hid (∀w',kv w2 w' b0 g (L:=(L++iQ lit bk (aj.take k))++cN lit m) A->kv w2 w' b0 g A (L++iQ lit bk (aj.take (k+1)))):=λw' h=>by
    rw[pA.out];unfold sT;rw[ae rfl];exact h
   clear Qc
   go_wp2_with fail;refine OD.out.mono ?_;rintro e w5 ⟨⟨b,rfl⟩,h5⟩;have h6:=η (bX.out w5 h5);clear h5 bX
   go_wp2_with fail;go_roundg (nt-(k+1))
   case measure=>have:=hg.out;have:=oX.out;omega
   case rel=>exact⟨k+1,by go_num,oX.out,h6,rfl⟩
 obtain⟨⟨I,d⟩, ⟨d1,d2⟩,RR,RY⟩ :=sU ao.out.1 Lc;replace I:3<=N:=I;replace d:N<=258:=d;replace d1:1<=D:=d1;replace d2:D<=32768:=d2;have v1:=(mE I).a1x d;have P:=(mE I).2.1;have v2:=(kM d1).a1w d2;have O:=(kM d1).2.1;have Cu:=(IB (jg N) (by have:jg N<=28:=RR;omega)).2.2;have yB:=(KH (fk D) (by have:fk D<=29:=RY;omega)).2.2;have TT:jg N<=28:=RR;have TW:fk D<=29:=RY;have pC:(2:Nat) ^ lE (jg N)<=2 ^ 5:=bq ω Cu;have Io:(2:Nat) ^ dE (fk D)<=2 ^ 13:=bq ω yB;have Q:=Ck.new U.out (.cells #[.int .u8 (m:Int), .int .i64 N, .int .i64 D] 109);have R:=BP wr (m:Int) N D 109;have X:=sG N (wr.alloc (.cells #[.int .u8 (m:Int), .int .i64 N, .int .i64 D] 109));have K:∀W,Calls Tryz.prog 113 #[.int .i64 D] W (nW dB dE 1 32768 0 29 D W):=λW=>qs D W
 have Z:Hid (sT lit bk ⟨(m:Int),N,D⟩ =cN lit (257+jg N)++dv (N-((lB (jg N):Nat):Int)) (lE (jg N))++cN bk (fk D)++dv (D-((dB (fk D):Nat):Int)) (dE (fk D))):=by
  show _=_;unfold sT;rw[aa Lc]
 have H:=λv (h:kJ lB lE 3 258 257 28 N v)=>zK h ⟨I,d⟩;have Li:=λv (h:kJ dB dE 1 32768 0 29 D v)=>wS h ⟨d1,d2⟩;obtain⟨j,hj⟩ :=ν (jg N);obtain⟨q,J⟩ :=ν (fk D);rw[hj]at v1 P Cu TT pC Z H;rw[J]at v2 O yB TW Io Z Li;obtain⟨E1,y⟩ :=ν (lE j);obtain⟨E2,Up⟩ :=ν (dE q);obtain⟨V1,oQ⟩ :=ν (N-((lB j:Nat):Int));obtain⟨V2,E⟩ :=ν (D-((dB q:Nat):Int));obtain⟨M,ac⟩ :=ν (257+j);rw[oQ,y,ac]at Z;rw[E,Up]at Z;have TX:(257:Int)+(j:Int)=(M:Int):=ω;have Kc:Hid (∀v,kJ lB lE 3 258 257 28 N v->v= .tuple #[.int .i64 (M:Int), .int .i64 (E1:Int), .int .i64 V1]):=λv h=>by have:=H v h;rw[this,oQ,y,TX]
 have Rh:Hid (∀v,kJ dB dE 1 32768 0 29 D v->v= .tuple #[.int .i64 (q:Int), .int .i64 (E2:Int), .int .i64 V2]):=λv h=>by have:=Li v h;rw[this,E,Up]
 rw[y]at Cu pC v1;rw[Up]at yB Io v2;have bo:0<=V1/\V1<32:=by have h5:(2:Nat) ^ 5=32:=rfl;omega
 have bl:0<=V2/\V2<8192:=by have h5:(2:Nat) ^ 13=8192:=rfl;omega
 have bs:(0:Int)<=(E1:Int)/\(E1:Int)<=5/\(0:Int)<=(E2:Int)/\(E2:Int)<=13:=ω;have Et:=η X;have xK:=η K;have aE:=η (Q.sym C.out.1 Sa.out.2 C.out.2.2.1 M f.out.1 f.out.2.1 (by have:=s.out;omega));have Rm:=η R;have bp:(N==0)=false:=by simpa using Lc
 clear v1 P v2 O Cu yB TT TW pC Io Q R X K H Li hj J y Up oQ E ac TX I d d1 d2 RR RY
 go_wp2_with fail;refine Et.out.mono ?_;rintro e w5 ⟨⟨v,rfl,hv⟩,rfl⟩;rw[Kc.out v hv];clear hv
 go_wp2_with fail;refine aE.out.mono ?_;rintro e w6 ⟨⟨b6,rfl⟩,h6⟩;have uW:=η (h6.put V1 E1 ω ω (by have:=s.out;have:=py f.out.2.1 M;rw[af];omega));clear h6
 go_wp2_with fail;refine uW.out.mono ?_;rintro e w7 ⟨rfl,h7⟩;have cd:w7.cell? ⟨wr.heap.size,2,none⟩ =some (.int .i64 D):=h7.cell Rm.out (i:=2) ω;have ap:=η (h7.sym C.out.2.1 (ag _) C.out.2.2.2 q f.out.2.2.1 f.out.2.2.2 (by have:=s.out;have:=py f.out.2.1 M;rw[af,af,aP];omega));clear h7
 go_wp2_with fail;refine(xK.out _).mono ?_;rintro e w8 ⟨⟨v,rfl,hv⟩,rfl⟩;rw[Rh.out v hv];clear hv cd
 go_wp2_with fail;refine ap.out.mono ?_;rintro e w9 ⟨⟨b9,rfl⟩,h9⟩;have Ev:=η (h9.put V2 E2 ω ω (by have:=s.out;have:=py f.out.2.1 M;have:=py f.out.2.2.2 q;rw[af,af,af,aP];omega));clear h9
 go_wp2_with fail;refine Ev.out.mono ?_;rintro e JI ⟨rfl,al⟩
 have an:=η (show kv w2 JI b0 g A (L++iQ lit bk (aj.take (k+1))) from by
  have h:=al.old;rw[pA.out,Z.out]
  simpa [List.append_assoc] using h)
 clear al
 go_wp2_with fail;go_roundg (nt-(k+1))
 case measure=>have:=hg.out;have:=oX.out;omega
 case rel=>exact⟨k+1,by go_num,oX.out,an,rfl⟩
theorem kv.keeps {w2 wr w':World} {b0 g:Nat} {A:Option Addr} {L:List Int} (h:kv w2 wr b0 g A L) (a:Below wr.heap.size wr w'):kv w2 w' b0 g A L:=by
 obtain⟨⟨A',n',c',e,d⟩,c⟩ :=h;exact⟨⟨A',n',c',e.keeps a,d⟩,c.trans (S':=λ_=>False) (bj.bA a) λk b=>b.elim⟩
theorem kv.start {w w1:World} {b0 g n c:Nat} {A:Option Addr} {L:List Int} (b:qf w b0 g A n c L) (a:Below w.heap.size w w1):kv w w1 b0 g A L:=
 ⟨⟨A,n,c,b.keeps a,λk d=> .inl d⟩,bj.bA a⟩
theorem JJ (w:World) (b0 g n c:Nat) (A:Option Addr) (L:List Int) (C:qf w b0 g A n c L) (At:Option Addr) (nt ct:Nat) (aj:List cu) (d:lV w w.heap.size At nt aj) (b:0<nt->∀p,At=some p->¬foot A g p.block) (v:∀t∈aj,0<=t.lit/\t.lit<256)
  (Ar:Option Addr) (m cr:Nat) (last:Bool) (u:dN 1 aj m=true) (a:L.length<=3000000000000):
  Calls Tryz.prog 65 #[.pointer (some ⟨g,0,none⟩), .int .i64 1, .slice At nt ct, .slice Ar m cr, .bool last] w λe w'=>e= .returned (.bool true)/\kv w w' b0 g A (L++dv (if last then 1 else 0) 1++dv 1 2++jY ig iN aj):=by
 have P:aj.length<1048576/\∀t∈aj,cC t:=by
  unfold dN at u;rw[aa δ]at u;by_cases h:¬((1:Int)=1\/(1:Int)=2)\/1048576<=aj.length
  · rw[ae h]at u;exact absurd u δ
  rw[aa h,gI]at u;exact⟨ω,λt ht=>cM (u t ht)⟩
 have D:=d.1;have HM:=η (qI w 1 At nt ct aj d ω Ar m cr);have HF:=η u;have x:=η (⟨C,d,b,v,P.1,P.2,a,D⟩ :_/\_/\_/\_/\_/\_/\_/\_);clear d u C b v P a D;obtain⟨mk,Q⟩ :=ν ((if last=true then(1:Int)else 0):Int);have I:mk=if last=true then(1:Int)else 0:=Q.symm;rw[Q];clear Q;cases last with
 | false=>
   obtain rfl:mk=0:=I;go_enter Tryz.func65,Tryz.ntmps65
   go_wp2_with fail;refine HM.out.mono ?_;rintro e w1 ⟨rfl,k⟩;rw[HF.out];have V:=η (kv.start x.out.1 k);have X:=η (V.out.put 0 1 δ δ (by have:=x.out.2.2.2.2.2.2.1;omega));clear k
   go_wp2_with fail;refine X.out.mono ?_;rintro e w2 ⟨rfl,K⟩;have W:=η (K.put 1 2 δ δ (by rw[af,aP];have:=x.out.2.2.2.2.2.2.1;omega));clear K
   go_wp2_with fail;refine W.out.mono ?_;rintro e N ⟨rfl,J⟩;have Y:=η J;clear J
   go_wp2_with fail;refine(pN N).mono ?_;rintro e q ⟨Af,cf,Z,cg,rfl,H,G,j⟩;obtain⟨C,d,b,v,y,F,a,D⟩ :=x.out;have h4:=Y.out.keeps j;obtain⟨⟨A4,O,T,f,Cb⟩,r⟩ :=h4;have l:lV q w.heap.size At nt aj:=d.fz r (ag _) b
   have E:=uS q b0 g O T A4 _ f w.heap.size At nt ct aj l r.size (λB p e i=>by
     have S:p.block<w.heap.size:=by
      obtain⟨MT,s,z,_⟩ :=d.2 B;rw[e]at s;injection s with s;rw[s];exact z
     rcases i with i | i
     · exact b B p e (.inl i)
     rcases Cb _ i with h | h
     · exact b B p e (.inr h)
     omega)
    (λt ht=> ⟨F t ht,v t ht⟩) (by rw[af,af,aP,aP];omega) q.heap.size Af 288 cf ig H.rd (ag _) δ mA.1 q.heap.size Z 32 cg iN G.rd (ag _) δ mA.2
   have U:=η E;have o:=η (⟨Cb,r⟩ :_/\_);clear E l f Cb r C d b v y F a D H G j
   go_wp2_with fail;refine U.out.mono ?_;rintro e M ⟨rfl,h5⟩
   have R:=η (show kv w M b0 g A (L++dv 0 1++dv 1 2++jY ig iN aj) from by
    obtain⟨⟨A5,n5,c5,q1,q2⟩,q3⟩ :=h5;exact kv.next o.out.2 o.out.1 q1 q3 q2)
   clear h5
   go_wp2_with fail;go_ret;exact⟨rfl,R.out⟩
 | true=>
   obtain rfl:mk=1:=I;go_enter Tryz.func65,Tryz.ntmps65
   go_wp2_with fail;refine HM.out.mono ?_;rintro e w1 ⟨rfl,k⟩;rw[HF.out];have V:=η (kv.start x.out.1 k);have X:=η (V.out.put 1 1 δ δ (by have:=x.out.2.2.2.2.2.2.1;omega));clear k
   go_wp2_with fail;refine X.out.mono ?_;rintro e w2 ⟨rfl,K⟩;have W:=η (K.put 1 2 δ δ (by rw[af,aP];have:=x.out.2.2.2.2.2.2.1;omega));clear K
   go_wp2_with fail;refine W.out.mono ?_;rintro e N ⟨rfl,J⟩;have Y:=η J;clear J
   go_wp2_with fail;refine(pN N).mono ?_;rintro e q ⟨Af,cf,Z,cg,rfl,H,G,j⟩;obtain⟨C,d,b,v,y,F,a,D⟩ :=x.out;have h4:=Y.out.keeps j;obtain⟨⟨A4,O,T,f,Cb⟩,r⟩ :=h4;have l:lV q w.heap.size At nt aj:=d.fz r (ag _) b
   have E:=uS q b0 g O T A4 _ f w.heap.size At nt ct aj l r.size (λB p e i=>by
     have S:p.block<w.heap.size:=by
      obtain⟨MT,s,z,_⟩ :=d.2 B;rw[e]at s;injection s with s;rw[s];exact z
     rcases i with i | i
     · exact b B p e (.inl i)
     rcases Cb _ i with h | h
     · exact b B p e (.inr h)
     omega)
    (λt ht=> ⟨F t ht,v t ht⟩) (by rw[af,af,aP,aP];omega) q.heap.size Af 288 cf ig H.rd (ag _) δ mA.1 q.heap.size Z 32 cg iN G.rd (ag _) δ mA.2
   have U:=η E;have o:=η (⟨Cb,r⟩ :_/\_);clear E l f Cb r C d b v y F a D H G j
   go_wp2_with fail;refine U.out.mono ?_;rintro e M ⟨rfl,h5⟩
   have R:=η (show kv w M b0 g A (L++dv 1 1++dv 1 2++jY ig iN aj) from by
    obtain⟨⟨A5,n5,c5,q1,q2⟩,q3⟩ :=h5;exact kv.next o.out.2 o.out.1 q1 q3 q2)
   clear h5
   go_wp2_with fail;go_ret;exact⟨rfl,R.out⟩
theorem SF (w:World) (kind:Int) (At:Option Addr) (nt ct:Nat) (aj:List cu) (c:lV w w.heap.size At nt aj) (d:(nt:Int)<=4611686018427387904) (Ar:Option Addr) (m cr:Nat) (b:dN kind aj m=false):
  Calls Tryz.prog 93 #[.int .i64 kind, .slice At nt ct, .slice Ar m cr] w λe w'=>e= .returned (.int .i64 (-1))/\Below w.heap.size w w':=by
 have f:=η (qI w kind At nt ct aj c d Ar m cr);have g:=η b;clear c b;go_enter Tryz.func93,Tryz.ntmps93
 go_wp2_with fail;refine f.out.mono ?_;rintro e w1 ⟨rfl,a⟩;rw[g.out]
 go_wp2_with fail;go_ret;exact⟨rfl,a⟩
theorem EC (w:World) (At:Option Addr) (nt ct:Nat) (aj:List cu) (c:lV w w.heap.size At nt aj) (d:(nt:Int)<=4611686018427387904) (Ar:Option Addr) (m cr:Nat) (b:m<=65535):
  Calls Tryz.prog 93 #[.int .i64 0, .slice At nt ct, .slice Ar m cr] w λe w'=>e= .returned (.int .i64 (40+8*(m:Int)))/\Below w.heap.size w w':=by
 have f:=η (qI w 0 At nt ct aj c d Ar m cr);have g:=η (show dN 0 aj m=true by unfold dN;rw[ae rfl];exact aS b);have h:(0:Int)<=(m:Int)/\(m:Int)<=65535:=ω;clear c b;go_enter Tryz.func93,Tryz.ntmps93
 go_wp2_with fail;refine f.out.mono ?_;rintro e w1 ⟨rfl,a⟩;rw[g.out]
 go_wp2_with fail;go_ret;exact⟨rfl,a⟩
structure DM where
 gi:Nat
 Ai:Option Addr
 ni:Nat
 ci:Nat
 B:List Int
 a:Nat
 gw:Nat
 Aw:Option Addr
 nw:Nat
 cw:Nat
 l:List Int
 Ao:Option Addr
 no:Nat
 co:Nat
 out:List Int
 Al:Option Addr
 nl:Nat
 cl:Nat
 lens:List Int
 hp:Option Addr
 lp:Option Addr
 dp:Option Addr
 hd:Option (List Int)
 lt:Option (List Int)
 ds:Option (List Int)
structure DS where
 most:Nat
 err:Int
 st:Nat
 last:Bool
 left:Nat
 c0:Nat
 c1:Nat
 c2:Nat
 len:Nat
def dF (M:DM) (S:DS):Nat->Value
 | 0=> .pointer (some ⟨M.gi,0,none⟩)
 | 1=> .pointer (some ⟨M.gw,0,none⟩)
 | 2=> .int .i64 S.most
 | 3=> .slice M.Ao M.no M.co
 | 4=> .int .i64 S.err
 | 5=> .int .i64 S.st
 | 6=> .bool S.last
 | 7=> .int .i64 S.left
 | 8=> .int .i64 S.c0
 | 9=> .int .i64 S.c1
 | 10=> .int .i64 S.c2
 | 11=> .slice M.Al M.nl M.cl
 | 12=> .pointer M.hp
 | 13=> .pointer M.lp
 | 14=> .pointer M.dp
 | _=> .int .i64 S.len
theorem fj {P:Nat->Prop} (n:P 0) (m:P 1) (i:P 2) (h:P 3) (h4:P 4) (h5:P 5) (h6:P 6) (h7:P 7) (g:P 8) (f:P 9) (d:P 10) (c:P 11) (l:P 12) (b:P 13) (a:P 14) (k:P 15):
  ∀j,j<16->P j:=λj e=>by
 obtain rfl | rfl | rfl | rfl | rfl | rfl | rfl | rfl | rfl | rfl | rfl | rfl | rfl | rfl | rfl | rfl:j=0\/j=1\/j=2\/j=3\/j=4\/j=5\/j=6\/j=7\/j=8\/j=9\/j=10\/j=11\/j=12\/j=13\/j=14\/j=15:=ω;all_goals assumption
def kU (w:World) (b0:Nat) (c:Nat->Nat) (p:Option Addr) (l:List Int):Prop:=
 ∃a B b,p=some ⟨b,0,none⟩/\yv w a B b l/\b0<=a/\B<=w.heap.size/\l.length<=288/\∀k,a<=k->k<B->c k=6
structure jb (w:World) (b0 g:Nat) (c:Nat->Nat) (M:DM) (S:DS):Prop where
 cell:Ar w g 16 (dF M S)
 cg:c g=1
 mg:qd w b0 M.gi M.Ai M.ni M.ci M.B M.a
 cr:∀k,foot M.Ai M.gi k->c k=2
 Gb:yR w b0 M.gw M.Aw M.nw M.cw M.l
 cw:∀k,foot M.Aw M.gw k->c k=3
 out:aW .u8 w b0 5 M.Ao M.no M.co M.out
 co:∀k,ai M.Ao=some k->c k=4
 lens:aW .i64 w b0 3 M.Al M.nl M.cl M.lens
 cl:∀k,ai M.Al=some k->c k=5
 th:∀l,M.hd=some l->kU w b0 c M.hp l
 tl:∀l,M.lt=some l->kU w b0 c M.lp l
 td:∀l,M.ds=some l->kU w b0 c M.dp l
 cb:∀k,c k≠0->b0<=k/\k<w.heap.size
 bB:M.B.length<=100000000000
def bz (w0:World) (c0:Nat->Nat) (w:World) (b0 g:Nat) (M:DM) (S:DS):Prop:=∃c,jb w b0 g c M S/\DE b0 w0 c0 w c
section
variable {w w' w0:World} {b0 g:Nat} {c c0:Nat->Nat} {M:DM} {S:DS}
theorem jb.refl (h:jb w b0 g c M S):bz w c w b0 g M S:= ⟨c,h,aw _ _,bj.refl _ _,λ_ _=>rfl⟩
theorem jb.lo (h:jb w b0 g c M S):b0<=w.heap.size:=by have:=h.cb g (by rw[h.cg];decide);omega
theorem kU.fz {c':Nat->Nat} {F:Nat->Prop} {p:Option Addr} {l:List Int} (h:kU w b0 c p l) (d:bj w w' F) (hF:∀k,F k->c k≠6) (g:∀k,k<w.heap.size->c' k=c k):kU w' b0 c' p l:=by
 obtain⟨e,B,n,m,j,i,h4,h5,h6⟩ :=h;exact⟨e,B,n,m,j.fz d h4 (λk b a f=>hF k f (h6 k b a)),i,au h4 d.size,h5,λk b a=>(g k ω).trans (h6 k b a)⟩
theorem jb.reader (h:jb w b0 g c M S) (m:bj w w' (foot M.Ai M.gi)) {A':Option Addr} {n' c' a':Nat} {B':List Int} (q:qd w' b0 M.gi A' n' c' B' a') (hf:∀k,foot A' M.gi k->foot M.Ai M.gi k\/w.heap.size<=k) (r:B'.length<=100000000000):
  jb w' b0 g (cT c w.heap.size (foot A' M.gi) 2) { M with Ai:=A',ni:=n',ci:=c',B:=B',a:=a' } S:=by
 have hF:∀k,foot M.Ai M.gi k->c k=2:=h.cr;have p:∀k i,c k=i->i≠0->k<w.heap.size:=λk i j f=>(h.cb k ω).2;have d:∀k,k<w.heap.size->cT c w.heap.size (foot A' M.gi) 2 k=c k:=λk b=>cy b;have o:∀k i,c k=i->i≠0->cT c w.heap.size (foot A' M.gi) 2 k=i:=λk i j f=>(d k (p k i j f)).trans j
 exact⟨m.ar h.cell (λe=>by have:=hF g e;have:=h.cg;omega),o _ _ h.cg δ,q,λk b=>by
   rcases aZ k w.heap.size with j | j
   · rcases hf k b with f | f
     · exact o k 2 (hF k f) δ
     omega
   exact fI j b,
  h.Gb.fz m (λk b e=>by have:=hF k e;have:=h.cw k b;omega),λk b=>o k 3 (h.cw k b) δ,
  m.eH h.out (λk b e=>by have:=hF k e;have:=h.co k b;omega),λk b=>o k 4 (h.co k b) δ,
  m.eH h.lens (λk b e=>by have:=hF k e;have:=h.cl k b;omega),λk b=>o k 5 (h.cl k b) δ,
  λl n=>(h.th l n).fz m (λk b e=>by have:=hF k b;omega) d,λl n=>(h.tl l n).fz m (λk b e=>by have:=hF k b;omega) d,λl n=>(h.td l n).fz m (λk b e=>by have:=hF k b;omega) d,
  λk b=>by
   rcases fZ b with ⟨j,f⟩ | ⟨j,f⟩
   · exact⟨(h.cb k f).1,aD j m.size⟩
   exact q.eJ f,r⟩
theorem jb.C3 (h:jb w b0 g c M S) (j:bj w w' (foot M.Aw M.gw)) {A':Option Addr} {n' c':Nat} {l':List Int} (p:yR w' b0 M.gw A' n' c' l') (hf:∀k,foot A' M.gw k->foot M.Aw M.gw k\/w.heap.size<=k):
  jb w' b0 g (cT c w.heap.size (foot A' M.gw) 3) { M with Aw:=A',nw:=n',cw:=c',l:=l' } S:=by
 have hF:∀k,foot M.Aw M.gw k->c k=3:=h.cw;have o:∀k i,c k=i->i≠0->k<w.heap.size:=λk i f d=>(h.cb k ω).2;have b:∀k,k<w.heap.size->cT c w.heap.size (foot A' M.gw) 3 k=c k:=λk a=>cy a;have n:∀k i,c k=i->i≠0->cT c w.heap.size (foot A' M.gw) 3 k=i:=λk i f d=>(b k (o k i f d)).trans f
 exact⟨j.ar h.cell (λe=>by have:=hF g e;have:=h.cg;omega),n _ _ h.cg δ,
  h.mg.fz j (λk a e=>by have:=hF k e;have:=h.cr k a;omega),λk a=>n k 2 (h.cr k a) δ,p,λk a=>by
   rcases aZ k w.heap.size with f | f
   · rcases hf k a with d | d
     · exact n k 3 (hF k d) δ
     omega
   exact fI f a,
  j.eH h.out (λk a e=>by have:=hF k e;have:=h.co k a;omega),λk a=>n k 4 (h.co k a) δ,
  j.eH h.lens (λk a e=>by have:=hF k e;have:=h.cl k a;omega),λk a=>n k 5 (h.cl k a) δ,
  λl m=>(h.th l m).fz j (λk a e=>by have:=hF k a;omega) b,λl m=>(h.tl l m).fz j (λk a e=>by have:=hF k a;omega) b,λl m=>(h.td l m).fz j (λk a e=>by have:=hF k a;omega) b,
  λk a=>by
   rcases fZ a with ⟨f,d⟩ | ⟨f,d⟩
   · exact⟨(h.cb k d).1,aD f j.size⟩
   exact p.eJ d,h.bB⟩
theorem jb.outs (h:jb w b0 g c M S) (j:bj w w' (λk=>k=g\/ai M.Ao=some k)) {A':Option Addr} {n' c':Nat} {l':List Int} {S':DS} (q:Ar w' g 16 (dF { M with Ao:=A',no:=n',co:=c',out:=l' } S')) (p:aW .u8 w' b0 5 A' n' c' l')
  (hf:∀k,ai A'=some k->ai M.Ao=some k\/w.heap.size<=k):
  jb w' b0 g (cT c w.heap.size (λk=>ai A'=some k) 4) { M with Ao:=A',no:=n',co:=c',out:=l' } S':=by
 have hF:∀k,(k=g\/ai M.Ao=some k)->c k=1\/c k=4:=λk a=>by
  rcases a with rfl | a
  · exact .inl h.cg
  exact .inr (h.co k a)
 have o:∀k i,c k=i->i≠0->k<w.heap.size:=λk i f d=>(h.cb k ω).2;have b:∀k,k<w.heap.size->cT c w.heap.size (λk=>ai A'=some k) 4 k=c k:=λk a=>cy a;have n:∀k i,c k=i->i≠0->cT c w.heap.size (λk=>ai A'=some k) 4 k=i:=λk i f d=>(b k (o k i f d)).trans f
 exact⟨q,n _ _ h.cg δ,
  h.mg.fz j (λk a e=>by have:=hF k e;have:=h.cr k a;omega),λk a=>n k 2 (h.cr k a) δ,
  h.Gb.fz j (λk a e=>by have:=hF k e;have:=h.cw k a;omega),λk a=>n k 3 (h.cw k a) δ,p,λk a=>by
   rcases aZ k w.heap.size with f | f
   · rcases hf k a with d | d
     · exact n k 4 (h.co k d) δ
     omega
   exact fI f a,
  j.eH h.lens (λk a e=>by have:=hF k e;have:=h.cl k a;omega),λk a=>n k 5 (h.cl k a) δ,
  λl m=>(h.th l m).fz j (λk a e=>by have:=hF k a;omega) b,λl m=>(h.tl l m).fz j (λk a e=>by have:=hF k a;omega) b,λl m=>(h.td l m).fz j (λk a e=>by have:=hF k a;omega) b,
  λk a=>by
   rcases fZ a with ⟨f,d⟩ | ⟨f,d⟩
   · exact⟨(h.cb k d).1,aD f j.size⟩
   exact p.2.lt d,h.bB⟩
theorem jb.Fx (h:jb w b0 g c M S) (j:bj w w' (λk=>k=g\/ai M.Al=some k)) {A':Option Addr} {n' c':Nat} {l':List Int} {S':DS} (q:Ar w' g 16 (dF { M with Al:=A',nl:=n',cl:=c',lens:=l' } S')) (p:aW .i64 w' b0 3 A' n' c' l')
  (hf:∀k,ai A'=some k->ai M.Al=some k\/w.heap.size<=k):
  jb w' b0 g (cT c w.heap.size (λk=>ai A'=some k) 5) { M with Al:=A',nl:=n',cl:=c',lens:=l' } S':=by
 have hF:∀k,(k=g\/ai M.Al=some k)->c k=1\/c k=5:=λk a=>by
  rcases a with rfl | a
  · exact .inl h.cg
  exact .inr (h.cl k a)
 have o:∀k i,c k=i->i≠0->k<w.heap.size:=λk i f d=>(h.cb k ω).2;have b:∀k,k<w.heap.size->cT c w.heap.size (λk=>ai A'=some k) 5 k=c k:=λk a=>cy a;have n:∀k i,c k=i->i≠0->cT c w.heap.size (λk=>ai A'=some k) 5 k=i:=λk i f d=>(b k (o k i f d)).trans f
 exact⟨q,n _ _ h.cg δ,
  h.mg.fz j (λk a e=>by have:=hF k e;have:=h.cr k a;omega),λk a=>n k 2 (h.cr k a) δ,
  h.Gb.fz j (λk a e=>by have:=hF k e;have:=h.cw k a;omega),λk a=>n k 3 (h.cw k a) δ,
  j.eH h.out (λk a e=>by have:=hF k e;have:=h.co k a;omega),λk a=>n k 4 (h.co k a) δ,p,λk a=>by
   rcases aZ k w.heap.size with f | f
   · rcases hf k a with d | d
     · exact n k 5 (h.cl k d) δ
     omega
   exact fI f a,
  λl m=>(h.th l m).fz j (λk a e=>by have:=hF k a;omega) b,λl m=>(h.tl l m).fz j (λk a e=>by have:=hF k a;omega) b,λl m=>(h.td l m).fz j (λk a e=>by have:=hF k a;omega) b,
  λk a=>by
   rcases fZ a with ⟨f,d⟩ | ⟨f,d⟩
   · exact⟨(h.cb k d).1,aD f j.size⟩
   exact p.2.lt d,h.bB⟩
theorem jb.keeps (h:jb w b0 g c M S) (b:Below w.heap.size w w'):jb w' b0 g c M S:=by
 have e:bj w w' (λ_=>False):=bj.bA b
 exact⟨h.cell.keeps b,h.cg,h.mg.keeps b,h.cr,h.Gb.keeps b,h.cw,h.out.keeps b,h.co,h.lens.keeps b,h.cl,
  λl d=>(h.th l d).fz e (λk a=>a.elim) (λ_ _=>rfl),λl d=>(h.tl l d).fz e (λk a=>a.elim) (λ_ _=>rfl),λl d=>(h.td l d).fz e (λk a=>a.elim) (λ_ _=>rfl),
  λk a=> ⟨(h.cb k a).1,aD (h.cb k a).2 b.size⟩,h.bB⟩
theorem bz.reader (h:bz w0 c0 w b0 g M S) (d:bj w w' (foot M.Ai M.gi)) {A':Option Addr} {n' c' a':Nat} {B':List Int} (e:qd w' b0 M.gi A' n' c' B' a') (hf:∀k,foot A' M.gi k->foot M.Ai M.gi k\/w.heap.size<=k) (f:B'.length<=100000000000):
  bz w0 c0 w' b0 g { M with Ai:=A',ni:=n',ci:=c',B:=B',a:=a' } S:=by
 obtain⟨c,h,hd⟩ :=h;exact⟨_,h.reader d e hf f,hd.step h.lo (λk b=>(h.cb k b).1) (d.more λk b=>by rw[h.cr k b];decide) λk b=>cy b⟩
theorem bz.moved (h:bz w0 c0 w b0 g M S) (e:bj w w' (λk=>k=M.gi)) {a':Nat} (d:qd w' b0 M.gi M.Ai M.ni M.ci M.B a'):bz w0 c0 w' b0 g { M with a:=a' } S:=
 h.reader (e.more λk b=> .inl b) d (λk b=> .inl b) (by obtain⟨c,h,_⟩ :=h;exact h.bB)
theorem bz.C3 (h:bz w0 c0 w b0 g M S) (b:bj w w' (foot M.Aw M.gw)) {A':Option Addr} {n' c':Nat} {l':List Int} (d:yR w' b0 M.gw A' n' c' l') (hf:∀k,foot A' M.gw k->foot M.Aw M.gw k\/w.heap.size<=k):
  bz w0 c0 w' b0 g { M with Aw:=A',nw:=n',cw:=c',l:=l' } S:=by
 obtain⟨c,h,hd⟩ :=h;exact⟨_,h.C3 b d hf,hd.step h.lo (λk a=>(h.cb k a).1) (b.more λk a=>by rw[h.cw k a];decide) λk a=>cy a⟩
theorem bz.outs (h:bz w0 c0 w b0 g M S) (b:bj w w' (λk=>k=g\/ai M.Ao=some k)) {A':Option Addr} {n' c':Nat} {l':List Int} {S':DS} (e:Ar w' g 16 (dF { M with Ao:=A',no:=n',co:=c',out:=l' } S')) (d:aW .u8 w' b0 5 A' n' c' l')
  (hf:∀k,ai A'=some k->ai M.Ao=some k\/w.heap.size<=k):bz w0 c0 w' b0 g { M with Ao:=A',no:=n',co:=c',out:=l' } S':=by
 obtain⟨c,h,hd⟩ :=h
 exact⟨_,h.outs b e d hf,hd.step h.lo (λk a=>(h.cb k a).1) (b.more λk a=>by
  rcases a with rfl | a
  · rw[h.cg];decide
  rw[h.co k a];decide) λk a=>cy a⟩
theorem bz.Fx (h:bz w0 c0 w b0 g M S) (b:bj w w' (λk=>k=g\/ai M.Al=some k)) {A':Option Addr} {n' c':Nat} {l':List Int} {S':DS} (e:Ar w' g 16 (dF { M with Al:=A',nl:=n',cl:=c',lens:=l' } S')) (d:aW .i64 w' b0 3 A' n' c' l')
  (hf:∀k,ai A'=some k->ai M.Al=some k\/w.heap.size<=k):bz w0 c0 w' b0 g { M with Al:=A',nl:=n',cl:=c',lens:=l' } S':=by
 obtain⟨c,h,hd⟩ :=h
 exact⟨_,h.Fx b e d hf,hd.step h.lo (λk a=>(h.cb k a).1) (b.more λk a=>by
  rcases a with rfl | a
  · rw[h.cg];decide
  rw[h.cl k a];decide) λk a=>cy a⟩
theorem bz.keeps (h:bz w0 c0 w b0 g M S) (b:Below w.heap.size w w'):bz w0 c0 w' b0 g M S:=by
 obtain⟨c,h,hd⟩ :=h;exact⟨c,h.keeps b,hd.step h.lo (λk a=>(h.cb k a).1) (bj.bA b) λk a=>rfl⟩
theorem bz.drewN (h:bz w0 c0 w b0 g M S) (q:Nat):bz w0 c0 (w.drewN q) b0 g M S:=h.keeps (below_drewN (aw _ _) q)
theorem bz.drew (h:bz w0 c0 w b0 g M S):bz w0 c0 w.drew b0 g M S:=h.keeps (aw _ _).drew
theorem bz.put (h:bz w0 c0 w b0 g M S) {i:Nat} (hi:i<16) (v:Value) (S':DS) (hF:∀j,j<16->upd (dF M S) i v j=dF M S' j):bz w0 c0 (w.setCell ⟨g,i,none⟩ v) b0 g M S':=by
 obtain⟨c,h,hd⟩ :=h;have a:ai M.Ao≠some g:=λe=>by have:=h.co g e;have:=h.cg;omega
 have:=bz.outs ⟨c,h,hd⟩ (w':=w.setCell ⟨g,i,none⟩ v) (A':=M.Ao) (n':=M.no) (c':=M.co) (l':=M.out) (S':=S') ((bj.refl w _).setCell (p:= ⟨g,i,none⟩) (.inl (.inl rfl)) v) ((h.cell.bC hi v).congr hF) (h.out.far (p:= ⟨g,i,none⟩) a v) (λk b=> .inl b);exact this
theorem bz.apart (h:bz w0 c0 w b0 g M S):ai M.Ao≠some g/\ai M.Al≠some g/\M.gi≠g/\M.gw≠g:=by
 obtain⟨c,h,hd⟩ :=h;have a:=h.cg;exact⟨λe=>by have:=h.co g e;omega,λe=>by have:=h.cl g e;omega,λe=>by have:=h.cr g (.inl e.symm);omega,λe=>by have:=h.cw g (.inl e.symm);omega⟩
theorem bz.cell (h:bz w0 c0 w b0 g M S):Ar w g 16 (dF M S):=by obtain⟨c,h,hd⟩ :=h;exact h.cell
theorem bz.mg (h:bz w0 c0 w b0 g M S):qd w b0 M.gi M.Ai M.ni M.ci M.B M.a:=by obtain⟨c,h,hd⟩ :=h;exact h.mg
theorem bz.Gb (h:bz w0 c0 w b0 g M S):yR w b0 M.gw M.Aw M.nw M.cw M.l:=by obtain⟨c,h,hd⟩ :=h;exact h.Gb
theorem bz.out (h:bz w0 c0 w b0 g M S):aW .u8 w b0 5 M.Ao M.no M.co M.out:=by obtain⟨c,h,hd⟩ :=h;exact h.out
theorem bz.lens (h:bz w0 c0 w b0 g M S):aW .i64 w b0 3 M.Al M.nl M.cl M.lens:=by obtain⟨c,h,hd⟩ :=h;exact h.lens
theorem bz.lo (h:bz w0 c0 w b0 g M S):b0<=w.heap.size:=by obtain⟨c,h,hd⟩ :=h;exact h.lo
theorem bz.big (h:bz w0 c0 w b0 g M S):M.B.length<=100000000000:=by obtain⟨c,h,hd⟩ :=h;exact h.bB
theorem jb.tab (h:jb w b0 g c M S) {p:Option Addr} {l:List Int} (ht:kU w b0 c p l):∃a B b,p=some ⟨b,0,none⟩/\yv w a B b l/\B<=w.heap.size/\l.length<=288/\∀k,a<=k->k<B->k≠M.gi:=by
 obtain⟨a,B,b,j,i,m,h4,h5,h6⟩ :=ht;exact⟨a,B,b,j,i,h4,h5,λk f d e=>by have:=h6 k f d;have:=h.cr M.gi (.inl rfl);subst e;omega⟩
theorem bz.b0N (h:bz w0 c0 w b0 g M S) {l:List Int} (d:M.hd=some l):∃a B b,M.hp=some ⟨b,0,none⟩/\yv w a B b l/\B<=w.heap.size/\l.length<=288/\∀k,a<=k->k<B->k≠M.gi:=by
 obtain⟨c,h,hd⟩ :=h;exact h.tab (h.th l d)
theorem bz.b0O (h:bz w0 c0 w b0 g M S) {l:List Int} (d:M.lt=some l):∃a B b,M.lp=some ⟨b,0,none⟩/\yv w a B b l/\B<=w.heap.size/\l.length<=288/\∀k,a<=k->k<B->k≠M.gi:=by
 obtain⟨c,h,hd⟩ :=h;exact h.tab (h.tl l d)
theorem bz.b0M (h:bz w0 c0 w b0 g M S) {l:List Int} (d:M.ds=some l):∃a B b,M.dp=some ⟨b,0,none⟩/\yv w a B b l/\B<=w.heap.size/\l.length<=288/\∀k,a<=k->k<B->k≠M.gi:=by
 obtain⟨c,h,hd⟩ :=h;exact h.tab (h.td l d)
theorem jb.tabs (h:jb w b0 g c M S) {p:Option Addr} {l:List Int} {i:Nat} (r:Below w.heap.size w w') (hp:p=some ⟨i,0,none⟩) (ht:yv w' w.heap.size w'.heap.size i l) (o:l.length<=288):
  jb w' b0 g (cT c w.heap.size (λk=>w.heap.size<=k/\k<w'.heap.size) 6) M S/\kU w' b0 (cT c w.heap.size (λk=>w.heap.size<=k/\k<w'.heap.size) 6) p l:=by
 have b:=h.keeps r;have a:∀k,c k≠0->cT c w.heap.size (λk=>w.heap.size<=k/\k<w'.heap.size) 6 k=c k:=λk b=>cy (h.cb k b).2
 have e:∀{p l},kU w' b0 c p l->kU w' b0 (cT c w.heap.size (λk=>w.heap.size<=k/\k<w'.heap.size) 6) p l:=λ{p l} e=>by
  obtain⟨n,B,i,m,f,s,h4,h5,h6⟩ :=e;exact⟨n,B,i,m,f,s,h4,h5,λk d j=>by rw[a k (by rw[h6 k d j];decide)];exact h6 k d j⟩
 refine⟨⟨b.cell,(a g (by rw[h.cg];decide)).trans h.cg,b.mg,λk q=>(a k (by rw[h.cr k q];decide)).trans (h.cr k q),b.Gb,λk q=>(a k (by rw[h.cw k q];decide)).trans (h.cw k q),b.out,λk q=>(a k (by rw[h.co k q];decide)).trans (h.co k q),b.lens,λk q=>(a k (by rw[h.cl k q];decide)).trans (h.cl k q),
  λl q=>e (b.th l q),λl q=>e (b.tl l q),λl q=>e (b.td l q),λk q=> ?_,h.bB⟩, ⟨w.heap.size,w'.heap.size,i,hp,ht,h.lo,ag _,o,λk d j=>fI d ⟨d,j⟩⟩⟩
 rcases fZ q with ⟨m,f⟩ | ⟨m,f⟩
 · exact b.cb k f
 exact⟨au h.lo m,f.2⟩
theorem bz.a0l (h:bz w0 c0 w b0 g M S) {l:List Int} {f:Nat} (s:Below w.heap.size w w') (ht:yv w' w.heap.size w'.heap.size f l) (z:l.length<=288):
  bz w0 c0 (w'.setCell ⟨g,12,none⟩ (.pointer (some ⟨f,0,none⟩))) b0 g { M with hp:=some ⟨f,0,none⟩,hd:=some l } S/\
  bz w0 c0 (w'.setCell ⟨g,13,none⟩ (.pointer (some ⟨f,0,none⟩))) b0 g { M with lp:=some ⟨f,0,none⟩,lt:=some l } S/\
  bz w0 c0 (w'.setCell ⟨g,14,none⟩ (.pointer (some ⟨f,0,none⟩))) b0 g { M with dp:=some ⟨f,0,none⟩,ds:=some l } S:=by
 obtain⟨c,h,hd⟩ :=h;obtain⟨a,t⟩ :=h.tabs (p:=some ⟨f,0,none⟩) s rfl ht z;have n:=hd.step (w':=w') (c':=cT c w.heap.size (λk=>w.heap.size<=k/\k<w'.heap.size) 6) h.lo (λk b=>(h.cb k b).1) (bj.bA s) λk b=>cy b;generalize cT c w.heap.size (λk=>w.heap.size<=k/\k<w'.heap.size) 6=cc at a t n;have r:ai M.Ao≠some g:=λe=>by have:=h.co g e;have:=h.cg;omega
 have A:ai M.Al≠some g:=λe=>by have:=h.cl g e;have:=h.cg;omega
 have yL:∀(i:Nat) (v:Value) (d:DM),i<16->(∀j,j<16->upd (dF M S) i v j=dF d S j)->d={ M with hp:=d.hp,lp:=d.lp,dp:=d.dp,hd:=d.hd,lt:=d.lt,ds:=d.ds }->
   (∀l,d.hd=some l->kU w' b0 cc d.hp l)->(∀l,d.lt=some l->kU w' b0 cc d.lp l)->(∀l,d.ds=some l->kU w' b0 cc d.dp l)->bz w0 c0 (w'.setCell ⟨g,i,none⟩ v) b0 g d S:=by
  intro i v d hi hF B y x u;have m:bj w' (w'.setCell ⟨g,i,none⟩ v) (λk=>k=g):=(bj.refl w' (λk=>k=g)).setCell (p:= ⟨g,i,none⟩) (.inl rfl) v;have o:∀{p l},kU w' b0 cc p l->kU (w'.setCell ⟨g,i,none⟩ v) b0 cc p l:=λht=>ht.fz m (λk b=>by subst b;rw[a.cg];decide) λ_ _=>rfl
  refine⟨cc, ⟨(a.cell.bC hi v).congr hF,a.cg, ?_, ?_, ?_, ?_, ?_, ?_, ?_, ?_,λl q=>o (y l q),λl q=>o (x l q),λl q=>o (u l q),λk b=> ⟨(a.cb k b).1,aD (a.cb k b).2 m.size⟩, ?_⟩,
   n.step a.lo (λk b=>(a.cb k b).1) (m.more λk b=>by subst b;rw[a.cg];decide) λ_ _=>rfl⟩
  all_goals rw[B]
  · exact a.mg.fz m (λk b e=>by have:=a.cr k b;have:=a.cg;subst e;omega)
  · exact a.cr
  · exact a.Gb.fz m (λk b e=>by have:=a.cw k b;have:=a.cg;subst e;omega)
  · exact a.cw
  · exact m.eH a.out (λk b e=>by subst e;exact r b)
  · exact a.co
  · exact m.eH a.lens (λk b e=>by subst e;exact A b)
  · exact a.cl
  exact a.bB
 refine⟨yL 12 _ _ ω (fj rfl rfl rfl rfl rfl rfl rfl rfl rfl rfl rfl rfl rfl rfl rfl rfl) rfl (λl' q=> ?_) a.tl a.td,yL 13 _ _ ω (fj rfl rfl rfl rfl rfl rfl rfl rfl rfl rfl rfl rfl rfl rfl rfl rfl) rfl a.th (λl' q=> ?_) a.td,yL 14 _ _ ω (fj rfl rfl rfl rfl rfl rfl rfl rfl rfl rfl rfl rfl rfl rfl rfl rfl) rfl a.th a.tl (λl' q=> ?_)⟩
 all_goals
  injection q with q;subst q;exact t
end
theorem Ma (a b:Nat) (g:a<4611686018427387904) (f:b<4611686018427387904):bits .or .i64 (a:Int) (b:Int)=((a||| b:Nat):Int):=by
 have e:a||| b<2 ^ 62:=Nat.or_lt_two_pow ω ω
 have d:(BitVec.ofInt 64 (a:Int)).toNat=a:=by
  rw[gu,i9];exact dU ω
 have c:(BitVec.ofInt 64 (b:Int)).toNat=b:=by
  rw[gu,i9];exact dU ω
 show IntKind.i64.wrap ((BitVec.ofInt 64 (a:Int)||| BitVec.ofInt 64 (b:Int)).toNat:Int)=_;rw[BitVec.toNat_or,d,c,IntKind.wrap_i64];omega
theorem VO {h b:Int} (a:0<=h) (d:h<4294967296) (c:b=0\/b=1):bits .or .i64 (2*h) b=2*h+b:=by
 obtain⟨X,rfl⟩ :=aG a;obtain⟨Y,rfl⟩ :=aG (show 0<=b by omega);have e:(2*(X:Int))=((X*2 ^ 1:Nat):Int):=ξ;rw[e,Ma _ _ ω ω,Nat.or_comm,eA,Nat.or_comm,<-eE ω];simp
theorem OM {x:Int} (a:0<=x) (b:x<4294967296):bits .and .u32 x 1=x%2:=by
 obtain⟨X,rfl⟩ :=aG a;have:=u32_and_nat X 1 ω ω;rw[Nat.and_one_is_mod]at this;have e:((1:Nat):Int)=1:=rfl;rw[e]at this;rw[this];omega
theorem bU.aside {k:IntKind} {w w':World} {B n b g:Nat} {A:Option Addr} {l:List Int} (h:bU k w B A n l) (m:bj w w' (λk=>k=g)) (p:B<=w.heap.size) (j:∀q,ai A=some q->b<=q) (d:∀k,b<=k->k<B->k≠g):bU k w' B A n l:=
 ⟨h.1,λf=>by
   obtain⟨o,e,c,a⟩ :=h.2 f;exact⟨o,e,c,λi hi=>(m.cell (by rw[bH];omega) (by rw[bH];exact d _ (j _ (by rw[e];rfl)) c)).trans (a i hi)⟩⟩
def lC (w:World) (b0 g n c a:Nat) (A:Option Addr) (b l:List Int) (e:Ending) (w':World):Prop:=
 e= .returned (.tuple #[.int .i64 (aI l (rb b a)).1, .int .i64 (aI l (rb b a)).2.2])/\qd w' b0 g A n c b (a+(aI l (rb b a)).2.1)/\bj w w' (λk=>k=g)
def XZ (w:World) (l x:List Int) (H:Nat) (v f t a n:Value) (wr:World):Prop:=
 ∃(k q:Nat),1<=k/\k<=H+1/\n= .int .i64 k/\v= .int .i64 (2*hv x (k-1))/\f= .int .i64 (nI l k:Nat)/\t= .int .i64 (below l (k-1):Nat)/\a= .int .u32 (fH ((x.take H).drop (k-1)))/\fh l x (k-1)=0/\wr=w.drewN q
theorem a8w (l:List Int) {n:Nat} (b:1<=n) (a:n<=15):cf l 16 0 n=cnt l l.length n:=by unfold cf;rw[aa ω,ae ω]
theorem xJ (w:World) (t0 B gt b0 g n c a:Nat) (A:Option Addr) (l I:List Int) (ht:yv w t0 B gt l) (hl:l.length<=288) (C:qd w b0 g A n c I a) (u:I.length<=1000000000000) (xT:B<=w.heap.size) (dy:∀k,t0<=k->k<B->k≠g):
  Calls Tryz.prog 147 #[.pointer (some ⟨gt,0,none⟩), .pointer (some ⟨g,0,none⟩)] w (lC w b0 g n c a A I l):=by
 obtain⟨Al,Ac,As,cl,cc,cs,gg,ZN,ck,bt,bI,bE, -, -,cd⟩ :=ht;have bB:=dy gt bI bE;obtain⟨x,X⟩ :=ν (rb I a);have Ix:dJ x:=by rw[<-X];exact dJ.rb I a
 obtain⟨f,ND⟩ :=ν (tB l 15);have co:f<=15:=by rw[<-ND];exact LR l 15
 have nH:8*n-a=x.length:=by rw[<-X,im,C.mV]
 have be:=gg.cell (i:=19) ω;have ab:=gg.cell (i:=18) ω;have ao:Gv Al l.length cl Ac l.length cc (cf l 16 0) As (uO l 15).length cs (tB l 15:Nat) 19= .int .i64 f:=by rw[ND];rfl
 have aE:Gv Al l.length cl Ac l.length cc (cf l 16 0) As (uO l 15).length cs (tB l 15:Nat) 18= .slice As (uO l 15).length cs:=rfl;rw[ao]at be;rw[aE]at ab;obtain⟨H,hH⟩ :=ν (min x.length f);have cx:H<=15:=ω;have ca:H<=(rb I a).length:=by rw[X];omega
 have d:aI l (rb I a)=if fh l x H≠0 then(CM l (fh l x H) (hv x (fh l x H)-nI l (fh l x H)).toNat,fh l x H,0)else if H<f then(0,0,5)else if f=0/\x.length=0 then(0,0,5)else(0,0,3):=by
  rw[X];unfold aI;rw[ND,hH]
 have GF:=η d;have HX:=η X;have cg:=η nH;have cj:(0:Int)<=(x.length:Int)/\(x.length:Int)<=8000000000000:=by have:=C.mV;omega
 have cb:((x.length:Int)<(f:Int)/\x.length=H)\/((f:Int)<(x.length:Int)/\f=H)\/(x.length=f/\f=H):=ω;have cA:=η ND;have ci:=η hH;have ng:=η gg;clear d X nH ND hH ao aE
 have pO:Hid (∀q,Calls Tryz.prog 104 #[.pointer (some ⟨g,0,none⟩)] (w.drewN q) λe w'=>e= .returned (.int .i64 x.length)/\∃m,w'=(w.drewN q).drewN m):=λq=>by
  have:=j3 _ _ _ _ _ _ _ _ (C.drewN q) u
  rwa [cg.out]at this
 go_enter Tryz.func147,Tryz.ntmps147;go_wp2;go_cut [9] (λs9 wx=>s9= .int .i64 H/\∃q,wx=w.drewN q)
 case first=>
  rcases cb with ⟨h1,N⟩ | ⟨h1,N⟩ | ⟨h1,N⟩
  · have t:=η N;clear N;go_quiet ((go_at_call 104;exact dI (pO.out _)))
    all_goals
     go_wp2_with fail;go_meet;exact⟨by rw[t.out],_,rfl⟩
  · have t:=η N;clear N;go_quiet ((go_at_call 104;exact dI (pO.out _)))
    all_goals
     go_wp2_with fail;go_meet;exact⟨by rw[t.out],_,rfl⟩
  have t:=η N;have ce:(x.length:Int)=(f:Int):=ω;clear N h1;go_quiet ((go_at_call 104;exact dI (pO.out _)))
  all_goals
   go_wp2_with fail;go_meet;exact⟨by first | rw[t.out] | (rw[ce,t.out]),_,rfl⟩
 obtain⟨rfl,q0,rfl⟩ :=hcut;have bp:=C.drewN q0
 go_wp2_with fail;refine(O8 _ _ _ _ _ _ _ _ bp u H ω ca).mono ?_;rintro e w1 ⟨rfl,q1,rfl⟩;rw[HX.out]
 go_wp2_with fail
 go_loopw [6,7,8,10,12] (XZ w l x H) (λ_ _ _ _ n _=>H+1-(intOf n).toNat)
 case atStart=>exact⟨1,q0+q1,ag _,ω,rfl,rfl,rfl,rfl,rfl,rfl,rfl⟩
 obtain⟨k,q,yF,cp,rfl,rfl,rfl,rfl,rfl,y,rfl⟩ :=hrel;by_cases cm:k<=H
 rotate_left
 · obtain rfl:k=H+1:=ω;rw[bY]at y⊢;obtain⟨V,F⟩ :=ν (hv x H);rw[F];have qh:((H+1:Nat):Int)=(H:Int)+1:=ω;have d:=GF.out;rw[y,aa ω]at d;have cw:H<=f:=by have:=ci.out;omega
   have Cz:bj w (w.drewN q) (λk=>k=g):=(bj.refl w _).drewN q;clear F;by_cases lr:H<f
   · rw[ae lr]at d;have hI:(H:Int)<(f:Int):=ω;have T:=η d;clear d y;go_wp2
     go_ret2
     unfold lC;rw[T.out];exact⟨rfl,C.drewN q,Cz⟩
   rw[aa lr]at d;have hI:¬(H:Int)<(f:Int):=ω;by_cases Z:f=0
   rotate_left
   · rw[aa (λh=>Z h.1)]at d;have T:=η d;have ac:((f:Int)==0)=false:=by simpa using Z
     clear d y Z;go_wp2
     go_ret2
     unfold lC;rw[T.out];exact⟨rfl,C.drewN q,Cz⟩
   by_cases o:x.length=0
   · rw[ae ⟨Z,o⟩]at d;have T:=η d;have ac:(f:Int)=0:=ω;have cz:=η o;have D:=pO.out q;rw[o]at D;clear d y Z o
     go_wp2_with fail;refine D.mono ?_;rintro e w5 ⟨rfl,q5,rfl⟩;go_wp2
     go_ret2
     unfold lC;rw[T.out];exact⟨rfl,C.drewN (q+q5),(bj.refl w _).drewN (q+q5)⟩
   rw[aa (λh=>o h.2)]at d;have T:=η d;have ac:(f:Int)=0:=ω;have Cj:((x.length:Int)==0)=false:=by simpa using o
   have D:=pO.out q;clear d y Z o
   go_wp2_with fail;refine D.mono ?_;rintro e w5 ⟨rfl,q5,rfl⟩;go_wp2
   go_ret2
   unfold lC;rw[T.out];exact⟨rfl,C.drewN (q+q5),(bj.refl w _).drewN (q+q5)⟩
 obtain⟨p,rfl⟩ :∃p,k=p+1:= ⟨k-1,ω⟩;rw[bY]at y⊢;obtain⟨W,Gt⟩ :=ν (p+1:Nat);have E:=NP Ix p;have S:=NP Ix (p+1);have Cf:=Ve Ix (KU y);have LF:(2:Int) ^ (p+1)<=32768:=by have:=gq (show p+1<=15 by omega);simpa using this
 have iX:=uG l hl (v:=p+1) ω
 have vE:ix x p=0\/ix x p=1:=by
  unfold ix;rw[aq];cases e:x[p]? with
  | none=>simp
  | some v=>simpa using Ix v (cQ e)
 have Y:hv x (p+1)=2*hv x p+ix x p:=rfl
 have hdr:(x.take H).drop p=ix x p::(x.take H).drop (p+1):=by
  rw[bT ξ];congr 1;simp [ix,show p<x.length by omega]
 have nT:fH ((x.take H).drop p)=ix x p+2*fH ((x.take H).drop (p+1)):=by rw[hdr];rfl
 have rI:=km ((Ix.tY H).dX p);have fX:=gq (show((x.take H).drop p).length<=15 by simp;omega);have P:=lI l l.length (p+1);have z:=kd y;obtain⟨h,hh⟩ :=ν (hv x p);obtain⟨b,hb⟩ :=ν (ix x p);obtain⟨V,F⟩ :=ν (hv x (p+1));obtain⟨N1,JU⟩ :=ν (fH ((x.take H).drop p));obtain⟨N2,Rz⟩ :=ν (fH ((x.take H).drop (p+1)));rw[hh,JU];rw[JU,hb,Rz]at nT;rw[JU]at rI;rw[hh]at E Y;rw[F]at S Cf Y;rw[hb]at vE Y;have Dg:(2:Int) ^ 15=32768:=rfl;have am:0<=N1/\N1<4294967296:=ω;have e1:bits .and .u32 N1 1=b:=by rw[OM am.1 am.2];omega
 have e3:N1/2=N2:=ω;have e2:bits .or .i64 (2*h) b=V:=by rw[VO E.1 (by have:=gq (show p<=15 by omega);omega) vE];exact Y.symm
 have kc:=gg.cell (i:=2+(p+1)) ω
 have r:Gv Al l.length cl Ac l.length cc (cf l 16 0) As (uO l 15).length cs (tB l 15:Nat) (2+(p+1))= .int .i64 (cnt l l.length (p+1):Nat):=by
  unfold Gv;rw[aa ω,aa ω,aa ω,aa ω,bS,a8w l ω ω]
 rw[r]at kc;have R:below l p<=15*288:=au (GV l p) (gB ω hl);obtain⟨K,O⟩ :=ν (nI l (p+1));obtain⟨ct,L⟩ :=ν (cnt l l.length (p+1));obtain⟨bl,Q⟩ :=ν (below l p);rw[O,Q];rw[L]at kc P;rw[O]at iX Cf;rw[Q]at R;have hit:xg l x (p+1)=decide (V<(K:Int)+(ct:Int)):=by unfold xg;rw[F,O,L]
 rw[hit]at z;rw[Gt]at kc⊢
 have ny:0<=h/\h<=32768/\0<=V/\V<=32768/\(K:Int)<=V/\(0:Int)<=ct/\(ct:Int)<=288/\(0:Int)<=bl/\(bl:Int)<=4320/\(1:Int)<=W/\(W:Int)<=15/\(W:Int)<=(H:Int)/\(0:Int)<=K:=by
  have:=gq (show p<=15 by omega);omega
 have Cc:0<=b/\b<=1:=ω;by_cases cq:V-(K:Int)<(ct:Int)
 rotate_left
 · have s:fh l x (p+1)=0:=by rw[z,aa ξ]
   have Zn:Hid (fh l x (p+1)=0):=s;have kY:Hid (below l (p+1)=bl+ct):=by show _=_;rw[below,Q,L]
   have K5:Hid (nI l (p+1+1)=2*(K+ct)):=by show _=_;show 2*(nI l (p+1)+cnt l l.length (p+1))=_;rw[O,L]
   have HV:=η F;have Cm:=η Rz;have U:=η Gt;clear O L Q hit z s F JU Rz hh hb Y nT fX rI hdr vE R iX P E S Cf LF y r Dg Gt
   go_wp2_with fail;go_roundw
   case rel=>exact⟨W+1,q,ω,ω,by go_num,by rw[bY,<-U.out,HV.out];go_num,by rw[<-U.out,K5.out];go_num,by rw[bY,<-U.out,kY.out];go_num,by rw[bY,<-U.out,Cm.out],by rw[bY,<-U.out];exact Zn.out,rfl⟩
   case measure=>simp [intOf];omega
 have s:fh l x (p+1)=p+1:=by rw[z,ae ξ]
 have ah:fh l x H=p+1:=by rw[tz (m:=p+1) (by rw[s];omega) ω,s]
 obtain⟨J,hJ⟩ :=aG (show 0<=V-(K:Int) by omega);have an:J<ct:=ω;have V4:=a4i l (n:=p) (m:=15) (j:=J) ω (by rw[L];exact an);rw[Q]at V4
 have bX:bl+J<(uO l 15).length:=by
  rw[qR];have:=Kr l (show p+1<=15 by omega);rw[below,Q,L]at this;omega
 have za:aI l (rb I a)=(CM l (p+1) J,p+1,0):=by
  rw[GF.out,ah,ae ω,F,O];have:(V-(K:Int)).toNat=J:=ω;rw[this]
 have bx:(bl:Int)+V-(K:Int)=((bl+J:Nat):Int):=ω;have bv:W<=(rb I a).length:=by rw[<-Gt];omega
 obtain⟨Sx,al⟩ :=ν (CM l (p+1) J);rw[al]at V4 za;obtain⟨SL,G⟩ :=ν ((uO l 15).length:Nat);obtain⟨M,hM⟩ :=ν (bl+J:Nat);rw[hM]at bx V4;rw[hM,G]at bX;have cv:(0:Int)<=M/\(M:Int)<(SL:Int):=ω;have ch:=η za;have U:=η Gt;have Rl:=η G;have a8p:=η V4;rw[G]at ab;have bo:=C.drewN q;clear O L Q hit z s ah F JU Rz hh hb Y nT fX rI hdr vE R iX P E S Cf LF y r Dg Gt za G V4 hJ an hM al
 go_wp2_with fail;refine(ET _ _ _ _ _ _ _ _ bo u W ω bv).mono ?_;rintro e w5 ⟨rfl,pP,om⟩;have ur:bj w w5 (λk=>k=g):=((bj.refl w _).drewN q).trans om λk hk=> .inl hk;have gS:=ur.ar gg bB;have bi:=gS.cell (i:=18) ω;have ap:Gv Al l.length cl Ac l.length cc (cf l 16 0) As (uO l 15).length cs (tB l 15:Nat) 18= .slice As SL cs:=by rw[<-Rl.out];rfl
 rw[ap]at bi;have bs:=bt.aside ur xT cd dy;obtain⟨ad,rfl,cr,c5⟩ :=bs.at_ (i:=M) (by have:=Rl.out;omega);rw[a8p.out]at c5;clear ap;go_wp2
 go_ret2
 unfold lC;rw[ch.out,U.out];exact⟨rfl,pP,ur⟩
end Go.Proofs.YtdhmnlpfhfmpfaaGreat
