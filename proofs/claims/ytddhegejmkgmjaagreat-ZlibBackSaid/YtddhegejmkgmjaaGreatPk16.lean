/-
  part
-/
import Derived.Test.YtddhegejmkgmjaaGreatTab
import Derived.Test.YtddhegejmkgmjaaGreatPk15
import Derived.Test.YtddhegejmkgmjaaGreatRev
import Derived.Test.YtddhegejmkgmjaaGreatPk9
set_option linter.unusedVariables false
set_option maxRecDepth 100000
set_option maxHeartbeats 4000000
namespace Go.Proofs.YtddhegejmkgmjaaGreat
open Go.RowKit
theorem GU (w:World) (g B c:Nat) (l:List Int) (u:Value) (s:Int) (ht:sT w g B c l) (z:l.length<=288) (m:s<0\/(l.length:Int)<=s\/ix l s.toNat=0):
  Calls Tryz.prog 88 #[.pointer (some ⟨c,0,none⟩),u, .int .i64 s] w λe w'=>e= .returned (.bool false)/\w=w':=by
 obtain⟨Al,v,As,cl,cc,cs,r,n,y,x, -⟩ :=ht;have j:=r.cell (i:=0) ω;have f:BD Al l.length cl v l.length cc (cf l 16 0) As (pD l 15).length cs (o0 l 15:Nat) 0= .slice Al l.length cl:=rfl;rw[f]at j;have o:(0:Int)<=(l.length:Int)/\(l.length:Int)<=288:=ω;have a:s<0\/(¬s<0/\(l.length:Int)<=s)\/(0<=s/\s<(l.length:Int)/\ix l s.toNat=0):=ω;clear f m;rcases a with h | ⟨h,t⟩ | ⟨h,t,b⟩
 · go_enter Tryz.func88,Tryz.ntmps88
   go_wp2
   go_ret
   exact⟨rfl,rfl⟩
 · go_enter Tryz.func88,Tryz.ntmps88
   go_wp2
   go_ret
   exact⟨rfl,rfl⟩
 · obtain⟨k,rfl⟩ :=Int.eq_ofNat_of_zero_le h;have p:k<l.length:=ω;obtain⟨A,rfl,q,c1⟩ :=n.at_ p;have d:ix l k=0:=by simpa using b
   rw[d]at c1;clear b d;go_enter Tryz.func88,Tryz.ntmps88
   go_wp2
   go_ret
   exact⟨rfl,rfl⟩
def EK (w:World) (b0 g:Nat) (A:Option Addr) (L:List Int) (e:Ending) (w':World):Prop:=
 ∃A' n' c',e= .returned (.bool true)/\kv w' b0 g A' n' c' L/\aq w w' (foot A g)/\(∀k,aa A'=some k->aa A=some k\/w.heap.size<=k)
theorem L5 (w:World) (F B z b0 g n c:Nat) (A:Option Addr) (l L:List Int) (s:Nat) (ht:sT w F B z l) (u:l.length<=288) (I:kv w b0 g A n c L) (a:L.length<=4000000000000) (h:s<l.length) (U:1<=ix l s) (T:ix l s<=15):
  Calls Tryz.prog 88 #[.pointer (some ⟨z,0,none⟩), .pointer (some ⟨g,0,none⟩), .int .i64 s] w (EK w b0 g A (L++aM l s)):=by
 obtain⟨Al,t,As,cl,cc,cs,x,J,K,W, -⟩ :=ht;have H:=x.cell (i:=0) ω;have G:=x.cell (i:=1) ω;have E:BD Al l.length cl t l.length cc (cf l 16 0) As (pD l 15).length cs (o0 l 15:Nat) 0= .slice Al l.length cl:=rfl;have D:BD Al l.length cl t l.length cc (cf l 16 0) As (pD l 15).length cs (o0 l 15:Nat) 1= .slice t l.length cc:=rfl;rw[E]at H;rw[D]at G;have O:(0:Int)<=(s:Int)/\(s:Int)<(l.length:Int)/\(l.length:Int)<=288:=ω;obtain⟨ad,rfl,Q,c0⟩ :=J.at_ h;obtain⟨BQ,rfl,P,c1⟩ :=K.at_ h;rw[lI l u h]at c1;obtain⟨N,o⟩ :=Int.eq_ofNat_of_zero_le (show 0<=ix l s by omega);have S:1<=(N:Int)/\(N:Int)<=15:=ω;have d:aM l s=aX (Dw (bQ l s) N) N:=by unfold aM;rw[o];rfl
 obtain⟨C,q⟩ :=ν (bQ l s)
 have p:(0:Int)<=C/\(C:Int)<4294967296:=by
  rw[<-q];unfold bQ;have h2:=pq l u (v:=(ix l s).toNat) ω;have Z:=gS l s (ix l s).toNat
  split <;> omega
 rw[o]at c0;rw[q]at c1 d;have y:=Pg C N;have hp:=cK (show N<=15 by omega);have M:(2:Int) ^ 15=32768:=rfl;obtain⟨X,m⟩ :=ν (Dw C N);rw[m]at y d;have R:0<=X/\X<4294967296:=ω;have V:=η m;have r:=η d;have b:(N:Int)<=32:=ω;have Y:((N:Int)==0)=false:=ξ;clear o q m d y hp M U T E D;go_enter Tryz.func88,Tryz.ntmps88
 go_wp2_with fail
 refine(GC _ C N p ⟨S.1,b⟩).mono ?_;rintro e w1 ⟨rfl,rfl⟩;rw[V.out]
 go_wp2_with fail
 refine(AO _ _ _ _ _ _ _ I X N R b a).mono ?_;rintro e w2 ⟨A',n',c',rfl,f,j,k⟩;go_wp2
 go_ret
 rw[r.out];exact⟨A',n',c',rfl,f,j,k⟩
def Vy (w:World) (b0 g:Nat) (A:Option Addr) (L:List Int) (e:Ending) (w':World):Prop:=
 ∃A' n' c' b,e= .returned (.bool b)/\kv w' b0 g A' n' c' L/\aq w w' (foot A g)/\(∀k,aa A'=some k->aa A=some k\/w.heap.size<=k)
theorem vR (w:World) (d B b b0 g n c:Nat) (A:Option Addr) (l L:List Int) (s:Nat) (ht:sT w d B b l) (j:l.length<=288) (f:kv w b0 g A n c L) (a:L.length<=4000000000000) (m:∀i,i<l.length->0<=ix l i/\ix l i<=15):
  Calls Tryz.prog 88 #[.pointer (some ⟨b,0,none⟩), .pointer (some ⟨g,0,none⟩), .int .i64 s] w (Vy w b0 g A (L++aM l s)):=by
 by_cases h:s<l.length/\1<=ix l s
 · refine(L5 w d B b b0 g n c A l L s ht j f a h.1 h.2 (m s h.1).2).mono ?_;rintro e w' ⟨A',n',c',rfl,u,t,r⟩;exact⟨A',n',c',true,rfl,u,t,r⟩
 · have o:ix l s=0:=by
    by_cases e:s<l.length
    · have:=m s e;omega
    · unfold ix;rw[List.getD_eq_getElem?_getD,List.getElem?_eq_none ω];rfl
   have q:aM l s=[]:=List.eq_nil_of_length_eq_zero (by rw[cI,o];rfl);refine(GU w d B b l _ s ht j (.inr (.inr (by rw[Int.toNat_natCast];exact o)))).mono ?_;rintro e w' ⟨rfl,rfl⟩;refine⟨A,n,c,false,rfl, ?_,aq.refl _ _,λk p=> .inl p⟩;rw[q,List.append_nil];exact f
theorem ig.cv {w w':World} {B n:Nat} {A:Option Addr} {l:List aF} {S:Nat->Prop} (h:ig w B A n l) (f:aq w w' S) (o:B<=w.heap.size) (k:0<n->∀a,A=some a->¬S a.block):ig w' B A n l:= ⟨h.1,λd=>by
 obtain⟨a,e,g,c⟩ :=h.2 d;have b:∀j,w'.cell? (a.add j)=w.cell? (a.add j):=λj=>f.cell (by rw[aw];omega) (by rw[aw];exact k d a e)
 exact⟨a,e,g,λi hi=>by obtain⟨c1,c2,m⟩ :=c i hi;exact⟨(b _).trans c1,(b _).trans c2,(b _).trans m⟩⟩⟩
structure eR (w2 wr:World) (b0 g:Nat) (A:Option Addr) (L:List Int):Prop where
 L8:∃A' n' c',kv wr b0 g A' n' c' L/\∀k,aa A'=some k->aa A=some k\/w2.heap.size<=k
 cv:aq w2 wr (foot A g)
theorem eR.alloc {w2 wr:World} {b0 g:Nat} {A:Option Addr} {L:List Int} (h:eR w2 wr b0 g A L) (o:Obj):eR w2 (wr.alloc o) b0 g A L:=by
 obtain⟨⟨A',n',c',c,b⟩,a⟩ :=h;exact⟨⟨A',n',c',c.keeps ((Below.refl _ wr).alloc (Nat.le_refl _) o),b⟩,a.alloc o⟩
theorem eR.next {w2 wr w':World} {b0 g:Nat} {A A1:Option Addr} {n' c':Nat} {d:List Int} {A':Option Addr} (h:aq w2 wr (foot A g)) (qM:∀k,aa A1=some k->aa A=some k\/w2.heap.size<=k) (e:kv w' b0 g A' n' c' d) (f:aq wr w' (foot A1 g)) (c:∀k,aa A'=some k->aa A1=some k\/wr.heap.size<=k):eR w2 w' b0 g A d:=by
 refine⟨⟨A',n',c',e,λk b=> ?_⟩,h.trans f λk b=> ?_⟩
 · rcases c k b with a | a
   · exact qM k a
   · exact .inr (Nat.le_trans h.size a)
 · rcases b with rfl | b
   · exact .inl (.inl rfl)
   · rcases qM k b with a | a
     · exact .inl (.inr a)
     · exact .inr a
section
variable {w2 wr:World} {b0 g:Nat} {A:Option Addr} {L:List Int}
theorem eR.put (h:eR w2 wr b0 g A L) (V:Int) (N:Nat) (c:0<=V/\V<4294967296) (d:(N:Int)<=32) (a:L.length<=4000000000000):
  Calls Tryz.prog 53 #[.pointer (some ⟨g,0,none⟩), .int .u32 V, .int .i64 N] wr λe w'=>e= .returned (.tuple #[])/\eR w2 w' b0 g A (L++aX V N):=by
 obtain⟨⟨A1,b,c1,j,i⟩,f⟩ :=h;refine(AO wr b0 g b c1 A1 L j V N c d a).mono ?_;rintro e w' ⟨A',n',c',rfl,h4,h5,h6⟩;exact⟨rfl,eR.next f i h4 h5 h6⟩
theorem eR.sym (h:eR w2 wr b0 g A L) {c B f:Nat} {l:List Int} (ht:sT w2 c B f l) (p:B<=w2.heap.size) (d:∀k,c<=k->k<B->¬foot A g k) (s:Nat) (n:l.length<=288) (o:∀i,i<l.length->0<=ix l i/\ix l i<=15) (a:L.length<=4000000000000):
  Calls Tryz.prog 88 #[.pointer (some ⟨f,0,none⟩), .pointer (some ⟨g,0,none⟩), .int .i64 s] wr λe w'=>(∃b,e= .returned (.bool b))/\eR w2 w' b0 g A (L++aM l s):=by
 obtain⟨⟨A1,m,c1,r,q⟩,j⟩ :=h;refine(vR wr c B f b0 g m c1 A1 l L s (ht.cv j p d) n r a o).mono ?_;rintro e w' ⟨A',n',c',b,rfl,h4,h5,h6⟩;exact⟨⟨b,rfl⟩,eR.next j q h4 h5 h6⟩
end
structure wF (w2 wk wr:World) (p:Nat) (b0 g:Nat) (A:Option Addr) (L:List Int):Prop where
 L8:∃A' n' c',kv wr b0 g A' n' c' L/\(∀k,aa A'=some k->aa A=some k\/w2.heap.size<=k)/\¬foot A' g p
 cv:aq w2 wr (foot A g)
 kp:wr.heap[p]?=wk.heap[p]?
 lt:p<wr.heap.size
section
variable {w2 wk wr:World} {p b0 g:Nat} {A:Option Addr} {L:List Int}
theorem wF.new (h:eR w2 wr b0 g A L) (o:Obj):wF w2 (wr.alloc o) (wr.alloc o) wr.heap.size b0 g A L:=by
 obtain⟨⟨A',n',c',a,c⟩,b⟩ :=h;exact⟨⟨A',n',c',a.keeps ((Below.refl _ wr).alloc (Nat.le_refl _) o),c,λe=>by have:=(a.bH e).2;omega⟩,b.alloc o,rfl,σ⟩
theorem wF.old (h:wF w2 wk wr p b0 g A L):eR w2 wr b0 g A L:=by
 obtain⟨⟨A',n',c',c,b,_⟩,a,_,_⟩ :=h;exact⟨⟨A',n',c',c,b⟩,a⟩
theorem wF.cell (h:wF w2 wk wr p b0 g A L) {m:Nat} {f:Nat->Value} (a:Ar wk p m f) {i:Nat} (hi:i<m):wr.cell? ⟨p,i,none⟩ =some (f i):=(a.same h.kp).cell hi
theorem wF.next {w':World} {A1:Option Addr} {n' c':Nat} {i:List Int} {A':Option Addr} (h:wF w2 wk wr p b0 g A L) (a:¬foot A1 g p) (qM:∀k,aa A1=some k->aa A=some k\/w2.heap.size<=k) (f:kv w' b0 g A' n' c' i) (d:aq wr w' (foot A1 g)) (b:∀k,aa A'=some k->aa A1=some k\/wr.heap.size<=k):wF w2 wk w' p b0 g A i:=by
 obtain⟨m,l⟩ :=eR.next h.cv qM f d b;refine⟨⟨A',n',c',f,λk j=> ?_,λe=> ?_⟩,l,(d.block p h.lt a).trans h.kp,Nat.lt_of_lt_of_le h.lt d.size⟩
 · rcases b k j with c | c
   · exact qM k c
   · exact .inr (Nat.le_trans h.cv.size c)
 · rcases e with e | e
   · exact a (.inl e)
   · rcases b p e with c | c
     · exact a (.inr c)
     · have:=h.lt;omega
theorem wF.put (h:wF w2 wk wr p b0 g A L) (V:Int) (N:Nat) (c:0<=V/\V<4294967296) (d:(N:Int)<=32) (a:L.length<=4000000000000):
  Calls Tryz.prog 53 #[.pointer (some ⟨g,0,none⟩), .int .u32 V, .int .i64 N] wr λe w'=>e= .returned (.tuple #[])/\wF w2 wk w' p b0 g A (L++aX V N):=by
 obtain⟨A1,b,c1,i,f,h4⟩ :=h.L8;refine(AO wr b0 g b c1 A1 L i V N c d a).mono ?_;rintro e w' ⟨A',n',c',rfl,h5,h6,h7⟩;exact⟨rfl,h.next h4 f h5 h6 h7⟩
theorem wF.sym (h:wF w2 wk wr p b0 g A L) {c B f:Nat} {l:List Int} (ht:sT w2 c B f l) (o:B<=w2.heap.size) (d:∀k,c<=k->k<B->¬foot A g k) (s:Nat) (m:l.length<=288) (n:∀i,i<l.length->0<=ix l i/\ix l i<=15) (a:L.length<=4000000000000):
  Calls Tryz.prog 88 #[.pointer (some ⟨f,0,none⟩), .pointer (some ⟨g,0,none⟩), .int .i64 s] wr λe w'=>(∃b,e= .returned (.bool b))/\wF w2 wk w' p b0 g A (L++aM l s):=by
 obtain⟨A1,j,c1,r,q,h4⟩ :=h.L8;refine(vR wr c B f b0 g j c1 A1 l L s (ht.cv h.cv o d) m r a n).mono ?_;rintro e w' ⟨A',n',c',b,rfl,h5,h6,h7⟩;exact⟨⟨b,rfl⟩,h.next h4 q h5 h6 h7⟩
end
def TkR (w2:World) (b0 g:Nat) (A:Option Addr) (L lit ak:List Int) (a8:List aF) (n:Nat) (gk:Nat) (v:Value) (wx:World):Prop:=
 ∃k:Nat,v= .int .i64 k/\k<=n/\Hid (eR w2 wx b0 g A (L++dS lit ak (a8.take k)))/\Hid (gk=n-k)
theorem pG (w:World) (b0 g n c:Nat) (A:Option Addr) (L:List Int) (hw:kv w b0 g A n c L) (Bt:Nat) (At:Option Addr) (nt ct:Nat) (a8:List aF) (Y:ig w Bt At nt a8) (H:Bt<=w.heap.size) (bb:0<nt->∀r,At=some r->¬foot A g r.block)
  (iZ:∀t∈a8,aH t/\0<=t.lit/\t.lit<256) (l:L.length+48*nt+15<=4000000000000) (Bl:Nat) (Al:Option Addr) (nl cl:Nat) (lit:List Int) (hl:aT .i64 w Bl Al nl lit) (ab:Bl<=w.heap.size) (bT:nl<=288) (C:ai lit 15=0)
  (Bd:Nat) (Ad:Option Addr) (nd cd:Nat) (ak:List Int) (hd:aT .i64 w Bd Ad nd ak) (Et:Bd<=w.heap.size) (wC:nd<=288) (G:ai ak 15=0):
  Calls Tryz.prog 72 #[.pointer (some ⟨g,0,none⟩), .slice At nt ct, .slice Al nl cl, .slice Ad nd cd] w λe w'=>e= .returned (.tuple #[])/\eR w w' b0 g A (L++fp lit ak a8):=by
 have Fw:=jt w Al nl cl Bl lit 15 hl ab bT C;obtain⟨l1,l2, -⟩ :=gu C;obtain⟨d1,d2, -⟩ :=gu G;have En:=η Fw;have f:=η (⟨l1,l2,d1,d2⟩ :_/\_/\_/\_);have s:=η (⟨Y,H,bb,iZ,l⟩ :_/\_/\_/\_/\_);have HD:=η (⟨hd,Et,wC,G⟩ :_/\_/\_/\_);have HW:=η hw;have K8:(0:Int)<=nt/\(nt:Int)<=4000000000000:=ω;clear Fw l1 l2 d1 d2 Y H bb iZ l hd Et wC G hw hl ab bT C;go_enter Tryz.func72,Tryz.ntmps72
 go_wp2_with fail
 refine En.out.mono ?_;rintro e w1 ⟨ga,rfl,p,a⟩;have J4:=η (jt w1 Ad nd cd Bd ak 15 (HD.out.1.below (a.mono HD.out.2.1)) (Nat.le_trans HD.out.2.1 a.size) HD.out.2.2.1 HD.out.2.2.2);have Yw:=η (⟨p,a⟩ :_/\_);clear p a
 go_wp2_with fail
 refine J4.out.mono ?_;rintro e w2 ⟨gb,rfl,FB,x⟩;obtain⟨p,a⟩ :=Yw.out;obtain⟨Y,H,bb,iZ,l⟩ :=s.out;have V:=a.trans (x.mono a.size);have P:eR w2 w2 b0 g A L:= ⟨⟨A,n,c,HW.out.keeps V,λk hk=> .inl hk⟩,aq.refl _ _⟩;have WK:∀k,foot A g k->k<w.heap.size:=λk hk=>(HW.out.bH hk).2
 have y:=η (⟨p.keeps (Nat.le_refl _) x,FB,λk (h:w.heap.size<=k) (_:k<w1.heap.size) e=>by have:=WK k e;omega,λk (h:w1.heap.size<=k) (_:k<w2.heap.size) e=>by have:=WK k e;have:=a.size;omega⟩ :
  sT w2 w.heap.size w1.heap.size ga lit/\sT w2 w1.heap.size w2.heap.size gb ak/\(∀k,w.heap.size<=k->k<w1.heap.size->¬foot A g k)/\∀k,w1.heap.size<=k->k<w2.heap.size->¬foot A g k)
 have Q4:=η (Y.below (V.mono H));have ao:=η (Nat.le_trans H V.size);have tX:=η P;have ED:=η (⟨V,x.size⟩ :_/\_);clear FB x p a Y H bb iZ l V P WK Yw J4
 go_wp2_with fail
 go_loopg [29] nt (TkR w2 b0 g A L lit ak a8 nt)
 case atStart=>exact⟨0,rfl,Nat.zero_le _,by have h:=tX.out;show eR w2 w2 b0 g A (L++[]);rw[List.append_nil];exact h,rfl⟩
 case round=>
  clear tX;obtain⟨k,rfl,hk,Q,hg⟩ :=hrel;by_cases o:k<nt
  · have mA:(k:Int)<(nt:Int)/\(0:Int)<=(k:Int):=ω;have X:=Q4.out.cv Q.out.cv ao.out (λh0 r e=>s.out.2.2.1 h0 r e);obtain⟨r,hA,u,R⟩ :=X.2 ω;obtain⟨a0,a1,a2⟩ :=R k o;rw[gp _ _ _ ω]at a1 a2;have mg:k<a8.length:=by rw[<-s.out.1.1];exact o
    have O:=s.out.2.2.2.1 (bq a8 k) (by
     have e:bq a8 k=a8[k]:=by simp [bq,mg]
     rw[e];exact List.getElem_mem mg)
    have dT:=qJ mg;obtain⟨⟨T0,N,D⟩,ht⟩ :∃t:aF,bq a8 k=t:= ⟨_,rfl⟩;rw[ht]at a0 a1 a2 O dT;obtain⟨m,rfl⟩ :∃m:Nat,T0=(m:Int):= ⟨T0.toNat,by have:=O.2.1;have h:0<=T0:=this;omega⟩;replace a0:wr.cell? (r.add (k*3))=some (.int .u8 (m:Int)):=a0;replace a1:wr.cell? { block:=(r.add (k*3)).block,off:=(r.add (k*3)).off+1 }=some (.int .i64 N):=a1;replace a2:wr.cell? { block:=(r.add (k*3)).block,off:=(r.add (k*3)).off+2 }=some (.int .i64 D):=a2
    have T:(L++dS lit ak (a8.take k)).length<=3999999999952:=by
     have h1:=tU f.out.2.1 f.out.2.2.2 (a8.take k) λt ht=>(s.out.2.2.2.1 t (List.mem_of_mem_take ht)).1
     have:=s.out.2.2.2.2;rw[List.length_take]at h1;rw[List.length_append];have:min k a8.length<=k:=Nat.min_le_left _ _;omega
    have ku:=η (show L++dS lit ak (a8.take (k+1))=(L++dS lit ak (a8.take k))++nN lit ak ⟨(m:Int),N,D⟩ by rw[dT,yu,yv,List.append_assoc]);have am:=η O;have ap:(0:Int)<=(m:Int)/\(m:Int)<256:=O.2;have Zi:=η T;have jJ:=η o;clear X R ht dT O T u mg o;subst hA;by_cases FA:N=0
    · subst FA;have Ke:=(Q.out.alloc (.cells #[.int .u8 (m:Int), .int .i64 0, .int .i64 D] 90)).sym y.out.1 ED.out.2 y.out.2.2.1 m f.out.1 f.out.2.1 (by have:=Zi.out;omega);have Ja:=η Ke
      have aA:Hid (∀w',eR w2 w' b0 g (L:=(L++dS lit ak (a8.take k))++aM lit m) A->eR w2 w' b0 g A (L++dS lit ak (a8.take (k+1)))):=λw' h=>by
       rw[ku.out];unfold nN;rw[if_pos rfl];exact h
      clear Ke
      go_wp2_with fail
      refine Ja.out.mono ?_;rintro e w5 ⟨⟨b,rfl⟩,h5⟩;have h6:=η (aA.out w5 h5);clear h5 aA
      go_wp2_with fail
      go_roundg (nt-(k+1))
      case measure=>have:=hg.out;have:=jJ.out;omega
      case rel=>exact⟨k+1,by go_num,jJ.out,h6,rfl⟩
    · obtain⟨⟨E,d⟩, ⟨d1,d2⟩,LD,LI⟩ :=nO am.out.1 FA;replace E:3<=N:=E;replace d:N<=258:=d;replace d1:1<=D:=d1;replace d2:D<=32768:=d2;have v1:=(iB E).UM d;have K:=(iB E).2.1;have v2:=(fT d1).UL d2;have J:=(fT d1).2.1;have wA:=(CW (ej N) (by have:ej N<=28:=LD;omega)).2.2;have sX:=(Fc (bO D) (by have:bO D<=29:=LI;omega)).2.2;have N9:ej N<=28:=LD;have Nc:bO D<=29:=LI;have pN:(2:Nat) ^ lE (ej N)<=2 ^ 5:=Nat.pow_le_pow_right ω wA;have CM:(2:Nat) ^ dE (bO D)<=2 ^ 13:=Nat.pow_le_pow_right ω sX;have M:=wF.new Q.out (.cells #[.int .u8 (m:Int), .int .i64 N, .int .i64 D] 90);have XC:=vO wr (m:Int) N D 90;have S:=nA N (wr.alloc (.cells #[.int .u8 (m:Int), .int .i64 N, .int .i64 D] 90));have G:∀W,Calls Tryz.prog 90 #[.int .i64 D] W (jo dB dE 1 32768 0 29 D W):=λW=>l9 D W
      have U:Hid (nN lit ak ⟨(m:Int),N,D⟩ =aM lit (257+ej N)++aX (N-((lB (ej N):Nat):Int)) (lE (ej N))++aM ak (bO D)++aX (D-((dB (bO D):Nat):Int)) (dE (bO D))):=by
       show _=_;unfold nN;rw[if_neg FA]
      have C:=λv (h:eI lB lE 3 258 257 28 N v)=>ug h ⟨E,d⟩
      have FN:=λv (h:eI dB dE 1 32768 0 29 D v)=>qZ h ⟨d1,d2⟩
      obtain⟨j,hj⟩ :=ν (ej N);obtain⟨q,F⟩ :=ν (bO D);rw[hj]at v1 K wA N9 pN U C;rw[F]at v2 J sX Nc CM U FN;obtain⟨E1,WE⟩ :=ν (lE j);obtain⟨E2,NA⟩ :=ν (dE q);obtain⟨V1,mi⟩ :=ν (N-((lB j:Nat):Int));obtain⟨V2,z⟩ :=ν (D-((dB q:Nat):Int));obtain⟨I,Z⟩ :=ν (257+j);rw[mi,WE,Z]at U;rw[z,NA]at U;have Nf:(257:Int)+(j:Int)=(I:Int):=ω;have Bk:Hid (∀v,eI lB lE 3 258 257 28 N v->v= .tuple #[.int .i64 (I:Int), .int .i64 (E1:Int), .int .i64 V1]):=λv h=>by have:=C v h;rw[this,mi,WE,Nf]
      have Le:Hid (∀v,eI dB dE 1 32768 0 29 D v->v= .tuple #[.int .i64 (q:Int), .int .i64 (E2:Int), .int .i64 V2]):=λv h=>by have:=FN v h;rw[this,z,NA]
      rw[WE]at wA pN v1;rw[NA]at sX CM v2;have aE:0<=V1/\V1<32:=by have h5:(2:Nat) ^ 5=32:=rfl;omega
      have aC:0<=V2/\V2<8192:=by have h5:(2:Nat) ^ 13=8192:=rfl;omega
      have aS:(0:Int)<=(E1:Int)/\(E1:Int)<=5/\(0:Int)<=(E2:Int)/\(E2:Int)<=13:=ω;have BI:=η S;have rY:=η G;have Q1:=η (M.sym y.out.1 ED.out.2 y.out.2.2.1 I f.out.1 f.out.2.1 (by have:=Zi.out;omega));have al:=η XC;have aI:(N==0)=false:=by simpa using FA
      clear v1 K v2 J wA sX N9 Nc pN CM M XC S G C FN hj F WE NA mi z Z Nf E d d1 d2 LD LI
      go_wp2_with fail
      refine BI.out.mono ?_;rintro e w5 ⟨⟨v,rfl,hv⟩,rfl⟩;rw[Bk.out v hv];clear hv
      go_wp2_with fail
      refine Q1.out.mono ?_;rintro e w6 ⟨⟨b6,rfl⟩,h6⟩;have J8:=η (h6.put V1 E1 ω ω (by have:=Zi.out;have:=kt f.out.2.1 I;rw[List.length_append];omega));clear h6
      go_wp2_with fail
      refine J8.out.mono ?_;rintro e w7 ⟨rfl,h7⟩;have cd:w7.cell? ⟨wr.heap.size,2,none⟩ =some (.int .i64 D):=h7.cell al.out (i:=2) ω;have an:=η (h7.sym y.out.2.1 (Nat.le_refl _) y.out.2.2.2 q f.out.2.2.1 f.out.2.2.2 (by have:=Zi.out;have:=kt f.out.2.1 I;rw[List.length_append,List.length_append,af];omega));clear h7
      go_wp2_with fail
      refine(rY.out _).mono ?_;rintro e w8 ⟨⟨v,rfl,hv⟩,rfl⟩;rw[Le.out v hv];clear hv cd
      go_wp2_with fail
      refine an.out.mono ?_;rintro e w9 ⟨⟨b9,rfl⟩,h9⟩;have BL:=η (h9.put V2 E2 ω ω (by have:=Zi.out;have:=kt f.out.2.1 I;have:=kt f.out.2.2.2 q;rw[List.length_append,List.length_append,List.length_append,af];omega));clear h9
      go_wp2_with fail
      refine BL.out.mono ?_;rintro e GV ⟨rfl,ac⟩
      have ah:=η (show eR w2 GV b0 g A (L++dS lit ak (a8.take (k+1))) from by
       have h:=ac.old;rw[ku.out,U.out]
       simpa [List.append_assoc] using h)
      clear ac
      go_wp2_with fail
      go_roundg (nt-(k+1))
      case measure=>have:=hg.out;have:=jJ.out;omega
      case rel=>exact⟨k+1,by go_num,jJ.out,ah,rfl⟩
  · obtain rfl:k=nt:=ω;have mA:¬(k:Int)<(k:Int):=ω;have eG:a8.take k=a8:=List.take_of_length_le (by rw[<-s.out.1.1];exact Nat.le_refl _);have B:=Q.out;rw[eG]at B
    have u:(L++dS lit ak a8).length<=4000000000000:=by
     have h1:=tU f.out.2.1 f.out.2.2.2 a8 λt ht=>(s.out.2.2.2.1 t ht).1
     have:=s.out.2.2.2.2;have:=s.out.1.1;rw[List.length_append];omega
    have Ja:=η (B.sym y.out.1 ED.out.2 y.out.2.2.1 256 f.out.1 f.out.2.1 u);clear B u eG Q o hg
    go_wp2_with fail
    refine Ja.out.mono ?_;rintro e w5 ⟨⟨b,rfl⟩,h5⟩
    have aA:Hid (eR w w5 b0 g A (L++fp lit ak a8)):=by
     obtain⟨⟨A',n',c',q1,q2⟩,q3⟩ :=h5;refine⟨⟨A',n',c',by unfold fp;rw[<-List.append_assoc];exact q1,λq F=> ?_⟩,(aq.aB ED.out.1).trans q3 λq F=> .inl F⟩;rcases q2 q F with h | h
     · exact .inl h
     · exact .inr (Nat.le_trans ED.out.1.size h)
    clear h5
    go_wp2_with fail
    go_end0
    exact⟨rfl,aA.out⟩
theorem eR.keeps {w2 wr w':World} {b0 g:Nat} {A:Option Addr} {L:List Int} (h:eR w2 wr b0 g A L) (a:Below wr.heap.size wr w'):eR w2 w' b0 g A L:=by
 obtain⟨⟨A',n',c',e,d⟩,c⟩ :=h;exact⟨⟨A',n',c',e.keeps a,d⟩,c.trans (S':=λ_=>False) (aq.aB a) λk b=>b.elim⟩
theorem eR.start {w w1:World} {b0 g n c:Nat} {A:Option Addr} {L:List Int} (b:kv w b0 g A n c L) (a:Below w.heap.size w w1):eR w w1 b0 g A L:=
 ⟨⟨A,n,c,b.keeps a,λk d=> .inl d⟩,aq.aB a⟩
theorem Ee (w:World) (b0 g n c:Nat) (A:Option Addr) (L:List Int) (z:kv w b0 g A n c L) (At:Option Addr) (nt ct:Nat) (a8:List aF) (d:ig w w.heap.size At nt a8) (b:0<nt->∀l,At=some l->¬foot A g l.block) (s:∀t∈a8,0<=t.lit/\t.lit<256)
  (Ar:Option Addr) (m cr:Nat) (last:Bool) (r:bh 1 a8 m=true) (a:L.length<=3000000000000):
  Calls Tryz.prog 51 #[.pointer (some ⟨g,0,none⟩), .int .i64 1, .slice At nt ct, .slice Ar m cr, .bool last] w λe w'=>e= .returned (.bool true)/\eR w w' b0 g A (L++aX (if last then 1 else 0) 1++aX 1 2++fp cY dP a8):=by
 have S:a8.length<1048576/\∀t∈a8,aH t:=by
  unfold bh at r;rw[if_neg δ]at r;by_cases h:¬((1:Int)=1\/(1:Int)=2)\/1048576<=a8.length
  · rw[if_pos h]at r;exact absurd r δ
  · rw[if_neg h,List.all_eq_true]at r;exact⟨ω,λt ht=>of_decide_eq_true (r t ht)⟩
 have B:=d.1;have HM:=η (lN w 1 At nt ct a8 d ω Ar m cr);have HF:=η r;have u:=η (⟨z,d,b,s,S.1,S.2,a,B⟩ :_/\_/\_/\_/\_/\_/\_/\_);clear d r z b s S a B;obtain⟨mk,T⟩ :=ν ((if last=true then(1:Int)else 0):Int);have G:mk=if last=true then(1:Int)else 0:=T.symm
 rw[T];clear T;cases last with
 | false=>
   obtain rfl:mk=0:=G;go_enter Tryz.func51,Tryz.ntmps51
   go_wp2_with fail
   refine HM.out.mono ?_;rintro e w1 ⟨rfl,k⟩;rw[HF.out];have Y:=η (eR.start u.out.1 k);have J8:=η (Y.out.put 0 1 δ δ (by have:=u.out.2.2.2.2.2.2.1;omega));clear k
   go_wp2_with fail
   refine J8.out.mono ?_;rintro e w2 ⟨rfl,J⟩;have Z:=η (J.put 1 2 δ δ (by rw[List.length_append,af];have:=u.out.2.2.2.2.2.2.1;omega));clear J
   go_wp2_with fail
   refine Z.out.mono ?_;rintro e N ⟨rfl,I⟩;have H3:=η I;clear I
   go_wp2_with fail
   refine(kH N).mono ?_;rintro e o ⟨Af,cf,Ag,cg,rfl,F,E,j⟩;obtain⟨z,d,b,s,v,D,a,B⟩ :=u.out;have h4:=H3.out.keeps j;obtain⟨⟨A4,R,W,f,Qc⟩,p⟩ :=h4;have H:ig o w.heap.size At nt a8:=d.cv p (Nat.le_refl _) b
   have C:=pG o b0 g R W A4 _ f w.heap.size At nt ct a8 H p.size (λy l e i=>by
     have V:l.block<w.heap.size:=by
      obtain⟨EN,q,x,_⟩ :=d.2 y;rw[e]at q;injection q with q;rw[q];exact x
     rcases i with i | i
     · exact b y l e (.inl i)
     · rcases Qc _ i with h | h
       · exact b y l e (.inr h)
       · omega)
    (λt ht=> ⟨D t ht,s t ht⟩) (by rw[List.length_append,List.length_append,af,af];omega) o.heap.size Af 288 cf cY F.rd (Nat.le_refl _) δ iw.1 o.heap.size Ag 32 cg dP E.rd (Nat.le_refl _) δ iw.2
   have X:=η C;have K:=η (⟨Qc,p⟩ :_/\_);clear C H f Qc p z d b s v D a B F E j
   go_wp2_with fail
   refine X.out.mono ?_;rintro e M ⟨rfl,h5⟩
   have U:=η (show eR w M b0 g A (L++aX 0 1++aX 1 2++fp cY dP a8) from by
    obtain⟨⟨A5,n5,c5,Q,P⟩,O⟩ :=h5;exact eR.next K.out.2 K.out.1 Q O P)
   clear h5
   go_wp2_with fail
   go_ret
   exact⟨rfl,U.out⟩
 | true=>
   obtain rfl:mk=1:=G;go_enter Tryz.func51,Tryz.ntmps51
   go_wp2_with fail
   refine HM.out.mono ?_;rintro e w1 ⟨rfl,k⟩;rw[HF.out];have Y:=η (eR.start u.out.1 k);have J8:=η (Y.out.put 1 1 δ δ (by have:=u.out.2.2.2.2.2.2.1;omega));clear k
   go_wp2_with fail
   refine J8.out.mono ?_;rintro e w2 ⟨rfl,J⟩;have Z:=η (J.put 1 2 δ δ (by rw[List.length_append,af];have:=u.out.2.2.2.2.2.2.1;omega));clear J
   go_wp2_with fail
   refine Z.out.mono ?_;rintro e N ⟨rfl,I⟩;have H3:=η I;clear I
   go_wp2_with fail
   refine(kH N).mono ?_;rintro e o ⟨Af,cf,Ag,cg,rfl,F,E,j⟩;obtain⟨z,d,b,s,v,D,a,B⟩ :=u.out;have h4:=H3.out.keeps j;obtain⟨⟨A4,R,W,f,Qc⟩,p⟩ :=h4;have H:ig o w.heap.size At nt a8:=d.cv p (Nat.le_refl _) b
   have C:=pG o b0 g R W A4 _ f w.heap.size At nt ct a8 H p.size (λy l e i=>by
     have V:l.block<w.heap.size:=by
      obtain⟨EN,q,x,_⟩ :=d.2 y;rw[e]at q;injection q with q;rw[q];exact x
     rcases i with i | i
     · exact b y l e (.inl i)
     · rcases Qc _ i with h | h
       · exact b y l e (.inr h)
       · omega)
    (λt ht=> ⟨D t ht,s t ht⟩) (by rw[List.length_append,List.length_append,af,af];omega) o.heap.size Af 288 cf cY F.rd (Nat.le_refl _) δ iw.1 o.heap.size Ag 32 cg dP E.rd (Nat.le_refl _) δ iw.2
   have X:=η C;have K:=η (⟨Qc,p⟩ :_/\_);clear C H f Qc p z d b s v D a B F E j
   go_wp2_with fail
   refine X.out.mono ?_;rintro e M ⟨rfl,h5⟩
   have U:=η (show eR w M b0 g A (L++aX 1 1++aX 1 2++fp cY dP a8) from by
    obtain⟨⟨A5,n5,c5,Q,P⟩,O⟩ :=h5;exact eR.next K.out.2 K.out.1 Q O P)
   clear h5
   go_wp2_with fail
   go_ret
   exact⟨rfl,U.out⟩
theorem Mh (w:World) (kind:Int) (At:Option Addr) (nt ct:Nat) (a8:List aF) (c:ig w w.heap.size At nt a8) (d:(nt:Int)<=4611686018427387904) (Ar:Option Addr) (m cr:Nat) (b:bh kind a8 m=false):
  Calls Tryz.prog 75 #[.int .i64 kind, .slice At nt ct, .slice Ar m cr] w λe w'=>e= .returned (.int .i64 (-1))/\Below w.heap.size w w':=by
 have f:=η (lN w kind At nt ct a8 c d Ar m cr);have g:=η b;clear c b;go_enter Tryz.func75,Tryz.ntmps75
 go_wp2_with fail
 refine f.out.mono ?_;rintro e w1 ⟨rfl,a⟩;rw[g.out]
 go_wp2_with fail
 go_ret
 exact⟨rfl,a⟩
theorem yR (w:World) (At:Option Addr) (nt ct:Nat) (a8:List aF) (c:ig w w.heap.size At nt a8) (d:(nt:Int)<=4611686018427387904) (Ar:Option Addr) (m cr:Nat) (b:m<=65535):
  Calls Tryz.prog 75 #[.int .i64 0, .slice At nt ct, .slice Ar m cr] w λe w'=>e= .returned (.int .i64 (40+8*(m:Int)))/\Below w.heap.size w w':=by
 have f:=η (lN w 0 At nt ct a8 c d Ar m cr);have g:=η (show bh 0 a8 m=true by unfold bh;rw[if_pos rfl];exact decide_eq_true b);have h:(0:Int)<=(m:Int)/\(m:Int)<=65535:=ω;clear c b;go_enter Tryz.func75,Tryz.ntmps75
 go_wp2_with fail
 refine f.out.mono ?_;rintro e w1 ⟨rfl,a⟩;rw[g.out]
 go_wp2_with fail
 go_ret
 exact⟨rfl,a⟩
structure DM where
 gi:Nat
 Ai:Option Addr
 ni:Nat
 ci:Nat
 B:List Int
 a:Nat
 gw:Nat
 Aw:Option Addr
 nw:Nat
 cw:Nat
 l:List Int
 Ao:Option Addr
 no:Nat
 co:Nat
 out:List Int
 Al:Option Addr
 nl:Nat
 cl:Nat
 lens:List Int
 hp:Option Addr
 lp:Option Addr
 dp:Option Addr
 hd:Option (List Int)
 lt:Option (List Int)
 ds:Option (List Int)
structure DS where
 most:Nat
 err:Int
 st:Nat
 last:Bool
 left:Nat
 c0:Nat
 c1:Nat
 c2:Nat
 len:Nat
def dF (M:DM) (S:DS):Nat->Value
 | 0=> .pointer (some ⟨M.gi,0,none⟩)
 | 1=> .pointer (some ⟨M.gw,0,none⟩)
 | 2=> .int .i64 S.most
 | 3=> .slice M.Ao M.no M.co
 | 4=> .int .i64 S.err
 | 5=> .int .i64 S.st
 | 6=> .bool S.last
 | 7=> .int .i64 S.left
 | 8=> .int .i64 S.c0
 | 9=> .int .i64 S.c1
 | 10=> .int .i64 S.c2
 | 11=> .slice M.Al M.nl M.cl
 | 12=> .pointer M.hp
 | 13=> .pointer M.lp
 | 14=> .pointer M.dp
 | _=> .int .i64 S.len
theorem bN {P:Nat->Prop} (n:P 0) (m:P 1) (k:P 2) (i:P 3) (h4:P 4) (h5:P 5) (h6:P 6) (h7:P 7) (h:P 8) (g:P 9) (e:P 10) (d:P 11) (c:P 12) (b:P 13) (a:P 14) (l:P 15):
  ∀j,j<16->P j:=λj f=>by
 obtain rfl | rfl | rfl | rfl | rfl | rfl | rfl | rfl | rfl | rfl | rfl | rfl | rfl | rfl | rfl | rfl:j=0\/j=1\/j=2\/j=3\/j=4\/j=5\/j=6\/j=7\/j=8\/j=9\/j=10\/j=11\/j=12\/j=13\/j=14\/j=15:=ω
 all_goals assumption
def gg (w:World) (b0:Nat) (c:Nat->Nat) (p:Option Addr) (l:List Int):Prop:=
 ∃a B b,p=some ⟨b,0,none⟩/\sT w a B b l/\b0<=a/\B<=w.heap.size/\l.length<=288/\∀k,a<=k->k<B->c k=6
structure dU (w:World) (b0 g:Nat) (c:Nat->Nat) (M:DM) (S:DS):Prop where
 cell:Ar w g 16 (dF M S)
 cg:c g=1
 ir:kd w b0 M.gi M.Ai M.ni M.ci M.B M.a
 cr:∀k,foot M.Ai M.gi k->c k=2
 Bf:tB w b0 M.gw M.Aw M.nw M.cw M.l
 cw:∀k,foot M.Aw M.gw k->c k=3
 out:ag .u8 w b0 5 M.Ao M.no M.co M.out
 co:∀k,aa M.Ao=some k->c k=4
 lens:ag .i64 w b0 3 M.Al M.nl M.cl M.lens
 cl:∀k,aa M.Al=some k->c k=5
 th:∀l,M.hd=some l->gg w b0 c M.hp l
 tl:∀l,M.lt=some l->gg w b0 c M.lp l
 td:∀l,M.ds=some l->gg w b0 c M.dp l
 cb:∀k,c k≠0->b0<=k/\k<w.heap.size
 bB:M.B.length<=100000000000
def av (w0:World) (c0:Nat->Nat) (w:World) (b0 g:Nat) (M:DM) (S:DS):Prop:=∃c,dU w b0 g c M S/\DE b0 w0 c0 w c
section
variable {w w' w0:World} {b0 g:Nat} {c c0:Nat->Nat} {M:DM} {S:DS}
theorem dU.refl (h:dU w b0 g c M S):av w c w b0 g M S:= ⟨c,h,Below.refl _ _,aq.refl _ _,λ_ _=>rfl⟩
theorem dU.lo (h:dU w b0 g c M S):b0<=w.heap.size:=by have:=h.cb g (by rw[h.cg];decide);omega
theorem gg.cv {c':Nat->Nat} {F:Nat->Prop} {p:Option Addr} {l:List Int} (h:gg w b0 c p l) (d:aq w w' F) (hF:∀k,F k->c k≠6) (g:∀k,k<w.heap.size->c' k=c k):gg w' b0 c' p l:=by
 obtain⟨e,B,n,m,j,i,h4,h5,h6⟩ :=h;exact⟨e,B,n,m,j.cv d h4 (λk b a f=>hF k f (h6 k b a)),i,Nat.le_trans h4 d.size,h5,λk b a=>(g k ω).trans (h6 k b a)⟩
theorem dU.reader (h:dU w b0 g c M S) (m:aq w w' (foot M.Ai M.gi)) {A':Option Addr} {n' c' a':Nat} {B':List Int} (q:kd w' b0 M.gi A' n' c' B' a') (r:∀k,foot A' M.gi k->foot M.Ai M.gi k\/w.heap.size<=k) (s:B'.length<=100000000000):
  dU w' b0 g (aN c w.heap.size (foot A' M.gi) 2) { M with Ai:=A',ni:=n',ci:=c',B:=B',a:=a' } S:=by
 have hF:∀k,foot M.Ai M.gi k->c k=2:=h.cr;have p:∀k i,c k=i->i≠0->k<w.heap.size:=λk i j f=>(h.cb k ω).2
 have d:∀k,k<w.heap.size->aN c w.heap.size (foot A' M.gi) 2 k=c k:=λk b=>aG b
 have o:∀k i,c k=i->i≠0->aN c w.heap.size (foot A' M.gi) 2 k=i:=λk i j f=>(d k (p k i j f)).trans j
 exact⟨m.ar h.cell (λe=>by have:=hF g e;have:=h.cg;omega),o _ _ h.cg δ,q,λk b=>by
   rcases Nat.lt_or_ge k w.heap.size with j | j
   · rcases r k b with f | f
     · exact o k 2 (hF k f) δ
     · omega
   · exact bX j b,
  h.Bf.cv m (λk b e=>by have:=hF k e;have:=h.cw k b;omega),λk b=>o k 3 (h.cw k b) δ,
  m.bf h.out (λk b e=>by have:=hF k e;have:=h.co k b;omega),λk b=>o k 4 (h.co k b) δ,
  m.bf h.lens (λk b e=>by have:=hF k e;have:=h.cl k b;omega),λk b=>o k 5 (h.cl k b) δ,
  λl n=>(h.th l n).cv m (λk b e=>by have:=hF k b;omega) d,λl n=>(h.tl l n).cv m (λk b e=>by have:=hF k b;omega) d,λl n=>(h.td l n).cv m (λk b e=>by have:=hF k b;omega) d,
  λk b=>by
   rcases cJ b with ⟨j,f⟩ | ⟨j,f⟩
   · exact⟨(h.cb k f).1,Nat.lt_of_lt_of_le j m.size⟩
   · exact q.bH f,s⟩
theorem dU.vU (h:dU w b0 g c M S) (j:aq w w' (foot M.Aw M.gw)) {A':Option Addr} {n' c':Nat} {l':List Int} (p:tB w' b0 M.gw A' n' c' l') (q:∀k,foot A' M.gw k->foot M.Aw M.gw k\/w.heap.size<=k):
  dU w' b0 g (aN c w.heap.size (foot A' M.gw) 3) { M with Aw:=A',nw:=n',cw:=c',l:=l' } S:=by
 have hF:∀k,foot M.Aw M.gw k->c k=3:=h.cw;have o:∀k i,c k=i->i≠0->k<w.heap.size:=λk i f d=>(h.cb k ω).2
 have b:∀k,k<w.heap.size->aN c w.heap.size (foot A' M.gw) 3 k=c k:=λk a=>aG a
 have n:∀k i,c k=i->i≠0->aN c w.heap.size (foot A' M.gw) 3 k=i:=λk i f d=>(b k (o k i f d)).trans f
 exact⟨j.ar h.cell (λe=>by have:=hF g e;have:=h.cg;omega),n _ _ h.cg δ,
  h.ir.cv j (λk a e=>by have:=hF k e;have:=h.cr k a;omega),λk a=>n k 2 (h.cr k a) δ,p,λk a=>by
   rcases Nat.lt_or_ge k w.heap.size with f | f
   · rcases q k a with d | d
     · exact n k 3 (hF k d) δ
     · omega
   · exact bX f a,
  j.bf h.out (λk a e=>by have:=hF k e;have:=h.co k a;omega),λk a=>n k 4 (h.co k a) δ,
  j.bf h.lens (λk a e=>by have:=hF k e;have:=h.cl k a;omega),λk a=>n k 5 (h.cl k a) δ,
  λl m=>(h.th l m).cv j (λk a e=>by have:=hF k a;omega) b,λl m=>(h.tl l m).cv j (λk a e=>by have:=hF k a;omega) b,λl m=>(h.td l m).cv j (λk a e=>by have:=hF k a;omega) b,
  λk a=>by
   rcases cJ a with ⟨f,d⟩ | ⟨f,d⟩
   · exact⟨(h.cb k d).1,Nat.lt_of_lt_of_le f j.size⟩
   · exact p.bH d,h.bB⟩
theorem dU.outs (h:dU w b0 g c M S) (j:aq w w' (λk=>k=g\/aa M.Ao=some k)) {A':Option Addr} {n' c':Nat} {l':List Int} {S':DS} (r:Ar w' g 16 (dF { M with Ao:=A',no:=n',co:=c',out:=l' } S')) (p:ag .u8 w' b0 5 A' n' c' l')
  (q:∀k,aa A'=some k->aa M.Ao=some k\/w.heap.size<=k):
  dU w' b0 g (aN c w.heap.size (λk=>aa A'=some k) 4) { M with Ao:=A',no:=n',co:=c',out:=l' } S':=by
 have hF:∀k,(k=g\/aa M.Ao=some k)->c k=1\/c k=4:=λk a=>by
  rcases a with rfl | a
  · exact .inl h.cg
  · exact .inr (h.co k a)
 have o:∀k i,c k=i->i≠0->k<w.heap.size:=λk i f d=>(h.cb k ω).2
 have b:∀k,k<w.heap.size->aN c w.heap.size (λk=>aa A'=some k) 4 k=c k:=λk a=>aG a
 have n:∀k i,c k=i->i≠0->aN c w.heap.size (λk=>aa A'=some k) 4 k=i:=λk i f d=>(b k (o k i f d)).trans f
 exact⟨r,n _ _ h.cg δ,
  h.ir.cv j (λk a e=>by have:=hF k e;have:=h.cr k a;omega),λk a=>n k 2 (h.cr k a) δ,
  h.Bf.cv j (λk a e=>by have:=hF k e;have:=h.cw k a;omega),λk a=>n k 3 (h.cw k a) δ,p,λk a=>by
   rcases Nat.lt_or_ge k w.heap.size with f | f
   · rcases q k a with d | d
     · exact n k 4 (h.co k d) δ
     · omega
   · exact bX f a,
  j.bf h.lens (λk a e=>by have:=hF k e;have:=h.cl k a;omega),λk a=>n k 5 (h.cl k a) δ,
  λl m=>(h.th l m).cv j (λk a e=>by have:=hF k a;omega) b,λl m=>(h.tl l m).cv j (λk a e=>by have:=hF k a;omega) b,λl m=>(h.td l m).cv j (λk a e=>by have:=hF k a;omega) b,
  λk a=>by
   rcases cJ a with ⟨f,d⟩ | ⟨f,d⟩
   · exact⟨(h.cb k d).1,Nat.lt_of_lt_of_le f j.size⟩
   · exact p.2.lt d,h.bB⟩
theorem dU.Ay (h:dU w b0 g c M S) (j:aq w w' (λk=>k=g\/aa M.Al=some k)) {A':Option Addr} {n' c':Nat} {l':List Int} {S':DS} (r:Ar w' g 16 (dF { M with Al:=A',nl:=n',cl:=c',lens:=l' } S')) (p:ag .i64 w' b0 3 A' n' c' l')
  (q:∀k,aa A'=some k->aa M.Al=some k\/w.heap.size<=k):
  dU w' b0 g (aN c w.heap.size (λk=>aa A'=some k) 5) { M with Al:=A',nl:=n',cl:=c',lens:=l' } S':=by
 have hF:∀k,(k=g\/aa M.Al=some k)->c k=1\/c k=5:=λk a=>by
  rcases a with rfl | a
  · exact .inl h.cg
  · exact .inr (h.cl k a)
 have o:∀k i,c k=i->i≠0->k<w.heap.size:=λk i f d=>(h.cb k ω).2
 have b:∀k,k<w.heap.size->aN c w.heap.size (λk=>aa A'=some k) 5 k=c k:=λk a=>aG a
 have n:∀k i,c k=i->i≠0->aN c w.heap.size (λk=>aa A'=some k) 5 k=i:=λk i f d=>(b k (o k i f d)).trans f
 exact⟨r,n _ _ h.cg δ,
  h.ir.cv j (λk a e=>by have:=hF k e;have:=h.cr k a;omega),λk a=>n k 2 (h.cr k a) δ,
  h.Bf.cv j (λk a e=>by have:=hF k e;have:=h.cw k a;omega),λk a=>n k 3 (h.cw k a) δ,
  j.bf h.out (λk a e=>by have:=hF k e;have:=h.co k a;omega),λk a=>n k 4 (h.co k a) δ,p,λk a=>by
   rcases Nat.lt_or_ge k w.heap.size with f | f
   · rcases q k a with d | d
     · exact n k 5 (h.cl k d) δ
     · omega
   · exact bX f a,
  λl m=>(h.th l m).cv j (λk a e=>by have:=hF k a;omega) b,λl m=>(h.tl l m).cv j (λk a e=>by have:=hF k a;omega) b,λl m=>(h.td l m).cv j (λk a e=>by have:=hF k a;omega) b,
  λk a=>by
   rcases cJ a with ⟨f,d⟩ | ⟨f,d⟩
   · exact⟨(h.cb k d).1,Nat.lt_of_lt_of_le f j.size⟩
   · exact p.2.lt d,h.bB⟩
theorem dU.keeps (h:dU w b0 g c M S) (b:Below w.heap.size w w'):dU w' b0 g c M S:=by
 have e:aq w w' (λ_=>False):=aq.aB b
 exact⟨h.cell.keeps b,h.cg,h.ir.keeps b,h.cr,h.Bf.keeps b,h.cw,h.out.keeps b,h.co,h.lens.keeps b,h.cl,
  λl d=>(h.th l d).cv e (λk a=>a.elim) (λ_ _=>rfl),λl d=>(h.tl l d).cv e (λk a=>a.elim) (λ_ _=>rfl),λl d=>(h.td l d).cv e (λk a=>a.elim) (λ_ _=>rfl),
  λk a=> ⟨(h.cb k a).1,Nat.lt_of_lt_of_le (h.cb k a).2 b.size⟩,h.bB⟩
theorem av.reader (h:av w0 c0 w b0 g M S) (d:aq w w' (foot M.Ai M.gi)) {A':Option Addr} {n' c' a':Nat} {B':List Int} (e:kd w' b0 M.gi A' n' c' B' a') (f:∀k,foot A' M.gi k->foot M.Ai M.gi k\/w.heap.size<=k) (i:B'.length<=100000000000):
  av w0 c0 w' b0 g { M with Ai:=A',ni:=n',ci:=c',B:=B',a:=a' } S:=by
 obtain⟨c,h,hd⟩ :=h;exact⟨_,h.reader d e f i,hd.step h.lo (λk b=>(h.cb k b).1) (d.more λk b=>by rw[h.cr k b];decide) λk b=>aG b⟩
theorem av.moved (h:av w0 c0 w b0 g M S) (e:aq w w' (λk=>k=M.gi)) {a':Nat} (d:kd w' b0 M.gi M.Ai M.ni M.ci M.B a'):av w0 c0 w' b0 g { M with a:=a' } S:=
 h.reader (e.more λk b=> .inl b) d (λk b=> .inl b) (by obtain⟨c,h,_⟩ :=h;exact h.bB)
theorem av.vU (h:av w0 c0 w b0 g M S) (b:aq w w' (foot M.Aw M.gw)) {A':Option Addr} {n' c':Nat} {l':List Int} (d:tB w' b0 M.gw A' n' c' l') (e:∀k,foot A' M.gw k->foot M.Aw M.gw k\/w.heap.size<=k):
  av w0 c0 w' b0 g { M with Aw:=A',nw:=n',cw:=c',l:=l' } S:=by
 obtain⟨c,h,hd⟩ :=h;exact⟨_,h.vU b d e,hd.step h.lo (λk a=>(h.cb k a).1) (b.more λk a=>by rw[h.cw k a];decide) λk a=>aG a⟩
theorem av.outs (h:av w0 c0 w b0 g M S) (b:aq w w' (λk=>k=g\/aa M.Ao=some k)) {A':Option Addr} {n' c':Nat} {l':List Int} {S':DS} (f:Ar w' g 16 (dF { M with Ao:=A',no:=n',co:=c',out:=l' } S')) (d:ag .u8 w' b0 5 A' n' c' l')
  (e:∀k,aa A'=some k->aa M.Ao=some k\/w.heap.size<=k):av w0 c0 w' b0 g { M with Ao:=A',no:=n',co:=c',out:=l' } S':=by
 obtain⟨c,h,hd⟩ :=h
 exact⟨_,h.outs b f d e,hd.step h.lo (λk a=>(h.cb k a).1) (b.more λk a=>by
  rcases a with rfl | a
  · rw[h.cg];decide
  · rw[h.co k a];decide) λk a=>aG a⟩
theorem av.Ay (h:av w0 c0 w b0 g M S) (b:aq w w' (λk=>k=g\/aa M.Al=some k)) {A':Option Addr} {n' c':Nat} {l':List Int} {S':DS} (f:Ar w' g 16 (dF { M with Al:=A',nl:=n',cl:=c',lens:=l' } S')) (d:ag .i64 w' b0 3 A' n' c' l')
  (e:∀k,aa A'=some k->aa M.Al=some k\/w.heap.size<=k):av w0 c0 w' b0 g { M with Al:=A',nl:=n',cl:=c',lens:=l' } S':=by
 obtain⟨c,h,hd⟩ :=h
 exact⟨_,h.Ay b f d e,hd.step h.lo (λk a=>(h.cb k a).1) (b.more λk a=>by
  rcases a with rfl | a
  · rw[h.cg];decide
  · rw[h.cl k a];decide) λk a=>aG a⟩
theorem av.keeps (h:av w0 c0 w b0 g M S) (b:Below w.heap.size w w'):av w0 c0 w' b0 g M S:=by
 obtain⟨c,h,hd⟩ :=h;exact⟨c,h.keeps b,hd.step h.lo (λk a=>(h.cb k a).1) (aq.aB b) λk a=>rfl⟩
theorem av.drewN (h:av w0 c0 w b0 g M S) (q:Nat):av w0 c0 (w.drewN q) b0 g M S:=h.keeps (below_drewN (Below.refl _ _) q)
theorem av.drew (h:av w0 c0 w b0 g M S):av w0 c0 w.drew b0 g M S:=h.keeps (Below.refl _ _).drew
theorem av.put (h:av w0 c0 w b0 g M S) {i:Nat} (hi:i<16) (v:Value) (S':DS) (hF:∀j,j<16->upd (dF M S) i v j=dF M S' j):av w0 c0 (w.setCell ⟨g,i,none⟩ v) b0 g M S':=by
 obtain⟨c,h,hd⟩ :=h;have a:aa M.Ao≠some g:=λe=>by have:=h.co g e;have:=h.cg;omega
 have:=av.outs ⟨c,h,hd⟩ (w':=w.setCell ⟨g,i,none⟩ v) (A':=M.Ao) (n':=M.no) (c':=M.co) (l':=M.out) (S':=S') ((aq.refl w _).setCell (p:= ⟨g,i,none⟩) (.inl (.inl rfl)) v) ((h.cell.aQ hi v).congr hF) (h.out.far (p:= ⟨g,i,none⟩) a v) (λk b=> .inl b);exact this
theorem av.apart (h:av w0 c0 w b0 g M S):aa M.Ao≠some g/\aa M.Al≠some g/\M.gi≠g/\M.gw≠g:=by
 obtain⟨c,h,hd⟩ :=h;have a:=h.cg;exact⟨λe=>by have:=h.co g e;omega,λe=>by have:=h.cl g e;omega,λe=>by have:=h.cr g (.inl e.symm);omega,λe=>by have:=h.cw g (.inl e.symm);omega⟩
theorem av.cell (h:av w0 c0 w b0 g M S):Ar w g 16 (dF M S):=by obtain⟨c,h,hd⟩ :=h;exact h.cell
theorem av.ir (h:av w0 c0 w b0 g M S):kd w b0 M.gi M.Ai M.ni M.ci M.B M.a:=by obtain⟨c,h,hd⟩ :=h;exact h.ir
theorem av.Bf (h:av w0 c0 w b0 g M S):tB w b0 M.gw M.Aw M.nw M.cw M.l:=by obtain⟨c,h,hd⟩ :=h;exact h.Bf
theorem av.out (h:av w0 c0 w b0 g M S):ag .u8 w b0 5 M.Ao M.no M.co M.out:=by obtain⟨c,h,hd⟩ :=h;exact h.out
theorem av.lens (h:av w0 c0 w b0 g M S):ag .i64 w b0 3 M.Al M.nl M.cl M.lens:=by obtain⟨c,h,hd⟩ :=h;exact h.lens
theorem av.lo (h:av w0 c0 w b0 g M S):b0<=w.heap.size:=by obtain⟨c,h,hd⟩ :=h;exact h.lo
theorem av.big (h:av w0 c0 w b0 g M S):M.B.length<=100000000000:=by obtain⟨c,h,hd⟩ :=h;exact h.bB
theorem dU.tab (h:dU w b0 g c M S) {p:Option Addr} {l:List Int} (ht:gg w b0 c p l):∃a B b,p=some ⟨b,0,none⟩/\sT w a B b l/\B<=w.heap.size/\l.length<=288/\∀k,a<=k->k<B->k≠M.gi:=by
 obtain⟨a,B,b,j,i,m,h4,h5,h6⟩ :=ht;exact⟨a,B,b,j,i,h4,h5,λk f d e=>by have:=h6 k f d;have:=h.cr M.gi (.inl rfl);subst e;omega⟩
theorem av.a5F (h:av w0 c0 w b0 g M S) {l:List Int} (d:M.hd=some l):∃a B b,M.hp=some ⟨b,0,none⟩/\sT w a B b l/\B<=w.heap.size/\l.length<=288/\∀k,a<=k->k<B->k≠M.gi:=by
 obtain⟨c,h,hd⟩ :=h;exact h.tab (h.th l d)
theorem av.a5G (h:av w0 c0 w b0 g M S) {l:List Int} (d:M.lt=some l):∃a B b,M.lp=some ⟨b,0,none⟩/\sT w a B b l/\B<=w.heap.size/\l.length<=288/\∀k,a<=k->k<B->k≠M.gi:=by
 obtain⟨c,h,hd⟩ :=h;exact h.tab (h.tl l d)
theorem av.a5E (h:av w0 c0 w b0 g M S) {l:List Int} (d:M.ds=some l):∃a B b,M.dp=some ⟨b,0,none⟩/\sT w a B b l/\B<=w.heap.size/\l.length<=288/\∀k,a<=k->k<B->k≠M.gi:=by
 obtain⟨c,h,hd⟩ :=h;exact h.tab (h.td l d)
theorem dU.tabs (h:dU w b0 g c M S) {p:Option Addr} {l:List Int} {i:Nat} (r:Below w.heap.size w w') (hp:p=some ⟨i,0,none⟩) (ht:sT w' w.heap.size w'.heap.size i l) (o:l.length<=288):
  dU w' b0 g (aN c w.heap.size (λk=>w.heap.size<=k/\k<w'.heap.size) 6) M S/\gg w' b0 (aN c w.heap.size (λk=>w.heap.size<=k/\k<w'.heap.size) 6) p l:=by
 have b:=h.keeps r;have a:∀k,c k≠0->aN c w.heap.size (λk=>w.heap.size<=k/\k<w'.heap.size) 6 k=c k:=λk b=>aG (h.cb k b).2
 have e:∀{p l},gg w' b0 c p l->gg w' b0 (aN c w.heap.size (λk=>w.heap.size<=k/\k<w'.heap.size) 6) p l:=λ{p l} e=>by
  obtain⟨n,B,i,m,f,s,h4,h5,h6⟩ :=e;exact⟨n,B,i,m,f,s,h4,h5,λk d j=>by rw[a k (by rw[h6 k d j];decide)];exact h6 k d j⟩
 refine⟨⟨b.cell,(a g (by rw[h.cg];decide)).trans h.cg,b.ir,λk q=>(a k (by rw[h.cr k q];decide)).trans (h.cr k q),b.Bf,λk q=>(a k (by rw[h.cw k q];decide)).trans (h.cw k q),b.out,λk q=>(a k (by rw[h.co k q];decide)).trans (h.co k q),b.lens,λk q=>(a k (by rw[h.cl k q];decide)).trans (h.cl k q),
  λl q=>e (b.th l q),λl q=>e (b.tl l q),λl q=>e (b.td l q),λk q=> ?_,h.bB⟩, ⟨w.heap.size,w'.heap.size,i,hp,ht,h.lo,Nat.le_refl _,o,λk d j=>bX d ⟨d,j⟩⟩⟩
 rcases cJ q with ⟨m,f⟩ | ⟨m,f⟩
 · exact b.cb k f
 · exact⟨Nat.le_trans h.lo m,f.2⟩
theorem av.SZ (h:av w0 c0 w b0 g M S) {l:List Int} {f:Nat} (t:Below w.heap.size w w') (ht:sT w' w.heap.size w'.heap.size f l) (A:l.length<=288):
  av w0 c0 (w'.setCell ⟨g,12,none⟩ (.pointer (some ⟨f,0,none⟩))) b0 g { M with hp:=some ⟨f,0,none⟩,hd:=some l } S/\
  av w0 c0 (w'.setCell ⟨g,13,none⟩ (.pointer (some ⟨f,0,none⟩))) b0 g { M with lp:=some ⟨f,0,none⟩,lt:=some l } S/\
  av w0 c0 (w'.setCell ⟨g,14,none⟩ (.pointer (some ⟨f,0,none⟩))) b0 g { M with dp:=some ⟨f,0,none⟩,ds:=some l } S:=by
 obtain⟨c,h,hd⟩ :=h;obtain⟨a,u⟩ :=h.tabs (p:=some ⟨f,0,none⟩) t rfl ht A;have n:=hd.step (w':=w') (c':=aN c w.heap.size (λk=>w.heap.size<=k/\k<w'.heap.size) 6) h.lo (λk b=>(h.cb k b).1) (aq.aB t) λk b=>aG b
 generalize aN c w.heap.size (λk=>w.heap.size<=k/\k<w'.heap.size) 6=cc at a u n;have s:aa M.Ao≠some g:=λe=>by have:=h.co g e;have:=h.cg;omega
 have B:aa M.Al≠some g:=λe=>by have:=h.cl g e;have:=h.cg;omega
 have o:∀(i:Nat) (v:Value) (d:DM),i<16->(∀j,j<16->upd (dF M S) i v j=dF d S j)->d={ M with hp:=d.hp,lp:=d.lp,dp:=d.dp,hd:=d.hd,lt:=d.lt,ds:=d.ds }->
   (∀l,d.hd=some l->gg w' b0 cc d.hp l)->(∀l,d.lt=some l->gg w' b0 cc d.lp l)->(∀l,d.ds=some l->gg w' b0 cc d.dp l)->av w0 c0 (w'.setCell ⟨g,i,none⟩ v) b0 g d S:=by
  intro i v d hi hF C z y x;have m:aq w' (w'.setCell ⟨g,i,none⟩ v) (λk=>k=g):=(aq.refl w' (λk=>k=g)).setCell (p:= ⟨g,i,none⟩) (.inl rfl) v;have r:∀{p l},gg w' b0 cc p l->gg (w'.setCell ⟨g,i,none⟩ v) b0 cc p l:=λht=>ht.cv m (λk b=>by subst b;rw[a.cg];decide) λ_ _=>rfl
  refine⟨cc, ⟨(a.cell.aQ hi v).congr hF,a.cg, ?_, ?_, ?_, ?_, ?_, ?_, ?_, ?_,λl q=>r (z l q),λl q=>r (y l q),λl q=>r (x l q),λk b=> ⟨(a.cb k b).1,Nat.lt_of_lt_of_le (a.cb k b).2 m.size⟩, ?_⟩,
   n.step a.lo (λk b=>(a.cb k b).1) (m.more λk b=>by subst b;rw[a.cg];decide) λ_ _=>rfl⟩
  all_goals rw[C]
  · exact a.ir.cv m (λk b e=>by have:=a.cr k b;have:=a.cg;subst e;omega)
  · exact a.cr
  · exact a.Bf.cv m (λk b e=>by have:=a.cw k b;have:=a.cg;subst e;omega)
  · exact a.cw
  · exact m.bf a.out (λk b e=>by subst e;exact s b)
  · exact a.co
  · exact m.bf a.lens (λk b e=>by subst e;exact B b)
  · exact a.cl
  · exact a.bB
 refine⟨o 12 _ _ ω (bN rfl rfl rfl rfl rfl rfl rfl rfl rfl rfl rfl rfl rfl rfl rfl rfl) rfl (λl' q=> ?_) a.tl a.td,o 13 _ _ ω (bN rfl rfl rfl rfl rfl rfl rfl rfl rfl rfl rfl rfl rfl rfl rfl rfl) rfl a.th (λl' q=> ?_) a.td,o 14 _ _ ω (bN rfl rfl rfl rfl rfl rfl rfl rfl rfl rfl rfl rfl rfl rfl rfl rfl) rfl a.th a.tl (λl' q=> ?_)⟩
 all_goals
  injection q with q;subst q;exact u
end
theorem ve (a b:Nat) (g:a<4611686018427387904) (f:b<4611686018427387904):bits .or .i64 (a:Int) (b:Int)=((a||| b:Nat):Int):=by
 have e:a||| b<2 ^ 62:=Nat.or_lt_two_pow ω ω
 have d:(BitVec.ofInt 64 (a:Int)).toNat=a:=by
  rw[BitVec.ofInt_natCast,BitVec.toNat_ofNat];exact Nat.mod_eq_of_lt ω
 have c:(BitVec.ofInt 64 (b:Int)).toNat=b:=by
  rw[BitVec.ofInt_natCast,BitVec.toNat_ofNat];exact Nat.mod_eq_of_lt ω
 show IntKind.i64.wrap ((BitVec.ofInt 64 (a:Int)||| BitVec.ofInt 64 (b:Int)).toNat:Int)=_
 rw[BitVec.toNat_or,d,c,IntKind.wrap_i64];omega
theorem OU {h b:Int} (a:0<=h) (d:h<4294967296) (c:b=0\/b=1):bits .or .i64 (2*h) b=2*h+b:=by
 obtain⟨X,rfl⟩ :=Int.eq_ofNat_of_zero_le a;obtain⟨Y,rfl⟩ :=Int.eq_ofNat_of_zero_le (show 0<=b by omega);have e:(2*(X:Int))=((X*2 ^ 1:Nat):Int):=ξ;rw[e,ve _ _ ω ω,Nat.or_comm,Nat.mul_comm,Nat.or_comm,<-Nat.two_pow_add_eq_or_of_lt ω];simp
theorem Je {x:Int} (a:0<=x) (b:x<4294967296):bits .and .u32 x 1=x%2:=by
 obtain⟨X,rfl⟩ :=Int.eq_ofNat_of_zero_le a;have:=u32_and_nat X 1 ω ω;rw[Nat.and_one_is_mod]at this;have e:((1:Nat):Int)=1:=rfl;rw[e]at this;rw[this];omega
theorem aT.aside {k:IntKind} {w w':World} {B n b g:Nat} {A:Option Addr} {l:List Int} (h:aT k w B A n l) (m:aq w w' (λk=>k=g)) (p:B<=w.heap.size) (j:∀q,aa A=some q->b<=q) (d:∀k,b<=k->k<B->k≠g):aT k w' B A n l:=
 ⟨h.1,λf=>by
   obtain⟨o,e,c,a⟩ :=h.2 f;exact⟨o,e,c,λi hi=>(m.cell (by rw[aw];omega) (by rw[aw];exact d _ (j _ (by rw[e];rfl)) c)).trans (a i hi)⟩⟩
def gN (w:World) (b0 g n c a:Nat) (A:Option Addr) (b l:List Int) (e:Ending) (w':World):Prop:=
 e= .returned (.tuple #[.int .i64 (ae l (rb b a)).1, .int .i64 (ae l (rb b a)).2.2])/\kd w' b0 g A n c b (a+(ae l (rb b a)).2.1)/\aq w w' (λk=>k=g)
def QQ (w:World) (l x:List Int) (H:Nat) (v f t a n:Value) (wr:World):Prop:=
 ∃(k q:Nat),1<=k/\k<=H+1/\n= .int .i64 k/\v= .int .i64 (2*hv x (k-1))/\f= .int .i64 (jd l k:Nat)/\t= .int .i64 (below l (k-1):Nat)/\a= .int .u32 (bW ((x.take H).drop (k-1)))/\fh l x (k-1)=0/\wr=w.drewN q
theorem a3h (l:List Int) {n:Nat} (b:1<=n) (a:n<=15):cf l 16 0 n=cnt l l.length n:=by unfold cf;rw[if_neg ω,if_pos ω]
theorem rV (w:World) (t0 B gt b0 g n c a:Nat) (A:Option Addr) (l G:List Int) (ht:sT w t0 B gt l) (hl:l.length<=288) (z:kd w b0 g A n c G a) (t:G.length<=1000000000000) (Qf:B<=w.heap.size) (bb:∀k,t0<=k->k<B->k≠g):
  Calls Tryz.prog 124 #[.pointer (some ⟨gt,0,none⟩), .pointer (some ⟨g,0,none⟩)] w (gN w b0 g n c a A G l):=by
 obtain⟨Al,Ac,As,cl,cc,cs,cQ,Sq,Xt,Xu,bn,bk, -, -,bt⟩ :=ht;have bi:=bb gt bn bk;obtain⟨x,X⟩ :=ν (rb G a);have G6:bc x:=by rw[<-X];exact bc.rb G a
 obtain⟨f,Im⟩ :=ν (o0 l 15);have ca:f<=15:=by rw[<-Im];exact Gf l 15
 have lH:8*n-a=x.length:=by rw[<-X,dm,z.iQ]
 have aA:=cQ.cell (i:=19) ω;have ab:=cQ.cell (i:=18) ω;have an:BD Al l.length cl Ac l.length cc (cf l 16 0) As (pD l 15).length cs (o0 l 15:Nat) 19= .int .i64 f:=by rw[Im];rfl
 have ap:BD Al l.length cl Ac l.length cc (cf l 16 0) As (pD l 15).length cs (o0 l 15:Nat) 18= .slice As (pD l 15).length cs:=rfl;rw[an]at aA;rw[ap]at ab;obtain⟨H,hH⟩ :=ν (min x.length f);have ci:H<=15:=ω;have bp:H<=(rb G a).length:=by rw[X];omega
 have d:ae l (rb G a)=if fh l x H≠0 then(xi l (fh l x H) (hv x (fh l x H)-jd l (fh l x H)).toNat,fh l x H,0)else if H<f then(0,0,5)else if f=0/\x.length=0 then(0,0,5)else(0,0,3):=by
  rw[X];unfold ae;rw[Im,hH]
 have BK:=η d;have HX:=η X;have bx:=η lH;have bI:(0:Int)<=(x.length:Int)/\(x.length:Int)<=8000000000000:=by have:=z.iQ;omega
 have bs:((x.length:Int)<(f:Int)/\x.length=H)\/((f:Int)<(x.length:Int)/\f=H)\/(x.length=f/\f=H):=ω;have ck:=η Im;have bG:=η hH;have iX:=η cQ;clear d X lH Im hH an ap
 have kK:Hid (∀q,Calls Tryz.prog 82 #[.pointer (some ⟨g,0,none⟩)] (w.drewN q) λe w'=>e= .returned (.int .i64 x.length)/\∃m,w'=(w.drewN q).drewN m):=λq=>by
  have:=dY _ _ _ _ _ _ _ _ (z.drewN q) t
  rwa [bx.out]at this
 go_enter Tryz.func124,Tryz.ntmps124
 go_wp2
 go_cut [9] (λs9 wx=>s9= .int .i64 H/\∃q,wx=w.drewN q)
 case first=>
  rcases bs with ⟨h1,L⟩ | ⟨h1,L⟩ | ⟨h1,L⟩
  · have Yn:=η L;clear L;go_quiet ((go_at_call 82;exact Calls.quiet_of (kK.out _)))
    all_goals
     go_wp2_with fail
     go_meet
     exact⟨by rw[Yn.out],_,rfl⟩
  · have Yn:=η L;clear L;go_quiet ((go_at_call 82;exact Calls.quiet_of (kK.out _)))
    all_goals
     go_wp2_with fail
     go_meet
     exact⟨by rw[Yn.out],_,rfl⟩
  · have Yn:=η L;have bv:(x.length:Int)=(f:Int):=ω;clear L h1;go_quiet ((go_at_call 82;exact Calls.quiet_of (kK.out _)))
    all_goals
     go_wp2_with fail
     go_meet
     exact⟨by first | rw[Yn.out] | (rw[bv,Yn.out]),_,rfl⟩
 case rest=>
  obtain⟨rfl,q0,rfl⟩ :=hcut;have aI:=z.drewN q0
  go_wp2_with fail
  refine(IM _ _ _ _ _ _ _ _ aI t H ω bp).mono ?_;rintro e w1 ⟨rfl,q1,rfl⟩;rw[HX.out]
  go_wp2_with fail
  go_loopw [6,7,8,10,12] (QQ w l x H) (λ_ _ _ _ n _=>H+1-(intOf n).toNat)
  case atStart=>exact⟨1,q0+q1,Nat.le_refl _,ω,rfl,rfl,rfl,rfl,rfl,rfl,rfl⟩
  case round=>
   obtain⟨k,q,tH,cb,rfl,rfl,rfl,rfl,rfl,u,rfl⟩ :=hrel;by_cases bS:k<=H
   · obtain⟨p,rfl⟩ :∃p,k=p+1:= ⟨k-1,ω⟩;rw[Nat.add_sub_cancel]at u⊢;obtain⟨W,Bz⟩ :=ν (p+1:Nat);have D:=Ix G6 p;have S:=Ix G6 (p+1);have wT:=Ol G6 (Fq u);have G2:(2:Int) ^ (p+1)<=32768:=by have:=cK (show p+1<=15 by omega);simpa using this
     have dT:=pq l hl (v:=p+1) ω
     have xH:ix x p=0\/ix x p=1:=by
      unfold ix;rw[List.getD_eq_getElem?_getD];cases e:x[p]? with
      | none=>simp
      | some v=>simpa using G6 v (List.mem_of_getElem? e)
     have Y:hv x (p+1)=2*hv x p+ix x p:=rfl
     have O:(x.take H).drop p=ix x p::(x.take H).drop (p+1):=by
      rw[List.drop_eq_getElem_cons ξ];congr 1;simp [ix,show p<x.length by omega]
     have iW:bW ((x.take H).drop p)=ix x p+2*bW ((x.take H).drop (p+1)):=by rw[O];rfl
     have mC:=fy ((G6.oL H).bu p);have bT:=cK (show((x.take H).drop p).length<=15 by simp;omega);have P:=gS l l.length (p+1);have y:=fq u;obtain⟨h,hh⟩ :=ν (hv x p);obtain⟨b,hb⟩ :=ν (ix x p);obtain⟨V,E⟩ :=ν (hv x (p+1));obtain⟨N1,JO⟩ :=ν (bW ((x.take H).drop p));obtain⟨N2,RB⟩ :=ν (bW ((x.take H).drop (p+1)));rw[hh,JO];rw[JO,hb,RB]at iW;rw[JO]at mC;rw[hh]at D Y;rw[E]at S wT Y;rw[hb]at xH Y;have wy:(2:Int) ^ 15=32768:=rfl;have al:0<=N1/\N1<4294967296:=ω;have e1:bits .and .u32 N1 1=b:=by rw[Je al.1 al.2];omega
     have e3:N1/2=N2:=ω;have e2:bits .or .i64 (2*h) b=V:=by rw[OU D.1 (by have:=cK (show p<=15 by omega);omega) xH];exact Y.symm
     have kc:=cQ.cell (i:=2+(p+1)) ω
     have r:BD Al l.length cl Ac l.length cc (cf l 16 0) As (pD l 15).length cs (o0 l 15:Nat) (2+(p+1))= .int .i64 (cnt l l.length (p+1):Nat):=by
      unfold BD;rw[if_neg ω,if_neg ω,if_neg ω,if_neg ω,Nat.add_sub_cancel_left,a3h l ω ω]
     rw[r]at kc;have R:below l p<=15*288:=Nat.le_trans (BZ l p) (Nat.mul_le_mul ω hl);obtain⟨I,N⟩ :=ν (jd l (p+1));obtain⟨ct,K⟩ :=ν (cnt l l.length (p+1));obtain⟨bl,Q⟩ :=ν (below l p);rw[N,Q];rw[K]at kc P;rw[N]at dT wT;rw[Q]at R;have hit:rz l x (p+1)=decide (V<(I:Int)+(ct:Int)):=by unfold rz;rw[E,N,K]
     rw[hit]at y;rw[Bz]at kc⊢
     have jK:0<=h/\h<=32768/\0<=V/\V<=32768/\(I:Int)<=V/\(0:Int)<=ct/\(ct:Int)<=288/\(0:Int)<=bl/\(bl:Int)<=4320/\(1:Int)<=W/\(W:Int)<=15/\(W:Int)<=(H:Int)/\(0:Int)<=I:=by
      have:=cK (show p<=15 by omega);omega
     have sq:0<=b/\b<=1:=ω;by_cases cd:V-(I:Int)<(ct:Int)
     · have s:fh l x (p+1)=p+1:=by rw[y,if_pos ξ]
       have ac:fh l x H=p+1:=by rw[nV (m:=p+1) (by rw[s];omega) ω,s]
       obtain⟨J,hJ⟩ :=Int.eq_ofNat_of_zero_le (show 0<=V-(I:Int) by omega);have am:J<ct:=ω;have O7:=Ya l (n:=p) (m:=15) (j:=J) ω (by rw[K];exact am);rw[Q]at O7
       have bo:bl+J<(pD l 15).length:=by
        rw[lX];have:=EU l (show p+1<=15 by omega);rw[below,Q,K]at this;omega
       have zP:ae l (rb G a)=(xi l (p+1) J,p+1,0):=by
        rw[BK.out,ac,if_pos ω,E,N];have:(V-(I:Int)).toNat=J:=ω;rw[this]
       have be:(bl:Int)+V-(I:Int)=((bl+J:Nat):Int):=ω;have bd:W<=(rb G a).length:=by rw[<-Bz];omega
       obtain⟨Sx,ah⟩ :=ν (xi l (p+1) J);rw[ah]at O7 zP;obtain⟨SL,F⟩ :=ν ((pD l 15).length:Nat);obtain⟨M,hM⟩ :=ν (bl+J:Nat);rw[hM]at be O7;rw[hM,F]at bo;have cg:(0:Int)<=M/\(M:Int)<(SL:Int):=ω;have bB:=η zP;have U:=η Bz;have Q3:=η F;have a39:=η O7;rw[F]at ab;have aE:=z.drewN q;clear N K Q hit y s ac E JO RB hh hb Y iW bT mC O xH R dT P D S wT G2 u r wy Bz zP F O7 hJ am hM ah
       go_wp2_with fail
       refine(zt _ _ _ _ _ _ _ _ aE t W ω bd).mono ?_;rintro e w5 ⟨rfl,lF,jC⟩;have oX:aq w w5 (λk=>k=g):=((aq.refl w _).drewN q).trans jC λk hk=> .inl hk
       have dH:=oX.ar cQ bi;have aC:=dH.cell (i:=18) ω;have ao:BD Al l.length cl Ac l.length cc (cf l 16 0) As (pD l 15).length cs (o0 l 15:Nat) 18= .slice As SL cs:=by rw[<-Q3.out];rfl
       rw[ao]at aC;have aS:=Xu.aside oX Qf bt bb;obtain⟨ad,rfl,ce,c5⟩ :=aS.at_ (i:=M) (by have:=Q3.out;omega);rw[a39.out]at c5;clear ao;go_wp2
       go_ret2
       unfold gN;rw[bB.out,U.out];exact⟨rfl,lF,oX⟩
     · have s:fh l x (p+1)=0:=by rw[y,if_neg ξ]
       have RZ:Hid (fh l x (p+1)=0):=s;have fN:Hid (below l (p+1)=bl+ct):=by show _=_;rw[below,Q,K]
       have K5:Hid (jd l (p+1+1)=2*(I+ct)):=by show _=_;show 2*(jd l (p+1)+cnt l l.length (p+1))=_;rw[N,K]
       have HV:=η E;have BJ:=η RB;have U:=η Bz;clear N K Q hit y s E JO RB hh hb Y iW bT mC O xH R dT P D S wT G2 u r wy Bz
       go_wp2_with fail
       go_roundw
       case rel=>exact⟨W+1,q,ω,ω,by go_num,by rw[Nat.add_sub_cancel,<-U.out,HV.out];go_num,by rw[<-U.out,K5.out];go_num,by rw[Nat.add_sub_cancel,<-U.out,fN.out];go_num,by rw[Nat.add_sub_cancel,<-U.out,BJ.out],by rw[Nat.add_sub_cancel,<-U.out];exact RZ.out,rfl⟩
       case measure=>simp [intOf];omega
   · obtain rfl:k=H+1:=ω;rw[Nat.add_sub_cancel]at u⊢;obtain⟨V,E⟩ :=ν (hv x H);rw[E];have mA:((H+1:Nat):Int)=(H:Int)+1:=ω;have d:=BK.out;rw[u,if_neg ω]at d;have ch:H<=f:=by have:=bG.out;omega
     have wS:aq w (w.drewN q) (λk=>k=g):=(aq.refl w _).drewN q;clear E;by_cases gH:H<f
     · rw[if_pos gH]at d;have hI:(H:Int)<(f:Int):=ω;have T:=η d;clear d u;go_wp2
       go_ret2
       unfold gN;rw[T.out];exact⟨rfl,z.drewN q,wS⟩
     · rw[if_neg gH]at d;have hI:¬(H:Int)<(f:Int):=ω;by_cases Z:f=0
       · by_cases o:x.length=0
         · rw[if_pos ⟨Z,o⟩]at d;have T:=η d;have Uo:(f:Int)=0:=ω;have cj:=η o;have C:=kK.out q;rw[o]at C;clear d u Z o
           go_wp2_with fail
           refine C.mono ?_;rintro e w5 ⟨rfl,q5,rfl⟩;go_wp2
           go_ret2
           unfold gN;rw[T.out];exact⟨rfl,z.drewN (q+q5),(aq.refl w _).drewN (q+q5)⟩
         · rw[if_neg (λh=>o h.2)]at d;have T:=η d;have Uo:(f:Int)=0:=ω;have wE:((x.length:Int)==0)=false:=by simpa using o
           have C:=kK.out q;clear d u Z o
           go_wp2_with fail
           refine C.mono ?_;rintro e w5 ⟨rfl,q5,rfl⟩;go_wp2
           go_ret2
           unfold gN;rw[T.out];exact⟨rfl,z.drewN (q+q5),(aq.refl w _).drewN (q+q5)⟩
       · rw[if_neg (λh=>Z h.1)]at d;have T:=η d;have Uo:((f:Int)==0)=false:=by simpa using Z
         clear d u Z;go_wp2
         go_ret2
         unfold gN;rw[T.out];exact⟨rfl,z.drewN q,wS⟩
end Go.Proofs.YtddhegejmkgmjaaGreat
