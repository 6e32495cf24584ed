/-
  part
-/
import Derived.Test.YtdhmnlpfhfmpfaaGreatPk6
import Derived.Test.YtdhmnlpfhfmpfaaGreatPk7
set_option linter.unusedVariables false
set_option maxRecDepth 100000
set_option maxHeartbeats 4000000
namespace Go.Proofs.YtdhmnlpfhfmpfaaGreat
open Go.RowKit
theorem uM (A:Option Addr) (n c B:Nat) (l:List Int) (w:World) (t:bU .i64 w B A n l) (I:B<=w.heap.size) (N:n<=288):
  Calls Tryz.prog 71 #[.slice A n c] w λe w'=>∃g,e= .returned (.slice (some ⟨g,0,none⟩) n n)/\bU .u32 w' w'.heap.size (some ⟨g,0,none⟩) n (jd l)/\Below w.heap.size w w'/\w.heap.size<=g:=by
 obtain⟨C,hi,m,h,f⟩ :=aJ zL;have O:n<=l.length/\l.length<=n:=by have:=t.1;omega
 have p:=η t.1;have z:=λW=>fQ (P:=Tryz.prog) 64 29 C (.int .u32 0) Tryz.underlying64 hi m h rfl .i64 .i64 n (by rw[f];omega) ω W;have J:=η z;clear z hi m h f;have M:¬(288<(n:Int)):=ω;have E:=J.out w;go_enter Tryz.func71,Tryz.ntmps71;go_wp2;clear E;have a:Ar (w.alloc (.cells (eD n (.int .u32 0)) 29)) w.heap.size n (mQ l 1 0):=(Ar.MJ n (.int .u32 0) 29 rfl).congr λj _=>Hk l j;have b:Below w.heap.size w (w.alloc (.cells (eD n (.int .u32 0)) 29)):=(aw _ _).alloc (ag _) _;obtain⟨x,o⟩ :∃x:World,x=w.alloc (.cells (eD n (.int .u32 0)) 29):= ⟨_,rfl⟩;rw[<-o]at a b⊢;clear o
 go_loopw [4,5] (λs i wr=>∃v:Nat,1<=v/\v<=16/\i= .int .i64 v/\s= .int .u32 (Bn l v)/\Ar wr w.heap.size n (mQ l v 0)/\Below w.heap.size w wr) (λ_ i _=>16-(intOf i).toNat)
 case atStart=>exact⟨1,ω,ω,rfl,by rw[W7];rfl,a,b⟩
 obtain⟨v,q,hv,rfl,rfl,a,b⟩ :=hrel;by_cases F:v<16
 rotate_left
 · obtain rfl:16=v:=ω;go_wp2;go_ret;refine⟨_,rfl, ⟨by rw[rY l ω];omega, ?_⟩,b,ag _⟩;refine(a.rd a.lt (ag _)).congr λi hi=> ?_;rw[Pe,qD l ω ω]
 have D:=η (Bo l q);have bd:=uG l ω (v:=v) ω;have S:Bn l v<=9437184:=by have:=Bo l q;omega
 go_wp2;obtain⟨y,rfl⟩ :∃y:World,y=wr:= ⟨_,rfl⟩
 go_loopw [4,6] (λs i wr=>∃k:Nat,k<=n/\i= .int .i64 k/\s= .int .u32 ((nI l v+cnt l k v:Nat):Int)/\Ar wr w.heap.size n (mQ l v k)/\Below w.heap.size w wr) (λ_ i _=>n-(intOf i).toNat)
 case atStart=>exact⟨0,ω,rfl,by rw[D.out];congr 1;simp [cnt];omega,a,b⟩
 obtain⟨k,Q,rfl,rfl,a,b⟩ :=hrel;by_cases u:k<n
 rotate_left
 · obtain rfl:n=k:=ω;go_wp2;go_roundw
   case rel=>exact⟨v+1,ω,ω,by go_num,by rw[DO l q,<-p.out],a.congr λj R=>by rw[<-KN l v j ω,<-p.out],b⟩
   case measure=>simp [intOf];omega
 obtain⟨T,rfl,_,H⟩ :=((t.more I).below b).at_ u;have c2:=a.cell u;have L:=a.frozen' (i:=k) ω;have b2:=lI l k v;by_cases d:ix l k=v
 · have r:=η (show cnt l (k+1) v=cnt l k v+1 by simp [cnt,d]);have K:=η d;rw[d]at H;clear d;go_wp2;go_roundw
   case rel=>exact⟨k+1,ω,by go_num,by rw[r.out];congr 1,(a.bC u _).congr λj _=>Pf q ω K.out j,b.setCell (ag _) _⟩
   case measure=>simp [intOf];omega
 have r:=η (show cnt l (k+1) v=cnt l k v by simp [cnt,d]);have G:(ix l k==(v:Int))=false:=by simpa using d
 go_wp2;go_roundw
 case rel=>exact⟨k+1,ω,by go_num,by rw[r.out],a.congr λj _=>KM d j,b⟩
 case measure=>simp [intOf];omega
theorem pW (A:Option Addr) (n c B:Nat) (l:List Int) (w:World) (g:bU .i64 w B A n l) (t:n<=1000):
  Calls Tryz.prog 95 #[.slice A n c] w λe w'=>e= .returned (.int .i64 (sumTo l n))/\w=w':=by
 go_enter Tryz.func95,Tryz.ntmps95;go_wp2;go_loop [3,4] (λs i=>∃k:Nat,k<=n/\i= .int .i64 k/\s= .int .i64 (sumTo l k)) (λ_ i=>n-(intOf i).toNat)
 case atStart=>exact⟨0,aF _,rfl,rfl⟩
 obtain⟨k,u,rfl,rfl⟩ :=hrel;have bd:=wm l k;by_cases b:k<n
 rotate_left
 · obtain rfl:n=k:=ω;go_wp2;go_ret;exact⟨rfl,rfl⟩
 obtain⟨x,rfl,_,m⟩ :=g.at_ b;by_cases ht:1<=ix l k/\ix l k<=15
 rotate_left
 · have a:sumTo l (k+1)=sumTo l k:=by
    show sumTo l k+share (ix l k)=_;rw[mW ht];rfl
   have d:=η a;clear a;go_wp2
   all_goals
    go_round
    case rel=>exact⟨k+1,ω,by go_num,by rw[d.out]⟩
    case measure=>simp [intOf];omega
 obtain⟨v,hv⟩ :∃v:Nat,ix l k=(v:Int):= ⟨(ix l k).toNat,ω⟩
 have a:sumTo l (k+1)=sumTo l k+qK v:=by
  show sumTo l k+share (ix l k)=_;rw[hv,pY ω ω]
 have d:=η a;rw[hv]at m ht;have o:(1:Int)<=(v:Int)/\(v:Int)<=15:=ht;clear hv a;go_wp2;go_loop [5,6] (λp j=>∃q:Nat,q<=v/\j= .int .i64 q/\p= .int .i64 (qK q)) (λ_ j=>v-(intOf j).toNat)
 case atStart=>exact⟨0,aF _,rfl,rfl⟩
 obtain⟨q,r,rfl,rfl⟩ :=hrel;have b2:=xB q;by_cases f:q<v
 · have h:=η (Bg (v:=q) ω);go_wp2
   go_round
   case rel=>exact⟨q+1,ω,by go_num,by rw[h.out];congr 1;omega⟩
   case measure=>simp [intOf];omega
 obtain rfl:v=q:=ω;go_wp2
 go_round
 case rel=>exact⟨k+1,ω,by go_num,by rw[d.out];go_num⟩
 case measure=>simp [intOf];omega
def gL (l:List Int):Nat->Nat
 | 0=>0
 | k+1=>gL l k+if ix l k=1 then 1 else 0
theorem DG (l:List Int) (k:Nat):gL l k<=dg l k:=by
 induction k with
 | zero=>simp [gL]
 | succ k a=>simp only [gL,dg];split <;> split <;> omega
theorem M7 {l:List Int} {k:Nat} (h:∀i,i<k->ix l i<=1):gL l k=dg l k:=by
 induction k with
 | zero=>simp [gL,dg]
 | succ k a=>
   have c:=a λi hi=>h i ω;have b:=h k ω;simp only [gL,dg];split <;> split <;> omega
theorem IW {l:List Int} {n k:Nat} (b:k<n) (h:1<ix l k):gL l n<dg l n:=by
 induction n with
 | zero=>omega
 | succ n a=>
   simp only [gL,dg];by_cases e:k=n
   · subst e;have:=DG l k;rw[aa ω,ae ω];omega
   have:=a ω;split <;> split <;> omega
theorem ql (l:List Int) (n:Nat):kL l n=true↔(dg l n=0\/(dg l n=1/\gL l n=1)):=by
 unfold kL tV;simp only [Bool.and_eq_true,decide_eq_true_eq];constructor
 · rintro⟨b,c⟩;have:=M7 b;omega
 intro h;refine⟨λi hi=> ?_,ω⟩;by_cases a:1<ix l i
 · have:=IW hi a;omega
 omega
theorem uL (A:Option Addr) (n c B:Nat) (l:List Int) (most:Int) (w:World) (g:bU .i64 w B A n l) (h:n<=1000):
  Calls Tryz.prog 75 #[.slice A n c, .int .i64 most] w λe w'=>e= .returned (.int .i64 (bb l most))/\w=w':=by
 have d:=η g.1;by_cases p:most<1\/15<most\/288<n
 · have a:=η (xN (l:=l) (most:=most) (by rw[<-d.out];exact p));by_cases L:most<1
   · clear p;go_enter Tryz.func75,Tryz.ntmps75
     go_wp2_with fail;go_ret;exact⟨cn a.out.symm,rfl⟩
   by_cases K:15<most
   · clear p;go_enter Tryz.func75,Tryz.ntmps75
     go_wp2_with fail;go_ret;exact⟨cn a.out.symm,rfl⟩
   have R:288<n:=ω;clear p;go_enter Tryz.func75,Tryz.ntmps75
   go_wp2_with fail;go_ret;exact⟨cn a.out.symm,rfl⟩
 have q:=η (show¬(most<1\/15<most\/288<l.length) by rw[<-d.out];exact p);have O:1<=most/\most<=15:=ω;have N:n<=288:=ω;have q1:decide (most<1)=false:=ξ;have q2:decide (15<most)=false:=ξ;have q3:decide ((288:Int)<(n:Int))=false:=ξ;clear p;go_enter Tryz.func75,Tryz.ntmps75
 go_wp2_with fail;go_loop [5,6,7] (λs o i=>∃k:Nat,k<=n/\i= .int .i64 k/\s= .int .i64 (dg l k)/\o= .int .i64 (gL l k)/\Hid (∀j,j<k->0<=ix l j/\ix l j<=most)) (λ_ _ i=>n-(intOf i).toNat)
 case atStart=>exact⟨0,aF _,rfl,rfl,rfl,λj C=>absurd C ω⟩
 obtain⟨k,P,rfl,rfl,rfl,D⟩ :=hrel;have b3:=J3 l k;have b4:=DG l k;by_cases r:k<n
 · obtain⟨T,rfl,_,J⟩ :=g.at_ r;by_cases ht:0<=ix l k/\ix l k<=most
   rotate_left
   · have a:=η (ue (most:=most) (show k<l.length by rw[<-d.out];exact r) ht);by_cases L:ix l k<0
     · go_wp2_with fail;go_ret;exact⟨cn a.out.symm,rfl⟩
     have K:most<ix l k:=ω
     go_wp2_with fail;go_ret;exact⟨cn a.out.symm,rfl⟩
   have v:Hid (∀j,j<k+1->0<=ix l j/\ix l j<=most):=by
    intro j C;by_cases e:j=k
    · subst e;exact ht
    exact D.out j ω
   by_cases hp:0<ix l k
   · have HP:=η (show dg l (k+1)=dg l k+1 by simp [dg,hp]);by_cases f:ix l k=1
     · have t:=η (show gL l (k+1)=gL l k+1 by simp [gL,f]);rw[f]at J ht hp;clear f;have z:decide (most<1)=false:=ξ
       go_wp2_with fail
       go_round
       case rel=>exact⟨k+1,ω,by go_num,by rw[HP.out];go_num,by rw[t.out];go_num,v⟩
       case measure=>simp [intOf];omega
     have t:=η (show gL l (k+1)=gL l k by simp [gL,f]);have u:(ix l k==1)=false:=by simpa using f
     have G:decide (ix l k<0)=false:=ξ;have z:decide (most<ix l k)=false:=ξ
     go_wp2_with fail
     go_round
     case rel=>exact⟨k+1,ω,by go_num,by rw[HP.out];go_num,by rw[t.out],v⟩
     case measure=>simp [intOf];omega
   have HP:=η (show dg l (k+1)=dg l k by simp [dg,hp]);have f:¬ix l k=1:=ω;have t:=η (show gL l (k+1)=gL l k by simp [gL,f]);have u:(ix l k==1)=false:=by simpa using f
   have G:decide (ix l k<0)=false:=ξ;have z:decide (most<ix l k)=false:=ξ
   go_wp2_with fail
   go_round
   case rel=>exact⟨k+1,ω,by go_num,by rw[HP.out],by rw[t.out],v⟩
   case measure=>simp [intOf];omega
 obtain rfl:n=k:=ω;have m:=η (show∀j,j<l.length->0<=ix l j/\ix l j<=most by rw[<-d.out];exact D.out);obtain⟨S,E⟩ :=ν (((sumTo l n:Nat):Int):Int);have b1:(0:Int)<=S/\S<=32768*(n:Int):=by have:=wm l n;omega
 have b:=η E;clear E;by_cases I:(32768:Int)<S
 · have a:=η (lG q.out m.out (.inl (by rw[<-d.out];have:=b.out;omega)))
   go_wp2_with (go_at_call 95;refine(pW _ _ _ _ _ _ g h).mono ?_;rintro e w' ⟨rfl,rfl⟩;rw[b.out])
   go_ret;exact⟨cn a.out.symm,rfl⟩
 have Q:decide ((32768:Int)<S)=false:=by simpa using I
 by_cases H:S<32768
 rotate_left
 · have a:=η (o9 q.out m.out (by rw[<-d.out];have:=b.out;omega))
   go_wp2_with (go_at_call 95;refine(pW _ _ _ _ _ _ g h).mono ?_;rintro e w' ⟨rfl,rfl⟩;rw[b.out])
   go_ret;exact⟨cn a.out.symm,rfl⟩
 have x:dg l n=0\/(dg l n=1/\gL l n=1)\/(dg l n=1/\gL l n≠1)\/2<=dg l n:=ω;rcases x with hp | hp | hp | hp
 · skip
   have a:=η (o9 (l:=l) (most:=most) q.out m.out (by rw[<-d.out,(ql l n).2 ω];have:=b.out;simp;omega));have y:(((dg l n:Nat):Int)==0)=true:=ξ;clear hp b3 b4
   go_wp2_with (go_at_call 95;refine(pW _ _ _ _ _ _ g h).mono ?_;rintro e w' ⟨rfl,rfl⟩;rw[b.out])
   go_ret;exact⟨cn a.out.symm,rfl⟩
 · skip
   have a:=η (o9 (l:=l) (most:=most) q.out m.out (by rw[<-d.out,(ql l n).2 ω];have:=b.out;simp;omega));have y:(((dg l n:Nat):Int)==0)=false:=ξ;have F:(((dg l n:Nat):Int)==1)=true:=ξ;have M:(((gL l n:Nat):Int)==1)=true:=ξ;clear hp b3 b4
   go_wp2_with (go_at_call 95;refine(pW _ _ _ _ _ _ g h).mono ?_;rintro e w' ⟨rfl,rfl⟩;rw[b.out])
   go_ret;exact⟨cn a.out.symm,rfl⟩
 · skip
   have a:=η (lG (l:=l) (most:=most) q.out m.out (.inr (by rw[<-d.out];exact⟨by have:=b.out;omega,by rw[<-Bool.not_eq_true,ql];omega⟩)));have y:(((dg l n:Nat):Int)==0)=false:=ξ;have F:(((dg l n:Nat):Int)==1)=true:=ξ;have M:(((gL l n:Nat):Int)==1)=false:=ξ;clear hp b3 b4
   go_wp2_with (go_at_call 95;refine(pW _ _ _ _ _ _ g h).mono ?_;rintro e w' ⟨rfl,rfl⟩;rw[b.out])
   go_ret;exact⟨cn a.out.symm,rfl⟩
 skip
 have a:=η (lG (l:=l) (most:=most) q.out m.out (.inr (by rw[<-d.out];exact⟨by have:=b.out;omega,by rw[<-Bool.not_eq_true,ql];omega⟩)));have y:(((dg l n:Nat):Int)==0)=false:=ξ;have F:(((dg l n:Nat):Int)==1)=false:=ξ;clear hp b3 b4
 go_wp2_with (go_at_call 95;refine(pW _ _ _ _ _ _ g h).mono ?_;rintro e w' ⟨rfl,rfl⟩;rw[b.out])
 go_ret;exact⟨cn a.out.symm,rfl⟩
structure HV where
 tx:Bool
 sm:Bool
 tm:Int
 fl:Int
 sy:Int
 ex:Value
 hE:Bool
 nm:ByteArray
 cm:ByteArray
 hN:Bool
 hC:Bool
def hf (h:HV):Nat->Value
 | 0=> .bool h.tx
 | 1=> .bool h.sm
 | 2=> .int .u32 h.tm
 | 3=> .int .u8 h.fl
 | 4=> .int .u8 h.sy
 | 5=>h.ex
 | 6=> .bool h.hE
 | 7=> .string h.nm
 | 8=> .string h.cm
 | 9=> .bool h.hN
 | _=> .bool h.hC
def hagg (h:HV):Value:= .agg #[.bool h.tx, .bool h.sm, .int .u32 h.tm, .int .u8 h.fl, .int .u8 h.sy,h.ex, .bool h.hE, .string h.nm, .string h.cm, .bool h.hN, .bool h.hC]
def hz:HV:= ⟨false,false,0,0,0, .slice none 0 0,false,ByteArray.empty,ByteArray.empty,false,false⟩
theorem Ar.VB {w:World} {g m:Nat} {f:Nat->Value} (b:g=w.heap.size) (cs:Array Value) (t:TypeId) (a:cs.size=m) (hf:∀i,i<m->cs[i]?=some (f i)):Ar (w.alloc (.cells cs t)) g m f:=by
 subst b;exact Ar.new w cs t a hf
theorem rL {i:Nat} (h:i<11):i=0\/i=1\/i=2\/i=3\/i=4\/i=5\/i=6\/i=7\/i=8\/i=9\/i=10:=ω
theorem below_drewN {B:Nat} {w w':World} (h:Below B w w') (q:Nat):Below B w (w'.drewN q):= ⟨h.os,h.tape,h.output,h.size,h.block⟩
theorem Ar.yL {w:World} {R:Nat} {h h':HV} (b:Ar w R 11 (hf h)) {i:Nat} (hi:i<11) (v:Value) (a:∀j,j<11->upd (hf h) i v j=hf h' j):Ar (w.setCell ⟨R,i,none⟩ v) R 11 (hf h'):=(b.bC hi v).congr a
theorem gC:(Tryz.prog.info? 5).map (λi=>(i.zero,i.size,i.bytes))=some (some (.int .u8 0),1,1):=by kernel_rfl
theorem lU {l:List Int} (h:∀x∈l,0<=x/\x<256) (k:Nat):∀x∈l.take k,0<=x/\x<256:=λx a=>h x (aH a)
theorem oJ {l:List Int} (h:∀x∈l,0<=x/\x<256) (k:Nat):∀x∈l.drop k,0<=x/\x<256:=λx a=>h x (aX a)
theorem a4j {s m x:Nat} (c:m*2 ^ s<4294967296) (h:x<4294967296) (b:m<4294967296):(x/2 ^ s)&&& m<4294967296/\(x&&& m)*2 ^ s<4294967296:=by
 have e:(x/2 ^ s)&&& m<=m:=Nat.and_le_right;have a:x&&& m<=m:=Nat.and_le_right;have d:(x&&& m)*2 ^ s<=m*2 ^ s:=fc _ a;omega
theorem Jt {s m x:Nat} (d:m*2 ^ s<4294967296) (h:x<4294967296) (a:m<4294967296):
  bits .and .u32 ((x/2 ^ s:Nat):Int) (m:Int)=(((x/2 ^ s)&&& m:Nat):Int)/\bits .and .u32 (x:Int) (m:Int)=((x&&& m:Nat):Int)/\
  IntKind.u32.wrap (((x&&& m:Nat):Int)*((2 ^ s:Nat):Int))=(((x&&& m)*2 ^ s:Nat):Int)/\bits .or .u32 (((x/2 ^ s)&&& m:Nat):Int) (((x&&& m)*2 ^ s:Nat):Int)=(E8 s m x:Int)/\E8 s m x<4294967296:=by
 obtain⟨c,b⟩ :=a4j d h a;have hd:x/2 ^ s<4294967296:=Nat.lt_of_le_of_lt (Nat.div_le_self _ _) h;refine⟨u32_and_nat _ _ hd a,u32_and_nat _ _ h a, ?_, ?_, ?_⟩
 · rw[fw,<-eW];omega
 · rw[u32_or_nat _ _ c b];unfold E8;rw[eR,Nat.shiftLeft_eq]
 unfold E8;rw[eR,Nat.shiftLeft_eq];exact Nat.or_lt_two_pow (n:=32) c b
theorem FQ (w:World) (x:Nat) (h:x<4294967296):Calls Tryz.prog 159 #[.int .u32 x] w λe w'=>e= .returned (.int .u32 (((E8 8 16711935 x >>> 16)||| ((E8 8 16711935 x <<< 16)%4294967296):Nat):Int))/\w=w':=by
 obtain⟨c,i,b,a,v⟩ :=Jt (s:=8) (m:=16711935) (x:=x) δ h δ;obtain⟨y,g⟩ :=ν (E8 8 16711935 x);have t:(x:Int)/256=((x/2 ^ 8:Nat):Int):=ω;obtain⟨p,hp⟩ :=ν (x/2 ^ 8);rw[hp]at t c a;obtain⟨q,l⟩ :=ν (p&&& 16711935);obtain⟨r,k⟩ :=ν (x&&& 16711935);rw[l]at c a;rw[k]at i b a;obtain⟨u,j⟩ :=ν (r*2 ^ 8);rw[j]at b a;rw[g]at a v;have c1:bits .and .u32 (p:Int) 16711935=(q:Int):=c;have c2:bits .and .u32 (x:Int) 16711935=(r:Int):=i;have C:((r:Int)*256)%4294967296=(u:Int):=by rw[<-b,fw];rfl
 have B:bits .or .u32 (q:Int) (u:Int)=(y:Int):=a;have d1:(y:Int)/65536=((y/65536:Nat):Int):=ω;have d2:((y:Int)*65536)%4294967296=((y*65536%4294967296:Nat):Int):=ω;have d3:bits .or .u32 ((y/65536:Nat):Int) ((y*65536%4294967296:Nat):Int)=((y/65536||| y*65536%4294967296:Nat):Int):=u32_or_nat _ _ ω ω;obtain⟨d,hd⟩ :=ν (y/65536);obtain⟨f,hf⟩ :=ν (y*65536%4294967296);rw[hd]at d1 d3;rw[hf]at d2 d3;obtain⟨z,hz⟩ :=ν (d||| f);rw[hz]at d3
 have A:Hid (((y >>> 16)||| ((y <<< 16)%4294967296))=z):=by
  show _=_;rw[eR,Nat.shiftLeft_eq,<-hz,<-hd,<-hf]
 rw[g];have o:(0:Int)<=x/\(x:Int)<4294967296:=ω;have n:(0:Int)<=y/\(y:Int)<4294967296:=ω;clear c i b a g hp l k j hd hf hz;go_enter Tryz.func159,Tryz.ntmps159;go_wp2;go_ret;exact⟨cn (by rw[A.out]),rfl⟩
theorem xG (s m x:Nat) (P M:Int) (a:P=((2 ^ s:Nat):Int)) (b:M=(m:Int)) (d:m*2 ^ s<4294967296) (h:x<4294967296) (c:m<4294967296):
  ∃p q r u:Nat,(x:Int)/P=(p:Int)/\bits .and .u32 (p:Int) M=(q:Int)/\bits .and .u32 (x:Int) M=(r:Int)/\((r:Int)*P)%4294967296=(u:Int)/\bits .or .u32 (q:Int) (u:Int)=(E8 s m x:Int)/\E8 s m x<4294967296:=by
 obtain⟨j,i,g,f,e⟩ :=Jt d h c;refine⟨x/2 ^ s,(x/2 ^ s)&&& m,x&&& m,(x&&& m)*2 ^ s, ?_,by rw[b];exact j,by rw[b];exact i, ?_,f,e⟩
 · rw[a];simp
 rw[a,<-g,fw]
theorem QH (w:World) (x:Nat) (h:x<4294967296):Calls Tryz.prog 152 #[.int .u32 x] w λe w'=>e= .returned (.int .u32 (rD x:Int))/\w=w':=by
 obtain⟨p1,q1,q,u1,z,y,v,u,m,k⟩ :=xG 1 1431655765 x 2 1431655765 rfl rfl δ h δ;obtain⟨g,c⟩ :=ν (E8 1 1431655765 x);rw[c]at m k;obtain⟨p2,q2,p,u2,b1,b2,b3,b4,b5,j⟩ :=xG 2 858993459 g 4 858993459 rfl rfl δ k δ;obtain⟨f,b⟩ :=ν (E8 2 858993459 g);rw[b]at b5 j;obtain⟨p3,q3,o,u3,c1,c2,t,s,l,i⟩ :=xG 4 252645135 f 16 252645135 rfl rfl δ j δ;obtain⟨d,a⟩ :=ν (E8 4 252645135 f);rw[a]at l i
 have n:Hid (rD x=(E8 8 16711935 d >>> 16)||| ((E8 8 16711935 d <<< 16)%4294967296)):=by
  show _=_;unfold rD;rw[c,b,a]
 have r:(0:Int)<=x/\(0:Int)<=g/\(0:Int)<=f/\(0:Int)<=d:=ω;clear c b a;go_enter Tryz.func152,Tryz.ntmps152
 go_wp2_with fail;refine(FQ _ d i).mono ?_;rintro e w' ⟨rfl,rfl⟩;go_wp2;go_ret;exact⟨cn (by rw[n.out]),rfl⟩
theorem Mm (w:World) (V:Int) (N:Nat) (f:0<=V/\V<4294967296) (h:1<=(N:Int)/\(N:Int)<=32):Calls Tryz.prog 133 #[.int .u32 V, .int .i64 N] w λe w'=>e= .returned (.int .u32 (J9 V N))/\w=w':=by
 obtain⟨x,rfl⟩ :=aG f.1;have c:x<4294967296:=ω;have hN:¬(N:Int)<1/\¬32<(N:Int):=ω;obtain⟨M,d⟩ :=ν (32-N:Nat);have g:(32:Int)-(N:Int)=(M:Int):=ω;have a:=a4f x N c ω;rw[d]at a;obtain⟨y,b⟩ :=ν (rD x);rw[b]at a;have i:(y:Int)/2 ^ M=((y/2 ^ M:Nat):Int):=by rw[<-kW];simp
 have l:=η a;have k:=η b;have m:(0:Int)<=M:=ω;obtain⟨z,hz⟩ :=ν (y/2 ^ M);rw[hz]at i;have j:=η hz;clear a b d hz;go_enter Tryz.func133,Tryz.ntmps133
 go_wp2_with fail;refine(QH _ x c).mono ?_;rintro e w' ⟨rfl,rfl⟩;rw[k.out];go_wp2;go_ret;exact⟨cn (by rw[l.out,j.out]),rfl⟩
end Go.Proofs.YtdhmnlpfhfmpfaaGreat
