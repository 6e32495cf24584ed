/-
  part
-/
import Derived.Test.YtdhmnlpfhfmpfaaGreatPk2
import Derived.Test.YtdhmnlpfhfmpfaaGreatProg
set_option linter.unusedVariables false
set_option maxRecDepth 100000
set_option maxHeartbeats 16000000
namespace Go.Proofs.YtdhmnlpfhfmpfaaGreat
open Go.RowKit
theorem zL:(Tryz.prog.info? 29).map (λi=>(i.zero,i.size,i.bytes))=some (some (.int .u32 0),1,4):=by kernel_rfl
def yx (l:List Int) (k:Nat) (v:Nat):Value:= .int .u32 (if 1<=v then(cnt l k v:Nat)else 0:Nat)
def FB (l:List Int) (k:Nat) (v:Nat):Value:= .int .u32 (if v<k then nI l v else 0:Nat)
def Bx (l:List Int) (k:Nat) (v:Nat):Value:= .int .u32 (nI l v+if 1<=v then(cnt l k v:Nat)else 0:Nat)
def yO (l:List Int) (k:Nat) (i:Nat):Value:= .int .u32 (if i<k then fo l i else 0:Nat)
theorem P3 (l:List Int) (v:Nat):Value.int .u32 0=yx l 0 v:=by unfold yx;congr 1;simp [cnt]
theorem EE (l:List Int) (k:Nat) {v:Nat} (h:1<=v):yx l k v= .int .u32 (cnt l k v:Nat):=by unfold yx;rw[ae h]
theorem SQ (l:List Int) (k:Nat) {v:Nat} (h:1<=v) (e:ix l k=(v:Int)) (j:Nat):upd (yx l k) v (.int .u32 ((cnt l k v:Int)+1)) j=yx l (k+1) j:=by
 by_cases a:j=v
 · subst a;rw[upd_same,EE _ _ h];congr 1;simp [cnt,e]
 rw[dL _ _ a];unfold yx;congr 3;have:¬ix l k=(j:Int):=by rw[e];omega
 simp [cnt,this]
theorem P0 (l:List Int) (k:Nat) (h:¬(1<=ix l k/\ix l k<=15)) (j:Nat) (b:j<16):yx l k j=yx l (k+1) j:=by
 unfold yx;by_cases a:1<=j
 · rw[ae a,ae a];have:¬ix l k=(j:Int):=ω;simp [cnt,this]
 rw[aa a,aa a]
theorem Qo (l:List Int) (v:Nat):Value.int .u32 0=FB l 2 v:=by
 unfold FB;congr 1;split
 · rename_i h;rcases v with _ | _ | v <;> simp [nI];omega
 rfl
theorem FC (l:List Int) {k v:Nat} (h:v<k):FB l k v= .int .u32 (nI l v:Nat):=by unfold FB;rw[ae h]
theorem VH (l:List Int) (n:Nat) {k:Nat} (h:2<=k) (b:n=l.length) (j:Nat):upd (FB l k) k (.int .u32 (2*((nI l (k-1):Int)+(cnt l n (k-1):Int)))) j=FB l (k+1) j:=by
 subst b;by_cases a:j=k
 · subst a;rw[upd_same,FC _ ω];obtain⟨q,rfl⟩ :∃q,j=q+2:= ⟨j-2,ω⟩;congr 1
 rw[dL _ _ a];unfold FB;congr 2;by_cases h':j<k
 · rw[ae h',ae ω]
 rw[aa h',aa ω]
theorem a0r (l:List Int) (j:Nat) (a:j<16):FB l 16 j=Bx l 0 j:=by
 rw[FC _ a];unfold Bx;congr 1;simp [cnt]
theorem Og (l:List Int) (k:Nat) {v:Nat} (h:1<=v):Bx l k v= .int .u32 ((nI l v+cnt l k v:Nat):Int):=by unfold Bx;rw[ae h]
theorem Wi (l:List Int) (k:Nat) {v:Nat} (h:1<=v) (e:ix l k=(v:Int)) (j:Nat):upd (Bx l k) v (.int .u32 (((nI l v+cnt l k v:Nat):Int)+1)) j=Bx l (k+1) j:=by
 by_cases a:j=v
 · subst a;rw[upd_same,Og _ _ h];congr 1;simp [cnt,e];omega
 rw[dL _ _ a];unfold Bx;congr 4;have:¬ix l k=(j:Int):=by rw[e];omega
 simp [cnt,this]
theorem QO (l:List Int) (k:Nat) (h:¬(1<=ix l k/\ix l k<=15)) (j:Nat) (b:j<16):Bx l k j=Bx l (k+1) j:=by
 unfold Bx;by_cases a:1<=j
 · rw[ae a,ae a];have:¬ix l k=(j:Int):=ω;simp [cnt,this]
 rw[aa a,aa a]
theorem Qw (l:List Int) (v:Nat):Value.int .u32 0=yO l 0 v:=by unfold yO;congr 1
theorem VT (l:List Int) (k:Nat) {v:Nat} (h:1<=v) (h':v<=15) (e:ix l k=(v:Int)) (j:Nat):upd (yO l k) k (.int .u32 ((nI l v+cnt l k v:Nat):Int)) j=yO l (k+1) j:=by
 by_cases b:j=k
 · subst b;rw[upd_same];unfold yO fo isLen;rw[ae ω,e];congr 1;rw[ae ξ];simp
 rw[dL _ _ b];unfold yO;congr 2;by_cases a:j<k
 · rw[ae a,ae ω]
 rw[aa a,aa ω]
theorem Qv (l:List Int) (k:Nat) (h:¬(1<=ix l k/\ix l k<=15)) (j:Nat):yO l k j=yO l (k+1) j:=by
 unfold yO;congr 2;by_cases b:j=k
 · subst b;rw[aa ω,ae ω];unfold fo isLen;rw[aa (by simpa using h)]
 by_cases a:j<k
 · rw[ae a,ae ω]
 rw[aa a,aa ω]
theorem SU (A:Option Addr) (n c:Nat) (l:List Int) (w:World) (u:bU .i64 w w.heap.size A n l) (T:n<=288):
  Calls Tryz.prog 132 #[.slice A n c] w λe w'=>e= .returned (.slice (some ⟨w.heap.size+2,0,none⟩) n n)/\bU .u32 w' w'.heap.size (some ⟨w.heap.size+2,0,none⟩) n (jd l)/\Below w.heap.size w w':=by
 obtain⟨I,hi,p,o,m⟩ :=aJ zL;have U:n<=l.length/\l.length<=n:=by have:=u.1;omega
 have E:=λW=>fQ (P:=Tryz.prog) 64 29 I (.int .u32 0) Tryz.underlying64 hi p o rfl .i64 .i64 n (by rw[m];omega) ω W;have O:=η E;clear E hi p o m;have S:¬(288<(n:Int)):=ω;go_enter Tryz.func132,Tryz.ntmps132;go_wp2
 go_loopw [16] (λi wr=>∃k:Nat,k<=n/\i= .int .i64 k/\Ar wr w.heap.size 16 (yx l k)/\Ar wr (w.heap.size+1) 16 (λ_=> .int .u32 0)/\Sz wr (w.heap.size+2)/\Below w.heap.size w wr) (λi _=>n-(intOf i).toNat)
 case atStart=>
  have B:Ar (w.alloc (.cells (eD 16 (.int .u32 0)) 191)) w.heap.size 16 _:=Ar.zeros w 16 (.int .u32 0) 191;have N:Ar ((w.alloc (.cells (eD 16 (.int .u32 0)) 191)).alloc (.cells (eD 16 (.int .u32 0)) 191)) (w.heap.size+1) 16 _:=Ar.MJ 16 (.int .u32 0) 191 σ;exact⟨0,aF _,rfl,(B.alloc _).congr λv _=>P3 l v,N,by simp [Sz],((aw _ _).alloc (ag _) _).alloc σ _⟩
 obtain⟨k,F,rfl,g,a,b,f⟩ :=hrel;by_cases d:k<n
 · obtain⟨B,rfl,_,y⟩ :=(u.below f).at_ d;by_cases ht:1<=ix l k/\ix l k<=15
   · obtain⟨v,hv⟩ :∃v:Nat,ix l k=(v:Int):= ⟨(ix l k).toNat,ω⟩;rw[hv]at y ht;have z:(1:Int)<=(v:Int)/\(v:Int)<=15:=ht;have c1:=g.cell (i:=v) ω;rw[EE l k ω]at c1;have G:=g.frozen' (i:=v) ω;have bd:=lI l k v;have H:=η hv;clear hv;go_wp2;go_roundw
     case rel=>exact⟨k+1,ω,by go_num,(g.bC ω _).congr λj _=>SQ l k ω H.out j,a.far σ _,b.bC _ _,f.setCell σ _⟩
     case measure=>simp [intOf];omega
   go_wp2
   all_goals
    go_roundw
    case rel=>exact⟨k+1,ω,by go_num,g.congr (P0 l k ht),a,b,f⟩
    case measure=>simp [intOf];omega
 obtain rfl:n=k:=ω;go_wp2;obtain⟨D,rfl⟩ :∃D:World,D=wr:= ⟨_,rfl⟩
 go_loopw [7] (λi wr=>∃k:Nat,2<=k/\k<=16/\i= .int .i64 k/\Ar wr w.heap.size 16 (yx l n)/\Ar wr (w.heap.size+1) 16 (FB l k)/\Sz wr (w.heap.size+2)/\Below w.heap.size w wr) (λi _=>16-(intOf i).toNat)
 case atStart=>exact⟨2,ω,ω,rfl,g,a.congr λv _=>Qo l v,b,f⟩
 obtain⟨k,x,F,rfl,g,a,b,f⟩ :=hrel;by_cases d:k<16
 · have c1:=g.cell (i:=k-1) ω;rw[EE l n ω]at c1;have c2:=a.cell (i:=k-1) ω;rw[FC l ω]at c2;have V:=a.cell (i:=k) ω;have Q:=a.frozen' (i:=k) ω;have b1:=lI l n (k-1);have b2:=uG l ω (v:=k-1) ω;have b3:((k:Int)-1).toNat=k-1:=ω;go_wp2;go_region;go_wp2;go_roundw
   case rel=>exact⟨k+1,ω,ω,by go_num,g.far σ _,(a.bC ω _).congr λj _=>VH l n x ω j,(b.bC _ _).drew,(f.setCell σ _).drew⟩
   case measure=>simp [intOf];omega
 obtain rfl:16=k:=ω;have K:=O.out wr;have J:wr.heap.size=w.heap.size+2:=b;go_wp2;clear J K;have h:Ar (wr.alloc (.cells (eD n (.int .u32 0)) 29)) (w.heap.size+2) n (yO l 0):=(Ar.MJ n (.int .u32 0) 29 b.symm).congr λj _=>Qw l j;have s:=(a.congr (λj L=>a0r l j L)).alloc (.cells (eD n (.int .u32 0)) 29);have r:=f.alloc (by rw[show wr.heap.size=w.heap.size+2 from b];omega) (.cells (eD n (.int .u32 0)) 29);have t:=b.alloc (.cells (eD n (.int .u32 0)) 29);clear g a f b;obtain⟨C,q⟩ :∃C:World,C=wr.alloc (.cells (eD n (.int .u32 0)) 29):= ⟨_,rfl⟩;rw[<-q]at h s r t⊢;clear q
 go_loopw [53] (λi wr=>∃k:Nat,k<=n/\i= .int .i64 k/\Ar wr (w.heap.size+1) 16 (Bx l k)/\Ar wr (w.heap.size+2) n (yO l k)/\Sz wr (w.heap.size+3)/\Below w.heap.size w wr) (λi _=>n-(intOf i).toNat)
 case atStart=>exact⟨0,aF _,rfl,s,h,t,r⟩
 obtain⟨k,F,rfl,a,h,b,f⟩ :=hrel;by_cases d:k<n
 rotate_left
 · obtain rfl:n=k:=ω;go_wp2;go_ret;refine⟨rfl, ⟨by rw[rY l ω];omega, ?_⟩,f⟩;refine(h.rd (by rw[show wr.heap.size=_ from b];omega) (ag _)).congr λi hi=> ?_;unfold yO;rw[ae hi,qD l ω ω]
 obtain⟨B,rfl,_,y⟩ :=(u.below f).at_ d;by_cases ht:1<=ix l k/\ix l k<=15
 rotate_left
 · go_wp2
   all_goals
    go_roundw
    case rel=>exact⟨k+1,ω,by go_num,a.congr (QO l k ht),h.congr λj _=>Qv l k ht j,b,f⟩
    case measure=>simp [intOf];omega
 obtain⟨v,hv⟩ :∃v:Nat,ix l k=(v:Int):= ⟨(ix l k).toNat,ω⟩;rw[hv]at y ht;have z:(1:Int)<=(v:Int)/\(v:Int)<=15:=ht;have c1:=a.cell (i:=v) ω;rw[Og l k ω]at c1;have G:=a.frozen' (i:=v) ω;have c2:=h.cell d;have R:=h.frozen' (i:=k) ω;have bd:=lI l k v;have M:=uG l ω (v:=v) ω;have H:=η hv;clear hv;go_wp2;go_roundw
 case rel=>exact⟨k+1,ω,by go_num,((a.far σ _).bC ω _).congr λj _=>Wi l k ω H.out j,((h.bC d _).far σ _).congr λj _=>VT l k ω ω H.out j,(b.bC _ _).bC _ _,(f.setCell σ _).setCell σ _⟩
 case measure=>simp [intOf];omega
def Bn (l:List Int) (v:Nat):Nat:=if v<=1 then 0 else nI l (v-1)+cnt l l.length (v-1)
theorem W7 (l:List Int):Bn l 1=0:=by simp [Bn]
theorem Bo (l:List Int) {v:Nat} (h:1<=v):nI l v=2*Bn l v:=by
 unfold Bn;rcases v with _ | _ | v
 · omega
 · simp [nI]
 simp [nI]
theorem DO (l:List Int) {v:Nat} (h:1<=v):Bn l (v+1)=nI l v+cnt l l.length v:=by
 unfold Bn;rw[aa ω];simp
def mQ (l:List Int) (v k j:Nat):Value:= .int .u32 (if ix l j<v\/(ix l j=v/\j<k)then fo l j else 0:Nat)
theorem CW {l:List Int} {j:Nat} (h:¬(1<=ix l j/\ix l j<=15)):fo l j=0:=by
 unfold fo isLen;rw[aa (by simpa using h)]
theorem qp {l:List Int} {j v:Nat} (b:1<=v) (a:v<=15) (e:ix l j=v):fo l j=nI l v+cnt l j v:=by
 unfold fo isLen;rw[e,ae ξ];simp
theorem Hk (l:List Int) (j:Nat):Value.int .u32 0=mQ l 1 0 j:=by
 unfold mQ;congr 1;split
 · rename_i h
   rw[CW ω];rfl
 rfl
theorem KN (l:List Int) (v j:Nat) (a:j<l.length):mQ l v l.length j=mQ l (v+1) 0 j:=by
 unfold mQ;congr 2;by_cases h:ix l j<(v:Int)+1
 · rw[ae ω,ae ω]
 rw[aa ω,aa ω]
theorem Pe (l:List Int) (j:Nat):mQ l 16 0 j= .int .u32 (fo l j:Nat):=by
 unfold mQ;congr 2;split
 · rfl
 rename_i h
 rw[CW ω]
theorem Pf {l:List Int} {v k:Nat} (c:1<=v) (b:v<=15) (e:ix l k=v) (j:Nat):upd (mQ l v k) k (.int .u32 ((nI l v+cnt l k v:Nat):Int)) j=mQ l v (k+1) j:=by
 by_cases a:j=k
 · subst a;rw[upd_same];unfold mQ;rw[ae (.inr ⟨e,ω⟩),qp c b e]
 rw[dL _ _ a];unfold mQ;congr 2;by_cases h:ix l j<(v:Int)\/(ix l j=v/\j<k)
 · rw[ae h,ae ω]
 rw[aa h,aa ω]
theorem KM {l:List Int} {v k:Nat} (e:¬ix l k=v) (j:Nat):mQ l v k j=mQ l v (k+1) j:=by
 unfold mQ;congr 2;by_cases h:ix l j<(v:Int)\/(ix l j=v/\j<k)
 · rw[ae h,ae ω]
 by_cases a:j=k
 · subst a;rw[aa h,aa ω]
 rw[aa h,aa ω]
theorem qF (j:Nat) (b:j<29) (x:Int) (a:x=257+(j:Int)) (w:World):Calls Tryz.prog 134 #[.int .i64 x] w λe w'=>e= .returned (.tuple #[.int .i64 ((lB j:Nat):Int), .int .i64 ((lE j:Nat):Int), .bool true])/\w=w':=by
 have h:j=0\/j=1\/j=2\/j=3\/j=4\/j=5\/j=6\/j=7\/j=8\/j=9\/j=10\/j=11\/j=12\/j=13\/j=14\/j=15\/j=16\/j=17\/j=18\/j=19\/j=20\/j=21\/j=22\/j=23\/j=24\/j=25\/j=26\/j=27\/j=28:=ω;rcases h with rfl | rfl | rfl | rfl | rfl | rfl | rfl | rfl | rfl | rfl | rfl | rfl | rfl | rfl | rfl | rfl | rfl | rfl | rfl | rfl | rfl | rfl | rfl | rfl | rfl | rfl | rfl | rfl | rfl
 all_goals
  subst a;go_enter Tryz.func134,Tryz.ntmps134;go_wp2;go_ret3;exact⟨rfl,rfl⟩
theorem oZ (j:Nat) (b:j<30) (x:Int) (a:x=0+(j:Int)) (w:World):Calls Tryz.prog 135 #[.int .i64 x] w λe w'=>e= .returned (.tuple #[.int .i64 ((dB j:Nat):Int), .int .i64 ((dE j:Nat):Int), .bool true])/\w=w':=by
 have h:j=0\/j=1\/j=2\/j=3\/j=4\/j=5\/j=6\/j=7\/j=8\/j=9\/j=10\/j=11\/j=12\/j=13\/j=14\/j=15\/j=16\/j=17\/j=18\/j=19\/j=20\/j=21\/j=22\/j=23\/j=24\/j=25\/j=26\/j=27\/j=28\/j=29:=ω;rcases h with rfl | rfl | rfl | rfl | rfl | rfl | rfl | rfl | rfl | rfl | rfl | rfl | rfl | rfl | rfl | rfl | rfl | rfl | rfl | rfl | rfl | rfl | rfl | rfl | rfl | rfl | rfl | rfl | rfl | rfl
 all_goals
  subst a;go_enter Tryz.func135,Tryz.ntmps135;go_wp2;go_ret3;exact⟨rfl,rfl⟩
theorem Fw (x:Int) (a:x<257\/285<x) (b: -9223372036854775808<=x/\x<=9223372036854775807) (w:World):Calls Tryz.prog 134 #[.int .i64 x] w λe w'=>e= .returned (.tuple #[.int .i64 0, .int .i64 0, .bool false])/\w=w':=by
 have h:x<257\/(¬x<257/\285<x):=ω;clear a;rcases h with h | ⟨c,h⟩
 all_goals
  go_enter Tryz.func134,Tryz.ntmps134;go_wp2;go_ret3;exact⟨rfl,rfl⟩
theorem Cr (x:Int) (a:x<0\/30<=x) (w:World):Calls Tryz.prog 135 #[.int .i64 x] w λe w'=>e= .returned (.tuple #[.int .i64 0, .int .i64 0, .bool false])/\w=w':=by
 have h:x<0\/(¬x<0/\30<=x):=ω;clear a;rcases h with h | ⟨b,h⟩
 all_goals
  go_enter Tryz.func135,Tryz.ntmps135;go_wp2;go_ret3;exact⟨rfl,rfl⟩
def nW (B E:Nat->Nat) (lo hi off:Int) (a:Nat) (n:Int) (w:World) (e:Ending) (w':World):Prop:=(∃v,e= .returned v/\kJ B E lo hi off a n v)/\w=w'
theorem a3R:∀j,j<29->1<=lB j/\lB j<=32768:=by decide+kernel
theorem a1W:∀j,j<30->1<=dB j/\dB j<=32768:=by decide+kernel
def IJ (x:Int):Value:=if 257<=x/\x<=285 then .tuple #[.int .i64 ((lB (x-257).toNat:Nat):Int), .int .i64 ((lE (x-257).toNat:Nat):Int), .bool true] else .tuple #[.int .i64 0, .int .i64 0, .bool false]
def a03 (x:Int) (w:World) (b i:Value) (wr:World):Prop:=∃j:Nat,j<=28/\i= .int .i64 (257+(j:Int))/\b= .int .i64 ((lR j:Nat):Int)/\wr=w/\Hid (x<257\/257+(j:Int)<=x)
theorem IK (x:Int) (w:World):Calls Tryz.prog 73 #[.int .i64 x] w λe w'=>e= .returned (IJ x)/\w=w':=by
 have f:x<257\/285<x->IJ x= .tuple #[.int .i64 0, .int .i64 0, .bool false]:=λh=>by unfold IJ;rw[aa ω]
 have k:=η f;clear f;go_enter Tryz.func73,Tryz.ntmps73;go_wp2
 go_loopw [5,6] (a03 x w) (λ_ i _=>28-(intOf i-257).toNat)
 case atStart=>exact⟨0,ω,rfl,rfl,rfl,by show _\/_;omega⟩
 obtain⟨j,g,rfl,rfl,rfl,d⟩ :=hrel;have h:j=0\/j=1\/j=2\/j=3\/j=4\/j=5\/j=6\/j=7\/j=8\/j=9\/j=10\/j=11\/j=12\/j=13\/j=14\/j=15\/j=16\/j=17\/j=18\/j=19\/j=20\/j=21\/j=22\/j=23\/j=24\/j=25\/j=26\/j=27\/j=28:=ω;clear g;rcases h with rfl | rfl | rfl | rfl | rfl | rfl | rfl | rfl | rfl | rfl | rfl | rfl | rfl | rfl | rfl | rfl | rfl | rfl | rfl | rfl | rfl | rfl | rfl | rfl | rfl | rfl | rfl | rfl | rfl
 · rw[show((lR 0:Nat):Int)=3 from rfl,show(257:Int)+((0:Nat):Int)=257 from rfl];by_cases b:x=257
   · subst b;go_wp2;go_ret3;exact⟨rfl,rfl⟩
   have a:¬(257:Int)=x:=λh=>b h.symm;have c:((257:Int)==x)=false:=by simpa using a
   go_wp2;go_roundw
   case rel=>exact⟨1,ω,rfl,rfl,rfl,by have:=d.out;show _\/_;omega⟩
   case measure=>decide
 · rw[show((lR 1:Nat):Int)=4 from rfl,show(257:Int)+((1:Nat):Int)=258 from rfl];by_cases b:x=258
   · subst b;go_wp2;go_ret3;exact⟨rfl,rfl⟩
   have a:¬(258:Int)=x:=λh=>b h.symm;have c:((258:Int)==x)=false:=by simpa using a
   go_wp2;go_roundw
   case rel=>exact⟨2,ω,rfl,rfl,rfl,by have:=d.out;show _\/_;omega⟩
   case measure=>decide
 · rw[show((lR 2:Nat):Int)=5 from rfl,show(257:Int)+((2:Nat):Int)=259 from rfl];by_cases b:x=259
   · subst b;go_wp2;go_ret3;exact⟨rfl,rfl⟩
   have a:¬(259:Int)=x:=λh=>b h.symm;have c:((259:Int)==x)=false:=by simpa using a
   go_wp2;go_roundw
   case rel=>exact⟨3,ω,rfl,rfl,rfl,by have:=d.out;show _\/_;omega⟩
   case measure=>decide
 · rw[show((lR 3:Nat):Int)=6 from rfl,show(257:Int)+((3:Nat):Int)=260 from rfl];by_cases b:x=260
   · subst b;go_wp2;go_ret3;exact⟨rfl,rfl⟩
   have a:¬(260:Int)=x:=λh=>b h.symm;have c:((260:Int)==x)=false:=by simpa using a
   go_wp2;go_roundw
   case rel=>exact⟨4,ω,rfl,rfl,rfl,by have:=d.out;show _\/_;omega⟩
   case measure=>decide
 · rw[show((lR 4:Nat):Int)=7 from rfl,show(257:Int)+((4:Nat):Int)=261 from rfl];by_cases b:x=261
   · subst b;go_wp2;go_ret3;exact⟨rfl,rfl⟩
   have a:¬(261:Int)=x:=λh=>b h.symm;have c:((261:Int)==x)=false:=by simpa using a
   go_wp2;go_roundw
   case rel=>exact⟨5,ω,rfl,rfl,rfl,by have:=d.out;show _\/_;omega⟩
   case measure=>decide
 · rw[show((lR 5:Nat):Int)=8 from rfl,show(257:Int)+((5:Nat):Int)=262 from rfl];by_cases b:x=262
   · subst b;go_wp2;go_ret3;exact⟨rfl,rfl⟩
   have a:¬(262:Int)=x:=λh=>b h.symm;have c:((262:Int)==x)=false:=by simpa using a
   go_wp2;go_roundw
   case rel=>exact⟨6,ω,rfl,rfl,rfl,by have:=d.out;show _\/_;omega⟩
   case measure=>decide
 · rw[show((lR 6:Nat):Int)=9 from rfl,show(257:Int)+((6:Nat):Int)=263 from rfl];by_cases b:x=263
   · subst b;go_wp2;go_ret3;exact⟨rfl,rfl⟩
   have a:¬(263:Int)=x:=λh=>b h.symm;have c:((263:Int)==x)=false:=by simpa using a
   go_wp2;go_roundw
   case rel=>exact⟨7,ω,rfl,rfl,rfl,by have:=d.out;show _\/_;omega⟩
   case measure=>decide
 · rw[show((lR 7:Nat):Int)=10 from rfl,show(257:Int)+((7:Nat):Int)=264 from rfl];by_cases b:x=264
   · subst b;go_wp2;go_ret3;exact⟨rfl,rfl⟩
   have a:¬(264:Int)=x:=λh=>b h.symm;have c:((264:Int)==x)=false:=by simpa using a
   go_wp2;go_roundw
   case rel=>exact⟨8,ω,rfl,rfl,rfl,by have:=d.out;show _\/_;omega⟩
   case measure=>decide
 · rw[show((lR 8:Nat):Int)=11 from rfl,show(257:Int)+((8:Nat):Int)=265 from rfl];by_cases b:x=265
   · subst b;go_wp2;go_ret3;exact⟨rfl,rfl⟩
   have a:¬(265:Int)=x:=λh=>b h.symm;have c:((265:Int)==x)=false:=by simpa using a
   go_wp2;go_roundw
   case rel=>exact⟨9,ω,rfl,rfl,rfl,by have:=d.out;show _\/_;omega⟩
   case measure=>decide
 · rw[show((lR 9:Nat):Int)=13 from rfl,show(257:Int)+((9:Nat):Int)=266 from rfl];by_cases b:x=266
   · subst b;go_wp2;go_ret3;exact⟨rfl,rfl⟩
   have a:¬(266:Int)=x:=λh=>b h.symm;have c:((266:Int)==x)=false:=by simpa using a
   go_wp2;go_roundw
   case rel=>exact⟨10,ω,rfl,rfl,rfl,by have:=d.out;show _\/_;omega⟩
   case measure=>decide
 · rw[show((lR 10:Nat):Int)=15 from rfl,show(257:Int)+((10:Nat):Int)=267 from rfl];by_cases b:x=267
   · subst b;go_wp2;go_ret3;exact⟨rfl,rfl⟩
   have a:¬(267:Int)=x:=λh=>b h.symm;have c:((267:Int)==x)=false:=by simpa using a
   go_wp2;go_roundw
   case rel=>exact⟨11,ω,rfl,rfl,rfl,by have:=d.out;show _\/_;omega⟩
   case measure=>decide
 · rw[show((lR 11:Nat):Int)=17 from rfl,show(257:Int)+((11:Nat):Int)=268 from rfl];by_cases b:x=268
   · subst b;go_wp2;go_ret3;exact⟨rfl,rfl⟩
   have a:¬(268:Int)=x:=λh=>b h.symm;have c:((268:Int)==x)=false:=by simpa using a
   go_wp2;go_roundw
   case rel=>exact⟨12,ω,rfl,rfl,rfl,by have:=d.out;show _\/_;omega⟩
   case measure=>decide
 · rw[show((lR 12:Nat):Int)=19 from rfl,show(257:Int)+((12:Nat):Int)=269 from rfl];by_cases b:x=269
   · subst b;go_wp2;go_ret3;exact⟨rfl,rfl⟩
   have a:¬(269:Int)=x:=λh=>b h.symm;have c:((269:Int)==x)=false:=by simpa using a
   go_wp2;go_roundw
   case rel=>exact⟨13,ω,rfl,rfl,rfl,by have:=d.out;show _\/_;omega⟩
   case measure=>decide
 · rw[show((lR 13:Nat):Int)=23 from rfl,show(257:Int)+((13:Nat):Int)=270 from rfl];by_cases b:x=270
   · subst b;go_wp2;go_ret3;exact⟨rfl,rfl⟩
   have a:¬(270:Int)=x:=λh=>b h.symm;have c:((270:Int)==x)=false:=by simpa using a
   go_wp2;go_roundw
   case rel=>exact⟨14,ω,rfl,rfl,rfl,by have:=d.out;show _\/_;omega⟩
   case measure=>decide
 · rw[show((lR 14:Nat):Int)=27 from rfl,show(257:Int)+((14:Nat):Int)=271 from rfl];by_cases b:x=271
   · subst b;go_wp2;go_ret3;exact⟨rfl,rfl⟩
   have a:¬(271:Int)=x:=λh=>b h.symm;have c:((271:Int)==x)=false:=by simpa using a
   go_wp2;go_roundw
   case rel=>exact⟨15,ω,rfl,rfl,rfl,by have:=d.out;show _\/_;omega⟩
   case measure=>decide
 · rw[show((lR 15:Nat):Int)=31 from rfl,show(257:Int)+((15:Nat):Int)=272 from rfl];by_cases b:x=272
   · subst b;go_wp2;go_ret3;exact⟨rfl,rfl⟩
   have a:¬(272:Int)=x:=λh=>b h.symm;have c:((272:Int)==x)=false:=by simpa using a
   go_wp2;go_roundw
   case rel=>exact⟨16,ω,rfl,rfl,rfl,by have:=d.out;show _\/_;omega⟩
   case measure=>decide
 · rw[show((lR 16:Nat):Int)=35 from rfl,show(257:Int)+((16:Nat):Int)=273 from rfl];by_cases b:x=273
   · subst b;go_wp2;go_ret3;exact⟨rfl,rfl⟩
   have a:¬(273:Int)=x:=λh=>b h.symm;have c:((273:Int)==x)=false:=by simpa using a
   go_wp2;go_roundw
   case rel=>exact⟨17,ω,rfl,rfl,rfl,by have:=d.out;show _\/_;omega⟩
   case measure=>decide
 · rw[show((lR 17:Nat):Int)=43 from rfl,show(257:Int)+((17:Nat):Int)=274 from rfl];by_cases b:x=274
   · subst b;go_wp2;go_ret3;exact⟨rfl,rfl⟩
   have a:¬(274:Int)=x:=λh=>b h.symm;have c:((274:Int)==x)=false:=by simpa using a
   go_wp2;go_roundw
   case rel=>exact⟨18,ω,rfl,rfl,rfl,by have:=d.out;show _\/_;omega⟩
   case measure=>decide
 · rw[show((lR 18:Nat):Int)=51 from rfl,show(257:Int)+((18:Nat):Int)=275 from rfl];by_cases b:x=275
   · subst b;go_wp2;go_ret3;exact⟨rfl,rfl⟩
   have a:¬(275:Int)=x:=λh=>b h.symm;have c:((275:Int)==x)=false:=by simpa using a
   go_wp2;go_roundw
   case rel=>exact⟨19,ω,rfl,rfl,rfl,by have:=d.out;show _\/_;omega⟩
   case measure=>decide
 · rw[show((lR 19:Nat):Int)=59 from rfl,show(257:Int)+((19:Nat):Int)=276 from rfl];by_cases b:x=276
   · subst b;go_wp2;go_ret3;exact⟨rfl,rfl⟩
   have a:¬(276:Int)=x:=λh=>b h.symm;have c:((276:Int)==x)=false:=by simpa using a
   go_wp2;go_roundw
   case rel=>exact⟨20,ω,rfl,rfl,rfl,by have:=d.out;show _\/_;omega⟩
   case measure=>decide
 · rw[show((lR 20:Nat):Int)=67 from rfl,show(257:Int)+((20:Nat):Int)=277 from rfl];by_cases b:x=277
   · subst b;go_wp2;go_ret3;exact⟨rfl,rfl⟩
   have a:¬(277:Int)=x:=λh=>b h.symm;have c:((277:Int)==x)=false:=by simpa using a
   go_wp2;go_roundw
   case rel=>exact⟨21,ω,rfl,rfl,rfl,by have:=d.out;show _\/_;omega⟩
   case measure=>decide
 · rw[show((lR 21:Nat):Int)=83 from rfl,show(257:Int)+((21:Nat):Int)=278 from rfl];by_cases b:x=278
   · subst b;go_wp2;go_ret3;exact⟨rfl,rfl⟩
   have a:¬(278:Int)=x:=λh=>b h.symm;have c:((278:Int)==x)=false:=by simpa using a
   go_wp2;go_roundw
   case rel=>exact⟨22,ω,rfl,rfl,rfl,by have:=d.out;show _\/_;omega⟩
   case measure=>decide
 · rw[show((lR 22:Nat):Int)=99 from rfl,show(257:Int)+((22:Nat):Int)=279 from rfl];by_cases b:x=279
   · subst b;go_wp2;go_ret3;exact⟨rfl,rfl⟩
   have a:¬(279:Int)=x:=λh=>b h.symm;have c:((279:Int)==x)=false:=by simpa using a
   go_wp2;go_roundw
   case rel=>exact⟨23,ω,rfl,rfl,rfl,by have:=d.out;show _\/_;omega⟩
   case measure=>decide
 · rw[show((lR 23:Nat):Int)=115 from rfl,show(257:Int)+((23:Nat):Int)=280 from rfl];by_cases b:x=280
   · subst b;go_wp2;go_ret3;exact⟨rfl,rfl⟩
   have a:¬(280:Int)=x:=λh=>b h.symm;have c:((280:Int)==x)=false:=by simpa using a
   go_wp2;go_roundw
   case rel=>exact⟨24,ω,rfl,rfl,rfl,by have:=d.out;show _\/_;omega⟩
   case measure=>decide
 · rw[show((lR 24:Nat):Int)=131 from rfl,show(257:Int)+((24:Nat):Int)=281 from rfl];by_cases b:x=281
   · subst b;go_wp2;go_ret3;exact⟨rfl,rfl⟩
   have a:¬(281:Int)=x:=λh=>b h.symm;have c:((281:Int)==x)=false:=by simpa using a
   go_wp2;go_roundw
   case rel=>exact⟨25,ω,rfl,rfl,rfl,by have:=d.out;show _\/_;omega⟩
   case measure=>decide
 · rw[show((lR 25:Nat):Int)=163 from rfl,show(257:Int)+((25:Nat):Int)=282 from rfl];by_cases b:x=282
   · subst b;go_wp2;go_ret3;exact⟨rfl,rfl⟩
   have a:¬(282:Int)=x:=λh=>b h.symm;have c:((282:Int)==x)=false:=by simpa using a
   go_wp2;go_roundw
   case rel=>exact⟨26,ω,rfl,rfl,rfl,by have:=d.out;show _\/_;omega⟩
   case measure=>decide
 · rw[show((lR 26:Nat):Int)=195 from rfl,show(257:Int)+((26:Nat):Int)=283 from rfl];by_cases b:x=283
   · subst b;go_wp2;go_ret3;exact⟨rfl,rfl⟩
   have a:¬(283:Int)=x:=λh=>b h.symm;have c:((283:Int)==x)=false:=by simpa using a
   go_wp2;go_roundw
   case rel=>exact⟨27,ω,rfl,rfl,rfl,by have:=d.out;show _\/_;omega⟩
   case measure=>decide
 · rw[show((lR 27:Nat):Int)=227 from rfl,show(257:Int)+((27:Nat):Int)=284 from rfl];by_cases b:x=284
   · subst b;go_wp2;go_ret3;exact⟨rfl,rfl⟩
   have a:¬(284:Int)=x:=λh=>b h.symm;have c:((284:Int)==x)=false:=by simpa using a
   go_wp2;go_roundw
   case rel=>exact⟨28,ω,rfl,rfl,rfl,by have:=d.out;show _\/_;omega⟩
   case measure=>decide
 rw[show((lR 28:Nat):Int)=259 from rfl,show(257:Int)+((28:Nat):Int)=285 from rfl];by_cases b:x=285
 · subst b;go_wp2;go_ret3;exact⟨rfl,rfl⟩
 have a:(x==285)=false:=by simpa using b
 go_wp2;go_ret3;rw[k.out (by have:=d.out;omega)];exact⟨rfl,rfl⟩
def zN (x:Int):Value:=if 0<=x/\x<=29 then .tuple #[.int .i64 ((dB (x-0).toNat:Nat):Int), .int .i64 ((dE (x-0).toNat:Nat):Int), .bool true] else .tuple #[.int .i64 0, .int .i64 0, .bool false]
def T9 (x:Int) (w:World) (b i:Value) (wr:World):Prop:=∃j:Nat,j<=30/\i= .int .i64 (0+(j:Int))/\b= .int .i64 ((dB j:Nat):Int)/\wr=w/\Hid (x<0\/0+(j:Int)<=x)
theorem D5 (x:Int) (w:World):Calls Tryz.prog 74 #[.int .i64 x] w λe w'=>e= .returned (zN x)/\w=w':=by
 have f:x<0\/29<x->zN x= .tuple #[.int .i64 0, .int .i64 0, .bool false]:=λh=>by unfold zN;rw[aa ω]
 have k:=η f;clear f;go_enter Tryz.func74,Tryz.ntmps74;go_wp2
 go_loopw [5,6] (T9 x w) (λ_ i _=>30-(intOf i-0).toNat)
 case atStart=>exact⟨0,ω,rfl,rfl,rfl,by show _\/_;omega⟩
 obtain⟨j,g,rfl,rfl,rfl,d⟩ :=hrel;have h:j=0\/j=1\/j=2\/j=3\/j=4\/j=5\/j=6\/j=7\/j=8\/j=9\/j=10\/j=11\/j=12\/j=13\/j=14\/j=15\/j=16\/j=17\/j=18\/j=19\/j=20\/j=21\/j=22\/j=23\/j=24\/j=25\/j=26\/j=27\/j=28\/j=29\/j=30:=ω;clear g;rcases h with rfl | rfl | rfl | rfl | rfl | rfl | rfl | rfl | rfl | rfl | rfl | rfl | rfl | rfl | rfl | rfl | rfl | rfl | rfl | rfl | rfl | rfl | rfl | rfl | rfl | rfl | rfl | rfl | rfl | rfl | rfl
 · rw[show((dB 0:Nat):Int)=1 from rfl,show(0:Int)+((0:Nat):Int)=0 from rfl];by_cases b:x=0
   · subst b;go_wp2;go_ret3;exact⟨rfl,rfl⟩
   have a:¬(0:Int)=x:=λh=>b h.symm;have c:((0:Int)==x)=false:=by simpa using a
   go_wp2;go_roundw
   case rel=>exact⟨1,ω,rfl,rfl,rfl,by have:=d.out;show _\/_;omega⟩
   case measure=>decide
 · rw[show((dB 1:Nat):Int)=2 from rfl,show(0:Int)+((1:Nat):Int)=1 from rfl];by_cases b:x=1
   · subst b;go_wp2;go_ret3;exact⟨rfl,rfl⟩
   have a:¬(1:Int)=x:=λh=>b h.symm;have c:((1:Int)==x)=false:=by simpa using a
   go_wp2;go_roundw
   case rel=>exact⟨2,ω,rfl,rfl,rfl,by have:=d.out;show _\/_;omega⟩
   case measure=>decide
 · rw[show((dB 2:Nat):Int)=3 from rfl,show(0:Int)+((2:Nat):Int)=2 from rfl];by_cases b:x=2
   · subst b;go_wp2;go_ret3;exact⟨rfl,rfl⟩
   have a:¬(2:Int)=x:=λh=>b h.symm;have c:((2:Int)==x)=false:=by simpa using a
   go_wp2;go_roundw
   case rel=>exact⟨3,ω,rfl,rfl,rfl,by have:=d.out;show _\/_;omega⟩
   case measure=>decide
 · rw[show((dB 3:Nat):Int)=4 from rfl,show(0:Int)+((3:Nat):Int)=3 from rfl];by_cases b:x=3
   · subst b;go_wp2;go_ret3;exact⟨rfl,rfl⟩
   have a:¬(3:Int)=x:=λh=>b h.symm;have c:((3:Int)==x)=false:=by simpa using a
   go_wp2;go_roundw
   case rel=>exact⟨4,ω,rfl,rfl,rfl,by have:=d.out;show _\/_;omega⟩
   case measure=>decide
 · rw[show((dB 4:Nat):Int)=5 from rfl,show(0:Int)+((4:Nat):Int)=4 from rfl];by_cases b:x=4
   · subst b;go_wp2;go_ret3;exact⟨rfl,rfl⟩
   have a:¬(4:Int)=x:=λh=>b h.symm;have c:((4:Int)==x)=false:=by simpa using a
   go_wp2;go_roundw
   case rel=>exact⟨5,ω,rfl,rfl,rfl,by have:=d.out;show _\/_;omega⟩
   case measure=>decide
 · rw[show((dB 5:Nat):Int)=7 from rfl,show(0:Int)+((5:Nat):Int)=5 from rfl];by_cases b:x=5
   · subst b;go_wp2;go_ret3;exact⟨rfl,rfl⟩
   have a:¬(5:Int)=x:=λh=>b h.symm;have c:((5:Int)==x)=false:=by simpa using a
   go_wp2;go_roundw
   case rel=>exact⟨6,ω,rfl,rfl,rfl,by have:=d.out;show _\/_;omega⟩
   case measure=>decide
 · rw[show((dB 6:Nat):Int)=9 from rfl,show(0:Int)+((6:Nat):Int)=6 from rfl];by_cases b:x=6
   · subst b;go_wp2;go_ret3;exact⟨rfl,rfl⟩
   have a:¬(6:Int)=x:=λh=>b h.symm;have c:((6:Int)==x)=false:=by simpa using a
   go_wp2;go_roundw
   case rel=>exact⟨7,ω,rfl,rfl,rfl,by have:=d.out;show _\/_;omega⟩
   case measure=>decide
 · rw[show((dB 7:Nat):Int)=13 from rfl,show(0:Int)+((7:Nat):Int)=7 from rfl];by_cases b:x=7
   · subst b;go_wp2;go_ret3;exact⟨rfl,rfl⟩
   have a:¬(7:Int)=x:=λh=>b h.symm;have c:((7:Int)==x)=false:=by simpa using a
   go_wp2;go_roundw
   case rel=>exact⟨8,ω,rfl,rfl,rfl,by have:=d.out;show _\/_;omega⟩
   case measure=>decide
 · rw[show((dB 8:Nat):Int)=17 from rfl,show(0:Int)+((8:Nat):Int)=8 from rfl];by_cases b:x=8
   · subst b;go_wp2;go_ret3;exact⟨rfl,rfl⟩
   have a:¬(8:Int)=x:=λh=>b h.symm;have c:((8:Int)==x)=false:=by simpa using a
   go_wp2;go_roundw
   case rel=>exact⟨9,ω,rfl,rfl,rfl,by have:=d.out;show _\/_;omega⟩
   case measure=>decide
 · rw[show((dB 9:Nat):Int)=25 from rfl,show(0:Int)+((9:Nat):Int)=9 from rfl];by_cases b:x=9
   · subst b;go_wp2;go_ret3;exact⟨rfl,rfl⟩
   have a:¬(9:Int)=x:=λh=>b h.symm;have c:((9:Int)==x)=false:=by simpa using a
   go_wp2;go_roundw
   case rel=>exact⟨10,ω,rfl,rfl,rfl,by have:=d.out;show _\/_;omega⟩
   case measure=>decide
 · rw[show((dB 10:Nat):Int)=33 from rfl,show(0:Int)+((10:Nat):Int)=10 from rfl];by_cases b:x=10
   · subst b;go_wp2;go_ret3;exact⟨rfl,rfl⟩
   have a:¬(10:Int)=x:=λh=>b h.symm;have c:((10:Int)==x)=false:=by simpa using a
   go_wp2;go_roundw
   case rel=>exact⟨11,ω,rfl,rfl,rfl,by have:=d.out;show _\/_;omega⟩
   case measure=>decide
 · rw[show((dB 11:Nat):Int)=49 from rfl,show(0:Int)+((11:Nat):Int)=11 from rfl];by_cases b:x=11
   · subst b;go_wp2;go_ret3;exact⟨rfl,rfl⟩
   have a:¬(11:Int)=x:=λh=>b h.symm;have c:((11:Int)==x)=false:=by simpa using a
   go_wp2;go_roundw
   case rel=>exact⟨12,ω,rfl,rfl,rfl,by have:=d.out;show _\/_;omega⟩
   case measure=>decide
 · rw[show((dB 12:Nat):Int)=65 from rfl,show(0:Int)+((12:Nat):Int)=12 from rfl];by_cases b:x=12
   · subst b;go_wp2;go_ret3;exact⟨rfl,rfl⟩
   have a:¬(12:Int)=x:=λh=>b h.symm;have c:((12:Int)==x)=false:=by simpa using a
   go_wp2;go_roundw
   case rel=>exact⟨13,ω,rfl,rfl,rfl,by have:=d.out;show _\/_;omega⟩
   case measure=>decide
 · rw[show((dB 13:Nat):Int)=97 from rfl,show(0:Int)+((13:Nat):Int)=13 from rfl];by_cases b:x=13
   · subst b;go_wp2;go_ret3;exact⟨rfl,rfl⟩
   have a:¬(13:Int)=x:=λh=>b h.symm;have c:((13:Int)==x)=false:=by simpa using a
   go_wp2;go_roundw
   case rel=>exact⟨14,ω,rfl,rfl,rfl,by have:=d.out;show _\/_;omega⟩
   case measure=>decide
 · rw[show((dB 14:Nat):Int)=129 from rfl,show(0:Int)+((14:Nat):Int)=14 from rfl];by_cases b:x=14
   · subst b;go_wp2;go_ret3;exact⟨rfl,rfl⟩
   have a:¬(14:Int)=x:=λh=>b h.symm;have c:((14:Int)==x)=false:=by simpa using a
   go_wp2;go_roundw
   case rel=>exact⟨15,ω,rfl,rfl,rfl,by have:=d.out;show _\/_;omega⟩
   case measure=>decide
 · rw[show((dB 15:Nat):Int)=193 from rfl,show(0:Int)+((15:Nat):Int)=15 from rfl];by_cases b:x=15
   · subst b;go_wp2;go_ret3;exact⟨rfl,rfl⟩
   have a:¬(15:Int)=x:=λh=>b h.symm;have c:((15:Int)==x)=false:=by simpa using a
   go_wp2;go_roundw
   case rel=>exact⟨16,ω,rfl,rfl,rfl,by have:=d.out;show _\/_;omega⟩
   case measure=>decide
 · rw[show((dB 16:Nat):Int)=257 from rfl,show(0:Int)+((16:Nat):Int)=16 from rfl];by_cases b:x=16
   · subst b;go_wp2;go_ret3;exact⟨rfl,rfl⟩
   have a:¬(16:Int)=x:=λh=>b h.symm;have c:((16:Int)==x)=false:=by simpa using a
   go_wp2;go_roundw
   case rel=>exact⟨17,ω,rfl,rfl,rfl,by have:=d.out;show _\/_;omega⟩
   case measure=>decide
 · rw[show((dB 17:Nat):Int)=385 from rfl,show(0:Int)+((17:Nat):Int)=17 from rfl];by_cases b:x=17
   · subst b;go_wp2;go_ret3;exact⟨rfl,rfl⟩
   have a:¬(17:Int)=x:=λh=>b h.symm;have c:((17:Int)==x)=false:=by simpa using a
   go_wp2;go_roundw
   case rel=>exact⟨18,ω,rfl,rfl,rfl,by have:=d.out;show _\/_;omega⟩
   case measure=>decide
 · rw[show((dB 18:Nat):Int)=513 from rfl,show(0:Int)+((18:Nat):Int)=18 from rfl];by_cases b:x=18
   · subst b;go_wp2;go_ret3;exact⟨rfl,rfl⟩
   have a:¬(18:Int)=x:=λh=>b h.symm;have c:((18:Int)==x)=false:=by simpa using a
   go_wp2;go_roundw
   case rel=>exact⟨19,ω,rfl,rfl,rfl,by have:=d.out;show _\/_;omega⟩
   case measure=>decide
 · rw[show((dB 19:Nat):Int)=769 from rfl,show(0:Int)+((19:Nat):Int)=19 from rfl];by_cases b:x=19
   · subst b;go_wp2;go_ret3;exact⟨rfl,rfl⟩
   have a:¬(19:Int)=x:=λh=>b h.symm;have c:((19:Int)==x)=false:=by simpa using a
   go_wp2;go_roundw
   case rel=>exact⟨20,ω,rfl,rfl,rfl,by have:=d.out;show _\/_;omega⟩
   case measure=>decide
 · rw[show((dB 20:Nat):Int)=1025 from rfl,show(0:Int)+((20:Nat):Int)=20 from rfl];by_cases b:x=20
   · subst b;go_wp2;go_ret3;exact⟨rfl,rfl⟩
   have a:¬(20:Int)=x:=λh=>b h.symm;have c:((20:Int)==x)=false:=by simpa using a
   go_wp2;go_roundw
   case rel=>exact⟨21,ω,rfl,rfl,rfl,by have:=d.out;show _\/_;omega⟩
   case measure=>decide
 · rw[show((dB 21:Nat):Int)=1537 from rfl,show(0:Int)+((21:Nat):Int)=21 from rfl];by_cases b:x=21
   · subst b;go_wp2;go_ret3;exact⟨rfl,rfl⟩
   have a:¬(21:Int)=x:=λh=>b h.symm;have c:((21:Int)==x)=false:=by simpa using a
   go_wp2;go_roundw
   case rel=>exact⟨22,ω,rfl,rfl,rfl,by have:=d.out;show _\/_;omega⟩
   case measure=>decide
 · rw[show((dB 22:Nat):Int)=2049 from rfl,show(0:Int)+((22:Nat):Int)=22 from rfl];by_cases b:x=22
   · subst b;go_wp2;go_ret3;exact⟨rfl,rfl⟩
   have a:¬(22:Int)=x:=λh=>b h.symm;have c:((22:Int)==x)=false:=by simpa using a
   go_wp2;go_roundw
   case rel=>exact⟨23,ω,rfl,rfl,rfl,by have:=d.out;show _\/_;omega⟩
   case measure=>decide
 · rw[show((dB 23:Nat):Int)=3073 from rfl,show(0:Int)+((23:Nat):Int)=23 from rfl];by_cases b:x=23
   · subst b;go_wp2;go_ret3;exact⟨rfl,rfl⟩
   have a:¬(23:Int)=x:=λh=>b h.symm;have c:((23:Int)==x)=false:=by simpa using a
   go_wp2;go_roundw
   case rel=>exact⟨24,ω,rfl,rfl,rfl,by have:=d.out;show _\/_;omega⟩
   case measure=>decide
 · rw[show((dB 24:Nat):Int)=4097 from rfl,show(0:Int)+((24:Nat):Int)=24 from rfl];by_cases b:x=24
   · subst b;go_wp2;go_ret3;exact⟨rfl,rfl⟩
   have a:¬(24:Int)=x:=λh=>b h.symm;have c:((24:Int)==x)=false:=by simpa using a
   go_wp2;go_roundw
   case rel=>exact⟨25,ω,rfl,rfl,rfl,by have:=d.out;show _\/_;omega⟩
   case measure=>decide
 · rw[show((dB 25:Nat):Int)=6145 from rfl,show(0:Int)+((25:Nat):Int)=25 from rfl];by_cases b:x=25
   · subst b;go_wp2;go_ret3;exact⟨rfl,rfl⟩
   have a:¬(25:Int)=x:=λh=>b h.symm;have c:((25:Int)==x)=false:=by simpa using a
   go_wp2;go_roundw
   case rel=>exact⟨26,ω,rfl,rfl,rfl,by have:=d.out;show _\/_;omega⟩
   case measure=>decide
 · rw[show((dB 26:Nat):Int)=8193 from rfl,show(0:Int)+((26:Nat):Int)=26 from rfl];by_cases b:x=26
   · subst b;go_wp2;go_ret3;exact⟨rfl,rfl⟩
   have a:¬(26:Int)=x:=λh=>b h.symm;have c:((26:Int)==x)=false:=by simpa using a
   go_wp2;go_roundw
   case rel=>exact⟨27,ω,rfl,rfl,rfl,by have:=d.out;show _\/_;omega⟩
   case measure=>decide
 · rw[show((dB 27:Nat):Int)=12289 from rfl,show(0:Int)+((27:Nat):Int)=27 from rfl];by_cases b:x=27
   · subst b;go_wp2;go_ret3;exact⟨rfl,rfl⟩
   have a:¬(27:Int)=x:=λh=>b h.symm;have c:((27:Int)==x)=false:=by simpa using a
   go_wp2;go_roundw
   case rel=>exact⟨28,ω,rfl,rfl,rfl,by have:=d.out;show _\/_;omega⟩
   case measure=>decide
 · rw[show((dB 28:Nat):Int)=16385 from rfl,show(0:Int)+((28:Nat):Int)=28 from rfl];by_cases b:x=28
   · subst b;go_wp2;go_ret3;exact⟨rfl,rfl⟩
   have a:¬(28:Int)=x:=λh=>b h.symm;have c:((28:Int)==x)=false:=by simpa using a
   go_wp2;go_roundw
   case rel=>exact⟨29,ω,rfl,rfl,rfl,by have:=d.out;show _\/_;omega⟩
   case measure=>decide
 · rw[show((dB 29:Nat):Int)=24577 from rfl,show(0:Int)+((29:Nat):Int)=29 from rfl];by_cases b:x=29
   · subst b;go_wp2;go_ret3;exact⟨rfl,rfl⟩
   have a:¬(29:Int)=x:=λh=>b h.symm;have c:((29:Int)==x)=false:=by simpa using a
   go_wp2;go_roundw
   case rel=>exact⟨30,ω,rfl,rfl,rfl,by have:=d.out;show _\/_;omega⟩
   case measure=>decide
 rw[show((dB 30:Nat):Int)=32769 from rfl,show(0:Int)+((30:Nat):Int)=30 from rfl];go_wp2;go_ret3;rw[k.out (by have:=d.out;omega)];exact⟨rfl,rfl⟩
def LP (n:Int) (w:World) (i:Value) (wr:World):Prop:=∃(j:Nat) (x:Int),i= .int .i64 x/\Hid (x=257+(j:Int))/\(257<=x/\x<=285)/\wr=w/\Hid (∀i,j<i->i<=28->n<((lB i:Nat):Int))
theorem sG (n:Int) (w:World):Calls Tryz.prog 112 #[.int .i64 n] w (nW lB lE 3 258 257 28 n w):=by
 by_cases d:n<3\/258<n
 · have h:n<3\/(¬n<3/\258<n):=ω;have hp:nW lB lE 3 258 257 28 n w (.returned (.tuple #[.int .i64 0, .int .i64 0, .int .i64 0])) w:= ⟨⟨_,rfl, .inl ⟨d,rfl⟩⟩,rfl⟩;clear d;rcases h with h | ⟨C,h⟩
   all_goals
    go_enter Tryz.func112,Tryz.ntmps112;go_wp2;go_ret3;exact hp
 have s:¬n<3/\¬258<n:=ω;have v:3<=n/\n<=258:=ω;clear d;go_enter Tryz.func112,Tryz.ntmps112;go_wp2
 go_loopw [2] (LP n w) (λi _=>(intOf i-257).toNat)
 case atStart=>exact⟨28,285,rfl,by show _=_;rfl,ω,rfl,λi s l=>ω⟩
 obtain⟨j,x,rfl,a,z,rfl,t⟩ :=hrel;have p:j<29:=by have:=a.out;omega
 have k:=a3R j p;obtain⟨b,r⟩ :=ν (((lB j:Nat):Int):Int);obtain⟨q,o⟩ :=ν (((lE j:Nat):Int):Int);have A:1<=b/\b<=32768:=ω;have c:=η r;have m:=η o;clear r o k p;by_cases g:b<=n
 · go_wp2_with fail;refine(qF j (by have:=a.out;omega) x a.out _).mono ?_;rintro e w' ⟨rfl,rfl⟩;rw[c.out,m.out];go_wp2;go_ret3;refine⟨⟨_,rfl, .inr ⟨v,j, ⟨by have:=a.out;omega,by rw[c.out];exact g,t.out⟩, ?_⟩⟩,rfl⟩;show Value.tuple #[.int .i64 x, .int .i64 q, .int .i64 (n-b)]=_;rw[c.out,m.out,<-a.out]
 have f:n<b:=ω
 have u:257<x:=by
  have l:=a.out;have B:=c.out;rcases cS j with rfl | hp
  · have h4:lB 0=3:=rfl;omega
  omega
 go_wp2_with fail;refine(qF j (by have:=a.out;omega) x a.out _).mono ?_;rintro e w' ⟨rfl,rfl⟩;rw[c.out,m.out];go_wp2;go_roundw
 case rel=>
  refine⟨j-1,x-1,rfl, ?_,ω,rfl, ?_⟩
  · have:=a.out;show _=_;omega
  intro i s l;by_cases y:i=j
  · subst y;rw[c.out];exact f
  exact t.out i ω l
 case measure=>simp [intOf];omega
def Hh (n:Int) (w:World) (i:Value) (wr:World):Prop:=∃(j:Nat) (x:Int),i= .int .i64 x/\Hid (x=0+(j:Int))/\(0<=x/\x<=29)/\wr=w/\Hid (∀i,j<i->i<=29->n<((dB i:Nat):Int))
theorem qs (n:Int) (w:World):Calls Tryz.prog 113 #[.int .i64 n] w (nW dB dE 1 32768 0 29 n w):=by
 by_cases d:n<1\/32768<n
 · have h:n<1\/(¬n<1/\32768<n):=ω;have hp:nW dB dE 1 32768 0 29 n w (.returned (.tuple #[.int .i64 0, .int .i64 0, .int .i64 0])) w:= ⟨⟨_,rfl, .inl ⟨d,rfl⟩⟩,rfl⟩;clear d;rcases h with h | ⟨C,h⟩
   all_goals
    go_enter Tryz.func113,Tryz.ntmps113;go_wp2;go_ret3;exact hp
 have s:¬n<1/\¬32768<n:=ω;have v:1<=n/\n<=32768:=ω;clear d;go_enter Tryz.func113,Tryz.ntmps113;go_wp2
 go_loopw [2] (Hh n w) (λi _=>(intOf i-0).toNat)
 case atStart=>exact⟨29,29,rfl,by show _=_;rfl,ω,rfl,λi s l=>ω⟩
 obtain⟨j,x,rfl,a,z,rfl,t⟩ :=hrel;have p:j<30:=by have:=a.out;omega
 have k:=a1W j p;obtain⟨b,r⟩ :=ν (((dB j:Nat):Int):Int);obtain⟨q,o⟩ :=ν (((dE j:Nat):Int):Int);have A:1<=b/\b<=32768:=ω;have c:=η r;have m:=η o;clear r o k p;by_cases g:b<=n
 · go_wp2_with fail;refine(oZ j (by have:=a.out;omega) x a.out _).mono ?_;rintro e w' ⟨rfl,rfl⟩;rw[c.out,m.out];go_wp2;go_ret3;refine⟨⟨_,rfl, .inr ⟨v,j, ⟨by have:=a.out;omega,by rw[c.out];exact g,t.out⟩, ?_⟩⟩,rfl⟩;show Value.tuple #[.int .i64 x, .int .i64 q, .int .i64 (n-b)]=_;rw[c.out,m.out,<-a.out]
 have f:n<b:=ω
 have u:0<x:=by
  have l:=a.out;have B:=c.out;rcases cS j with rfl | hp
  · have h4:dB 0=1:=rfl;omega
  omega
 go_wp2_with fail;refine(oZ j (by have:=a.out;omega) x a.out _).mono ?_;rintro e w' ⟨rfl,rfl⟩;rw[c.out,m.out];go_wp2;go_roundw
 case rel=>
  refine⟨j-1,x-1,rfl, ?_,ω,rfl, ?_⟩
  · have:=a.out;show _=_;omega
  intro i s l;by_cases y:i=j
  · subst y;rw[c.out];exact f
  exact t.out i ω l
 case measure=>simp [intOf];omega
theorem WJ (s v:Nat) (a:s<=65536000):wrap64 ((s:Int)+wrap64 (2 ^ (15-v)))=((s+qK v:Nat):Int):=by
 have h:=xB v;rw[<-a0g,IntWalk.wrap64_in ((qK v:Nat):Int) ω,IntWalk.wrap64_in _ ω];omega
theorem zt (A:Option Addr) (n c B:Nat) (l:List Int) (w:World) (f:bU .i64 w B A n l) (j:n<=1000):
  Calls Tryz.prog 150 #[.slice A n c] w λe w'=>e= .returned (.int .i64 (sumTo l n))/\w=w':=by
 go_enter Tryz.func150,Tryz.ntmps150;go_wp2;go_loop [3,8] (λs i=>∃k:Nat,k<=n/\i= .int .i64 k/\s= .int .i64 (sumTo l k)) (λ_ i=>n-(intOf i).toNat)
 case atStart=>exact⟨0,aF _,rfl,rfl⟩
 obtain⟨k,m,rfl,rfl⟩ :=hrel;have bd:=wm l k;by_cases b:k<n
 rotate_left
 · obtain rfl:n=k:=ω;go_wp2;go_ret;exact⟨rfl,rfl⟩
 obtain⟨o,rfl,_,g⟩ :=f.at_ b;by_cases ht:1<=ix l k/\ix l k<=15
 · obtain⟨v,hv⟩ :∃v:Nat,ix l k=(v:Int):= ⟨(ix l k).toNat,ω⟩
   have a:sumTo l (k+1)=sumTo l k+qK v:=by
    show sumTo l k+share (ix l k)=_;rw[hv,pY ω ω]
   have d:=η a;rw[hv]at g ht;have h:(1:Int)<=(v:Int)/\(v:Int)<=15:=ht;have b2:=xB v;clear hv a;go_wp2
   go_round
   case rel=>exact⟨k+1,ω,by go_num,by rw[d.out,WJ _ _ ω]⟩
   case measure=>simp [intOf];omega
 have a:sumTo l (k+1)=sumTo l k:=by
  show sumTo l k+share (ix l k)=_;rw[mW ht];rfl
 have d:=η a;clear a;go_wp2
 all_goals
  go_round
  case rel=>exact⟨k+1,ω,by go_num,by rw[d.out]⟩
  case measure=>simp [intOf];omega
theorem Ba {l:List Int} {k:Nat} (h:tV l k=true) (a:ix l k<=1):tV l (k+1)=true:=by
 unfold tV at*;simp only [decide_eq_true_eq]at*;intro i hi;by_cases e:i=k
 · subst e;exact a
 exact h i ω
theorem OJ {l:List Int} {n k:Nat} (a:k<n) (h:1<ix l k):kL l n=false:=by
 unfold kL tV;rw[Bool.and_eq_false_iff];left;rw[decide_eq_false_iff_not];intro b;have:=b k a;omega
theorem OL {l:List Int} {n:Nat} (h:tV l n=true):kL l n=decide ((dg l n:Int)<=1):=by
 unfold kL;rw[h,Bool.true_and];congr 1;simp;omega
theorem sZ (A:Option Addr) (n c B:Nat) (l:List Int) (w:World) (g:bU .i64 w B A n l) (m:n<=1000):
  Calls Tryz.prog 151 #[.slice A n c] w λe w'=>e= .returned (.bool (kL l n))/\w=w':=by
 go_enter Tryz.func151,Tryz.ntmps151;go_wp2;go_loop [3,8] (λs i=>∃k:Nat,k<=n/\i= .int .i64 k/\s= .int .i64 (dg l k)/\Hid (tV l k=true)) (λ_ i=>n-(intOf i).toNat)
 case atStart=>exact⟨0,aF _,rfl,rfl,by simp [Hid,tV]⟩
 obtain⟨k,o,rfl,rfl,b⟩ :=hrel;have bd:=J3 l k;by_cases a:k<n
 rotate_left
 · obtain rfl:n=k:=ω;go_wp2;go_ret;exact⟨wh (OL b.out).symm,rfl⟩
 obtain⟨q,rfl,_,p⟩ :=g.at_ a;by_cases f:0<ix l k
 · have d:=η (show dg l (k+1)=dg l k+1 by simp [dg,f]);by_cases h:1<ix l k
   · have j:=η (OJ a h);go_wp2;go_ret;exact⟨wh j.out.symm,rfl⟩
   go_wp2
   go_round
   case rel=>exact⟨k+1,ω,by go_num,by rw[d.out];go_num,Ba b.out ω⟩
   case measure=>simp [intOf];omega
 have d:=η (show dg l (k+1)=dg l k by simp [dg,f]);go_wp2
 go_round
 case rel=>exact⟨k+1,ω,by go_num,by rw[d.out],Ba b.out ω⟩
 case measure=>simp [intOf];omega
theorem xN {l:List Int} {most:Int} (h:most<1\/15<most\/288<l.length):bb l most=1:=by unfold bb;rw[ae h]
theorem ue {l:List Int} {most:Int} {k:Nat} (b:k<l.length) (h:¬(0<=ix l k/\ix l k<=most)):bb l most=1:=by
 unfold bb;by_cases a:most<1\/15<most\/288<l.length
 · rw[ae a]
 rw[aa a,ae (Vj b h)]
theorem lG {l:List Int} {most:Int} (b:¬(most<1\/15<most\/288<l.length)) (a:∀i,i<l.length->0<=ix l i/\ix l i<=most)
  (h:32768<sumTo l l.length\/(sumTo l l.length<32768/\kL l l.length=false)):bb l most=3:=by
 unfold bb;rw[aa b,aa (by rw[Fo a];simp),ae h]
theorem o9 {l:List Int} {most:Int} (b:¬(most<1\/15<most\/288<l.length)) (a:∀i,i<l.length->0<=ix l i/\ix l i<=most)
  (h:¬(32768<sumTo l l.length\/(sumTo l l.length<32768/\kL l l.length=false))):bb l most=0:=by
 unfold bb;rw[aa b,aa (by rw[Fo a];simp),aa h]
theorem CT (A:Option Addr) (n c B:Nat) (l:List Int) (most:Int) (w:World) (b:bU .i64 w B A n l) (d:n<=1000):
  Calls Tryz.prog 131 #[.slice A n c, .int .i64 most] w λe w'=>e= .returned (.int .i64 (bb l most))/\w=w':=by
 have f:=η b.1;by_cases m:most<1\/15<most\/288<n
 · have a:=η (xN (l:=l) (most:=most) (by rw[<-f.out];exact m));by_cases z:most<1
   · clear m;go_enter Tryz.func131,Tryz.ntmps131;go_wp2;go_ret;exact⟨cn a.out.symm,rfl⟩
   by_cases y:15<most
   · clear m;go_enter Tryz.func131,Tryz.ntmps131;go_wp2;go_ret;exact⟨cn a.out.symm,rfl⟩
   have H:288<n:=ω;clear m;go_enter Tryz.func131,Tryz.ntmps131;go_wp2;go_ret;exact⟨cn a.out.symm,rfl⟩
 have q:=η (show¬(most<1\/15<most\/288<l.length) by rw[<-f.out];exact m);have D:1<=most/\most<=15:=ω;have C:n<=288:=ω;clear m;go_enter Tryz.func131,Tryz.ntmps131;go_wp2;go_loop [21] (λi=>∃k:Nat,k<=n/\i= .int .i64 k/\Hid (∀j,j<k->0<=ix l j/\ix l j<=most)) (λi=>n-(intOf i).toNat)
 case atStart=>exact⟨0,aF _,rfl,λj s=>absurd s ω⟩
 obtain⟨k,E,rfl,t⟩ :=hrel;by_cases o:k<n
 · obtain⟨I,rfl,_,G⟩ :=b.at_ o;by_cases ht:0<=ix l k/\ix l k<=most
   · go_wp2
     go_round
     case rel=>
      refine⟨k+1,ω,by go_num,λj s=> ?_⟩;by_cases e:j=k
      · subst e;exact ht
      exact t.out j ω
     case measure=>simp [intOf];omega
   have a:=η (ue (most:=most) (show k<l.length by rw[<-f.out];exact o) ht);by_cases z:ix l k<0
   · go_wp2;go_ret;exact⟨cn a.out.symm,rfl⟩
   have y:most<ix l k:=ω;go_wp2;go_ret;exact⟨cn a.out.symm,rfl⟩
 obtain rfl:n=k:=ω;have p:=η (show∀j,j<l.length->0<=ix l j/\ix l j<=most by rw[<-f.out];exact t.out);obtain⟨S,u⟩ :=ν (((sumTo l n:Nat):Int):Int);have b1:(0:Int)<=S/\S<=32768*(n:Int):=by have:=wm l n;omega
 have g:=η u;clear u;by_cases x:(32768:Int)<S
 · have a:=η (lG q.out p.out (.inl (by rw[<-f.out];have:=g.out;omega)))
   go_wp2_with (first | (go_at_call 150;refine(zt _ _ _ _ _ _ b d).mono ?_;rintro e w' ⟨rfl,rfl⟩;rw[g.out]) | (go_at_call 151;refine(sZ _ _ _ _ _ _ b d).mono ?_;rintro e w' ⟨rfl,rfl⟩))
   go_ret;exact⟨cn a.out.symm,rfl⟩
 have F:decide ((32768:Int)<S)=false:=by simpa using x
 by_cases v:S<32768
 · cases h:kL l n
   · have a:=η (lG q.out p.out (.inr (by rw[<-f.out];exact⟨by have:=g.out;omega,h⟩)));have r:=η h;clear h
     go_wp2_with (first | (go_at_call 150;refine(zt _ _ _ _ _ _ b d).mono ?_;rintro e w' ⟨rfl,rfl⟩;rw[g.out]) | (go_at_call 151;refine(sZ _ _ _ _ _ _ b d).mono ?_;rintro e w' ⟨rfl,rfl⟩;rw[r.out]))
     go_ret;exact⟨cn a.out.symm,rfl⟩
   have a:=η (o9 q.out p.out (by rw[<-f.out,h];have:=g.out;simp;omega));have r:=η h;clear h
   go_wp2_with (first | (go_at_call 150;refine(zt _ _ _ _ _ _ b d).mono ?_;rintro e w' ⟨rfl,rfl⟩;rw[g.out]) | (go_at_call 151;refine(sZ _ _ _ _ _ _ b d).mono ?_;rintro e w' ⟨rfl,rfl⟩;rw[r.out]))
   go_ret;exact⟨cn a.out.symm,rfl⟩
 have a:=η (o9 q.out p.out (by rw[<-f.out];have:=g.out;omega))
 go_wp2_with (first | (go_at_call 150;refine(zt _ _ _ _ _ _ b d).mono ?_;rintro e w' ⟨rfl,rfl⟩;rw[g.out]) | (go_at_call 151;refine(sZ _ _ _ _ _ _ b d).mono ?_;rintro e w' ⟨rfl,rfl⟩))
 go_ret;exact⟨cn a.out.symm,rfl⟩
theorem Jl (w:World) (B n c m d:Nat) (A C:Option Addr) (l b:List Int) (g:bU .u8 w B A n l) (j:bU .u8 w B C m b) (r:(n:Int)<=1000000000) (h:l=b):
  Calls Tryz.prog 16 #[.slice A n c, .slice C m d] w λe w'=>e= .returned (.bool true)/\∃q,w'=w.drewN q:=by
 have o:n=m:=by rw[g.1,j.1,h]
 subst o;subst h;go_enter Tryz.func16,Tryz.ntmps16;go_wp2
 go_loopw [5] (λi wr=>∃k q:Nat,k<=n/\i= .int .i64 k/\wr=w.drewN q) (λi _=>n-(intOf i).toNat)
 case atStart=>exact⟨0,0,aF _,rfl,rfl⟩
 obtain⟨k,q,t,rfl,rfl⟩ :=hrel;by_cases a:k<n
 · obtain⟨x,rfl,_,p⟩ :=g.at_ a;obtain⟨u,rfl,_,f⟩ :=j.at_ a;have s:(0:Int)<=k/\(k:Int)<n:=ω;obtain⟨v,hv⟩ :=ν (ix l k:Int);rw[hv]at p f;clear hv;go_wp2;go_quiet (fail);go_wp2;go_roundw
   case rel=>exact⟨k+1,_,ω,by go_num,rfl⟩
   case measure=>simp [intOf];omega
 obtain rfl:n=k:=ω;go_wp2;go_ret;exact⟨rfl,_,rfl⟩
theorem SY (A C:Option Addr) (n m c d:Nat) (l f:List Int) (w:World) (B:Nat) (r:bU .i64 w B A n l) (hf:bU .i64 w B C m f) (E:n<=1000) (F:m<=1000):
  Calls Tryz.prog 119 #[.slice A n c, .slice C m d] w λe w'=>e= .returned (.int .i64 (eh l f (min n m)))/\∃q,w'=w.drewN q:=by
 go_enter Tryz.func119,Tryz.ntmps119;go_wp2
 all_goals
  go_loopw [5,14] (λs i wr=>∃k:Nat,k<=min n m/\i= .int .i64 k/\s= .int .i64 (eh l f k)/\∃q,wr=w.drewN q) (λ_ i _=>min n m-(intOf i).toNat)
  case atStart=>exact⟨0,aF _,rfl,rfl,0,rfl⟩
  obtain⟨k,H,rfl,rfl,q,rfl⟩ :=hrel;by_cases p:k<min n m
  rotate_left
  · have:k=min n m:=ω;subst this;go_wp2;go_ret;exact⟨rfl,_,rfl⟩
  have z:=r.at_ (i:=k) ω;have y:=hf.at_ (i:=k) ω;obtain⟨J,rfl,_,x⟩ :=z;obtain⟨I,rfl,_,v⟩ :=y;have G:k<n:=ω;have t:k<m:=ω;have u:(k:Int)<((min n m:Nat):Int):=ω;have bd:=mn l f k ω;have D:=CX (ix l k) (ix f k);by_cases ht:0<ix l k/\0<ix f k/\ix f k<=1048576/\ix l k<=1048576
  · obtain⟨o,j,h,g⟩ :=ht;have a:=ug o j h g;rw[a]at D;have b:Hid (eh l f (k+1)=eh l f k+ix l k*ix f k):=by show eh l f k+oY (ix l k) (ix f k)=_;rw[a]
    clear a;go_wp2;go_quiet (fail);go_wp2;go_roundw
    case rel=>exact⟨k+1,ω,by go_num,by rw[b.out],_,rfl⟩
    case measure=>simp [intOf];omega
  have a:=tj ht;have b:Hid (eh l f (k+1)=eh l f k):=by show eh l f k+oY (ix l k) (ix f k)=_;rw[a];omega
  clear a;go_wp2;go_quiet (fail);go_wp2
  all_goals
   go_roundw
   case rel=>exact⟨k+1,ω,by go_num,by rw[b.out],_,rfl⟩
   case measure=>simp [intOf];omega
theorem Oq {a b:Int} (h:0<=a/\a<4294967296) (h':0<=b/\b<4294967296):bits .xor .u32 a b=qX a b:=u32_xor a b h.1 h.2 h'.1 h'.2
theorem Om {x:Int} (h:0<=x/\x<4294967296) (a:x%2=1):BJ x=bits .xor .u32 (x/2) 3988292384:=by
 rw[Oq ω ω];unfold BJ Mz qX;rw[ae ω];congr 2;omega
theorem WD {x:Int} (h:0<=x/\x<4294967296) (a:¬x%2=1):BJ x=x/2:=by
 unfold BJ Mz;rw[aa ω];omega
theorem Y5 {x:Int} (h:0<=x/\x<4294967296):bits .and .u32 x 1=x%2:=by
 rw[u32_and x 1 h.1 h.2 ω ω];have:x.toNat&&& (1:Int).toNat=x.toNat%2:=Nat.and_one_is_mod _;rw[this];omega
theorem Wz (x:Int) (w:World) (h:0<=x/\x<4294967296):
  Calls Tryz.prog 67 #[.int .u32 x] w λe w'=>e= .returned (.int .u32 (BJ x))/\w=w':=by
 have a:=Y5 h;by_cases b:x%2=1
 · have H:=η (Om h b);have t:(bits .and .u32 x 1 != 0)=true:=by rw[a,b];rfl
   clear a;go_enter Tryz.func67,Tryz.ntmps67;go_wp2;go_ret;exact⟨cn H.out.symm,rfl⟩
 have H:=η (WD h b);have t:(bits .and .u32 x 1 != 0)=false:=by rw[a,show x%2=0 by omega];rfl
 clear a;go_enter Tryz.func67,Tryz.ntmps67;go_wp2;go_ret;exact⟨cn H.out.symm,rfl⟩
def ow (k i:Nat):Value:= .int .u32 (if i<k then mX 8 (i:Int)else 0)
theorem xI (i:Nat):Value.int .u32 0=ow 0 i:=by unfold ow;rw[aa (js _)]
theorem WO (k j:Nat):upd (ow k) k (.int .u32 (mX 8 (k:Int))) j=ow (k+1) j:=by
 by_cases a:j=k
 · subst a;rw[upd_same];unfold ow;rw[ae ω]
 rw[dL _ _ a];unfold ow;congr 1;by_cases h':j<k
 · rw[ae h',ae ω]
 rw[aa h',aa ω]
theorem wy:(Tryz.prog.info? 83).map (·.size)=some 256:=by kernel_rfl
theorem C5 (n:Nat) (z:Value):eD n z=iI n (λ_=>z):=by
 unfold iI eD
 apply Array.ext
 · simp
 intro i b a;simp
theorem Ot (W:World):(zeroValue 83).run Tryz.prog W= .ok (.agg (eD 256 (.int .u32 0))) W:=by kernel_rfl
theorem QX (w:World):Calls Tryz.prog 44 #[] w λe w'=>e= .returned (.agg (iI 256 (ow 256)))/\Below w.heap.size w w':=by
 have hz:=Ot;go_enter Tryz.func44,Tryz.ntmps44;go_wp2;clear hz;have a:qc (w.alloc (.cells (eD 256 (.int .u32 0)) 83)) w.heap.size 83 256 (ow 0):=qc.new rfl _ _ (by rw[C5];exact oH λi _=>xI i);have b:qc ((w.alloc (.cells (eD 256 (.int .u32 0)) 83)).alloc (.cells (eD 256 (.int .u32 0)) 83)) (w.heap.size+1) 83 256 (ow 0):=qc.new σ _ _ (by rw[C5];exact oH λi _=>xI i);have d:Below w.heap.size w ((w.alloc (.cells (eD 256 (.int .u32 0)) 83)).alloc (.cells (eD 256 (.int .u32 0)) 83)):=((aw _ _).alloc (ag _) _).alloc σ _;have a:=a.alloc (.cells (eD 256 (.int .u32 0)) 83);obtain⟨w1,g⟩ :∃w1:World,w1=(w.alloc (.cells (eD 256 (.int .u32 0)) 83)).alloc (.cells (eD 256 (.int .u32 0)) 83):= ⟨_,rfl⟩;rw[<-g]at a b d⊢;clear g
 go_loopw [4] (λi wr=>∃k:Nat,k<=256/\i= .int .i64 k/\qc wr w.heap.size 83 256 (ow 0)/\qc wr (w.heap.size+1) 83 256 (ow k)/\Below w.heap.size w wr) (λi _=>256-(intOf i).toNat)
 case atStart=>exact⟨0,ω,rfl,a,b,d⟩
 obtain⟨k,t,rfl,a,b,d⟩ :=hrel;by_cases f:k<256
 rotate_left
 · obtain rfl:256=k:=ω
   go_wp2_with (first
    | (refine wpList_load_row rfl 83 (.tmp 1) rfl (w.heap.size+1) rfl 83 _ (0,0) _ b Tryz.underlying83 rfl (by rw[jc];exact wy) ?_)
    | (refine wpList_store_row rfl 83 (.tmp 0) (.tmp 18) rfl w.heap.size (iI 256 (ow 256)) rfl rfl 83 _ a (by rw[jc];exact wy) (by rw[jc,jc]) (CQ _ _ λ_ _=>rfl) ?_))
   refine bh (results_cell_row rfl _ _ w.heap.size 83 (iI 256 (ow 256)) (0,0) _ rfl (a.row 256 (ow 256)) Tryz.underlying83 rfl (by rw[jc];exact wy)) rfl ?_;exact⟨rfl,vq d (ag _) _⟩
 have c1:=b.cell f;have p:=b.frozen k;have s:(0:Int)<=(k:Int)/\(k:Int)<256:=ω;obtain⟨q,n⟩ :=ν ((k:Int):Int);have u:=η n;clear n;go_wp2;go_loop [3,9] (λx j=>∃(m:Nat) (v:Int),m<=8/\j= .int .i64 m/\x= .int .u32 v/\0<=v/\v<4294967296/\Hid (v=mX m (k:Int))) (λ_ j=>8-(intOf j).toNat)
 case atStart=>exact⟨0,_,ω,rfl,rfl,ω,ω,(BL ω).symm⟩
 obtain⟨m,v,r,rfl,rfl,c,h,HV⟩ :=hrel;by_cases o:m<8
 · have l:=Ol ⟨c,h⟩
   go_wp2_with fail;refine(Wz _ _ ⟨c,h⟩).mono ?_;rintro e w' ⟨rfl,rfl⟩;go_wp2
   go_round
   case rel=>exact⟨m+1,_,ω,by go_num,rfl,l.1,l.2,by show _=_;rw[BK,HV.out]⟩
   case measure=>simp [intOf];omega
 obtain rfl:8=m:=ω;go_wp2;go_roundw
 case rel=>exact⟨k+1,ω,by go_num,a.far σ _,(b.bC k _).congr λj _=>by rw[HV.out];exact WO k j,d.setCell σ _⟩
 case measure=>simp [intOf];omega
def iq (s:Int):Int:=qX 4294967295 s
theorem jZ {s:Int} (h:0<=s/\s<4294967296):0<=iq s/\iq s<4294967296:=Gg ω h
theorem NX {s:Int} (h:0<=s/\s<4294967296):bits .xor .u32 IntKind.u32.max s=iq s:=Oq δ h
theorem b0T {a b:Int} (h:0<=a/\a<256) (h':0<=b/\b<256):bits .xor .u8 a b=qX a b:=u8_xor a b h.1 h.2 h'.1 h'.2
theorem a0D {i:Int} (h:0<=i/\i<256):ow 256 i.toNat= .int .u32 (mX 8 i):=by
 unfold ow;rw[ae ω];congr 2;omega
theorem yV (s:Int) (A:Option Addr) (n c B:Nat) (l:List Int) (w:World) (G:bU .u8 w B A n l) (J:B<=w.heap.size) (z:∀i,0<=ix l i/\ix l i<256) (y:0<=s/\s<4294967296) (O:n<=1000000000):
  Calls Tryz.prog 26 #[.int .u32 s, .slice A n c] w λe w'=>e= .returned (.int .u32 (iq (lW (iq s) l n)))/\Below w.heap.size w w':=by
 have hz:=Ot;have L:=η z;clear z;go_enter Tryz.func26,Tryz.ntmps26
 go_wp2_with fail;refine(QX _).mono ?_;rintro e w1 ⟨rfl,f⟩;have u:qc (w1.alloc (.cells (eD 256 (.int .u32 0)) 83)) w1.heap.size 83 256 (ow 0):=qc.new rfl _ _ (by rw[C5];exact oH λi _=>xI i)
 go_wp2_with (refine wpList_store_row rfl 83 (.tmp 5) (.tmp 9) rfl w1.heap.size (iI 256 (ow 256)) rfl rfl 83 _ u (by rw[jc];exact wy) (by rw[jc,jc]) (CQ _ _ λ_ _=>rfl) ?_)
 clear hz;have t:qc ((w1.alloc (.cells (eD 256 (.int .u32 0)) 83)).setRow w1.heap.size (iI 256 (ow 256))) w1.heap.size 83 256 (ow 256):=u.row 256 (ow 256);have j:Below w.heap.size w ((w1.alloc (.cells (eD 256 (.int .u32 0)) 83)).setRow w1.heap.size (iI 256 (ow 256))):=vq (f.alloc f.size _) f.size _;obtain⟨g,r⟩ :∃g,g=w1.heap.size:= ⟨_,rfl⟩;obtain⟨w2,m⟩ :∃w2:World,w2=(w1.alloc (.cells (eD 256 (.int .u32 0)) 83)).setRow w1.heap.size (iI 256 (ow 256)):= ⟨_,rfl⟩;rw[<-m]at t j⊢;rw[<-r]at t⊢;have H:w.heap.size<=g:=by rw[r];exact f.size
 clear m r u f;have N:=η (NX y);have D:=jZ y;have p:=(G.more J).below j;rw[N.out];go_loop [6,14] (λx i=>∃(k:Nat) (v:Int),k<=n/\i= .int .i64 k/\x= .int .u32 v/\0<=v/\v<4294967296/\Hid (v=lW (iq s) l k)) (λ_ i=>n-(intOf i).toNat)
 case atStart=>exact⟨0,_,ω,rfl,rfl,D.1,D.2,rfl⟩
 obtain⟨k,v,P,rfl,rfl,h,o,HV⟩ :=hrel;by_cases q:k<n
 rotate_left
 · obtain rfl:n=k:=ω;have S:=NX ⟨h,o⟩;go_wp2;go_ret;exact⟨cn (by rw[HV.out]),j⟩
 obtain⟨R,rfl,_,K⟩ :=p.at_ q;have d:=L.out k;obtain⟨b,f⟩ :∃b:Int,b=ix l k:= ⟨_,rfl⟩;rw[<-f]at K d;have M:=η f;clear f;have F:=Xb (a:=v%256) (b:=b) ω d;have Q:=b0T (a:=v%256) (b:=b) ω d;have c1:=t.cell (i:=(qX (v%256) b).toNat) ω;rw[a0D F]at c1;have E:=Ju 8 (x:=qX (v%256) b) ω;have I:=Oq (a:=mX 8 (qX (v%256) b)) (b:=v/256) E ω;rw[MC ⟨h,o⟩ d]at I;have C:=CY ⟨h,o⟩ d;go_wp2
 go_round
 case rel=>exact⟨k+1,_,ω,by go_num,rfl,C.1,C.2,by show se v b=se _ _;rw[<-HV.out,<-M.out]⟩
 case measure=>simp [intOf];omega
theorem QM (x:Int) (w:World) (h:0<=x/\x<4294967296):
  Calls Tryz.prog 55 #[.int .u32 x] w λe w'=>e= .returned (.int .u32 (BJ x))/\w=w':=by
 by_cases a:x%2=1
 · have H:=η (Om h a);have t:(x%2==1)=true:=by rw[a];rfl
   clear a;go_enter Tryz.func55,Tryz.ntmps55;go_wp2;go_ret;exact⟨cn H.out.symm,rfl⟩
 have H:=η (WD h a);have t:(x%2==1)=false:=by simpa using a
 clear a;go_enter Tryz.func55,Tryz.ntmps55;go_wp2;go_ret;exact⟨cn H.out.symm,rfl⟩
theorem J6 (s:Int) (A:Option Addr) (n c B:Nat) (l:List Int) (w:World) (E:bU .u8 w B A n l) (z:∀i,0<=ix l i/\ix l i<256) (y:0<=s/\s<4294967296) (K:n<=1000000000):
  Calls Tryz.prog 33 #[.int .u32 s, .slice A n c] w λe w'=>e= .returned (.int .u32 (iq (lW (iq s) l n)))/\w=w':=by
 have H:=η z;have J:=η (NX y);have D:=jZ y;clear z;go_enter Tryz.func33,Tryz.ntmps33;go_wp2;rw[J.out];go_loop [5,6] (λx i=>∃(k:Nat) (v:Int),k<=n/\i= .int .i64 k/\x= .int .u32 v/\0<=v/\v<4294967296/\Hid (v=lW (iq s) l k)) (λ_ i=>n-(intOf i).toNat)
 case atStart=>exact⟨0,_,ω,rfl,rfl,D.1,D.2,rfl⟩
 obtain⟨k,v,M,rfl,rfl,d,h,HV⟩ :=hrel;by_cases o:k<n
 rotate_left
 · obtain rfl:n=k:=ω;have P:=NX ⟨d,h⟩;go_wp2;go_ret;exact⟨cn (by rw[HV.out]),rfl⟩
 obtain⟨O,rfl,_,G⟩ :=E.at_ o;have p:=H.out k;obtain⟨b,q⟩ :∃b:Int,b=ix l k:= ⟨_,rfl⟩;rw[<-q]at G p;have I:=η q;clear q;have N:=Oq (a:=v) (b:=b) ⟨d,h⟩ ω;have r:=Gg (a:=v) (b:=b) ⟨d,h⟩ ω;go_wp2;go_loop [5,7] (λx j=>∃(m:Nat) (u:Int),m<=8/\j= .int .i64 m/\x= .int .u32 u/\0<=u/\u<4294967296/\Hid (u=mX m (qX v b))) (λ_ j=>8-(intOf j).toNat)
 case atStart=>exact⟨0,_,ω,rfl,rfl,r.1,r.2,(BL r.1).symm⟩
 obtain⟨m,u,L,rfl,rfl,g,f,C⟩ :=hrel;by_cases F:m<8
 · have t:=Ol ⟨g,f⟩
   go_wp2_with fail;refine(QM _ _ ⟨g,f⟩).mono ?_;rintro e w' ⟨rfl,rfl⟩;go_wp2
   go_round
   case rel=>exact⟨m+1,_,ω,by go_num,rfl,t.1,t.2,by show _=_;rw[BK,C.out]⟩
   case measure=>simp [intOf];omega
 obtain rfl:8=m:=ω;go_wp2
 go_round
 case rel=>exact⟨k+1,_,ω,by go_num,rfl,g,f,by show _=se _ _;rw[<-HV.out,<-I.out];exact C.out⟩
 case measure=>simp [intOf];omega
end Go.Proofs.YtdhmnlpfhfmpfaaGreat
