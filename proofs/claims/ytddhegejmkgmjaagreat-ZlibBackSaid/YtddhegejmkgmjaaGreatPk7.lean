/-
  part
-/
import Derived.Test.YtddhegejmkgmjaaGreatProg
import Derived.Test.YtddhegejmkgmjaaGreatPk2
set_option linter.unusedVariables false
set_option maxRecDepth 100000
set_option maxHeartbeats 16000000
namespace Go.Proofs.YtddhegejmkgmjaaGreat
open Go.RowKit
theorem uh:(Tryz.prog.info? 44).map (λi=>(i.zero,i.size,i.bytes))=some (some (.int .u32 0),1,4):=by kernel_rfl
def sV (l:List Int) (k:Nat) (v:Nat):Value:= .int .u32 (if 1<=v then(cnt l k v:Nat)else 0:Nat)
def AA (l:List Int) (k:Nat) (v:Nat):Value:= .int .u32 (if v<k then jd l v else 0:Nat)
def vD (l:List Int) (k:Nat) (v:Nat):Value:= .int .u32 (jd l v+if 1<=v then(cnt l k v:Nat)else 0:Nat)
def tx (l:List Int) (k:Nat) (i:Nat):Value:= .int .u32 (if i<k then bQ l i else 0:Nat)
theorem Jo (l:List Int) (v:Nat):Value.int .u32 0=sV l 0 v:=by unfold sV;congr 1;simp [cnt]
theorem yV (l:List Int) (k:Nat) {v:Nat} (h:1<=v):sV l k v= .int .u32 (cnt l k v:Nat):=by unfold sV;rw[if_pos h]
theorem Mq (l:List Int) (k:Nat) {v:Nat} (h:1<=v) (e:ix l k=(v:Int)) (j:Nat):upd (sV l k) v (.int .u32 ((cnt l k v:Int)+1)) j=sV l (k+1) j:=by
 by_cases a:j=v
 · subst a;rw[upd_same,yV _ _ h];congr 1;simp [cnt,e]
 · rw[bm _ _ a];unfold sV;congr 3;have:¬ix l k=(j:Int):=by rw[e];omega
   simp [cnt,this]
theorem Jn (l:List Int) (k:Nat) (h:¬(1<=ix l k/\ix l k<=15)) (j:Nat) (b:j<16):sV l k j=sV l (k+1) j:=by
 unfold sV;by_cases a:1<=j
 · rw[if_pos a,if_pos a];have:¬ix l k=(j:Int):=ω;simp [cnt,this]
 · rw[if_neg a,if_neg a]
theorem Kr (l:List Int) (v:Nat):Value.int .u32 0=AA l 2 v:=by
 unfold AA;congr 1;split
 · rename_i h;rcases v with _ | _ | v <;> simp [jd];omega
 · rfl
theorem AB (l:List Int) {k v:Nat} (h:v<k):AA l k v= .int .u32 (jd l v:Nat):=by unfold AA;rw[if_pos h]
theorem OO (l:List Int) (n:Nat) {k:Nat} (h:2<=k) (c:n=l.length) (j:Nat):upd (AA l k) k (.int .u32 (2*((jd l (k-1):Int)+(cnt l n (k-1):Int)))) j=AA l (k+1) j:=by
 subst c;by_cases a:j=k
 · subst a;rw[upd_same,AB _ ω];obtain⟨q,rfl⟩ :∃q,j=q+2:= ⟨j-2,ω⟩;congr 1
 · rw[bm _ _ a];unfold AA;congr 2;by_cases b:j<k
   · rw[if_pos b,if_pos ω]
   · rw[if_neg b,if_neg ω]
theorem T4 (l:List Int) (j:Nat) (a:j<16):AA l 16 j=vD l 0 j:=by
 rw[AB _ a];unfold vD;congr 1;simp [cnt]
theorem IW (l:List Int) (k:Nat) {v:Nat} (h:1<=v):vD l k v= .int .u32 ((jd l v+cnt l k v:Nat):Int):=by unfold vD;rw[if_pos h]
theorem Pj (l:List Int) (k:Nat) {v:Nat} (h:1<=v) (e:ix l k=(v:Int)) (j:Nat):upd (vD l k) v (.int .u32 (((jd l v+cnt l k v:Nat):Int)+1)) j=vD l (k+1) j:=by
 by_cases a:j=v
 · subst a;rw[upd_same,IW _ _ h];congr 1;simp [cnt,e];omega
 · rw[bm _ _ a];unfold vD;congr 4;have:¬ix l k=(j:Int):=by rw[e];omega
   simp [cnt,this]
theorem KP (l:List Int) (k:Nat) (h:¬(1<=ix l k/\ix l k<=15)) (j:Nat) (b:j<16):vD l k j=vD l (k+1) j:=by
 unfold vD;by_cases a:1<=j
 · rw[if_pos a,if_pos a];have:¬ix l k=(j:Int):=ω;simp [cnt,this]
 · rw[if_neg a,if_neg a]
theorem KA (l:List Int) (v:Nat):Value.int .u32 0=tx l 0 v:=by unfold tx;congr 1
theorem OZ (l:List Int) (k:Nat) {v:Nat} (h:1<=v) (c:v<=15) (e:ix l k=(v:Int)) (j:Nat):upd (tx l k) k (.int .u32 ((jd l v+cnt l k v:Nat):Int)) j=tx l (k+1) j:=by
 by_cases a:j=k
 · subst a;rw[upd_same];unfold tx bQ isLen;rw[if_pos ω,e];congr 1;rw[if_pos ξ];simp
 · rw[bm _ _ a];unfold tx;congr 2;by_cases b:j<k
   · rw[if_pos b,if_pos ω]
   · rw[if_neg b,if_neg ω]
theorem Kz (l:List Int) (k:Nat) (h:¬(1<=ix l k/\ix l k<=15)) (j:Nat):tx l k j=tx l (k+1) j:=by
 unfold tx;congr 2;by_cases b:j=k
 · subst b;rw[if_neg ω,if_pos ω];unfold bQ isLen;rw[if_neg (by simpa using h)]
 · by_cases a:j<k
   · rw[if_pos a,if_pos ω]
   · rw[if_neg a,if_neg ω]
theorem Mt (A:Option Addr) (n c:Nat) (l:List Int) (w:World) (u:aT .i64 w w.heap.size A n l) (T:n<=288):
  Calls Tryz.prog 109 #[.slice A n c] w λe w'=>e= .returned (.slice (some ⟨w.heap.size+2,0,none⟩) n n)/\aT .u32 w' w'.heap.size (some ⟨w.heap.size+2,0,none⟩) n (eh l)/\Below w.heap.size w w':=by
 obtain⟨I,hi,p,o,m⟩ :=info_parts uh;have U:n<=l.length/\l.length<=n:=by have:=u.1;omega
 have E:=λW=>cF (P:=Tryz.prog) 52 44 I (.int .u32 0) Tryz.underlying52 hi p o rfl .i64 .i64 n (by rw[m];omega) ω W
 have O:=η E;clear E hi p o m;have S:¬(288<(n:Int)):=ω;go_enter Tryz.func109,Tryz.ntmps109
 go_wp2
 go_loopw [16] (λi wr=>∃k:Nat,k<=n/\i= .int .i64 k/\Ar wr w.heap.size 16 (sV l k)/\Ar wr (w.heap.size+1) 16 (λ_=> .int .u32 0)/\Sz wr (w.heap.size+2)/\Below w.heap.size w wr) (λi _=>n-(intOf i).toNat)
 case atStart=>
  have B:Ar (w.alloc (.cells (cn 16 (.int .u32 0)) 166)) w.heap.size 16 _:=Ar.zeros w 16 (.int .u32 0) 166;have N:Ar ((w.alloc (.cells (cn 16 (.int .u32 0)) 166)).alloc (.cells (cn 16 (.int .u32 0)) 166)) (w.heap.size+1) 16 _:=Ar.Hd 16 (.int .u32 0) 166 σ;exact⟨0,Nat.zero_le _,rfl,(B.alloc _).congr λv _=>Jo l v,N,by simp [Sz],((Below.refl _ _).alloc (Nat.le_refl _) _).alloc σ _⟩
 case round=>
  obtain⟨k,F,rfl,g,a,b,f⟩ :=hrel;by_cases d:k<n
  · obtain⟨B,rfl,_,y⟩ :=(u.below f).at_ d;by_cases ht:1<=ix l k/\ix l k<=15
    · obtain⟨v,hv⟩ :∃v:Nat,ix l k=(v:Int):= ⟨(ix l k).toNat,ω⟩;rw[hv]at y ht;have z:(1:Int)<=(v:Int)/\(v:Int)<=15:=ht;have c1:=g.cell (i:=v) ω;rw[yV l k ω]at c1;have G:=g.frozen' (i:=v) ω;have bd:=gS l k v;have H:=η hv;clear hv;go_wp2
      go_roundw
      case rel=>exact⟨k+1,ω,by go_num,(g.aQ ω _).congr λj _=>Mq l k ω H.out j,a.far σ _,b.aQ _ _,f.setCell σ _⟩
      case measure=>simp [intOf];omega
    · go_wp2
      all_goals
       go_roundw
       case rel=>exact⟨k+1,ω,by go_num,g.congr (Jn l k ht),a,b,f⟩
       case measure=>simp [intOf];omega
  · obtain rfl:n=k:=ω;go_wp2
    obtain⟨D,rfl⟩ :∃D:World,D=wr:= ⟨_,rfl⟩
    go_loopw [7] (λi wr=>∃k:Nat,2<=k/\k<=16/\i= .int .i64 k/\Ar wr w.heap.size 16 (sV l n)/\Ar wr (w.heap.size+1) 16 (AA l k)/\Sz wr (w.heap.size+2)/\Below w.heap.size w wr) (λi _=>16-(intOf i).toNat)
    case atStart=>exact⟨2,ω,ω,rfl,g,a.congr λv _=>Kr l v,b,f⟩
    case round=>
     obtain⟨k,x,F,rfl,g,a,b,f⟩ :=hrel;by_cases d:k<16
     · have c1:=g.cell (i:=k-1) ω;rw[yV l n ω]at c1;have c2:=a.cell (i:=k-1) ω;rw[AB l ω]at c2;have V:=a.cell (i:=k) ω;have Q:=a.frozen' (i:=k) ω;have b1:=gS l n (k-1);have Y:=pq l ω (v:=k-1) ω;have X:((k:Int)-1).toNat=k-1:=ω;go_wp2
       go_region
       go_wp2
       go_roundw
       case rel=>exact⟨k+1,ω,ω,by go_num,g.far σ _,(a.aQ ω _).congr λj _=>OO l n x ω j,(b.aQ _ _).drew,(f.setCell σ _).drew⟩
       case measure=>simp [intOf];omega
     · obtain rfl:16=k:=ω;have K:=O.out wr;have J:wr.heap.size=w.heap.size+2:=b;go_wp2
       clear J K;have h:Ar (wr.alloc (.cells (cn n (.int .u32 0)) 44)) (w.heap.size+2) n (tx l 0):=(Ar.Hd n (.int .u32 0) 44 b.symm).congr λj _=>KA l j
       have s:=(a.congr (λj L=>T4 l j L)).alloc (.cells (cn n (.int .u32 0)) 44);have r:=f.alloc (by rw[show wr.heap.size=w.heap.size+2 from b];omega) (.cells (cn n (.int .u32 0)) 44);have t:=b.alloc (.cells (cn n (.int .u32 0)) 44);clear g a f b;obtain⟨C,q⟩ :∃C:World,C=wr.alloc (.cells (cn n (.int .u32 0)) 44):= ⟨_,rfl⟩;rw[<-q]at h s r t⊢;clear q
       go_loopw [53] (λi wr=>∃k:Nat,k<=n/\i= .int .i64 k/\Ar wr (w.heap.size+1) 16 (vD l k)/\Ar wr (w.heap.size+2) n (tx l k)/\Sz wr (w.heap.size+3)/\Below w.heap.size w wr) (λi _=>n-(intOf i).toNat)
       case atStart=>exact⟨0,Nat.zero_le _,rfl,s,h,t,r⟩
       case round=>
        obtain⟨k,F,rfl,a,h,b,f⟩ :=hrel;by_cases d:k<n
        · obtain⟨B,rfl,_,y⟩ :=(u.below f).at_ d;by_cases ht:1<=ix l k/\ix l k<=15
          · obtain⟨v,hv⟩ :∃v:Nat,ix l k=(v:Int):= ⟨(ix l k).toNat,ω⟩;rw[hv]at y ht;have z:(1:Int)<=(v:Int)/\(v:Int)<=15:=ht;have c1:=a.cell (i:=v) ω;rw[IW l k ω]at c1;have G:=a.frozen' (i:=v) ω;have c2:=h.cell d;have R:=h.frozen' (i:=k) ω;have bd:=gS l k v;have M:=pq l ω (v:=v) ω;have H:=η hv;clear hv;go_wp2
            go_roundw
            case rel=>exact⟨k+1,ω,by go_num,((a.far σ _).aQ ω _).congr λj _=>Pj l k ω H.out j,((h.aQ d _).far σ _).congr λj _=>OZ l k ω ω H.out j,(b.aQ _ _).aQ _ _,(f.setCell σ _).setCell σ _⟩
            case measure=>simp [intOf];omega
          · go_wp2
            all_goals
             go_roundw
             case rel=>exact⟨k+1,ω,by go_num,a.congr (KP l k ht),h.congr λj _=>Kz l k ht j,b,f⟩
             case measure=>simp [intOf];omega
        · obtain rfl:n=k:=ω;go_wp2
          go_ret
          refine⟨rfl, ⟨by rw[mQ l ω];omega, ?_⟩,f⟩;refine(h.rd (by rw[show wr.heap.size=_ from b];omega) (Nat.le_refl _)).congr λi hi=> ?_
          unfold tx;rw[if_pos hi,lI l ω ω]
def vr (l:List Int) (v:Nat):Nat:=if v<=1 then 0 else jd l (v-1)+cnt l l.length (v-1)
theorem Pa (l:List Int):vr l 1=0:=by simp [vr]
theorem vt (l:List Int) {v:Nat} (h:1<=v):jd l v=2*vr l v:=by
 unfold vr;rcases v with _ | _ | v
 · omega
 · simp [jd]
 · simp [jd]
theorem ya (l:List Int) {v:Nat} (h:1<=v):vr l (v+1)=jd l v+cnt l l.length v:=by
 unfold vr;rw[if_neg ω];simp
def iM (l:List Int) (v k j:Nat):Value:= .int .u32 (if ix l j<v\/(ix l j=v/\j<k)then bQ l j else 0:Nat)
theorem xr {l:List Int} {j:Nat} (h:¬(1<=ix l j/\ix l j<=15)):bQ l j=0:=by
 unfold bQ isLen;rw[if_neg (by simpa using h)]
theorem l8 {l:List Int} {j v:Nat} (b:1<=v) (a:v<=15) (e:ix l j=v):bQ l j=jd l v+cnt l j v:=by
 unfold bQ isLen;rw[e,if_pos ξ];simp
theorem Cg (l:List Int) (j:Nat):Value.int .u32 0=iM l 1 0 j:=by
 unfold iM;congr 1
 split
 · rename_i h
   rw[xr ω];rfl
 · rfl
theorem Fj (l:List Int) (v j:Nat) (a:j<l.length):iM l v l.length j=iM l (v+1) 0 j:=by
 unfold iM;congr 2;by_cases h:ix l j<(v:Int)+1
 · rw[if_pos ω,if_pos ω]
 · rw[if_neg ω,if_neg ω]
theorem Jy (l:List Int) (j:Nat):iM l 16 0 j= .int .u32 (bQ l j:Nat):=by
 unfold iM;congr 2
 split
 · rfl
 · rename_i h
   rw[xr ω]
theorem Jz {l:List Int} {v k:Nat} (c:1<=v) (b:v<=15) (e:ix l k=v) (j:Nat):upd (iM l v k) k (.int .u32 ((jd l v+cnt l k v:Nat):Int)) j=iM l v (k+1) j:=by
 by_cases a:j=k
 · subst a;rw[upd_same];unfold iM;rw[if_pos (.inr ⟨e,ω⟩),l8 c b e]
 · rw[bm _ _ a];unfold iM;congr 2;by_cases h:ix l j<(v:Int)\/(ix l j=v/\j<k)
   · rw[if_pos h,if_pos ω]
   · rw[if_neg h,if_neg ω]
theorem Fi {l:List Int} {v k:Nat} (e:¬ix l k=v) (j:Nat):iM l v k j=iM l v (k+1) j:=by
 unfold iM;congr 2;by_cases h:ix l j<(v:Int)\/(ix l j=v/\j<k)
 · rw[if_pos h,if_pos ω]
 · by_cases a:j=k
   · subst a;rw[if_neg h,if_neg ω]
   · rw[if_neg h,if_neg ω]
theorem lK (j:Nat) (b:j<29) (x:Int) (a:x=257+(j:Int)) (w:World):Calls Tryz.prog 111 #[.int .i64 x] w λe w'=>e= .returned (.tuple #[.int .i64 ((lB j:Nat):Int), .int .i64 ((lE j:Nat):Int), .bool true])/\w=w':=by
 have h:j=0\/j=1\/j=2\/j=3\/j=4\/j=5\/j=6\/j=7\/j=8\/j=9\/j=10\/j=11\/j=12\/j=13\/j=14\/j=15\/j=16\/j=17\/j=18\/j=19\/j=20\/j=21\/j=22\/j=23\/j=24\/j=25\/j=26\/j=27\/j=28:=ω;rcases h with rfl | rfl | rfl | rfl | rfl | rfl | rfl | rfl | rfl | rfl | rfl | rfl | rfl | rfl | rfl | rfl | rfl | rfl | rfl | rfl | rfl | rfl | rfl | rfl | rfl | rfl | rfl | rfl | rfl
 all_goals
  subst a;go_enter Tryz.func111,Tryz.ntmps111
  go_wp2
  go_ret3
  exact⟨rfl,rfl⟩
theorem kf (j:Nat) (b:j<30) (x:Int) (a:x=0+(j:Int)) (w:World):Calls Tryz.prog 112 #[.int .i64 x] w λe w'=>e= .returned (.tuple #[.int .i64 ((dB j:Nat):Int), .int .i64 ((dE j:Nat):Int), .bool true])/\w=w':=by
 have h:j=0\/j=1\/j=2\/j=3\/j=4\/j=5\/j=6\/j=7\/j=8\/j=9\/j=10\/j=11\/j=12\/j=13\/j=14\/j=15\/j=16\/j=17\/j=18\/j=19\/j=20\/j=21\/j=22\/j=23\/j=24\/j=25\/j=26\/j=27\/j=28\/j=29:=ω;rcases h with rfl | rfl | rfl | rfl | rfl | rfl | rfl | rfl | rfl | rfl | rfl | rfl | rfl | rfl | rfl | rfl | rfl | rfl | rfl | rfl | rfl | rfl | rfl | rfl | rfl | rfl | rfl | rfl | rfl | rfl
 all_goals
  subst a;go_enter Tryz.func112,Tryz.ntmps112
  go_wp2
  go_ret3
  exact⟨rfl,rfl⟩
theorem Av (x:Int) (a:x<257\/285<x) (b: -9223372036854775808<=x/\x<=9223372036854775807) (w:World):Calls Tryz.prog 111 #[.int .i64 x] w λe w'=>e= .returned (.tuple #[.int .i64 0, .int .i64 0, .bool false])/\w=w':=by
 have h:x<257\/(¬x<257/\285<x):=ω;clear a;rcases h with h | ⟨c,h⟩
 all_goals
  go_enter Tryz.func111,Tryz.ntmps111
  go_wp2
  go_ret3
  exact⟨rfl,rfl⟩
theorem wL (x:Int) (a:x<0\/30<=x) (w:World):Calls Tryz.prog 112 #[.int .i64 x] w λe w'=>e= .returned (.tuple #[.int .i64 0, .int .i64 0, .bool false])/\w=w':=by
 have h:x<0\/(¬x<0/\30<=x):=ω;clear a;rcases h with h | ⟨b,h⟩
 all_goals
  go_enter Tryz.func112,Tryz.ntmps112
  go_wp2
  go_ret3
  exact⟨rfl,rfl⟩
def jo (B E:Nat->Nat) (lo hi off:Int) (top:Nat) (n:Int) (w:World) (e:Ending) (w':World):Prop:=(∃v,e= .returned v/\eI B E lo hi off top n v)/\w=w'
theorem XT:∀j,j<29->1<=lB j/\lB j<=32768:=by decide+kernel
theorem VF:∀j,j<30->1<=dB j/\dB j<=32768:=by decide+kernel
def D7 (x:Int):Value:=if 257<=x/\x<=285 then .tuple #[.int .i64 ((lB (x-257).toNat:Nat):Int), .int .i64 ((lE (x-257).toNat:Nat):Int), .bool true] else .tuple #[.int .i64 0, .int .i64 0, .bool false]
def SF (x:Int) (w:World) (b i:Value) (wr:World):Prop:=∃j:Nat,j<=28/\i= .int .i64 (257+(j:Int))/\b= .int .i64 ((lR j:Nat):Int)/\wr=w/\Hid (x<257\/257+(j:Int)<=x)
theorem D8 (x:Int) (w:World):Calls Tryz.prog 58 #[.int .i64 x] w λe w'=>e= .returned (D7 x)/\w=w':=by
 have f:x<257\/285<x->D7 x= .tuple #[.int .i64 0, .int .i64 0, .bool false]:=λh=>by unfold D7;rw[if_neg ω]
 have k:=η f;clear f;go_enter Tryz.func58,Tryz.ntmps58
 go_wp2
 go_loopw [5,6] (SF x w) (λ_ i _=>28-(intOf i-257).toNat)
 case atStart=>exact⟨0,ω,rfl,rfl,rfl,by show _\/_;omega⟩
 case round=>
  obtain⟨j,g,rfl,rfl,rfl,d⟩ :=hrel;have h:j=0\/j=1\/j=2\/j=3\/j=4\/j=5\/j=6\/j=7\/j=8\/j=9\/j=10\/j=11\/j=12\/j=13\/j=14\/j=15\/j=16\/j=17\/j=18\/j=19\/j=20\/j=21\/j=22\/j=23\/j=24\/j=25\/j=26\/j=27\/j=28:=ω;clear g;rcases h with rfl | rfl | rfl | rfl | rfl | rfl | rfl | rfl | rfl | rfl | rfl | rfl | rfl | rfl | rfl | rfl | rfl | rfl | rfl | rfl | rfl | rfl | rfl | rfl | rfl | rfl | rfl | rfl | rfl
  · rw[show((lR 0:Nat):Int)=3 from rfl,show(257:Int)+((0:Nat):Int)=257 from rfl];by_cases b:x=257
    · subst b;go_wp2
      go_ret3
      exact⟨rfl,rfl⟩
    · have a:¬(257:Int)=x:=λh=>b h.symm
      have c:((257:Int)==x)=false:=by simpa using a
      go_wp2
      go_roundw
      case rel=>exact⟨1,ω,rfl,rfl,rfl,by have:=d.out;show _\/_;omega⟩
      case measure=>decide
  · rw[show((lR 1:Nat):Int)=4 from rfl,show(257:Int)+((1:Nat):Int)=258 from rfl];by_cases b:x=258
    · subst b;go_wp2
      go_ret3
      exact⟨rfl,rfl⟩
    · have a:¬(258:Int)=x:=λh=>b h.symm
      have c:((258:Int)==x)=false:=by simpa using a
      go_wp2
      go_roundw
      case rel=>exact⟨2,ω,rfl,rfl,rfl,by have:=d.out;show _\/_;omega⟩
      case measure=>decide
  · rw[show((lR 2:Nat):Int)=5 from rfl,show(257:Int)+((2:Nat):Int)=259 from rfl];by_cases b:x=259
    · subst b;go_wp2
      go_ret3
      exact⟨rfl,rfl⟩
    · have a:¬(259:Int)=x:=λh=>b h.symm
      have c:((259:Int)==x)=false:=by simpa using a
      go_wp2
      go_roundw
      case rel=>exact⟨3,ω,rfl,rfl,rfl,by have:=d.out;show _\/_;omega⟩
      case measure=>decide
  · rw[show((lR 3:Nat):Int)=6 from rfl,show(257:Int)+((3:Nat):Int)=260 from rfl];by_cases b:x=260
    · subst b;go_wp2
      go_ret3
      exact⟨rfl,rfl⟩
    · have a:¬(260:Int)=x:=λh=>b h.symm
      have c:((260:Int)==x)=false:=by simpa using a
      go_wp2
      go_roundw
      case rel=>exact⟨4,ω,rfl,rfl,rfl,by have:=d.out;show _\/_;omega⟩
      case measure=>decide
  · rw[show((lR 4:Nat):Int)=7 from rfl,show(257:Int)+((4:Nat):Int)=261 from rfl];by_cases b:x=261
    · subst b;go_wp2
      go_ret3
      exact⟨rfl,rfl⟩
    · have a:¬(261:Int)=x:=λh=>b h.symm
      have c:((261:Int)==x)=false:=by simpa using a
      go_wp2
      go_roundw
      case rel=>exact⟨5,ω,rfl,rfl,rfl,by have:=d.out;show _\/_;omega⟩
      case measure=>decide
  · rw[show((lR 5:Nat):Int)=8 from rfl,show(257:Int)+((5:Nat):Int)=262 from rfl];by_cases b:x=262
    · subst b;go_wp2
      go_ret3
      exact⟨rfl,rfl⟩
    · have a:¬(262:Int)=x:=λh=>b h.symm
      have c:((262:Int)==x)=false:=by simpa using a
      go_wp2
      go_roundw
      case rel=>exact⟨6,ω,rfl,rfl,rfl,by have:=d.out;show _\/_;omega⟩
      case measure=>decide
  · rw[show((lR 6:Nat):Int)=9 from rfl,show(257:Int)+((6:Nat):Int)=263 from rfl];by_cases b:x=263
    · subst b;go_wp2
      go_ret3
      exact⟨rfl,rfl⟩
    · have a:¬(263:Int)=x:=λh=>b h.symm
      have c:((263:Int)==x)=false:=by simpa using a
      go_wp2
      go_roundw
      case rel=>exact⟨7,ω,rfl,rfl,rfl,by have:=d.out;show _\/_;omega⟩
      case measure=>decide
  · rw[show((lR 7:Nat):Int)=10 from rfl,show(257:Int)+((7:Nat):Int)=264 from rfl];by_cases b:x=264
    · subst b;go_wp2
      go_ret3
      exact⟨rfl,rfl⟩
    · have a:¬(264:Int)=x:=λh=>b h.symm
      have c:((264:Int)==x)=false:=by simpa using a
      go_wp2
      go_roundw
      case rel=>exact⟨8,ω,rfl,rfl,rfl,by have:=d.out;show _\/_;omega⟩
      case measure=>decide
  · rw[show((lR 8:Nat):Int)=11 from rfl,show(257:Int)+((8:Nat):Int)=265 from rfl];by_cases b:x=265
    · subst b;go_wp2
      go_ret3
      exact⟨rfl,rfl⟩
    · have a:¬(265:Int)=x:=λh=>b h.symm
      have c:((265:Int)==x)=false:=by simpa using a
      go_wp2
      go_roundw
      case rel=>exact⟨9,ω,rfl,rfl,rfl,by have:=d.out;show _\/_;omega⟩
      case measure=>decide
  · rw[show((lR 9:Nat):Int)=13 from rfl,show(257:Int)+((9:Nat):Int)=266 from rfl];by_cases b:x=266
    · subst b;go_wp2
      go_ret3
      exact⟨rfl,rfl⟩
    · have a:¬(266:Int)=x:=λh=>b h.symm
      have c:((266:Int)==x)=false:=by simpa using a
      go_wp2
      go_roundw
      case rel=>exact⟨10,ω,rfl,rfl,rfl,by have:=d.out;show _\/_;omega⟩
      case measure=>decide
  · rw[show((lR 10:Nat):Int)=15 from rfl,show(257:Int)+((10:Nat):Int)=267 from rfl];by_cases b:x=267
    · subst b;go_wp2
      go_ret3
      exact⟨rfl,rfl⟩
    · have a:¬(267:Int)=x:=λh=>b h.symm
      have c:((267:Int)==x)=false:=by simpa using a
      go_wp2
      go_roundw
      case rel=>exact⟨11,ω,rfl,rfl,rfl,by have:=d.out;show _\/_;omega⟩
      case measure=>decide
  · rw[show((lR 11:Nat):Int)=17 from rfl,show(257:Int)+((11:Nat):Int)=268 from rfl];by_cases b:x=268
    · subst b;go_wp2
      go_ret3
      exact⟨rfl,rfl⟩
    · have a:¬(268:Int)=x:=λh=>b h.symm
      have c:((268:Int)==x)=false:=by simpa using a
      go_wp2
      go_roundw
      case rel=>exact⟨12,ω,rfl,rfl,rfl,by have:=d.out;show _\/_;omega⟩
      case measure=>decide
  · rw[show((lR 12:Nat):Int)=19 from rfl,show(257:Int)+((12:Nat):Int)=269 from rfl];by_cases b:x=269
    · subst b;go_wp2
      go_ret3
      exact⟨rfl,rfl⟩
    · have a:¬(269:Int)=x:=λh=>b h.symm
      have c:((269:Int)==x)=false:=by simpa using a
      go_wp2
      go_roundw
      case rel=>exact⟨13,ω,rfl,rfl,rfl,by have:=d.out;show _\/_;omega⟩
      case measure=>decide
  · rw[show((lR 13:Nat):Int)=23 from rfl,show(257:Int)+((13:Nat):Int)=270 from rfl];by_cases b:x=270
    · subst b;go_wp2
      go_ret3
      exact⟨rfl,rfl⟩
    · have a:¬(270:Int)=x:=λh=>b h.symm
      have c:((270:Int)==x)=false:=by simpa using a
      go_wp2
      go_roundw
      case rel=>exact⟨14,ω,rfl,rfl,rfl,by have:=d.out;show _\/_;omega⟩
      case measure=>decide
  · rw[show((lR 14:Nat):Int)=27 from rfl,show(257:Int)+((14:Nat):Int)=271 from rfl];by_cases b:x=271
    · subst b;go_wp2
      go_ret3
      exact⟨rfl,rfl⟩
    · have a:¬(271:Int)=x:=λh=>b h.symm
      have c:((271:Int)==x)=false:=by simpa using a
      go_wp2
      go_roundw
      case rel=>exact⟨15,ω,rfl,rfl,rfl,by have:=d.out;show _\/_;omega⟩
      case measure=>decide
  · rw[show((lR 15:Nat):Int)=31 from rfl,show(257:Int)+((15:Nat):Int)=272 from rfl];by_cases b:x=272
    · subst b;go_wp2
      go_ret3
      exact⟨rfl,rfl⟩
    · have a:¬(272:Int)=x:=λh=>b h.symm
      have c:((272:Int)==x)=false:=by simpa using a
      go_wp2
      go_roundw
      case rel=>exact⟨16,ω,rfl,rfl,rfl,by have:=d.out;show _\/_;omega⟩
      case measure=>decide
  · rw[show((lR 16:Nat):Int)=35 from rfl,show(257:Int)+((16:Nat):Int)=273 from rfl];by_cases b:x=273
    · subst b;go_wp2
      go_ret3
      exact⟨rfl,rfl⟩
    · have a:¬(273:Int)=x:=λh=>b h.symm
      have c:((273:Int)==x)=false:=by simpa using a
      go_wp2
      go_roundw
      case rel=>exact⟨17,ω,rfl,rfl,rfl,by have:=d.out;show _\/_;omega⟩
      case measure=>decide
  · rw[show((lR 17:Nat):Int)=43 from rfl,show(257:Int)+((17:Nat):Int)=274 from rfl];by_cases b:x=274
    · subst b;go_wp2
      go_ret3
      exact⟨rfl,rfl⟩
    · have a:¬(274:Int)=x:=λh=>b h.symm
      have c:((274:Int)==x)=false:=by simpa using a
      go_wp2
      go_roundw
      case rel=>exact⟨18,ω,rfl,rfl,rfl,by have:=d.out;show _\/_;omega⟩
      case measure=>decide
  · rw[show((lR 18:Nat):Int)=51 from rfl,show(257:Int)+((18:Nat):Int)=275 from rfl];by_cases b:x=275
    · subst b;go_wp2
      go_ret3
      exact⟨rfl,rfl⟩
    · have a:¬(275:Int)=x:=λh=>b h.symm
      have c:((275:Int)==x)=false:=by simpa using a
      go_wp2
      go_roundw
      case rel=>exact⟨19,ω,rfl,rfl,rfl,by have:=d.out;show _\/_;omega⟩
      case measure=>decide
  · rw[show((lR 19:Nat):Int)=59 from rfl,show(257:Int)+((19:Nat):Int)=276 from rfl];by_cases b:x=276
    · subst b;go_wp2
      go_ret3
      exact⟨rfl,rfl⟩
    · have a:¬(276:Int)=x:=λh=>b h.symm
      have c:((276:Int)==x)=false:=by simpa using a
      go_wp2
      go_roundw
      case rel=>exact⟨20,ω,rfl,rfl,rfl,by have:=d.out;show _\/_;omega⟩
      case measure=>decide
  · rw[show((lR 20:Nat):Int)=67 from rfl,show(257:Int)+((20:Nat):Int)=277 from rfl];by_cases b:x=277
    · subst b;go_wp2
      go_ret3
      exact⟨rfl,rfl⟩
    · have a:¬(277:Int)=x:=λh=>b h.symm
      have c:((277:Int)==x)=false:=by simpa using a
      go_wp2
      go_roundw
      case rel=>exact⟨21,ω,rfl,rfl,rfl,by have:=d.out;show _\/_;omega⟩
      case measure=>decide
  · rw[show((lR 21:Nat):Int)=83 from rfl,show(257:Int)+((21:Nat):Int)=278 from rfl];by_cases b:x=278
    · subst b;go_wp2
      go_ret3
      exact⟨rfl,rfl⟩
    · have a:¬(278:Int)=x:=λh=>b h.symm
      have c:((278:Int)==x)=false:=by simpa using a
      go_wp2
      go_roundw
      case rel=>exact⟨22,ω,rfl,rfl,rfl,by have:=d.out;show _\/_;omega⟩
      case measure=>decide
  · rw[show((lR 22:Nat):Int)=99 from rfl,show(257:Int)+((22:Nat):Int)=279 from rfl];by_cases b:x=279
    · subst b;go_wp2
      go_ret3
      exact⟨rfl,rfl⟩
    · have a:¬(279:Int)=x:=λh=>b h.symm
      have c:((279:Int)==x)=false:=by simpa using a
      go_wp2
      go_roundw
      case rel=>exact⟨23,ω,rfl,rfl,rfl,by have:=d.out;show _\/_;omega⟩
      case measure=>decide
  · rw[show((lR 23:Nat):Int)=115 from rfl,show(257:Int)+((23:Nat):Int)=280 from rfl];by_cases b:x=280
    · subst b;go_wp2
      go_ret3
      exact⟨rfl,rfl⟩
    · have a:¬(280:Int)=x:=λh=>b h.symm
      have c:((280:Int)==x)=false:=by simpa using a
      go_wp2
      go_roundw
      case rel=>exact⟨24,ω,rfl,rfl,rfl,by have:=d.out;show _\/_;omega⟩
      case measure=>decide
  · rw[show((lR 24:Nat):Int)=131 from rfl,show(257:Int)+((24:Nat):Int)=281 from rfl];by_cases b:x=281
    · subst b;go_wp2
      go_ret3
      exact⟨rfl,rfl⟩
    · have a:¬(281:Int)=x:=λh=>b h.symm
      have c:((281:Int)==x)=false:=by simpa using a
      go_wp2
      go_roundw
      case rel=>exact⟨25,ω,rfl,rfl,rfl,by have:=d.out;show _\/_;omega⟩
      case measure=>decide
  · rw[show((lR 25:Nat):Int)=163 from rfl,show(257:Int)+((25:Nat):Int)=282 from rfl];by_cases b:x=282
    · subst b;go_wp2
      go_ret3
      exact⟨rfl,rfl⟩
    · have a:¬(282:Int)=x:=λh=>b h.symm
      have c:((282:Int)==x)=false:=by simpa using a
      go_wp2
      go_roundw
      case rel=>exact⟨26,ω,rfl,rfl,rfl,by have:=d.out;show _\/_;omega⟩
      case measure=>decide
  · rw[show((lR 26:Nat):Int)=195 from rfl,show(257:Int)+((26:Nat):Int)=283 from rfl];by_cases b:x=283
    · subst b;go_wp2
      go_ret3
      exact⟨rfl,rfl⟩
    · have a:¬(283:Int)=x:=λh=>b h.symm
      have c:((283:Int)==x)=false:=by simpa using a
      go_wp2
      go_roundw
      case rel=>exact⟨27,ω,rfl,rfl,rfl,by have:=d.out;show _\/_;omega⟩
      case measure=>decide
  · rw[show((lR 27:Nat):Int)=227 from rfl,show(257:Int)+((27:Nat):Int)=284 from rfl];by_cases b:x=284
    · subst b;go_wp2
      go_ret3
      exact⟨rfl,rfl⟩
    · have a:¬(284:Int)=x:=λh=>b h.symm
      have c:((284:Int)==x)=false:=by simpa using a
      go_wp2
      go_roundw
      case rel=>exact⟨28,ω,rfl,rfl,rfl,by have:=d.out;show _\/_;omega⟩
      case measure=>decide
  · rw[show((lR 28:Nat):Int)=259 from rfl,show(257:Int)+((28:Nat):Int)=285 from rfl];by_cases b:x=285
    · subst b;go_wp2
      go_ret3
      exact⟨rfl,rfl⟩
    · have a:(x==285)=false:=by simpa using b
      go_wp2
      go_ret3
      rw[k.out (by have:=d.out;omega)];exact⟨rfl,rfl⟩
def uj (x:Int):Value:=if 0<=x/\x<=29 then .tuple #[.int .i64 ((dB (x-0).toNat:Nat):Int), .int .i64 ((dE (x-0).toNat:Nat):Int), .bool true] else .tuple #[.int .i64 0, .int .i64 0, .bool false]
def MA (x:Int) (w:World) (b i:Value) (wr:World):Prop:=∃j:Nat,j<=30/\i= .int .i64 (0+(j:Int))/\b= .int .i64 ((dB j:Nat):Int)/\wr=w/\Hid (x<0\/0+(j:Int)<=x)
theorem xx (x:Int) (w:World):Calls Tryz.prog 59 #[.int .i64 x] w λe w'=>e= .returned (uj x)/\w=w':=by
 have f:x<0\/29<x->uj x= .tuple #[.int .i64 0, .int .i64 0, .bool false]:=λh=>by unfold uj;rw[if_neg ω]
 have k:=η f;clear f;go_enter Tryz.func59,Tryz.ntmps59
 go_wp2
 go_loopw [5,6] (MA x w) (λ_ i _=>30-(intOf i-0).toNat)
 case atStart=>exact⟨0,ω,rfl,rfl,rfl,by show _\/_;omega⟩
 case round=>
  obtain⟨j,g,rfl,rfl,rfl,d⟩ :=hrel;have h:j=0\/j=1\/j=2\/j=3\/j=4\/j=5\/j=6\/j=7\/j=8\/j=9\/j=10\/j=11\/j=12\/j=13\/j=14\/j=15\/j=16\/j=17\/j=18\/j=19\/j=20\/j=21\/j=22\/j=23\/j=24\/j=25\/j=26\/j=27\/j=28\/j=29\/j=30:=ω;clear g;rcases h with rfl | rfl | rfl | rfl | rfl | rfl | rfl | rfl | rfl | rfl | rfl | rfl | rfl | rfl | rfl | rfl | rfl | rfl | rfl | rfl | rfl | rfl | rfl | rfl | rfl | rfl | rfl | rfl | rfl | rfl | rfl
  · rw[show((dB 0:Nat):Int)=1 from rfl,show(0:Int)+((0:Nat):Int)=0 from rfl];by_cases b:x=0
    · subst b;go_wp2
      go_ret3
      exact⟨rfl,rfl⟩
    · have a:¬(0:Int)=x:=λh=>b h.symm
      have c:((0:Int)==x)=false:=by simpa using a
      go_wp2
      go_roundw
      case rel=>exact⟨1,ω,rfl,rfl,rfl,by have:=d.out;show _\/_;omega⟩
      case measure=>decide
  · rw[show((dB 1:Nat):Int)=2 from rfl,show(0:Int)+((1:Nat):Int)=1 from rfl];by_cases b:x=1
    · subst b;go_wp2
      go_ret3
      exact⟨rfl,rfl⟩
    · have a:¬(1:Int)=x:=λh=>b h.symm
      have c:((1:Int)==x)=false:=by simpa using a
      go_wp2
      go_roundw
      case rel=>exact⟨2,ω,rfl,rfl,rfl,by have:=d.out;show _\/_;omega⟩
      case measure=>decide
  · rw[show((dB 2:Nat):Int)=3 from rfl,show(0:Int)+((2:Nat):Int)=2 from rfl];by_cases b:x=2
    · subst b;go_wp2
      go_ret3
      exact⟨rfl,rfl⟩
    · have a:¬(2:Int)=x:=λh=>b h.symm
      have c:((2:Int)==x)=false:=by simpa using a
      go_wp2
      go_roundw
      case rel=>exact⟨3,ω,rfl,rfl,rfl,by have:=d.out;show _\/_;omega⟩
      case measure=>decide
  · rw[show((dB 3:Nat):Int)=4 from rfl,show(0:Int)+((3:Nat):Int)=3 from rfl];by_cases b:x=3
    · subst b;go_wp2
      go_ret3
      exact⟨rfl,rfl⟩
    · have a:¬(3:Int)=x:=λh=>b h.symm
      have c:((3:Int)==x)=false:=by simpa using a
      go_wp2
      go_roundw
      case rel=>exact⟨4,ω,rfl,rfl,rfl,by have:=d.out;show _\/_;omega⟩
      case measure=>decide
  · rw[show((dB 4:Nat):Int)=5 from rfl,show(0:Int)+((4:Nat):Int)=4 from rfl];by_cases b:x=4
    · subst b;go_wp2
      go_ret3
      exact⟨rfl,rfl⟩
    · have a:¬(4:Int)=x:=λh=>b h.symm
      have c:((4:Int)==x)=false:=by simpa using a
      go_wp2
      go_roundw
      case rel=>exact⟨5,ω,rfl,rfl,rfl,by have:=d.out;show _\/_;omega⟩
      case measure=>decide
  · rw[show((dB 5:Nat):Int)=7 from rfl,show(0:Int)+((5:Nat):Int)=5 from rfl];by_cases b:x=5
    · subst b;go_wp2
      go_ret3
      exact⟨rfl,rfl⟩
    · have a:¬(5:Int)=x:=λh=>b h.symm
      have c:((5:Int)==x)=false:=by simpa using a
      go_wp2
      go_roundw
      case rel=>exact⟨6,ω,rfl,rfl,rfl,by have:=d.out;show _\/_;omega⟩
      case measure=>decide
  · rw[show((dB 6:Nat):Int)=9 from rfl,show(0:Int)+((6:Nat):Int)=6 from rfl];by_cases b:x=6
    · subst b;go_wp2
      go_ret3
      exact⟨rfl,rfl⟩
    · have a:¬(6:Int)=x:=λh=>b h.symm
      have c:((6:Int)==x)=false:=by simpa using a
      go_wp2
      go_roundw
      case rel=>exact⟨7,ω,rfl,rfl,rfl,by have:=d.out;show _\/_;omega⟩
      case measure=>decide
  · rw[show((dB 7:Nat):Int)=13 from rfl,show(0:Int)+((7:Nat):Int)=7 from rfl];by_cases b:x=7
    · subst b;go_wp2
      go_ret3
      exact⟨rfl,rfl⟩
    · have a:¬(7:Int)=x:=λh=>b h.symm
      have c:((7:Int)==x)=false:=by simpa using a
      go_wp2
      go_roundw
      case rel=>exact⟨8,ω,rfl,rfl,rfl,by have:=d.out;show _\/_;omega⟩
      case measure=>decide
  · rw[show((dB 8:Nat):Int)=17 from rfl,show(0:Int)+((8:Nat):Int)=8 from rfl];by_cases b:x=8
    · subst b;go_wp2
      go_ret3
      exact⟨rfl,rfl⟩
    · have a:¬(8:Int)=x:=λh=>b h.symm
      have c:((8:Int)==x)=false:=by simpa using a
      go_wp2
      go_roundw
      case rel=>exact⟨9,ω,rfl,rfl,rfl,by have:=d.out;show _\/_;omega⟩
      case measure=>decide
  · rw[show((dB 9:Nat):Int)=25 from rfl,show(0:Int)+((9:Nat):Int)=9 from rfl];by_cases b:x=9
    · subst b;go_wp2
      go_ret3
      exact⟨rfl,rfl⟩
    · have a:¬(9:Int)=x:=λh=>b h.symm
      have c:((9:Int)==x)=false:=by simpa using a
      go_wp2
      go_roundw
      case rel=>exact⟨10,ω,rfl,rfl,rfl,by have:=d.out;show _\/_;omega⟩
      case measure=>decide
  · rw[show((dB 10:Nat):Int)=33 from rfl,show(0:Int)+((10:Nat):Int)=10 from rfl];by_cases b:x=10
    · subst b;go_wp2
      go_ret3
      exact⟨rfl,rfl⟩
    · have a:¬(10:Int)=x:=λh=>b h.symm
      have c:((10:Int)==x)=false:=by simpa using a
      go_wp2
      go_roundw
      case rel=>exact⟨11,ω,rfl,rfl,rfl,by have:=d.out;show _\/_;omega⟩
      case measure=>decide
  · rw[show((dB 11:Nat):Int)=49 from rfl,show(0:Int)+((11:Nat):Int)=11 from rfl];by_cases b:x=11
    · subst b;go_wp2
      go_ret3
      exact⟨rfl,rfl⟩
    · have a:¬(11:Int)=x:=λh=>b h.symm
      have c:((11:Int)==x)=false:=by simpa using a
      go_wp2
      go_roundw
      case rel=>exact⟨12,ω,rfl,rfl,rfl,by have:=d.out;show _\/_;omega⟩
      case measure=>decide
  · rw[show((dB 12:Nat):Int)=65 from rfl,show(0:Int)+((12:Nat):Int)=12 from rfl];by_cases b:x=12
    · subst b;go_wp2
      go_ret3
      exact⟨rfl,rfl⟩
    · have a:¬(12:Int)=x:=λh=>b h.symm
      have c:((12:Int)==x)=false:=by simpa using a
      go_wp2
      go_roundw
      case rel=>exact⟨13,ω,rfl,rfl,rfl,by have:=d.out;show _\/_;omega⟩
      case measure=>decide
  · rw[show((dB 13:Nat):Int)=97 from rfl,show(0:Int)+((13:Nat):Int)=13 from rfl];by_cases b:x=13
    · subst b;go_wp2
      go_ret3
      exact⟨rfl,rfl⟩
    · have a:¬(13:Int)=x:=λh=>b h.symm
      have c:((13:Int)==x)=false:=by simpa using a
      go_wp2
      go_roundw
      case rel=>exact⟨14,ω,rfl,rfl,rfl,by have:=d.out;show _\/_;omega⟩
      case measure=>decide
  · rw[show((dB 14:Nat):Int)=129 from rfl,show(0:Int)+((14:Nat):Int)=14 from rfl];by_cases b:x=14
    · subst b;go_wp2
      go_ret3
      exact⟨rfl,rfl⟩
    · have a:¬(14:Int)=x:=λh=>b h.symm
      have c:((14:Int)==x)=false:=by simpa using a
      go_wp2
      go_roundw
      case rel=>exact⟨15,ω,rfl,rfl,rfl,by have:=d.out;show _\/_;omega⟩
      case measure=>decide
  · rw[show((dB 15:Nat):Int)=193 from rfl,show(0:Int)+((15:Nat):Int)=15 from rfl];by_cases b:x=15
    · subst b;go_wp2
      go_ret3
      exact⟨rfl,rfl⟩
    · have a:¬(15:Int)=x:=λh=>b h.symm
      have c:((15:Int)==x)=false:=by simpa using a
      go_wp2
      go_roundw
      case rel=>exact⟨16,ω,rfl,rfl,rfl,by have:=d.out;show _\/_;omega⟩
      case measure=>decide
  · rw[show((dB 16:Nat):Int)=257 from rfl,show(0:Int)+((16:Nat):Int)=16 from rfl];by_cases b:x=16
    · subst b;go_wp2
      go_ret3
      exact⟨rfl,rfl⟩
    · have a:¬(16:Int)=x:=λh=>b h.symm
      have c:((16:Int)==x)=false:=by simpa using a
      go_wp2
      go_roundw
      case rel=>exact⟨17,ω,rfl,rfl,rfl,by have:=d.out;show _\/_;omega⟩
      case measure=>decide
  · rw[show((dB 17:Nat):Int)=385 from rfl,show(0:Int)+((17:Nat):Int)=17 from rfl];by_cases b:x=17
    · subst b;go_wp2
      go_ret3
      exact⟨rfl,rfl⟩
    · have a:¬(17:Int)=x:=λh=>b h.symm
      have c:((17:Int)==x)=false:=by simpa using a
      go_wp2
      go_roundw
      case rel=>exact⟨18,ω,rfl,rfl,rfl,by have:=d.out;show _\/_;omega⟩
      case measure=>decide
  · rw[show((dB 18:Nat):Int)=513 from rfl,show(0:Int)+((18:Nat):Int)=18 from rfl];by_cases b:x=18
    · subst b;go_wp2
      go_ret3
      exact⟨rfl,rfl⟩
    · have a:¬(18:Int)=x:=λh=>b h.symm
      have c:((18:Int)==x)=false:=by simpa using a
      go_wp2
      go_roundw
      case rel=>exact⟨19,ω,rfl,rfl,rfl,by have:=d.out;show _\/_;omega⟩
      case measure=>decide
  · rw[show((dB 19:Nat):Int)=769 from rfl,show(0:Int)+((19:Nat):Int)=19 from rfl];by_cases b:x=19
    · subst b;go_wp2
      go_ret3
      exact⟨rfl,rfl⟩
    · have a:¬(19:Int)=x:=λh=>b h.symm
      have c:((19:Int)==x)=false:=by simpa using a
      go_wp2
      go_roundw
      case rel=>exact⟨20,ω,rfl,rfl,rfl,by have:=d.out;show _\/_;omega⟩
      case measure=>decide
  · rw[show((dB 20:Nat):Int)=1025 from rfl,show(0:Int)+((20:Nat):Int)=20 from rfl];by_cases b:x=20
    · subst b;go_wp2
      go_ret3
      exact⟨rfl,rfl⟩
    · have a:¬(20:Int)=x:=λh=>b h.symm
      have c:((20:Int)==x)=false:=by simpa using a
      go_wp2
      go_roundw
      case rel=>exact⟨21,ω,rfl,rfl,rfl,by have:=d.out;show _\/_;omega⟩
      case measure=>decide
  · rw[show((dB 21:Nat):Int)=1537 from rfl,show(0:Int)+((21:Nat):Int)=21 from rfl];by_cases b:x=21
    · subst b;go_wp2
      go_ret3
      exact⟨rfl,rfl⟩
    · have a:¬(21:Int)=x:=λh=>b h.symm
      have c:((21:Int)==x)=false:=by simpa using a
      go_wp2
      go_roundw
      case rel=>exact⟨22,ω,rfl,rfl,rfl,by have:=d.out;show _\/_;omega⟩
      case measure=>decide
  · rw[show((dB 22:Nat):Int)=2049 from rfl,show(0:Int)+((22:Nat):Int)=22 from rfl];by_cases b:x=22
    · subst b;go_wp2
      go_ret3
      exact⟨rfl,rfl⟩
    · have a:¬(22:Int)=x:=λh=>b h.symm
      have c:((22:Int)==x)=false:=by simpa using a
      go_wp2
      go_roundw
      case rel=>exact⟨23,ω,rfl,rfl,rfl,by have:=d.out;show _\/_;omega⟩
      case measure=>decide
  · rw[show((dB 23:Nat):Int)=3073 from rfl,show(0:Int)+((23:Nat):Int)=23 from rfl];by_cases b:x=23
    · subst b;go_wp2
      go_ret3
      exact⟨rfl,rfl⟩
    · have a:¬(23:Int)=x:=λh=>b h.symm
      have c:((23:Int)==x)=false:=by simpa using a
      go_wp2
      go_roundw
      case rel=>exact⟨24,ω,rfl,rfl,rfl,by have:=d.out;show _\/_;omega⟩
      case measure=>decide
  · rw[show((dB 24:Nat):Int)=4097 from rfl,show(0:Int)+((24:Nat):Int)=24 from rfl];by_cases b:x=24
    · subst b;go_wp2
      go_ret3
      exact⟨rfl,rfl⟩
    · have a:¬(24:Int)=x:=λh=>b h.symm
      have c:((24:Int)==x)=false:=by simpa using a
      go_wp2
      go_roundw
      case rel=>exact⟨25,ω,rfl,rfl,rfl,by have:=d.out;show _\/_;omega⟩
      case measure=>decide
  · rw[show((dB 25:Nat):Int)=6145 from rfl,show(0:Int)+((25:Nat):Int)=25 from rfl];by_cases b:x=25
    · subst b;go_wp2
      go_ret3
      exact⟨rfl,rfl⟩
    · have a:¬(25:Int)=x:=λh=>b h.symm
      have c:((25:Int)==x)=false:=by simpa using a
      go_wp2
      go_roundw
      case rel=>exact⟨26,ω,rfl,rfl,rfl,by have:=d.out;show _\/_;omega⟩
      case measure=>decide
  · rw[show((dB 26:Nat):Int)=8193 from rfl,show(0:Int)+((26:Nat):Int)=26 from rfl];by_cases b:x=26
    · subst b;go_wp2
      go_ret3
      exact⟨rfl,rfl⟩
    · have a:¬(26:Int)=x:=λh=>b h.symm
      have c:((26:Int)==x)=false:=by simpa using a
      go_wp2
      go_roundw
      case rel=>exact⟨27,ω,rfl,rfl,rfl,by have:=d.out;show _\/_;omega⟩
      case measure=>decide
  · rw[show((dB 27:Nat):Int)=12289 from rfl,show(0:Int)+((27:Nat):Int)=27 from rfl];by_cases b:x=27
    · subst b;go_wp2
      go_ret3
      exact⟨rfl,rfl⟩
    · have a:¬(27:Int)=x:=λh=>b h.symm
      have c:((27:Int)==x)=false:=by simpa using a
      go_wp2
      go_roundw
      case rel=>exact⟨28,ω,rfl,rfl,rfl,by have:=d.out;show _\/_;omega⟩
      case measure=>decide
  · rw[show((dB 28:Nat):Int)=16385 from rfl,show(0:Int)+((28:Nat):Int)=28 from rfl];by_cases b:x=28
    · subst b;go_wp2
      go_ret3
      exact⟨rfl,rfl⟩
    · have a:¬(28:Int)=x:=λh=>b h.symm
      have c:((28:Int)==x)=false:=by simpa using a
      go_wp2
      go_roundw
      case rel=>exact⟨29,ω,rfl,rfl,rfl,by have:=d.out;show _\/_;omega⟩
      case measure=>decide
  · rw[show((dB 29:Nat):Int)=24577 from rfl,show(0:Int)+((29:Nat):Int)=29 from rfl];by_cases b:x=29
    · subst b;go_wp2
      go_ret3
      exact⟨rfl,rfl⟩
    · have a:¬(29:Int)=x:=λh=>b h.symm
      have c:((29:Int)==x)=false:=by simpa using a
      go_wp2
      go_roundw
      case rel=>exact⟨30,ω,rfl,rfl,rfl,by have:=d.out;show _\/_;omega⟩
      case measure=>decide
  · rw[show((dB 30:Nat):Int)=32769 from rfl,show(0:Int)+((30:Nat):Int)=30 from rfl];go_wp2
    go_ret3
    rw[k.out (by have:=d.out;omega)];exact⟨rfl,rfl⟩
def Gd (n:Int) (w:World) (i:Value) (wr:World):Prop:=∃(j:Nat) (x:Int),i= .int .i64 x/\Hid (x=257+(j:Int))/\(257<=x/\x<=285)/\wr=w/\Hid (∀i,j<i->i<=28->n<((lB i:Nat):Int))
theorem nA (n:Int) (w:World):Calls Tryz.prog 89 #[.int .i64 n] w (jo lB lE 3 258 257 28 n w):=by
 by_cases d:n<3\/258<n
 · have h:n<3\/(¬n<3/\258<n):=ω;have hp:jo lB lE 3 258 257 28 n w (.returned (.tuple #[.int .i64 0, .int .i64 0, .int .i64 0])) w:= ⟨⟨_,rfl, .inl ⟨d,rfl⟩⟩,rfl⟩;clear d;rcases h with h | ⟨C,h⟩
   all_goals
    go_enter Tryz.func89,Tryz.ntmps89
    go_wp2
    go_ret3
    exact hp
 · have s:¬n<3/\¬258<n:=ω;have v:3<=n/\n<=258:=ω;clear d;go_enter Tryz.func89,Tryz.ntmps89
   go_wp2
   go_loopw [2] (Gd n w) (λi _=>(intOf i-257).toNat)
   case atStart=>exact⟨28,285,rfl,by show _=_;rfl,ω,rfl,λi s l=>ω⟩
   case round=>
    obtain⟨j,x,rfl,a,z,rfl,t⟩ :=hrel;have p:j<29:=by have:=a.out;omega
    have k:=XT j p;obtain⟨b,r⟩ :=ν (((lB j:Nat):Int):Int);obtain⟨q,o⟩ :=ν (((lE j:Nat):Int):Int);have A:1<=b/\b<=32768:=ω;have c:=η r;have m:=η o;clear r o k p;by_cases g:b<=n
    · go_wp2_with fail
      refine(lK j (by have:=a.out;omega) x a.out _).mono ?_;rintro e w' ⟨rfl,rfl⟩;rw[c.out,m.out];go_wp2
      go_ret3
      refine⟨⟨_,rfl, .inr ⟨v,j, ⟨by have:=a.out;omega,by rw[c.out];exact g,t.out⟩, ?_⟩⟩,rfl⟩;show Value.tuple #[.int .i64 x, .int .i64 q, .int .i64 (n-b)]=_
      rw[c.out,m.out,<-a.out]
    · have f:n<b:=ω
      have u:257<x:=by
       have l:=a.out;have B:=c.out;rcases Nat.eq_zero_or_pos j with rfl | hp
       · have h4:lB 0=3:=rfl;omega
       · omega
      go_wp2_with fail
      refine(lK j (by have:=a.out;omega) x a.out _).mono ?_;rintro e w' ⟨rfl,rfl⟩;rw[c.out,m.out];go_wp2
      go_roundw
      case rel=>
       refine⟨j-1,x-1,rfl, ?_,ω,rfl, ?_⟩
       · have:=a.out;show _=_
         omega
       · intro i s l;by_cases y:i=j
         · subst y;rw[c.out];exact f
         · exact t.out i ω l
      case measure=>simp [intOf];omega
def Ce (n:Int) (w:World) (i:Value) (wr:World):Prop:=∃(j:Nat) (x:Int),i= .int .i64 x/\Hid (x=0+(j:Int))/\(0<=x/\x<=29)/\wr=w/\Hid (∀i,j<i->i<=29->n<((dB i:Nat):Int))
theorem l9 (n:Int) (w:World):Calls Tryz.prog 90 #[.int .i64 n] w (jo dB dE 1 32768 0 29 n w):=by
 by_cases d:n<1\/32768<n
 · have h:n<1\/(¬n<1/\32768<n):=ω;have hp:jo dB dE 1 32768 0 29 n w (.returned (.tuple #[.int .i64 0, .int .i64 0, .int .i64 0])) w:= ⟨⟨_,rfl, .inl ⟨d,rfl⟩⟩,rfl⟩;clear d;rcases h with h | ⟨C,h⟩
   all_goals
    go_enter Tryz.func90,Tryz.ntmps90
    go_wp2
    go_ret3
    exact hp
 · have s:¬n<1/\¬32768<n:=ω;have v:1<=n/\n<=32768:=ω;clear d;go_enter Tryz.func90,Tryz.ntmps90
   go_wp2
   go_loopw [2] (Ce n w) (λi _=>(intOf i-0).toNat)
   case atStart=>exact⟨29,29,rfl,by show _=_;rfl,ω,rfl,λi s l=>ω⟩
   case round=>
    obtain⟨j,x,rfl,a,z,rfl,t⟩ :=hrel;have p:j<30:=by have:=a.out;omega
    have k:=VF j p;obtain⟨b,r⟩ :=ν (((dB j:Nat):Int):Int);obtain⟨q,o⟩ :=ν (((dE j:Nat):Int):Int);have A:1<=b/\b<=32768:=ω;have c:=η r;have m:=η o;clear r o k p;by_cases g:b<=n
    · go_wp2_with fail
      refine(kf j (by have:=a.out;omega) x a.out _).mono ?_;rintro e w' ⟨rfl,rfl⟩;rw[c.out,m.out];go_wp2
      go_ret3
      refine⟨⟨_,rfl, .inr ⟨v,j, ⟨by have:=a.out;omega,by rw[c.out];exact g,t.out⟩, ?_⟩⟩,rfl⟩;show Value.tuple #[.int .i64 x, .int .i64 q, .int .i64 (n-b)]=_
      rw[c.out,m.out,<-a.out]
    · have f:n<b:=ω
      have u:0<x:=by
       have l:=a.out;have B:=c.out;rcases Nat.eq_zero_or_pos j with rfl | hp
       · have h4:dB 0=1:=rfl;omega
       · omega
      go_wp2_with fail
      refine(kf j (by have:=a.out;omega) x a.out _).mono ?_;rintro e w' ⟨rfl,rfl⟩;rw[c.out,m.out];go_wp2
      go_roundw
      case rel=>
       refine⟨j-1,x-1,rfl, ?_,ω,rfl, ?_⟩
       · have:=a.out;show _=_
         omega
       · intro i s l;by_cases y:i=j
         · subst y;rw[c.out];exact f
         · exact t.out i ω l
      case measure=>simp [intOf];omega
theorem PF (s v:Nat) (a:s<=65536000):wrap64 ((s:Int)+wrap64 (2 ^ (15-v)))=((s+kX v:Nat):Int):=by
 have h:=rP v;rw[<-SU,IntWalk.wrap64_in ((kX v:Nat):Int) ω,IntWalk.wrap64_in _ ω];omega
theorem tS (A:Option Addr) (n c B:Nat) (l:List Int) (w:World) (f:aT .i64 w B A n l) (j:n<=1000):
  Calls Tryz.prog 127 #[.slice A n c] w λe w'=>e= .returned (.int .i64 (sumTo l n))/\w=w':=by
 go_enter Tryz.func127,Tryz.ntmps127
 go_wp2
 go_loop [3,8] (λs i=>∃k:Nat,k<=n/\i= .int .i64 k/\s= .int .i64 (sumTo l k)) (λ_ i=>n-(intOf i).toNat)
 case atStart=>exact⟨0,Nat.zero_le _,rfl,rfl⟩
 case round=>
  obtain⟨k,m,rfl,rfl⟩ :=hrel;have bd:=qF l k;by_cases b:k<n
  · obtain⟨p,rfl,_,g⟩ :=f.at_ b;by_cases ht:1<=ix l k/\ix l k<=15
    · obtain⟨v,hv⟩ :∃v:Nat,ix l k=(v:Int):= ⟨(ix l k).toNat,ω⟩
      have a:sumTo l (k+1)=sumTo l k+kX v:=by
       show sumTo l k+share (ix l k)=_
       rw[hv,jn ω ω]
      have d:=η a;rw[hv]at g ht;have h:(1:Int)<=(v:Int)/\(v:Int)<=15:=ht;have o:=rP v;clear hv a;go_wp2
      go_round
      case rel=>exact⟨k+1,ω,by go_num,by rw[d.out,PF _ _ ω]⟩
      case measure=>simp [intOf];omega
    · have a:sumTo l (k+1)=sumTo l k:=by
       show sumTo l k+share (ix l k)=_
       rw[iR ht];rfl
      have d:=η a;clear a;go_wp2
      all_goals
       go_round
       case rel=>exact⟨k+1,ω,by go_num,by rw[d.out]⟩
       case measure=>simp [intOf];omega
  · obtain rfl:n=k:=ω;go_wp2
    go_ret
    exact⟨rfl,rfl⟩
theorem uY {l:List Int} {k:Nat} (h:oG l k=true) (a:ix l k<=1):oG l (k+1)=true:=by
 unfold oG at*;simp only [decide_eq_true_eq]at*;intro i hi;by_cases e:i=k
 · subst e;exact a
 · exact h i ω
theorem Jc {l:List Int} {n k:Nat} (a:k<n) (h:1<ix l k):fS l n=false:=by
 unfold fS oG;rw[Bool.and_eq_false_iff];left
 rw[decide_eq_false_iff_not];intro b;have:=b k a;omega
theorem Jd {l:List Int} {n:Nat} (h:oG l n=true):fS l n=decide ((aR l n:Int)<=1):=by
 unfold fS;rw[h,Bool.true_and];congr 1;simp;omega
theorem nR (A:Option Addr) (n c B:Nat) (l:List Int) (w:World) (g:aT .i64 w B A n l) (m:n<=1000):
  Calls Tryz.prog 128 #[.slice A n c] w λe w'=>e= .returned (.bool (fS l n))/\w=w':=by
 go_enter Tryz.func128,Tryz.ntmps128
 go_wp2
 go_loop [3,8] (λs i=>∃k:Nat,k<=n/\i= .int .i64 k/\s= .int .i64 (aR l k)/\Hid (oG l k=true)) (λ_ i=>n-(intOf i).toNat)
 case atStart=>exact⟨0,Nat.zero_le _,rfl,rfl,by simp [Hid,oG]⟩
 case round=>
  obtain⟨k,o,rfl,rfl,b⟩ :=hrel;have bd:=Dq l k;by_cases a:k<n
  · obtain⟨q,rfl,_,p⟩ :=g.at_ a;by_cases f:0<ix l k
    · have d:=η (show aR l (k+1)=aR l k+1 by simp [aR,f]);by_cases h:1<ix l k
      · have j:=η (Jc a h);go_wp2
        go_ret
        exact⟨qE j.out.symm,rfl⟩
      · go_wp2
        go_round
        case rel=>exact⟨k+1,ω,by go_num,by rw[d.out];go_num,uY b.out ω⟩
        case measure=>simp [intOf];omega
    · have d:=η (show aR l (k+1)=aR l k by simp [aR,f]);go_wp2
      go_round
      case rel=>exact⟨k+1,ω,by go_num,by rw[d.out],uY b.out ω⟩
      case measure=>simp [intOf];omega
  · obtain rfl:n=k:=ω;go_wp2
    go_ret
    exact⟨qE (Jd b.out).symm,rfl⟩
theorem se {l:List Int} {most:Int} (h:most<1\/15<most\/288<l.length):ai l most=1:=by unfold ai;rw[if_pos h]
theorem oO {l:List Int} {most:Int} {k:Nat} (b:k<l.length) (h:¬(0<=ix l k/\ix l k<=most)):ai l most=1:=by
 unfold ai;by_cases a:most<1\/15<most\/288<l.length
 · rw[if_pos a]
 · rw[if_neg a,if_pos (Ou b h)]
theorem gQ {l:List Int} {most:Int} (b:¬(most<1\/15<most\/288<l.length)) (a:∀i,i<l.length->0<=ix l i/\ix l i<=most)
  (h:32768<sumTo l l.length\/(sumTo l l.length<32768/\fS l l.length=false)):ai l most=3:=by
 unfold ai;rw[if_neg b,if_neg (by rw[Ae a];simp),if_pos h]
theorem ju {l:List Int} {most:Int} (b:¬(most<1\/15<most\/288<l.length)) (a:∀i,i<l.length->0<=ix l i/\ix l i<=most)
  (h:¬(32768<sumTo l l.length\/(sumTo l l.length<32768/\fS l l.length=false))):ai l most=0:=by
 unfold ai;rw[if_neg b,if_neg (by rw[Ae a];simp),if_neg h]
theorem xq (A:Option Addr) (n c B:Nat) (l:List Int) (most:Int) (w:World) (b:aT .i64 w B A n l) (d:n<=1000):
  Calls Tryz.prog 108 #[.slice A n c, .int .i64 most] w λe w'=>e= .returned (.int .i64 (ai l most))/\w=w':=by
 have f:=η b.1;by_cases m:most<1\/15<most\/288<n
 · have a:=η (se (l:=l) (most:=most) (by rw[<-f.out];exact m));by_cases z:most<1
   · clear m;go_enter Tryz.func108,Tryz.ntmps108
     go_wp2
     go_ret
     exact⟨aK a.out.symm,rfl⟩
   · by_cases y:15<most
     · clear m;go_enter Tryz.func108,Tryz.ntmps108
       go_wp2
       go_ret
       exact⟨aK a.out.symm,rfl⟩
     · have H:288<n:=ω;clear m;go_enter Tryz.func108,Tryz.ntmps108
       go_wp2
       go_ret
       exact⟨aK a.out.symm,rfl⟩
 · have q:=η (show¬(most<1\/15<most\/288<l.length) by rw[<-f.out];exact m);have D:1<=most/\most<=15:=ω;have C:n<=288:=ω;clear m;go_enter Tryz.func108,Tryz.ntmps108
   go_wp2
   go_loop [21] (λi=>∃k:Nat,k<=n/\i= .int .i64 k/\Hid (∀j,j<k->0<=ix l j/\ix l j<=most)) (λi=>n-(intOf i).toNat)
   case atStart=>exact⟨0,Nat.zero_le _,rfl,λj s=>absurd s ω⟩
   case round=>
    obtain⟨k,E,rfl,t⟩ :=hrel;by_cases o:k<n
    · obtain⟨I,rfl,_,G⟩ :=b.at_ o;by_cases ht:0<=ix l k/\ix l k<=most
      · go_wp2
        go_round
        case rel=>
         refine⟨k+1,ω,by go_num,λj s=> ?_⟩;by_cases e:j=k
         · subst e;exact ht
         · exact t.out j ω
        case measure=>simp [intOf];omega
      · have a:=η (oO (most:=most) (show k<l.length by rw[<-f.out];exact o) ht);by_cases z:ix l k<0
        · go_wp2
          go_ret
          exact⟨aK a.out.symm,rfl⟩
        · have y:most<ix l k:=ω;go_wp2
          go_ret
          exact⟨aK a.out.symm,rfl⟩
    · obtain rfl:n=k:=ω;have p:=η (show∀j,j<l.length->0<=ix l j/\ix l j<=most by rw[<-f.out];exact t.out);obtain⟨S,u⟩ :=ν (((sumTo l n:Nat):Int):Int);have b1:(0:Int)<=S/\S<=32768*(n:Int):=by have:=qF l n;omega
      have g:=η u;clear u;by_cases x:(32768:Int)<S
      · have a:=η (gQ q.out p.out (.inl (by rw[<-f.out];have:=g.out;omega)))
        go_wp2_with (first | (go_at_call 127;refine(tS _ _ _ _ _ _ b d).mono ?_;rintro e w' ⟨rfl,rfl⟩;rw[g.out]) | (go_at_call 128;refine(nR _ _ _ _ _ _ b d).mono ?_;rintro e w' ⟨rfl,rfl⟩))
        go_ret
        exact⟨aK a.out.symm,rfl⟩
      · have F:decide ((32768:Int)<S)=false:=by simpa using x
        by_cases v:S<32768
        · cases h:fS l n
          · have a:=η (gQ q.out p.out (.inr (by rw[<-f.out];exact⟨by have:=g.out;omega,h⟩)));have r:=η h;clear h
            go_wp2_with (first | (go_at_call 127;refine(tS _ _ _ _ _ _ b d).mono ?_;rintro e w' ⟨rfl,rfl⟩;rw[g.out]) | (go_at_call 128;refine(nR _ _ _ _ _ _ b d).mono ?_;rintro e w' ⟨rfl,rfl⟩;rw[r.out]))
            go_ret
            exact⟨aK a.out.symm,rfl⟩
          · have a:=η (ju q.out p.out (by rw[<-f.out,h];have:=g.out;simp;omega));have r:=η h;clear h
            go_wp2_with (first | (go_at_call 127;refine(tS _ _ _ _ _ _ b d).mono ?_;rintro e w' ⟨rfl,rfl⟩;rw[g.out]) | (go_at_call 128;refine(nR _ _ _ _ _ _ b d).mono ?_;rintro e w' ⟨rfl,rfl⟩;rw[r.out]))
            go_ret
            exact⟨aK a.out.symm,rfl⟩
        · have a:=η (ju q.out p.out (by rw[<-f.out];have:=g.out;omega))
          go_wp2_with (first | (go_at_call 127;refine(tS _ _ _ _ _ _ b d).mono ?_;rintro e w' ⟨rfl,rfl⟩;rw[g.out]) | (go_at_call 128;refine(nR _ _ _ _ _ _ b d).mono ?_;rintro e w' ⟨rfl,rfl⟩))
          go_ret
          exact⟨aK a.out.symm,rfl⟩
theorem vF (w:World) (B n c m d:Nat) (A C:Option Addr) (l b:List Int) (g:aT .u8 w B A n l) (j:aT .u8 w B C m b) (r:(n:Int)<=1000000000) (h:l=b):
  Calls Tryz.prog 15 #[.slice A n c, .slice C m d] w λe w'=>e= .returned (.bool true)/\∃q,w'=w.drewN q:=by
 have o:n=m:=by rw[g.1,j.1,h]
 subst o;subst h;go_enter Tryz.func15,Tryz.ntmps15
 go_wp2
 go_loopw [5] (λi wr=>∃k q:Nat,k<=n/\i= .int .i64 k/\wr=w.drewN q) (λi _=>n-(intOf i).toNat)
 case atStart=>exact⟨0,0,Nat.zero_le _,rfl,rfl⟩
 case round=>
  obtain⟨k,q,t,rfl,rfl⟩ :=hrel;by_cases a:k<n
  · obtain⟨x,rfl,_,p⟩ :=g.at_ a;obtain⟨u,rfl,_,f⟩ :=j.at_ a;have s:(0:Int)<=k/\(k:Int)<n:=ω;obtain⟨v,hv⟩ :=ν (ix l k:Int);rw[hv]at p f;clear hv;go_wp2
    go_quiet (fail)
    go_wp2
    go_roundw
    case rel=>exact⟨k+1,_,ω,by go_num,rfl⟩
    case measure=>simp [intOf];omega
  · obtain rfl:n=k:=ω;go_wp2
    go_ret
    exact⟨rfl,_,rfl⟩
theorem Mu (A C:Option Addr) (n m c d:Nat) (l f:List Int) (w:World) (B:Nat) (r:aT .i64 w B A n l) (v:aT .i64 w B C m f) (F:n<=1000) (G:m<=1000):
  Calls Tryz.prog 96 #[.slice A n c, .slice C m d] w λe w'=>e= .returned (.int .i64 (aZ l f (min n m)))/\∃q,w'=w.drewN q:=by
 go_enter Tryz.func96,Tryz.ntmps96
 go_wp2
 all_goals
  go_loopw [5,14] (λs i wr=>∃k:Nat,k<=min n m/\i= .int .i64 k/\s= .int .i64 (aZ l f k)/\∃q,wr=w.drewN q) (λ_ i _=>min n m-(intOf i).toNat)
  case atStart=>exact⟨0,Nat.zero_le _,rfl,rfl,0,rfl⟩
  case round=>
   obtain⟨k,I,rfl,rfl,q,rfl⟩ :=hrel;by_cases p:k<min n m
   · have D:=r.at_ (i:=k) ω;have z:=v.at_ (i:=k) ω;obtain⟨K,rfl,_,y⟩ :=D;obtain⟨J,rfl,_,x⟩ :=z;have H:k<n:=ω;have t:k<m:=ω;have u:(k:Int)<((min n m:Nat):Int):=ω;have bd:=iu l f k ω;have E:=xt (ix l k) (ix f k);by_cases ht:0<ix l k/\0<ix f k/\ix f k<=1048576/\ix l k<=1048576
     · obtain⟨o,j,h,g⟩ :=ht;have a:=oP o j h g;rw[a]at E;have b:Hid (aZ l f (k+1)=aZ l f k+ix l k*ix f k):=by show aZ l f k+ke (ix l k) (ix f k)=_;rw[a]
       clear a;go_wp2
       go_quiet (fail)
       go_wp2
       go_roundw
       case rel=>exact⟨k+1,ω,by go_num,by rw[b.out],_,rfl⟩
       case measure=>simp [intOf];omega
     · have a:=nS ht;have b:Hid (aZ l f (k+1)=aZ l f k):=by show aZ l f k+ke (ix l k) (ix f k)=_;rw[a];omega
       clear a;go_wp2
       go_quiet (fail)
       go_wp2
       all_goals
        go_roundw
        case rel=>exact⟨k+1,ω,by go_num,by rw[b.out],_,rfl⟩
        case measure=>simp [intOf];omega
   · have:k=min n m:=ω;subst this;go_wp2
     go_ret
     exact⟨rfl,_,rfl⟩
theorem Mb {x:Int} (h:0<=x/\x<4294967296):bits .and .u32 x 65535=x%65536:=by
 rw[u32_and x 65535 h.1 h.2 ω ω];have:x.toNat&&& (65535:Int).toNat=x.toNat%65536:=Nat.and_two_pow_sub_one_eq_mod x.toNat 16;rw[this];omega
def dQ (s:Int):Int:=s%65536%65521
def eO (s:Int):Int:=s/65536%65521
theorem FC (x:Int) (w:World) (h:0<=x/\x<4294967296):
  Calls Tryz.prog 33 #[.int .u32 x] w λe w'=>e= .returned (.tuple #[.int .u64 (dQ x), .int .u64 (eO x)])/\w=w':=by
 have a:=Mb h;have b:=η (show x%65536%65521=dQ x from rfl);go_enter Tryz.func33,Tryz.ntmps33
 go_wp2
 go_ret2
 exact⟨rfl,rfl⟩
theorem QW {y x:Int} (h:0<=y/\y<65521) (a:0<=x/\x<65521):bits .or .u64 (y*65536) x=y*65536+x:=by
 rw[u64_or (y*65536) x ω ω ω ω];have e:(y*65536).toNat=y.toNat <<< 16:=by rw[Nat.shiftLeft_eq];omega
 rw[e,<-Nat.shiftLeft_add_eq_or_of_lt (show x.toNat<2 ^ 16 by omega),Nat.shiftLeft_eq];omega
theorem xl (s:Int) (A:Option Addr) (n c B:Nat) (l:List Int) (w:World) (C:aT .u8 w B A n l) (o:∀i,0<=ix l i/\ix l i<256) (z:0<=s/\s<4294967296) (F:n<=1000000000):
  Calls Tryz.prog 19 #[.int .u32 s, .slice A n c] w λe w'=>e= .returned (.int .u32 (wm (dQ s) (eO s) l n*65536+pU (dQ s) l n))/\w=w':=by
 have D:=η o;clear o;have b1:0<=dQ s/\dQ s<65521:=by unfold dQ;omega
 have p:0<=eO s/\eO s<65521:=by unfold eO;omega
 go_enter Tryz.func19,Tryz.ntmps19
 go_wp2_with fail
 refine(FC _ _ z).mono ?_;rintro e w1 ⟨rfl,rfl⟩;go_wp2
 go_loop [5,6,16] (λx y i=>∃(k:Nat) (u v:Int),k<=n/\i= .int .i64 k/\x= .int .u64 u/\y= .int .u64 v/\0<=u/\u<65521/\0<=v/\v<65521/\Hid (u=pU (dQ s) l k)/\Hid (v=wm (dQ s) (eO s) l k)) (λ_ _ i=>n-(intOf i).toNat)
 case atStart=>exact⟨0,_,_,ω,rfl,rfl,rfl,b1.1,b1.2,p.1,p.2,rfl,rfl⟩
 case round=>
  obtain⟨k,u,v,G,rfl,rfl,rfl,g,f,d,t,r,q⟩ :=hrel;by_cases h:k<n
  · obtain⟨H,rfl,_,a⟩ :=C.at_ h;have j:=D.out k;obtain⟨b,m⟩ :∃b:Int,b=ix l k:= ⟨_,rfl⟩;rw[<-m]at a j;have E:=η m;clear m;go_wp2
    go_round
    case rel=>
     have a:(u+b)%65521=pU (dQ s) l (k+1):=by show _=(_+_)%65521;rw[r.out,E.out]
     refine⟨k+1,(u+b)%65521,(v+(u+b)%65521)%65521,ω,by go_num,rfl,rfl,ω,ω,ω,ω,a, ?_⟩;show _=(_+_)%65521
     rw[<-a,q.out]
    case measure=>simp [intOf];omega
  · obtain rfl:n=k:=ω;have I:=QW ⟨d,t⟩ ⟨g,f⟩;go_wp2
    go_ret
    exact⟨aK (by rw[r.out,q.out]),rfl⟩
theorem Gz (s:Int) (A:Option Addr) (n c B:Nat) (l:List Int) (w:World) (t:aT .u8 w B A n l) (h:∀i,0<=ix l i/\ix l i<256) (E:0<=s/\s<4294967296) (F:n<=1000000000):
  Calls Tryz.prog 24 #[.int .u32 s, .slice A n c] w λe w'=>e= .returned (.int .u32 (wm (dQ s) (eO s) l n*65536+pU (dQ s) l n))/\w=w':=by
 have z:=η h;clear h;have b1:0<=dQ s/\dQ s<65521:=by unfold dQ;omega
 have j:0<=eO s/\eO s<65521:=by unfold eO;omega
 go_enter Tryz.func24,Tryz.ntmps24
 go_wp2
 go_loop [5,6,7] (λx y i=>∃(k:Nat) (u v:Int),k<=n/\i= .int .i64 k/\x= .int .u32 u/\y= .int .u32 v/\0<=u/\u<65521/\0<=v/\v<65521/\Hid (u=pU (dQ s) l k)/\Hid (v=wm (dQ s) (eO s) l k)) (λ_ _ i=>n-(intOf i).toNat)
 case atStart=>exact⟨0,dQ s,eO s,ω,rfl,rfl,rfl,b1.1,b1.2,j.1,j.2,rfl,rfl⟩
 case round=>
  obtain⟨k,u,v,G,rfl,rfl,rfl,r,q,p,D,o,m⟩ :=hrel;by_cases d:k<n
  · obtain⟨H,rfl,_,a⟩ :=t.at_ d;have f:=z.out k;obtain⟨b,g⟩ :∃b:Int,b=ix l k:= ⟨_,rfl⟩;rw[<-g]at a f;have C:=η g;clear g;go_wp2
    go_round
    case rel=>
     have a:(u+b)%65521=pU (dQ s) l (k+1):=by show _=(_+_)%65521;rw[o.out,C.out]
     refine⟨k+1,(u+b)%65521,(v+(u+b)%65521)%65521,ω,by go_num,rfl,rfl,ω,ω,ω,ω,a, ?_⟩;show _=(_+_)%65521
     rw[<-a,m.out]
    case measure=>simp [intOf];omega
  · obtain rfl:n=k:=ω;go_wp2
    go_ret
    exact⟨aK (by rw[o.out,m.out]),rfl⟩
theorem pB (A:Option Addr) (n c B:Nat) (l:List Int) (w:World) (t:aT .i64 w B A n l) (I:B<=w.heap.size) (N:n<=288):
  Calls Tryz.prog 56 #[.slice A n c] w λe w'=>∃g,e= .returned (.slice (some ⟨g,0,none⟩) n n)/\aT .u32 w' w'.heap.size (some ⟨g,0,none⟩) n (eh l)/\Below w.heap.size w w'/\w.heap.size<=g:=by
 obtain⟨C,hi,m,h,f⟩ :=info_parts uh;have O:n<=l.length/\l.length<=n:=by have:=t.1;omega
 have p:=η t.1;have z:=λW=>cF (P:=Tryz.prog) 52 44 C (.int .u32 0) Tryz.underlying52 hi m h rfl .i64 .i64 n (by rw[f];omega) ω W
 have J:=η z;clear z hi m h f;have M:¬(288<(n:Int)):=ω;have E:=J.out w;go_enter Tryz.func56,Tryz.ntmps56
 go_wp2
 clear E;have a:Ar (w.alloc (.cells (cn n (.int .u32 0)) 44)) w.heap.size n (iM l 1 0):=(Ar.Hd n (.int .u32 0) 44 rfl).congr λj _=>Cg l j
 have b:Below w.heap.size w (w.alloc (.cells (cn n (.int .u32 0)) 44)):=(Below.refl _ _).alloc (Nat.le_refl _) _;obtain⟨x,o⟩ :∃x:World,x=w.alloc (.cells (cn n (.int .u32 0)) 44):= ⟨_,rfl⟩;rw[<-o]at a b⊢;clear o
 go_loopw [4,5] (λs i wr=>∃v:Nat,1<=v/\v<=16/\i= .int .i64 v/\s= .int .u32 (vr l v)/\Ar wr w.heap.size n (iM l v 0)/\Below w.heap.size w wr) (λ_ i _=>16-(intOf i).toNat)
 case atStart=>exact⟨1,ω,ω,rfl,by rw[Pa];rfl,a,b⟩
 case round=>
  obtain⟨v,q,hv,rfl,rfl,a,b⟩ :=hrel;by_cases F:v<16
  · have D:=η (vt l q);have bd:=pq l ω (v:=v) ω;have S:vr l v<=9437184:=by have:=vt l q;omega
    go_wp2
    obtain⟨y,rfl⟩ :∃y:World,y=wr:= ⟨_,rfl⟩
    go_loopw [4,6] (λs i wr=>∃k:Nat,k<=n/\i= .int .i64 k/\s= .int .u32 ((jd l v+cnt l k v:Nat):Int)/\Ar wr w.heap.size n (iM l v k)/\Below w.heap.size w wr) (λ_ i _=>n-(intOf i).toNat)
    case atStart=>exact⟨0,ω,rfl,by rw[D.out];congr 1;simp [cnt];omega,a,b⟩
    case round=>
     obtain⟨k,Q,rfl,rfl,a,b⟩ :=hrel;by_cases u:k<n
     · obtain⟨U,rfl,_,H⟩ :=((t.more I).below b).at_ u;have c2:=a.cell u;have L:=a.frozen' (i:=k) ω;have T:=gS l k v;by_cases d:ix l k=v
       · have r:=η (show cnt l (k+1) v=cnt l k v+1 by simp [cnt,d]);have K:=η d;rw[d]at H;clear d;go_wp2
         go_roundw
         case rel=>exact⟨k+1,ω,by go_num,by rw[r.out];congr 1,(a.aQ u _).congr λj _=>Jz q ω K.out j,b.setCell (Nat.le_refl _) _⟩
         case measure=>simp [intOf];omega
       · have r:=η (show cnt l (k+1) v=cnt l k v by simp [cnt,d]);have G:(ix l k==(v:Int))=false:=by simpa using d
         go_wp2
         go_roundw
         case rel=>exact⟨k+1,ω,by go_num,by rw[r.out],a.congr λj _=>Fi d j,b⟩
         case measure=>simp [intOf];omega
     · obtain rfl:n=k:=ω;go_wp2
       go_roundw
       case rel=>exact⟨v+1,ω,ω,by go_num,by rw[ya l q,<-p.out],a.congr λj R=>by rw[<-Fj l v j ω,<-p.out],b⟩
       case measure=>simp [intOf];omega
  · obtain rfl:16=v:=ω;go_wp2
    go_ret
    refine⟨_,rfl, ⟨by rw[mQ l ω];omega, ?_⟩,b,Nat.le_refl _⟩;refine(a.rd a.lt (Nat.le_refl _)).congr λi hi=> ?_
    rw[Jy,lI l ω ω]
theorem kQ (A:Option Addr) (n c B:Nat) (l:List Int) (w:World) (g:aT .i64 w B A n l) (t:n<=1000):
  Calls Tryz.prog 77 #[.slice A n c] w λe w'=>e= .returned (.int .i64 (sumTo l n))/\w=w':=by
 go_enter Tryz.func77,Tryz.ntmps77
 go_wp2
 go_loop [3,4] (λs i=>∃k:Nat,k<=n/\i= .int .i64 k/\s= .int .i64 (sumTo l k)) (λ_ i=>n-(intOf i).toNat)
 case atStart=>exact⟨0,Nat.zero_le _,rfl,rfl⟩
 case round=>
  obtain⟨k,u,rfl,rfl⟩ :=hrel;have bd:=qF l k;by_cases b:k<n
  · obtain⟨y,rfl,_,m⟩ :=g.at_ b;by_cases ht:1<=ix l k/\ix l k<=15
    · obtain⟨v,hv⟩ :∃v:Nat,ix l k=(v:Int):= ⟨(ix l k).toNat,ω⟩
      have a:sumTo l (k+1)=sumTo l k+kX v:=by
       show sumTo l k+share (ix l k)=_
       rw[hv,jn ω ω]
      have d:=η a;rw[hv]at m ht;have o:(1:Int)<=(v:Int)/\(v:Int)<=15:=ht;clear hv a;go_wp2
      go_loop [5,6] (λp j=>∃q:Nat,q<=v/\j= .int .i64 q/\p= .int .i64 (kX q)) (λ_ j=>v-(intOf j).toNat)
      case atStart=>exact⟨0,Nat.zero_le _,rfl,rfl⟩
      case round=>
       obtain⟨q,r,rfl,rfl⟩ :=hrel;have x:=rP q;by_cases f:q<v
       · have h:=η (vh (v:=q) ω);go_wp2
         go_round
         case rel=>exact⟨q+1,ω,by go_num,by rw[h.out];congr 1;omega⟩
         case measure=>simp [intOf];omega
       · obtain rfl:v=q:=ω;go_wp2
         go_round
         case rel=>exact⟨k+1,ω,by go_num,by rw[d.out];go_num⟩
         case measure=>simp [intOf];omega
    · have a:sumTo l (k+1)=sumTo l k:=by
       show sumTo l k+share (ix l k)=_
       rw[iR ht];rfl
      have d:=η a;clear a;go_wp2
      all_goals
       go_round
       case rel=>exact⟨k+1,ω,by go_num,by rw[d.out]⟩
       case measure=>simp [intOf];omega
  · obtain rfl:n=k:=ω;go_wp2
    go_ret
    exact⟨rfl,rfl⟩
end Go.Proofs.YtddhegejmkgmjaaGreat
