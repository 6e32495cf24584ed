/-
  part
-/
import Derived.Test.YtgiimmkmjpbecaaGreatPk3
import Derived.Test.YtgiimmkmjpbecaaGreatProg
set_option linter.unusedVariables false
set_option maxRecDepth 100000
set_option maxHeartbeats 16000000
namespace Go.Proofs.YtgiimmkmjpbecaaGreat
open Go.RowKit
theorem zH:(Tryz.prog.info? 46).map (λi=>(i.zero,i.size,i.bytes))=some (some (.int .u32 0),1,4):=by kernel_rfl
def yr (l:ag) (k:Nat) (v:Nat):Value:= .int .u32 (if 1<=v then(cnt l k v:Nat)else 0:Nat)
def G4 (l:ag) (k:Nat) (v:Nat):Value:= .int .u32 (if v<k then nJ l v else 0:Nat)
def BB (l:ag) (k:Nat) (v:Nat):Value:= .int .u32 (nJ l v+if 1<=v then(cnt l k v:Nat)else 0:Nat)
def yK (l:ag) (k:Nat) (i:Nat):Value:= .int .u32 (if i<k then fj l i else 0:Nat)
theorem Qg (l:ag) (v:Nat):Value.int .u32 0=yr l 0 v:=by unfold yr;congr 1;simp [cnt]
theorem Fa (l:ag) (k:Nat) {v:Nat} (h:1<=v):yr l k v= .int .u32 (cnt l k v:Nat):=by unfold yr;rw[aa h]
theorem TU (l:ag) (k:Nat) {v:Nat} (h:1<=v) (e:ix l k=(v:Int)) (j:Nat):upd (yr l k) v (.int .u32 ((cnt l k v:Int)+1)) j=yr l (k+1) j:=by
 by_cases a:j=v
 · subst a;rw[upd_same,Fa _ _ h];congr 1;simp [cnt,e]
 rw[dA _ _ a];unfold yr;congr 3;have:¬ix l k=(j:Int):=by rw[e];omega
 simp [cnt,this]
theorem Qf (l:ag) (k:Nat) (h:¬(1<=ix l k/\ix l k<=15)) (j:Nat) (b:j<16):yr l k j=yr l (k+1) j:=by
 unfold yr;by_cases a:1<=j
 · rw[aa a,aa a];have:¬ix l k=(j:Int):=ω;simp [cnt,this]
 rw[a8 a,a8 a]
theorem Rz (l:ag) (v:Nat):Value.int .u32 0=G4 l 2 v:=by
 unfold G4;congr 1;split
 · rename_i h;rcases v with _ | _ | v <;> simp [nJ];omega
 rfl
theorem G5 (l:ag) {k v:Nat} (h:v<k):G4 l k v= .int .u32 (nJ l v:Nat):=by unfold G4;rw[aa h]
theorem Wz (l:ag) (n:Nat) {k:Nat} (h:2<=k) (b:n=l.length) (j:Nat):upd (G4 l k) k (.int .u32 (2*((nJ l (k-1):Int)+(cnt l n (k-1):Int)))) j=G4 l (k+1) j:=by
 subst b;by_cases a:j=k
 · subst a;rw[upd_same,G5 _ ω];obtain⟨q,rfl⟩ :∃q,j=q+2:= ⟨j-2,ω⟩;congr 1
 rw[dA _ _ a];unfold G4;congr 2;by_cases h':j<k
 · rw[aa h',aa ω]
 rw[a8 h',a8 ω]
theorem a0P (l:ag) (j:Nat) (a:j<16):G4 l 16 j=BB l 0 j:=by
 rw[G5 _ a];unfold BB;congr 1;simp [cnt]
theorem Pw (l:ag) (k:Nat) {v:Nat} (h:1<=v):BB l k v= .int .u32 ((nJ l v+cnt l k v:Nat):Int):=by unfold BB;rw[aa h]
theorem Xa (l:ag) (k:Nat) {v:Nat} (h:1<=v) (e:ix l k=(v:Int)) (j:Nat):upd (BB l k) v (.int .u32 (((nJ l v+cnt l k v:Nat):Int)+1)) j=BB l (k+1) j:=by
 by_cases a:j=v
 · subst a;rw[upd_same,Pw _ _ h];congr 1;simp [cnt,e];omega
 rw[dA _ _ a];unfold BB;congr 4;have:¬ix l k=(j:Int):=by rw[e];omega
 simp [cnt,this]
theorem S8 (l:ag) (k:Nat) (h:¬(1<=ix l k/\ix l k<=15)) (j:Nat) (b:j<16):BB l k j=BB l (k+1) j:=by
 unfold BB;by_cases a:1<=j
 · rw[aa a,aa a];have:¬ix l k=(j:Int):=ω;simp [cnt,this]
 rw[a8 a,a8 a]
theorem RI (l:ag) (v:Nat):Value.int .u32 0=yK l 0 v:=by unfold yK;congr 1
theorem WL (l:ag) (k:Nat) {v:Nat} (h:1<=v) (h':v<=15) (e:ix l k=(v:Int)) (j:Nat):upd (yK l k) k (.int .u32 ((nJ l v+cnt l k v:Nat):Int)) j=yK l (k+1) j:=by
 by_cases b:j=k
 · subst b;rw[upd_same];unfold yK fj isLen;rw[aa ω,e];congr 1;rw[aa ξ];simp
 rw[dA _ _ b];unfold yK;congr 2;by_cases a:j<k
 · rw[aa a,aa ω]
 rw[a8 a,a8 ω]
theorem RH (l:ag) (k:Nat) (h:¬(1<=ix l k/\ix l k<=15)) (j:Nat):yK l k j=yK l (k+1) j:=by
 unfold yK;congr 2;by_cases b:j=k
 · subst b;rw[a8 ω,aa ω];unfold fj isLen;rw[a8 (by simpa using h)]
 by_cases a:j<k
 · rw[aa a,aa ω]
 rw[a8 a,a8 ω]
theorem TX (A:ax) (n c:Nat) (l:ag) (w:World) (u:bT .i64 w w.heap.size A n l) (U:n<=288):
  Calls Tryz.prog 135 #[.slice A n c] w λe w'=>e= .returned (.slice (some ⟨w.heap.size+2,0,none⟩) n n)/\bT .u32 w' w'.heap.size (some ⟨w.heap.size+2,0,none⟩) n (jo l)/\Below w.heap.size w w':=by
 obtain⟨I,hi,p,o,m⟩ :=aL zH;have L:n<=l.length/\l.length<=n:=by have:=u.1;omega
 have E:=λW=>fW (P:=Tryz.prog) 81 46 I (.int .u32 0) Tryz.underlying81 hi p o rfl .i64 .i64 n (by rw[m];omega) ω W;have Q:=η E;clear E hi p o m;have T:¬(288<(n:Int)):=ω
 go_in
 go_wp2
 go_loopw [16] (λi wr=>∃k:Nat,k<=n/\i= .int .i64 k/\Ar wr w.heap.size 16 (yr l k)/\Ar wr (w.heap.size+1) 16 (λ_=> .int .u32 0)/\Sz wr (w.heap.size+2)/\Below w.heap.size w wr) (λi _=>n-(intOf i).toNat)
 case atStart=>
  have B:Ar (w.alloc (.cells (eB 16 (.int .u32 0)) 206)) w.heap.size 16 _:=Ar.zeros w 16 (.int .u32 0) 206;have O:Ar ((w.alloc (.cells (eB 16 (.int .u32 0)) 206)).alloc (.cells (eB 16 (.int .u32 0)) 206)) (w.heap.size+1) 16 _:=Ar.NX 16 (.int .u32 0) 206 σ;exact⟨0,aG _,rfl,(B.alloc _).congr λv _=>Qg l v,O,by simp [Sz],((aw _ _).alloc (af _) _).alloc σ _⟩
 obtain⟨k,F,rfl,g,a,b,f⟩ :=hrel;by_cases d:k<n
 · obtain⟨B,rfl,_,y⟩ :=(u.below f).at_ d;by_cases ht:1<=ix l k/\ix l k<=15
   · obtain⟨v,hv⟩ :∃v:Nat,ix l k=(v:Int):= ⟨(ix l k).toNat,ω⟩;rw[hv]at y ht;have z:(1:Int)<=(v:Int)/\(v:Int)<=15:=ht;have c1:=g.cell (i:=v) ω;rw[Fa l k ω]at c1;have G:=g.frozen' (i:=v) ω;have bd:=lG l k v;have H:=η hv;clear hv;go_wp2;go_roundw
     case rel=>exact⟨k+1,ω,by go_num,(g.iz ω _).congr λj _=>TU l k ω H.out j,a.far σ _,b.iz _ _,f.setCell σ _⟩
     case measure=>simp [intOf];omega
   go_wp2
   all_goals
    go_roundw
    case rel=>exact⟨k+1,ω,by go_num,g.congr (Qf l k ht),a,b,f⟩
    case measure=>simp [intOf];omega
 obtain rfl:n=k:=ω;go_wp2;obtain⟨D,rfl⟩ :∃D:World,D=wr:= ⟨_,rfl⟩
 go_loopw [7] (λi wr=>∃k:Nat,2<=k/\k<=16/\i= .int .i64 k/\Ar wr w.heap.size 16 (yr l n)/\Ar wr (w.heap.size+1) 16 (G4 l k)/\Sz wr (w.heap.size+2)/\Below w.heap.size w wr) (λi _=>16-(intOf i).toNat)
 case atStart=>exact⟨2,ω,ω,rfl,g,a.congr λv _=>Rz l v,b,f⟩
 obtain⟨k,x,F,rfl,g,a,b,f⟩ :=hrel;by_cases d:k<16
 · have c1:=g.cell (i:=k-1) ω;rw[Fa l n ω]at c1;have c2:=a.cell (i:=k-1) ω;rw[G5 l ω]at c2;have V:=a.cell (i:=k) ω;have R:=a.frozen' (i:=k) ω;have b1:=lG l n (k-1);have b2:=uB l ω (v:=k-1) ω;have b3:((k:Int)-1).toNat=k-1:=ω;go_wp2;go_region;go_wp2;go_roundw
   case rel=>exact⟨k+1,ω,ω,by go_num,g.far σ _,(a.iz ω _).congr λj _=>Wz l n x ω j,(b.iz _ _).drew,(f.setCell σ _).drew⟩
   case measure=>simp [intOf];omega
 obtain rfl:16=k:=ω;have K:=Q.out wr;have J:wr.heap.size=w.heap.size+2:=b;go_wp2;clear J K;have h:Ar (wr.alloc (.cells (eB n (.int .u32 0)) 46)) (w.heap.size+2) n (yK l 0):=(Ar.NX n (.int .u32 0) 46 b.symm).congr λj _=>RI l j;have s:=(a.congr (λj M=>a0P l j M)).alloc (.cells (eB n (.int .u32 0)) 46);have r:=f.alloc (by rw[show wr.heap.size=w.heap.size+2 from b];omega) (.cells (eB n (.int .u32 0)) 46);have t:=b.alloc (.cells (eB n (.int .u32 0)) 46);clear g a f b;obtain⟨C,q⟩ :∃C:World,C=wr.alloc (.cells (eB n (.int .u32 0)) 46):= ⟨_,rfl⟩;rw[<-q]at h s r t⊢;clear q
 go_loopw [53] (λi wr=>∃k:Nat,k<=n/\i= .int .i64 k/\Ar wr (w.heap.size+1) 16 (BB l k)/\Ar wr (w.heap.size+2) n (yK l k)/\Sz wr (w.heap.size+3)/\Below w.heap.size w wr) (λi _=>n-(intOf i).toNat)
 case atStart=>exact⟨0,aG _,rfl,s,h,t,r⟩
 obtain⟨k,F,rfl,a,h,b,f⟩ :=hrel;by_cases d:k<n
 rotate_left
 · obtain rfl:n=k:=ω;go_wp2;go_ret;refine⟨rfl, ⟨by rw[rR l ω];omega, ?_⟩,f⟩;refine(h.rd (by rw[show wr.heap.size=_ from b];omega) (af _)).congr λi hi=> ?_;unfold yK;rw[aa hi,qF l ω ω]
 obtain⟨B,rfl,_,y⟩ :=(u.below f).at_ d;by_cases ht:1<=ix l k/\ix l k<=15
 rotate_left
 · go_wp2
   all_goals
    go_roundw
    case rel=>exact⟨k+1,ω,by go_num,a.congr (S8 l k ht),h.congr λj _=>RH l k ht j,b,f⟩
    case measure=>simp [intOf];omega
 obtain⟨v,hv⟩ :∃v:Nat,ix l k=(v:Int):= ⟨(ix l k).toNat,ω⟩;rw[hv]at y ht;have z:(1:Int)<=(v:Int)/\(v:Int)<=15:=ht;have c1:=a.cell (i:=v) ω;rw[Pw l k ω]at c1;have G:=a.frozen' (i:=v) ω;have c2:=h.cell d;have S:=h.frozen' (i:=k) ω;have bd:=lG l k v;have N:=uB l ω (v:=v) ω;have H:=η hv;clear hv;go_wp2;go_roundw
 case rel=>exact⟨k+1,ω,by go_num,((a.far σ _).iz ω _).congr λj _=>Xa l k ω H.out j,((h.iz d _).far σ _).congr λj _=>WL l k ω ω H.out j,(b.iz _ _).iz _ _,(f.setCell σ _).setCell σ _⟩
 case measure=>simp [intOf];omega
def Bq (l:ag) (v:Nat):Nat:=if v<=1 then 0 else nJ l (v-1)+cnt l l.length (v-1)
theorem WU (l:ag):Bq l 1=0:=by simp [Bq]
theorem Br (l:ag) {v:Nat} (h:1<=v):nJ l v=2*Bq l v:=by
 unfold Bq;rcases v with _ | _ | v
 · omega
 · simp [nJ]
 simp [nJ]
theorem Eg (l:ag) {v:Nat} (h:1<=v):Bq l (v+1)=nJ l v+cnt l l.length v:=by
 unfold Bq;rw[a8 ω];simp
def mQ (l:ag) (v k j:Nat):Value:= .int .u32 (if ix l j<v\/(ix l j=v/\j<k)then fj l j else 0:Nat)
theorem Dn {l:ag} {j:Nat} (h:¬(1<=ix l j/\ix l j<=15)):fj l j=0:=by
 unfold fj isLen;rw[a8 (by simpa using h)]
theorem ql {l:ag} {j v:Nat} (b:1<=v) (a:v<=15) (e:ix l j=v):fj l j=nJ l v+cnt l j v:=by
 unfold fj isLen;rw[e,aa ξ];simp
theorem Im (l:ag) (j:Nat):Value.int .u32 0=mQ l 1 0 j:=by
 unfold mQ;congr 1;split
 · rename_i h
   rw[Dn ω];rfl
 rfl
theorem LK (l:ag) (v j:Nat) (a:j<l.length):mQ l v l.length j=mQ l (v+1) 0 j:=by
 unfold mQ;congr 2;by_cases h:ix l j<(v:Int)+1
 · rw[aa ω,aa ω]
 rw[a8 ω,a8 ω]
theorem Qq (l:ag) (j:Nat):mQ l 16 0 j= .int .u32 (fj l j:Nat):=by
 unfold mQ;congr 2;split
 · rfl
 rename_i h
 rw[Dn ω]
theorem Qr {l:ag} {v k:Nat} (c:1<=v) (b:v<=15) (e:ix l k=v) (j:Nat):upd (mQ l v k) k (.int .u32 ((nJ l v+cnt l k v:Nat):Int)) j=mQ l v (k+1) j:=by
 by_cases a:j=k
 · subst a;rw[upd_same];unfold mQ;rw[aa (.inr ⟨e,ω⟩),ql c b e]
 rw[dA _ _ a];unfold mQ;congr 2;by_cases h:ix l j<(v:Int)\/(ix l j=v/\j<k)
 · rw[aa h,aa ω]
 rw[a8 h,a8 ω]
theorem LJ {l:ag} {v k:Nat} (e:¬ix l k=v) (j:Nat):mQ l v k j=mQ l v (k+1) j:=by
 unfold mQ;congr 2;by_cases h:ix l j<(v:Int)\/(ix l j=v/\j<k)
 · rw[aa h,aa ω]
 by_cases a:j=k
 · subst a;rw[a8 h,a8 ω]
 rw[a8 h,a8 ω]
theorem qG (j:Nat) (b:j<29) (x:Int) (a:x=257+(j:Int)) (w:World):Calls Tryz.prog 137 #[.int .i64 x] w λe w'=>e= .returned (.tuple #[.int .i64 ((lB j:Nat):Int), .int .i64 ((lE j:Nat):Int), .bool true])/\w=w':=by
 have h:j=0\/j=1\/j=2\/j=3\/j=4\/j=5\/j=6\/j=7\/j=8\/j=9\/j=10\/j=11\/j=12\/j=13\/j=14\/j=15\/j=16\/j=17\/j=18\/j=19\/j=20\/j=21\/j=22\/j=23\/j=24\/j=25\/j=26\/j=27\/j=28:=ω;rcases h with rfl | rfl | rfl | rfl | rfl | rfl | rfl | rfl | rfl | rfl | rfl | rfl | rfl | rfl | rfl | rfl | rfl | rfl | rfl | rfl | rfl | rfl | rfl | rfl | rfl | rfl | rfl | rfl | rfl
 all_goals
  subst a
  go_in
  go_wp2;go_ret3;exact⟨rfl,rfl⟩
theorem oV (j:Nat) (b:j<30) (x:Int) (a:x=0+(j:Int)) (w:World):Calls Tryz.prog 138 #[.int .i64 x] w λe w'=>e= .returned (.tuple #[.int .i64 ((dB j:Nat):Int), .int .i64 ((dE j:Nat):Int), .bool true])/\w=w':=by
 have h:j=0\/j=1\/j=2\/j=3\/j=4\/j=5\/j=6\/j=7\/j=8\/j=9\/j=10\/j=11\/j=12\/j=13\/j=14\/j=15\/j=16\/j=17\/j=18\/j=19\/j=20\/j=21\/j=22\/j=23\/j=24\/j=25\/j=26\/j=27\/j=28\/j=29:=ω;rcases h with rfl | rfl | rfl | rfl | rfl | rfl | rfl | rfl | rfl | rfl | rfl | rfl | rfl | rfl | rfl | rfl | rfl | rfl | rfl | rfl | rfl | rfl | rfl | rfl | rfl | rfl | rfl | rfl | rfl | rfl
 all_goals
  subst a
  go_in
  go_wp2;go_ret3;exact⟨rfl,rfl⟩
theorem FX (x:Int) (a:x<257\/285<x) (b: -9223372036854775808<=x/\x<=9223372036854775807) (w:World):Calls Tryz.prog 137 #[.int .i64 x] w λe w'=>e= .returned (.tuple #[.int .i64 0, .int .i64 0, .bool false])/\w=w':=by
 have h:x<257\/(¬x<257/\285<x):=ω;clear a;rcases h with h | ⟨c,h⟩
 all_goals
  go_in
  go_wp2;go_ret3;exact⟨rfl,rfl⟩
theorem CC (x:Int) (a:x<0\/30<=x) (w:World):Calls Tryz.prog 138 #[.int .i64 x] w λe w'=>e= .returned (.tuple #[.int .i64 0, .int .i64 0, .bool false])/\w=w':=by
 have h:x<0\/(¬x<0/\30<=x):=ω;clear a;rcases h with h | ⟨b,h⟩
 all_goals
  go_in
  go_wp2;go_ret3;exact⟨rfl,rfl⟩
def nT (B E:Nat->Nat) (lo hi off:Int) (a:Nat) (n:Int) (w:World) (e:Ending) (w':World):Prop:=(∃v,e= .returned v/\kK B E lo hi off a n v)/\w=w'
theorem a3u:∀j,j<29->1<=lB j/\lB j<=32768:=by decide+kernel
theorem a2b:∀j,j<30->1<=dB j/\dB j<=32768:=by decide+kernel
def Js (x:Int):Value:=if 257<=x/\x<=285 then .tuple #[.int .i64 ((lB (x-257).toNat:Nat):Int), .int .i64 ((lE (x-257).toNat:Nat):Int), .bool true] else .tuple #[.int .i64 0, .int .i64 0, .bool false]
def a0t (x:Int) (w:World) (b i:Value) (wr:World):Prop:=∃j:Nat,j<=28/\i= .int .i64 (257+(j:Int))/\b= .int .i64 ((lR j:Nat):Int)/\wr=w/\Hid (x<257\/257+(j:Int)<=x)
theorem Jt (x:Int) (w:World):Calls Tryz.prog 62 #[.int .i64 x] w λe w'=>e= .returned (Js x)/\w=w':=by
 have f:x<257\/285<x->Js x= .tuple #[.int .i64 0, .int .i64 0, .bool false]:=λh=>by unfold Js;rw[a8 ω]
 have k:=η f;clear f
 go_in
 go_wp2
 go_loopw [5,6] (a0t x w) (λ_ i _=>28-(intOf i-257).toNat)
 case atStart=>exact⟨0,ω,rfl,rfl,rfl,by show _\/_;omega⟩
 obtain⟨j,g,rfl,rfl,rfl,d⟩ :=hrel;have h:j=0\/j=1\/j=2\/j=3\/j=4\/j=5\/j=6\/j=7\/j=8\/j=9\/j=10\/j=11\/j=12\/j=13\/j=14\/j=15\/j=16\/j=17\/j=18\/j=19\/j=20\/j=21\/j=22\/j=23\/j=24\/j=25\/j=26\/j=27\/j=28:=ω;clear g;rcases h with rfl | rfl | rfl | rfl | rfl | rfl | rfl | rfl | rfl | rfl | rfl | rfl | rfl | rfl | rfl | rfl | rfl | rfl | rfl | rfl | rfl | rfl | rfl | rfl | rfl | rfl | rfl | rfl | rfl
 · rw[show((lR 0:Nat):Int)=3 from rfl,show(257:Int)+((0:Nat):Int)=257 from rfl];by_cases b:x=257
   · subst b;go_wp2;go_ret3;exact⟨rfl,rfl⟩
   have a:¬(257:Int)=x:=λh=>b h.symm;have c:((257:Int)==x)=false:=by simpa using a
   go_wp2;go_roundw
   case rel=>exact⟨1,ω,rfl,rfl,rfl,by have:=d.out;show _\/_;omega⟩
   case measure=>decide
 · rw[show((lR 1:Nat):Int)=4 from rfl,show(257:Int)+((1:Nat):Int)=258 from rfl];by_cases b:x=258
   · subst b;go_wp2;go_ret3;exact⟨rfl,rfl⟩
   have a:¬(258:Int)=x:=λh=>b h.symm;have c:((258:Int)==x)=false:=by simpa using a
   go_wp2;go_roundw
   case rel=>exact⟨2,ω,rfl,rfl,rfl,by have:=d.out;show _\/_;omega⟩
   case measure=>decide
 · rw[show((lR 2:Nat):Int)=5 from rfl,show(257:Int)+((2:Nat):Int)=259 from rfl];by_cases b:x=259
   · subst b;go_wp2;go_ret3;exact⟨rfl,rfl⟩
   have a:¬(259:Int)=x:=λh=>b h.symm;have c:((259:Int)==x)=false:=by simpa using a
   go_wp2;go_roundw
   case rel=>exact⟨3,ω,rfl,rfl,rfl,by have:=d.out;show _\/_;omega⟩
   case measure=>decide
 · rw[show((lR 3:Nat):Int)=6 from rfl,show(257:Int)+((3:Nat):Int)=260 from rfl];by_cases b:x=260
   · subst b;go_wp2;go_ret3;exact⟨rfl,rfl⟩
   have a:¬(260:Int)=x:=λh=>b h.symm;have c:((260:Int)==x)=false:=by simpa using a
   go_wp2;go_roundw
   case rel=>exact⟨4,ω,rfl,rfl,rfl,by have:=d.out;show _\/_;omega⟩
   case measure=>decide
 · rw[show((lR 4:Nat):Int)=7 from rfl,show(257:Int)+((4:Nat):Int)=261 from rfl];by_cases b:x=261
   · subst b;go_wp2;go_ret3;exact⟨rfl,rfl⟩
   have a:¬(261:Int)=x:=λh=>b h.symm;have c:((261:Int)==x)=false:=by simpa using a
   go_wp2;go_roundw
   case rel=>exact⟨5,ω,rfl,rfl,rfl,by have:=d.out;show _\/_;omega⟩
   case measure=>decide
 · rw[show((lR 5:Nat):Int)=8 from rfl,show(257:Int)+((5:Nat):Int)=262 from rfl];by_cases b:x=262
   · subst b;go_wp2;go_ret3;exact⟨rfl,rfl⟩
   have a:¬(262:Int)=x:=λh=>b h.symm;have c:((262:Int)==x)=false:=by simpa using a
   go_wp2;go_roundw
   case rel=>exact⟨6,ω,rfl,rfl,rfl,by have:=d.out;show _\/_;omega⟩
   case measure=>decide
 · rw[show((lR 6:Nat):Int)=9 from rfl,show(257:Int)+((6:Nat):Int)=263 from rfl];by_cases b:x=263
   · subst b;go_wp2;go_ret3;exact⟨rfl,rfl⟩
   have a:¬(263:Int)=x:=λh=>b h.symm;have c:((263:Int)==x)=false:=by simpa using a
   go_wp2;go_roundw
   case rel=>exact⟨7,ω,rfl,rfl,rfl,by have:=d.out;show _\/_;omega⟩
   case measure=>decide
 · rw[show((lR 7:Nat):Int)=10 from rfl,show(257:Int)+((7:Nat):Int)=264 from rfl];by_cases b:x=264
   · subst b;go_wp2;go_ret3;exact⟨rfl,rfl⟩
   have a:¬(264:Int)=x:=λh=>b h.symm;have c:((264:Int)==x)=false:=by simpa using a
   go_wp2;go_roundw
   case rel=>exact⟨8,ω,rfl,rfl,rfl,by have:=d.out;show _\/_;omega⟩
   case measure=>decide
 · rw[show((lR 8:Nat):Int)=11 from rfl,show(257:Int)+((8:Nat):Int)=265 from rfl];by_cases b:x=265
   · subst b;go_wp2;go_ret3;exact⟨rfl,rfl⟩
   have a:¬(265:Int)=x:=λh=>b h.symm;have c:((265:Int)==x)=false:=by simpa using a
   go_wp2;go_roundw
   case rel=>exact⟨9,ω,rfl,rfl,rfl,by have:=d.out;show _\/_;omega⟩
   case measure=>decide
 · rw[show((lR 9:Nat):Int)=13 from rfl,show(257:Int)+((9:Nat):Int)=266 from rfl];by_cases b:x=266
   · subst b;go_wp2;go_ret3;exact⟨rfl,rfl⟩
   have a:¬(266:Int)=x:=λh=>b h.symm;have c:((266:Int)==x)=false:=by simpa using a
   go_wp2;go_roundw
   case rel=>exact⟨10,ω,rfl,rfl,rfl,by have:=d.out;show _\/_;omega⟩
   case measure=>decide
 · rw[show((lR 10:Nat):Int)=15 from rfl,show(257:Int)+((10:Nat):Int)=267 from rfl];by_cases b:x=267
   · subst b;go_wp2;go_ret3;exact⟨rfl,rfl⟩
   have a:¬(267:Int)=x:=λh=>b h.symm;have c:((267:Int)==x)=false:=by simpa using a
   go_wp2;go_roundw
   case rel=>exact⟨11,ω,rfl,rfl,rfl,by have:=d.out;show _\/_;omega⟩
   case measure=>decide
 · rw[show((lR 11:Nat):Int)=17 from rfl,show(257:Int)+((11:Nat):Int)=268 from rfl];by_cases b:x=268
   · subst b;go_wp2;go_ret3;exact⟨rfl,rfl⟩
   have a:¬(268:Int)=x:=λh=>b h.symm;have c:((268:Int)==x)=false:=by simpa using a
   go_wp2;go_roundw
   case rel=>exact⟨12,ω,rfl,rfl,rfl,by have:=d.out;show _\/_;omega⟩
   case measure=>decide
 · rw[show((lR 12:Nat):Int)=19 from rfl,show(257:Int)+((12:Nat):Int)=269 from rfl];by_cases b:x=269
   · subst b;go_wp2;go_ret3;exact⟨rfl,rfl⟩
   have a:¬(269:Int)=x:=λh=>b h.symm;have c:((269:Int)==x)=false:=by simpa using a
   go_wp2;go_roundw
   case rel=>exact⟨13,ω,rfl,rfl,rfl,by have:=d.out;show _\/_;omega⟩
   case measure=>decide
 · rw[show((lR 13:Nat):Int)=23 from rfl,show(257:Int)+((13:Nat):Int)=270 from rfl];by_cases b:x=270
   · subst b;go_wp2;go_ret3;exact⟨rfl,rfl⟩
   have a:¬(270:Int)=x:=λh=>b h.symm;have c:((270:Int)==x)=false:=by simpa using a
   go_wp2;go_roundw
   case rel=>exact⟨14,ω,rfl,rfl,rfl,by have:=d.out;show _\/_;omega⟩
   case measure=>decide
 · rw[show((lR 14:Nat):Int)=27 from rfl,show(257:Int)+((14:Nat):Int)=271 from rfl];by_cases b:x=271
   · subst b;go_wp2;go_ret3;exact⟨rfl,rfl⟩
   have a:¬(271:Int)=x:=λh=>b h.symm;have c:((271:Int)==x)=false:=by simpa using a
   go_wp2;go_roundw
   case rel=>exact⟨15,ω,rfl,rfl,rfl,by have:=d.out;show _\/_;omega⟩
   case measure=>decide
 · rw[show((lR 15:Nat):Int)=31 from rfl,show(257:Int)+((15:Nat):Int)=272 from rfl];by_cases b:x=272
   · subst b;go_wp2;go_ret3;exact⟨rfl,rfl⟩
   have a:¬(272:Int)=x:=λh=>b h.symm;have c:((272:Int)==x)=false:=by simpa using a
   go_wp2;go_roundw
   case rel=>exact⟨16,ω,rfl,rfl,rfl,by have:=d.out;show _\/_;omega⟩
   case measure=>decide
 · rw[show((lR 16:Nat):Int)=35 from rfl,show(257:Int)+((16:Nat):Int)=273 from rfl];by_cases b:x=273
   · subst b;go_wp2;go_ret3;exact⟨rfl,rfl⟩
   have a:¬(273:Int)=x:=λh=>b h.symm;have c:((273:Int)==x)=false:=by simpa using a
   go_wp2;go_roundw
   case rel=>exact⟨17,ω,rfl,rfl,rfl,by have:=d.out;show _\/_;omega⟩
   case measure=>decide
 · rw[show((lR 17:Nat):Int)=43 from rfl,show(257:Int)+((17:Nat):Int)=274 from rfl];by_cases b:x=274
   · subst b;go_wp2;go_ret3;exact⟨rfl,rfl⟩
   have a:¬(274:Int)=x:=λh=>b h.symm;have c:((274:Int)==x)=false:=by simpa using a
   go_wp2;go_roundw
   case rel=>exact⟨18,ω,rfl,rfl,rfl,by have:=d.out;show _\/_;omega⟩
   case measure=>decide
 · rw[show((lR 18:Nat):Int)=51 from rfl,show(257:Int)+((18:Nat):Int)=275 from rfl];by_cases b:x=275
   · subst b;go_wp2;go_ret3;exact⟨rfl,rfl⟩
   have a:¬(275:Int)=x:=λh=>b h.symm;have c:((275:Int)==x)=false:=by simpa using a
   go_wp2;go_roundw
   case rel=>exact⟨19,ω,rfl,rfl,rfl,by have:=d.out;show _\/_;omega⟩
   case measure=>decide
 · rw[show((lR 19:Nat):Int)=59 from rfl,show(257:Int)+((19:Nat):Int)=276 from rfl];by_cases b:x=276
   · subst b;go_wp2;go_ret3;exact⟨rfl,rfl⟩
   have a:¬(276:Int)=x:=λh=>b h.symm;have c:((276:Int)==x)=false:=by simpa using a
   go_wp2;go_roundw
   case rel=>exact⟨20,ω,rfl,rfl,rfl,by have:=d.out;show _\/_;omega⟩
   case measure=>decide
 · rw[show((lR 20:Nat):Int)=67 from rfl,show(257:Int)+((20:Nat):Int)=277 from rfl];by_cases b:x=277
   · subst b;go_wp2;go_ret3;exact⟨rfl,rfl⟩
   have a:¬(277:Int)=x:=λh=>b h.symm;have c:((277:Int)==x)=false:=by simpa using a
   go_wp2;go_roundw
   case rel=>exact⟨21,ω,rfl,rfl,rfl,by have:=d.out;show _\/_;omega⟩
   case measure=>decide
 · rw[show((lR 21:Nat):Int)=83 from rfl,show(257:Int)+((21:Nat):Int)=278 from rfl];by_cases b:x=278
   · subst b;go_wp2;go_ret3;exact⟨rfl,rfl⟩
   have a:¬(278:Int)=x:=λh=>b h.symm;have c:((278:Int)==x)=false:=by simpa using a
   go_wp2;go_roundw
   case rel=>exact⟨22,ω,rfl,rfl,rfl,by have:=d.out;show _\/_;omega⟩
   case measure=>decide
 · rw[show((lR 22:Nat):Int)=99 from rfl,show(257:Int)+((22:Nat):Int)=279 from rfl];by_cases b:x=279
   · subst b;go_wp2;go_ret3;exact⟨rfl,rfl⟩
   have a:¬(279:Int)=x:=λh=>b h.symm;have c:((279:Int)==x)=false:=by simpa using a
   go_wp2;go_roundw
   case rel=>exact⟨23,ω,rfl,rfl,rfl,by have:=d.out;show _\/_;omega⟩
   case measure=>decide
 · rw[show((lR 23:Nat):Int)=115 from rfl,show(257:Int)+((23:Nat):Int)=280 from rfl];by_cases b:x=280
   · subst b;go_wp2;go_ret3;exact⟨rfl,rfl⟩
   have a:¬(280:Int)=x:=λh=>b h.symm;have c:((280:Int)==x)=false:=by simpa using a
   go_wp2;go_roundw
   case rel=>exact⟨24,ω,rfl,rfl,rfl,by have:=d.out;show _\/_;omega⟩
   case measure=>decide
 · rw[show((lR 24:Nat):Int)=131 from rfl,show(257:Int)+((24:Nat):Int)=281 from rfl];by_cases b:x=281
   · subst b;go_wp2;go_ret3;exact⟨rfl,rfl⟩
   have a:¬(281:Int)=x:=λh=>b h.symm;have c:((281:Int)==x)=false:=by simpa using a
   go_wp2;go_roundw
   case rel=>exact⟨25,ω,rfl,rfl,rfl,by have:=d.out;show _\/_;omega⟩
   case measure=>decide
 · rw[show((lR 25:Nat):Int)=163 from rfl,show(257:Int)+((25:Nat):Int)=282 from rfl];by_cases b:x=282
   · subst b;go_wp2;go_ret3;exact⟨rfl,rfl⟩
   have a:¬(282:Int)=x:=λh=>b h.symm;have c:((282:Int)==x)=false:=by simpa using a
   go_wp2;go_roundw
   case rel=>exact⟨26,ω,rfl,rfl,rfl,by have:=d.out;show _\/_;omega⟩
   case measure=>decide
 · rw[show((lR 26:Nat):Int)=195 from rfl,show(257:Int)+((26:Nat):Int)=283 from rfl];by_cases b:x=283
   · subst b;go_wp2;go_ret3;exact⟨rfl,rfl⟩
   have a:¬(283:Int)=x:=λh=>b h.symm;have c:((283:Int)==x)=false:=by simpa using a
   go_wp2;go_roundw
   case rel=>exact⟨27,ω,rfl,rfl,rfl,by have:=d.out;show _\/_;omega⟩
   case measure=>decide
 · rw[show((lR 27:Nat):Int)=227 from rfl,show(257:Int)+((27:Nat):Int)=284 from rfl];by_cases b:x=284
   · subst b;go_wp2;go_ret3;exact⟨rfl,rfl⟩
   have a:¬(284:Int)=x:=λh=>b h.symm;have c:((284:Int)==x)=false:=by simpa using a
   go_wp2;go_roundw
   case rel=>exact⟨28,ω,rfl,rfl,rfl,by have:=d.out;show _\/_;omega⟩
   case measure=>decide
 rw[show((lR 28:Nat):Int)=259 from rfl,show(257:Int)+((28:Nat):Int)=285 from rfl];by_cases b:x=285
 · subst b;go_wp2;go_ret3;exact⟨rfl,rfl⟩
 have a:(x==285)=false:=by simpa using b
 go_wp2;go_ret3;rw[k.out (τ d.out)];exact⟨rfl,rfl⟩
def zM (x:Int):Value:=if 0<=x/\x<=29 then .tuple #[.int .i64 ((dB (x-0).toNat:Nat):Int), .int .i64 ((dE (x-0).toNat:Nat):Int), .bool true] else .tuple #[.int .i64 0, .int .i64 0, .bool false]
def U7 (x:Int) (w:World) (b i:Value) (wr:World):Prop:=∃j:Nat,j<=30/\i= .int .i64 (0+(j:Int))/\b= .int .i64 ((dB j:Nat):Int)/\wr=w/\Hid (x<0\/0+(j:Int)<=x)
theorem Dw (x:Int) (w:World):Calls Tryz.prog 63 #[.int .i64 x] w λe w'=>e= .returned (zM x)/\w=w':=by
 have f:x<0\/29<x->zM x= .tuple #[.int .i64 0, .int .i64 0, .bool false]:=λh=>by unfold zM;rw[a8 ω]
 have k:=η f;clear f
 go_in
 go_wp2
 go_loopw [5,6] (U7 x w) (λ_ i _=>30-(intOf i-0).toNat)
 case atStart=>exact⟨0,ω,rfl,rfl,rfl,by show _\/_;omega⟩
 obtain⟨j,g,rfl,rfl,rfl,d⟩ :=hrel;have h:j=0\/j=1\/j=2\/j=3\/j=4\/j=5\/j=6\/j=7\/j=8\/j=9\/j=10\/j=11\/j=12\/j=13\/j=14\/j=15\/j=16\/j=17\/j=18\/j=19\/j=20\/j=21\/j=22\/j=23\/j=24\/j=25\/j=26\/j=27\/j=28\/j=29\/j=30:=ω;clear g;rcases h with rfl | rfl | rfl | rfl | rfl | rfl | rfl | rfl | rfl | rfl | rfl | rfl | rfl | rfl | rfl | rfl | rfl | rfl | rfl | rfl | rfl | rfl | rfl | rfl | rfl | rfl | rfl | rfl | rfl | rfl | rfl
 · rw[show((dB 0:Nat):Int)=1 from rfl,show(0:Int)+((0:Nat):Int)=0 from rfl];by_cases b:x=0
   · subst b;go_wp2;go_ret3;exact⟨rfl,rfl⟩
   have a:¬(0:Int)=x:=λh=>b h.symm;have c:((0:Int)==x)=false:=by simpa using a
   go_wp2;go_roundw
   case rel=>exact⟨1,ω,rfl,rfl,rfl,by have:=d.out;show _\/_;omega⟩
   case measure=>decide
 · rw[show((dB 1:Nat):Int)=2 from rfl,show(0:Int)+((1:Nat):Int)=1 from rfl];by_cases b:x=1
   · subst b;go_wp2;go_ret3;exact⟨rfl,rfl⟩
   have a:¬(1:Int)=x:=λh=>b h.symm;have c:((1:Int)==x)=false:=by simpa using a
   go_wp2;go_roundw
   case rel=>exact⟨2,ω,rfl,rfl,rfl,by have:=d.out;show _\/_;omega⟩
   case measure=>decide
 · rw[show((dB 2:Nat):Int)=3 from rfl,show(0:Int)+((2:Nat):Int)=2 from rfl];by_cases b:x=2
   · subst b;go_wp2;go_ret3;exact⟨rfl,rfl⟩
   have a:¬(2:Int)=x:=λh=>b h.symm;have c:((2:Int)==x)=false:=by simpa using a
   go_wp2;go_roundw
   case rel=>exact⟨3,ω,rfl,rfl,rfl,by have:=d.out;show _\/_;omega⟩
   case measure=>decide
 · rw[show((dB 3:Nat):Int)=4 from rfl,show(0:Int)+((3:Nat):Int)=3 from rfl];by_cases b:x=3
   · subst b;go_wp2;go_ret3;exact⟨rfl,rfl⟩
   have a:¬(3:Int)=x:=λh=>b h.symm;have c:((3:Int)==x)=false:=by simpa using a
   go_wp2;go_roundw
   case rel=>exact⟨4,ω,rfl,rfl,rfl,by have:=d.out;show _\/_;omega⟩
   case measure=>decide
 · rw[show((dB 4:Nat):Int)=5 from rfl,show(0:Int)+((4:Nat):Int)=4 from rfl];by_cases b:x=4
   · subst b;go_wp2;go_ret3;exact⟨rfl,rfl⟩
   have a:¬(4:Int)=x:=λh=>b h.symm;have c:((4:Int)==x)=false:=by simpa using a
   go_wp2;go_roundw
   case rel=>exact⟨5,ω,rfl,rfl,rfl,by have:=d.out;show _\/_;omega⟩
   case measure=>decide
 · rw[show((dB 5:Nat):Int)=7 from rfl,show(0:Int)+((5:Nat):Int)=5 from rfl];by_cases b:x=5
   · subst b;go_wp2;go_ret3;exact⟨rfl,rfl⟩
   have a:¬(5:Int)=x:=λh=>b h.symm;have c:((5:Int)==x)=false:=by simpa using a
   go_wp2;go_roundw
   case rel=>exact⟨6,ω,rfl,rfl,rfl,by have:=d.out;show _\/_;omega⟩
   case measure=>decide
 · rw[show((dB 6:Nat):Int)=9 from rfl,show(0:Int)+((6:Nat):Int)=6 from rfl];by_cases b:x=6
   · subst b;go_wp2;go_ret3;exact⟨rfl,rfl⟩
   have a:¬(6:Int)=x:=λh=>b h.symm;have c:((6:Int)==x)=false:=by simpa using a
   go_wp2;go_roundw
   case rel=>exact⟨7,ω,rfl,rfl,rfl,by have:=d.out;show _\/_;omega⟩
   case measure=>decide
 · rw[show((dB 7:Nat):Int)=13 from rfl,show(0:Int)+((7:Nat):Int)=7 from rfl];by_cases b:x=7
   · subst b;go_wp2;go_ret3;exact⟨rfl,rfl⟩
   have a:¬(7:Int)=x:=λh=>b h.symm;have c:((7:Int)==x)=false:=by simpa using a
   go_wp2;go_roundw
   case rel=>exact⟨8,ω,rfl,rfl,rfl,by have:=d.out;show _\/_;omega⟩
   case measure=>decide
 · rw[show((dB 8:Nat):Int)=17 from rfl,show(0:Int)+((8:Nat):Int)=8 from rfl];by_cases b:x=8
   · subst b;go_wp2;go_ret3;exact⟨rfl,rfl⟩
   have a:¬(8:Int)=x:=λh=>b h.symm;have c:((8:Int)==x)=false:=by simpa using a
   go_wp2;go_roundw
   case rel=>exact⟨9,ω,rfl,rfl,rfl,by have:=d.out;show _\/_;omega⟩
   case measure=>decide
 · rw[show((dB 9:Nat):Int)=25 from rfl,show(0:Int)+((9:Nat):Int)=9 from rfl];by_cases b:x=9
   · subst b;go_wp2;go_ret3;exact⟨rfl,rfl⟩
   have a:¬(9:Int)=x:=λh=>b h.symm;have c:((9:Int)==x)=false:=by simpa using a
   go_wp2;go_roundw
   case rel=>exact⟨10,ω,rfl,rfl,rfl,by have:=d.out;show _\/_;omega⟩
   case measure=>decide
 · rw[show((dB 10:Nat):Int)=33 from rfl,show(0:Int)+((10:Nat):Int)=10 from rfl];by_cases b:x=10
   · subst b;go_wp2;go_ret3;exact⟨rfl,rfl⟩
   have a:¬(10:Int)=x:=λh=>b h.symm;have c:((10:Int)==x)=false:=by simpa using a
   go_wp2;go_roundw
   case rel=>exact⟨11,ω,rfl,rfl,rfl,by have:=d.out;show _\/_;omega⟩
   case measure=>decide
 · rw[show((dB 11:Nat):Int)=49 from rfl,show(0:Int)+((11:Nat):Int)=11 from rfl];by_cases b:x=11
   · subst b;go_wp2;go_ret3;exact⟨rfl,rfl⟩
   have a:¬(11:Int)=x:=λh=>b h.symm;have c:((11:Int)==x)=false:=by simpa using a
   go_wp2;go_roundw
   case rel=>exact⟨12,ω,rfl,rfl,rfl,by have:=d.out;show _\/_;omega⟩
   case measure=>decide
 · rw[show((dB 12:Nat):Int)=65 from rfl,show(0:Int)+((12:Nat):Int)=12 from rfl];by_cases b:x=12
   · subst b;go_wp2;go_ret3;exact⟨rfl,rfl⟩
   have a:¬(12:Int)=x:=λh=>b h.symm;have c:((12:Int)==x)=false:=by simpa using a
   go_wp2;go_roundw
   case rel=>exact⟨13,ω,rfl,rfl,rfl,by have:=d.out;show _\/_;omega⟩
   case measure=>decide
 · rw[show((dB 13:Nat):Int)=97 from rfl,show(0:Int)+((13:Nat):Int)=13 from rfl];by_cases b:x=13
   · subst b;go_wp2;go_ret3;exact⟨rfl,rfl⟩
   have a:¬(13:Int)=x:=λh=>b h.symm;have c:((13:Int)==x)=false:=by simpa using a
   go_wp2;go_roundw
   case rel=>exact⟨14,ω,rfl,rfl,rfl,by have:=d.out;show _\/_;omega⟩
   case measure=>decide
 · rw[show((dB 14:Nat):Int)=129 from rfl,show(0:Int)+((14:Nat):Int)=14 from rfl];by_cases b:x=14
   · subst b;go_wp2;go_ret3;exact⟨rfl,rfl⟩
   have a:¬(14:Int)=x:=λh=>b h.symm;have c:((14:Int)==x)=false:=by simpa using a
   go_wp2;go_roundw
   case rel=>exact⟨15,ω,rfl,rfl,rfl,by have:=d.out;show _\/_;omega⟩
   case measure=>decide
 · rw[show((dB 15:Nat):Int)=193 from rfl,show(0:Int)+((15:Nat):Int)=15 from rfl];by_cases b:x=15
   · subst b;go_wp2;go_ret3;exact⟨rfl,rfl⟩
   have a:¬(15:Int)=x:=λh=>b h.symm;have c:((15:Int)==x)=false:=by simpa using a
   go_wp2;go_roundw
   case rel=>exact⟨16,ω,rfl,rfl,rfl,by have:=d.out;show _\/_;omega⟩
   case measure=>decide
 · rw[show((dB 16:Nat):Int)=257 from rfl,show(0:Int)+((16:Nat):Int)=16 from rfl];by_cases b:x=16
   · subst b;go_wp2;go_ret3;exact⟨rfl,rfl⟩
   have a:¬(16:Int)=x:=λh=>b h.symm;have c:((16:Int)==x)=false:=by simpa using a
   go_wp2;go_roundw
   case rel=>exact⟨17,ω,rfl,rfl,rfl,by have:=d.out;show _\/_;omega⟩
   case measure=>decide
 · rw[show((dB 17:Nat):Int)=385 from rfl,show(0:Int)+((17:Nat):Int)=17 from rfl];by_cases b:x=17
   · subst b;go_wp2;go_ret3;exact⟨rfl,rfl⟩
   have a:¬(17:Int)=x:=λh=>b h.symm;have c:((17:Int)==x)=false:=by simpa using a
   go_wp2;go_roundw
   case rel=>exact⟨18,ω,rfl,rfl,rfl,by have:=d.out;show _\/_;omega⟩
   case measure=>decide
 · rw[show((dB 18:Nat):Int)=513 from rfl,show(0:Int)+((18:Nat):Int)=18 from rfl];by_cases b:x=18
   · subst b;go_wp2;go_ret3;exact⟨rfl,rfl⟩
   have a:¬(18:Int)=x:=λh=>b h.symm;have c:((18:Int)==x)=false:=by simpa using a
   go_wp2;go_roundw
   case rel=>exact⟨19,ω,rfl,rfl,rfl,by have:=d.out;show _\/_;omega⟩
   case measure=>decide
 · rw[show((dB 19:Nat):Int)=769 from rfl,show(0:Int)+((19:Nat):Int)=19 from rfl];by_cases b:x=19
   · subst b;go_wp2;go_ret3;exact⟨rfl,rfl⟩
   have a:¬(19:Int)=x:=λh=>b h.symm;have c:((19:Int)==x)=false:=by simpa using a
   go_wp2;go_roundw
   case rel=>exact⟨20,ω,rfl,rfl,rfl,by have:=d.out;show _\/_;omega⟩
   case measure=>decide
 · rw[show((dB 20:Nat):Int)=1025 from rfl,show(0:Int)+((20:Nat):Int)=20 from rfl];by_cases b:x=20
   · subst b;go_wp2;go_ret3;exact⟨rfl,rfl⟩
   have a:¬(20:Int)=x:=λh=>b h.symm;have c:((20:Int)==x)=false:=by simpa using a
   go_wp2;go_roundw
   case rel=>exact⟨21,ω,rfl,rfl,rfl,by have:=d.out;show _\/_;omega⟩
   case measure=>decide
 · rw[show((dB 21:Nat):Int)=1537 from rfl,show(0:Int)+((21:Nat):Int)=21 from rfl];by_cases b:x=21
   · subst b;go_wp2;go_ret3;exact⟨rfl,rfl⟩
   have a:¬(21:Int)=x:=λh=>b h.symm;have c:((21:Int)==x)=false:=by simpa using a
   go_wp2;go_roundw
   case rel=>exact⟨22,ω,rfl,rfl,rfl,by have:=d.out;show _\/_;omega⟩
   case measure=>decide
 · rw[show((dB 22:Nat):Int)=2049 from rfl,show(0:Int)+((22:Nat):Int)=22 from rfl];by_cases b:x=22
   · subst b;go_wp2;go_ret3;exact⟨rfl,rfl⟩
   have a:¬(22:Int)=x:=λh=>b h.symm;have c:((22:Int)==x)=false:=by simpa using a
   go_wp2;go_roundw
   case rel=>exact⟨23,ω,rfl,rfl,rfl,by have:=d.out;show _\/_;omega⟩
   case measure=>decide
 · rw[show((dB 23:Nat):Int)=3073 from rfl,show(0:Int)+((23:Nat):Int)=23 from rfl];by_cases b:x=23
   · subst b;go_wp2;go_ret3;exact⟨rfl,rfl⟩
   have a:¬(23:Int)=x:=λh=>b h.symm;have c:((23:Int)==x)=false:=by simpa using a
   go_wp2;go_roundw
   case rel=>exact⟨24,ω,rfl,rfl,rfl,by have:=d.out;show _\/_;omega⟩
   case measure=>decide
 · rw[show((dB 24:Nat):Int)=4097 from rfl,show(0:Int)+((24:Nat):Int)=24 from rfl];by_cases b:x=24
   · subst b;go_wp2;go_ret3;exact⟨rfl,rfl⟩
   have a:¬(24:Int)=x:=λh=>b h.symm;have c:((24:Int)==x)=false:=by simpa using a
   go_wp2;go_roundw
   case rel=>exact⟨25,ω,rfl,rfl,rfl,by have:=d.out;show _\/_;omega⟩
   case measure=>decide
 · rw[show((dB 25:Nat):Int)=6145 from rfl,show(0:Int)+((25:Nat):Int)=25 from rfl];by_cases b:x=25
   · subst b;go_wp2;go_ret3;exact⟨rfl,rfl⟩
   have a:¬(25:Int)=x:=λh=>b h.symm;have c:((25:Int)==x)=false:=by simpa using a
   go_wp2;go_roundw
   case rel=>exact⟨26,ω,rfl,rfl,rfl,by have:=d.out;show _\/_;omega⟩
   case measure=>decide
 · rw[show((dB 26:Nat):Int)=8193 from rfl,show(0:Int)+((26:Nat):Int)=26 from rfl];by_cases b:x=26
   · subst b;go_wp2;go_ret3;exact⟨rfl,rfl⟩
   have a:¬(26:Int)=x:=λh=>b h.symm;have c:((26:Int)==x)=false:=by simpa using a
   go_wp2;go_roundw
   case rel=>exact⟨27,ω,rfl,rfl,rfl,by have:=d.out;show _\/_;omega⟩
   case measure=>decide
 · rw[show((dB 27:Nat):Int)=12289 from rfl,show(0:Int)+((27:Nat):Int)=27 from rfl];by_cases b:x=27
   · subst b;go_wp2;go_ret3;exact⟨rfl,rfl⟩
   have a:¬(27:Int)=x:=λh=>b h.symm;have c:((27:Int)==x)=false:=by simpa using a
   go_wp2;go_roundw
   case rel=>exact⟨28,ω,rfl,rfl,rfl,by have:=d.out;show _\/_;omega⟩
   case measure=>decide
 · rw[show((dB 28:Nat):Int)=16385 from rfl,show(0:Int)+((28:Nat):Int)=28 from rfl];by_cases b:x=28
   · subst b;go_wp2;go_ret3;exact⟨rfl,rfl⟩
   have a:¬(28:Int)=x:=λh=>b h.symm;have c:((28:Int)==x)=false:=by simpa using a
   go_wp2;go_roundw
   case rel=>exact⟨29,ω,rfl,rfl,rfl,by have:=d.out;show _\/_;omega⟩
   case measure=>decide
 · rw[show((dB 29:Nat):Int)=24577 from rfl,show(0:Int)+((29:Nat):Int)=29 from rfl];by_cases b:x=29
   · subst b;go_wp2;go_ret3;exact⟨rfl,rfl⟩
   have a:¬(29:Int)=x:=λh=>b h.symm;have c:((29:Int)==x)=false:=by simpa using a
   go_wp2;go_roundw
   case rel=>exact⟨30,ω,rfl,rfl,rfl,by have:=d.out;show _\/_;omega⟩
   case measure=>decide
 rw[show((dB 30:Nat):Int)=32769 from rfl,show(0:Int)+((30:Nat):Int)=30 from rfl];go_wp2;go_ret3;rw[k.out (τ d.out)];exact⟨rfl,rfl⟩
def MQ (n:Int) (w:World) (i:Value) (wr:World):Prop:=∃(j:Nat) (x:Int),i= .int .i64 x/\Hid (x=257+(j:Int))/\(257<=x/\x<=285)/\wr=w/\Hid (∀i,j<i->i<=28->n<((lB i:Nat):Int))
theorem sr (n:Int) (w:World):Calls Tryz.prog 122 #[.int .i64 n] w (nT lB lE 3 258 257 28 n w):=by
 by_cases d:n<3\/258<n
 · have h:n<3\/(¬n<3/\258<n):=ω;have hp:nT lB lE 3 258 257 28 n w (.returned (.tuple #[.int .i64 0, .int .i64 0, .int .i64 0])) w:= ⟨⟨_,rfl, .inl ⟨d,rfl⟩⟩,rfl⟩;clear d;rcases h with h | ⟨C,h⟩
   all_goals
    go_in
    go_wp2;go_ret3;exact hp
 have s:¬n<3/\¬258<n:=ω;have v:3<=n/\n<=258:=ω;clear d
 go_in
 go_wp2
 go_loopw [2] (MQ n w) (λi _=>(intOf i-257).toNat)
 case atStart=>exact⟨28,285,rfl,by show _=_;rfl,ω,rfl,λi s l=>ω⟩
 obtain⟨j,x,rfl,a,z,rfl,t⟩ :=hrel;have p:j<29:=by have:=a.out;omega
 have k:=a3u j p;obtain⟨b,r⟩ :=ν (((lB j:Nat):Int):Int);obtain⟨q,o⟩ :=ν (((lE j:Nat):Int):Int);have A:1<=b/\b<=32768:=ω;have c:=η r;have m:=η o;clear r o k p;by_cases g:b<=n
 · go_wp2_with fail;refine(qG j (τ a.out) x a.out _).mono ?_;rintro e w' ⟨rfl,rfl⟩;rw[c.out,m.out];go_wp2;go_ret3;refine⟨⟨_,rfl, .inr ⟨v,j, ⟨τ a.out,by rw[c.out];exact g,t.out⟩, ?_⟩⟩,rfl⟩;show Value.tuple #[.int .i64 x, .int .i64 q, .int .i64 (n-b)]=_;rw[c.out,m.out,<-a.out]
 have f:n<b:=ω
 have u:257<x:=by
  have l:=a.out;have B:=c.out;rcases bD j with rfl | hp
  · have h4:lB 0=3:=rfl;omega
  omega
 go_wp2_with fail;refine(qG j (τ a.out) x a.out _).mono ?_;rintro e w' ⟨rfl,rfl⟩;rw[c.out,m.out];go_wp2;go_roundw
 case rel=>
  refine⟨j-1,x-1,rfl, ?_,ω,rfl, ?_⟩
  · have:=a.out;show _=_;omega
  intro i s l;by_cases y:i=j
  · subst y;rw[c.out];exact f
  exact t.out i ω l
 case measure=>simp [intOf];omega
def Ij (n:Int) (w:World) (i:Value) (wr:World):Prop:=∃(j:Nat) (x:Int),i= .int .i64 x/\Hid (x=0+(j:Int))/\(0<=x/\x<=29)/\wr=w/\Hid (∀i,j<i->i<=29->n<((dB i:Nat):Int))
theorem qm (n:Int) (w:World):Calls Tryz.prog 123 #[.int .i64 n] w (nT dB dE 1 32768 0 29 n w):=by
 by_cases d:n<1\/32768<n
 · have h:n<1\/(¬n<1/\32768<n):=ω;have hp:nT dB dE 1 32768 0 29 n w (.returned (.tuple #[.int .i64 0, .int .i64 0, .int .i64 0])) w:= ⟨⟨_,rfl, .inl ⟨d,rfl⟩⟩,rfl⟩;clear d;rcases h with h | ⟨C,h⟩
   all_goals
    go_in
    go_wp2;go_ret3;exact hp
 have s:¬n<1/\¬32768<n:=ω;have v:1<=n/\n<=32768:=ω;clear d
 go_in
 go_wp2
 go_loopw [2] (Ij n w) (λi _=>(intOf i-0).toNat)
 case atStart=>exact⟨29,29,rfl,by show _=_;rfl,ω,rfl,λi s l=>ω⟩
 obtain⟨j,x,rfl,a,z,rfl,t⟩ :=hrel;have p:j<30:=by have:=a.out;omega
 have k:=a2b j p;obtain⟨b,r⟩ :=ν (((dB j:Nat):Int):Int);obtain⟨q,o⟩ :=ν (((dE j:Nat):Int):Int);have A:1<=b/\b<=32768:=ω;have c:=η r;have m:=η o;clear r o k p;by_cases g:b<=n
 · go_wp2_with fail;refine(oV j (τ a.out) x a.out _).mono ?_;rintro e w' ⟨rfl,rfl⟩;rw[c.out,m.out];go_wp2;go_ret3;refine⟨⟨_,rfl, .inr ⟨v,j, ⟨τ a.out,by rw[c.out];exact g,t.out⟩, ?_⟩⟩,rfl⟩;show Value.tuple #[.int .i64 x, .int .i64 q, .int .i64 (n-b)]=_;rw[c.out,m.out,<-a.out]
 have f:n<b:=ω
 have u:0<x:=by
  have l:=a.out;have B:=c.out;rcases bD j with rfl | hp
  · have h4:dB 0=1:=rfl;omega
  omega
 go_wp2_with fail;refine(oV j (τ a.out) x a.out _).mono ?_;rintro e w' ⟨rfl,rfl⟩;rw[c.out,m.out];go_wp2;go_roundw
 case rel=>
  refine⟨j-1,x-1,rfl, ?_,ω,rfl, ?_⟩
  · have:=a.out;show _=_;omega
  intro i s l;by_cases y:i=j
  · subst y;rw[c.out];exact f
  exact t.out i ω l
 case measure=>simp [intOf];omega
theorem Xz (s v:Nat) (a:s<=65536000):wrap64 ((s:Int)+wrap64 (2 ^ (15-v)))=((s+qJ v:Nat):Int):=by
 have h:=xx v;rw[<-a0F,IntWalk.wrap64_in ((qJ v:Nat):Int) ω,IntWalk.wrap64_in _ ω];omega
theorem zm (A:ax) (n c B:Nat) (l:ag) (w:World) (f:bT .i64 w B A n l) (j:n<=1000):
  Calls Tryz.prog 144 #[.slice A n c] w λe w'=>e= .returned (.int .i64 (sumTo l n))/\w=w':=by
 go_in
 go_wp2;go_loop [3,8] (λs i=>∃k:Nat,k<=n/\i= .int .i64 k/\s= .int .i64 (sumTo l k)) (λ_ i=>n-(intOf i).toNat)
 case atStart=>exact⟨0,aG _,rfl,rfl⟩
 obtain⟨k,m,rfl,rfl⟩ :=hrel;have bd:=vX l k;by_cases b:k<n
 rotate_left
 · obtain rfl:n=k:=ω;go_wp2;go_ret;exact⟨rfl,rfl⟩
 obtain⟨o,rfl,_,g⟩ :=f.at_ b;by_cases ht:1<=ix l k/\ix l k<=15
 · obtain⟨v,hv⟩ :∃v:Nat,ix l k=(v:Int):= ⟨(ix l k).toNat,ω⟩
   have a:sumTo l (k+1)=sumTo l k+qJ v:=by
    show sumTo l k+share (ix l k)=_;rw[hv,pS ω ω]
   have d:=η a;rw[hv]at g ht;have h:(1:Int)<=(v:Int)/\(v:Int)<=15:=ht;have b2:=xx v;clear hv a;go_wp2
   go_round
   case rel=>exact⟨k+1,ω,by go_num,by rw[d.out,Xz _ _ ω]⟩
   case measure=>simp [intOf];omega
 have a:sumTo l (k+1)=sumTo l k:=by
  show sumTo l k+share (ix l k)=_;rw[mX ht];rfl
 have d:=η a;clear a;go_wp2
 all_goals
  go_round
  case rel=>exact⟨k+1,ω,by go_num,by rw[d.out]⟩
  case measure=>simp [intOf];omega
theorem Bh {l:ag} {k:Nat} (h:tX l k=true) (a:ix l k<=1):tX l (k+1)=true:=by
 unfold tX at*;simp only [decide_eq_true_eq]at*;intro i hi;by_cases e:i=k
 · subst e;exact a
 exact h i ω
theorem PU {l:ag} {n k:Nat} (a:k<n) (h:1<ix l k):kL l n=false:=by
 unfold kL tX;rw[Bool.and_eq_false_iff];left;rw[decide_eq_false_iff_not];intro b;have:=b k a;omega
theorem PV {l:ag} {n:Nat} (h:tX l n=true):kL l n=decide ((dg l n:Int)<=1):=by
 unfold kL;rw[h,Bool.true_and];congr 1;simp;omega
theorem sR (A:ax) (n c B:Nat) (l:ag) (w:World) (g:bT .i64 w B A n l) (m:n<=1000):
  Calls Tryz.prog 145 #[.slice A n c] w λe w'=>e= .returned (.bool (kL l n))/\w=w':=by
 go_in
 go_wp2;go_loop [3,8] (λs i=>∃k:Nat,k<=n/\i= .int .i64 k/\s= .int .i64 (dg l k)/\Hid (tX l k=true)) (λ_ i=>n-(intOf i).toNat)
 case atStart=>exact⟨0,aG _,rfl,rfl,by simp [Hid,tX]⟩
 obtain⟨k,o,rfl,rfl,b⟩ :=hrel;have bd:=JK l k;by_cases a:k<n
 rotate_left
 · obtain rfl:n=k:=ω;go_wp2;go_ret;exact⟨vU (PV b.out).symm,rfl⟩
 obtain⟨q,rfl,_,p⟩ :=g.at_ a;by_cases f:0<ix l k
 · have d:=η (show dg l (k+1)=dg l k+1 by simp [dg,f]);by_cases h:1<ix l k
   · have j:=η (PU a h);go_wp2;go_ret;exact⟨vU j.symm,rfl⟩
   go_wp2
   go_round
   case rel=>exact⟨k+1,ω,by go_num,by rw[d.out];go_num,Bh b.out ω⟩
   case measure=>simp [intOf];omega
 have d:=η (show dg l (k+1)=dg l k by simp [dg,f]);go_wp2
 go_round
 case rel=>exact⟨k+1,ω,by go_num,by rw[d.out],Bh b.out ω⟩
 case measure=>simp [intOf];omega
theorem xN {l:ag} {most:Int} (h:most<1\/15<most\/288<l.length):bg l most=1:=by unfold bg;rw[aa h]
theorem uf {l:ag} {most:Int} {k:Nat} (b:k<l.length) (h:¬(0<=ix l k/\ix l k<=most)):bg l most=1:=by
 unfold bg;by_cases a:most<1\/15<most\/288<l.length
 · rw[aa a]
 rw[a8 a,aa (W5 b h)]
theorem lD {l:ag} {most:Int} (b:¬(most<1\/15<most\/288<l.length)) (a:∀i,i<l.length->0<=ix l i/\ix l i<=most)
  (h:32768<sumTo l l.length\/(sumTo l l.length<32768/\kL l l.length=false)):bg l most=3:=by
 unfold bg;rw[a8 b,a8 (by rw[FR a];simp),aa h]
theorem nZ {l:ag} {most:Int} (b:¬(most<1\/15<most\/288<l.length)) (a:∀i,i<l.length->0<=ix l i/\ix l i<=most)
  (h:¬(32768<sumTo l l.length\/(sumTo l l.length<32768/\kL l l.length=false))):bg l most=0:=by
 unfold bg;rw[a8 b,a8 (by rw[FR a];simp),a8 h]
theorem Dk (A:ax) (n c B:Nat) (l:ag) (most:Int) (w:World) (b:bT .i64 w B A n l) (d:n<=1000):
  Calls Tryz.prog 134 #[.slice A n c, .int .i64 most] w λe w'=>e= .returned (.int .i64 (bg l most))/\w=w':=by
 have f:=η b.1;by_cases m:most<1\/15<most\/288<n
 · have a:=η (xN (l:=l) (most:=most) (by rw[<-f.out];exact m));by_cases z:most<1
   · clear m
     go_in
     go_wp2;go_ret;exact⟨bJ a.symm,rfl⟩
   by_cases y:15<most
   · clear m
     go_in
     go_wp2;go_ret;exact⟨bJ a.symm,rfl⟩
   have H:288<n:=ω;clear m
   go_in
   go_wp2;go_ret;exact⟨bJ a.symm,rfl⟩
 have q:=η (show¬(most<1\/15<most\/288<l.length) by rw[<-f.out];exact m);have D:1<=most/\most<=15:=ω;have C:n<=288:=ω;clear m
 go_in
 go_wp2;go_loop [21] (λi=>∃k:Nat,k<=n/\i= .int .i64 k/\Hid (∀j,j<k->0<=ix l j/\ix l j<=most)) (λi=>n-(intOf i).toNat)
 case atStart=>exact⟨0,aG _,rfl,λj s=>absurd s ω⟩
 obtain⟨k,E,rfl,t⟩ :=hrel;by_cases o:k<n
 · obtain⟨I,rfl,_,G⟩ :=b.at_ o;by_cases ht:0<=ix l k/\ix l k<=most
   · go_wp2
     go_round
     case rel=>
      refine⟨k+1,ω,by go_num,λj s=> ?_⟩;by_cases e:j=k
      · subst e;exact ht
      exact t.out j ω
     case measure=>simp [intOf];omega
   have a:=η (uf (most:=most) (show k<l.length by rw[<-f.out];exact o) ht);by_cases z:ix l k<0
   · go_wp2;go_ret;exact⟨bJ a.symm,rfl⟩
   have y:most<ix l k:=ω;go_wp2;go_ret;exact⟨bJ a.symm,rfl⟩
 obtain rfl:n=k:=ω;have p:=η (show∀j,j<l.length->0<=ix l j/\ix l j<=most by rw[<-f.out];exact t.out);obtain⟨S,u⟩ :=ν (((sumTo l n:Nat):Int):Int);have b1:(0:Int)<=S/\S<=32768*(n:Int):=by have:=vX l n;omega
 have g:=η u;clear u;by_cases x:(32768:Int)<S
 · have a:=η (lD q.out p.out (.inl (by rw[<-f.out];have:=g.out;omega)))
   go_wp2_with (first | (go_at_call 144;refine(zm _ _ _ _ _ _ b d).mono ?_;rintro e w' ⟨rfl,rfl⟩;rw[g.out]) | (go_at_call 145;refine(sR _ _ _ _ _ _ b d).mono ?_;rintro e w' ⟨rfl,rfl⟩))
   go_ret;exact⟨bJ a.symm,rfl⟩
 have F:decide ((32768:Int)<S)=false:=by simpa using x
 by_cases v:S<32768
 · cases h:kL l n
   · have a:=η (lD q.out p.out (.inr (by rw[<-f.out];exact⟨τ g.out,h⟩)));have r:=η h;clear h
     go_wp2_with (first | (go_at_call 144;refine(zm _ _ _ _ _ _ b d).mono ?_;rintro e w' ⟨rfl,rfl⟩;rw[g.out]) | (go_at_call 145;refine(sR _ _ _ _ _ _ b d).mono ?_;rintro e w' ⟨rfl,rfl⟩;rw[r.out]))
     go_ret;exact⟨bJ a.symm,rfl⟩
   have a:=η (nZ q.out p.out (by rw[<-f.out,h];have:=g.out;simp;omega));have r:=η h;clear h
   go_wp2_with (first | (go_at_call 144;refine(zm _ _ _ _ _ _ b d).mono ?_;rintro e w' ⟨rfl,rfl⟩;rw[g.out]) | (go_at_call 145;refine(sR _ _ _ _ _ _ b d).mono ?_;rintro e w' ⟨rfl,rfl⟩;rw[r.out]))
   go_ret;exact⟨bJ a.symm,rfl⟩
 have a:=η (nZ q.out p.out (by rw[<-f.out];have:=g.out;omega))
 go_wp2_with (first | (go_at_call 144;refine(zm _ _ _ _ _ _ b d).mono ?_;rintro e w' ⟨rfl,rfl⟩;rw[g.out]) | (go_at_call 145;refine(sR _ _ _ _ _ _ b d).mono ?_;rintro e w' ⟨rfl,rfl⟩))
 go_ret;exact⟨bJ a.symm,rfl⟩
theorem BD (w:World) (B n c m d:Nat) (A C:ax) (l b:ag) (g:bT .u8 w B A n l) (j:bT .u8 w B C m b) (r:(n:Int)<=1000000000) (h:l=b):
  Calls Tryz.prog 12 #[.slice A n c, .slice C m d] w λe w'=>e= .returned (.bool true)/\∃q,w'=w.drewN q:=by
 have o:n=m:=by rw[g.1,j.1,h]
 subst o;subst h
 go_in
 go_wp2
 go_loopw [5] (λi wr=>∃k q:Nat,k<=n/\i= .int .i64 k/\wr=w.drewN q) (λi _=>n-(intOf i).toNat)
 case atStart=>exact⟨0,0,aG _,rfl,rfl⟩
 obtain⟨k,q,t,rfl,rfl⟩ :=hrel;by_cases a:k<n
 · obtain⟨x,rfl,_,p⟩ :=g.at_ a;obtain⟨u,rfl,_,f⟩ :=j.at_ a;have s:(0:Int)<=k/\(k:Int)<n:=ω;obtain⟨v,hv⟩ :=ν (ix l k:Int);rw[hv]at p f;clear hv;go_wp2;go_quiet (fail);go_wp2;go_roundw
   case rel=>exact⟨k+1,_,ω,by go_num,rfl⟩
   case measure=>simp [intOf];omega
 obtain rfl:n=k:=ω;go_wp2;go_ret;exact⟨rfl,_,rfl⟩
theorem TY (A C:ax) (n m c d:Nat) (l f:ag) (w:World) (B:Nat) (r:bT .i64 w B A n l) (hf:bT .i64 w B C m f) (E:n<=1000) (F:m<=1000):
  Calls Tryz.prog 129 #[.slice A n c, .slice C m d] w λe w'=>e= .returned (.int .i64 (eX l f (min n m)))/\∃q,w'=w.drewN q:=by
 go_in
 go_wp2
 all_goals
  go_loopw [5,14] (λs i wr=>∃k:Nat,k<=min n m/\i= .int .i64 k/\s= .int .i64 (eX l f k)/\∃q,wr=w.drewN q) (λ_ i _=>min n m-(intOf i).toNat)
  case atStart=>exact⟨0,aG _,rfl,rfl,0,rfl⟩
  obtain⟨k,H,rfl,rfl,q,rfl⟩ :=hrel;by_cases p:k<min n m
  rotate_left
  · have:k=min n m:=ω;subst this;go_wp2;go_ret;exact⟨rfl,_,rfl⟩
  have z:=r.at_ (i:=k) ω;have y:=hf.at_ (i:=k) ω;obtain⟨J,rfl,_,x⟩ :=z;obtain⟨I,rfl,_,v⟩ :=y;have G:k<n:=ω;have t:k<m:=ω;have u:(k:Int)<((min n m:Nat):Int):=ω;have bd:=mi l f k ω;have D:=Dp (ix l k) (ix f k);by_cases ht:0<ix l k/\0<ix f k/\ix f k<=1048576/\ix l k<=1048576
  · obtain⟨o,j,h,g⟩ :=ht;have a:=zI o j h g;rw[a]at D;have b:Hid (eX l f (k+1)=eX l f k+ix l k*ix f k):=by show eX l f k+oU (ix l k) (ix f k)=_;rw[a]
    clear a;go_wp2;go_quiet (fail);go_wp2;go_roundw
    case rel=>exact⟨k+1,ω,by go_num,by rw[b.out],_,rfl⟩
    case measure=>simp [intOf];omega
  have a:=Dq ht;have b:Hid (eX l f (k+1)=eX l f k):=by show eX l f k+oU (ix l k) (ix f k)=_;rw[a];omega
  clear a;go_wp2;go_quiet (fail);go_wp2
  all_goals
   go_roundw
   case rel=>exact⟨k+1,ω,by go_num,by rw[b.out],_,rfl⟩
   case measure=>simp [intOf];omega
theorem PC {a b:Int} (h:0<=a/\a<4294967296) (h':0<=b/\b<4294967296):bits .xor .u32 a b=qU a b:=u32_xor a b h.1 h.2 h'.1 h'.2
theorem PB {x:Int} (h:0<=x/\x<4294967296) (a:x%2=1):BN x=bits .xor .u32 (x/2) 3988292384:=by
 rw[PC ω ω];unfold BN NI qU;rw[aa ω];congr 2;omega
theorem Xw {x:Int} (h:0<=x/\x<4294967296) (a:¬x%2=1):BN x=x/2:=by
 unfold BN NI;rw[a8 ω];omega
theorem YX {x:Int} (h:0<=x/\x<4294967296):bits .and .u32 x 1=x%2:=by
 rw[u32_and x 1 h.1 h.2 ω ω];have:x.toNat&&& (1:Int).toNat=x.toNat%2:=Nat.and_one_is_mod _;rw[this];omega
theorem Xr (x:Int) (w:World) (h:0<=x/\x<4294967296):
  Calls Tryz.prog 66 #[.int .u32 x] w λe w'=>e= .returned (.int .u32 (BN x))/\w=w':=by
 have a:=YX h;by_cases b:x%2=1
 · have H:=η (PB h b);have t:(bits .and .u32 x 1 != 0)=true:=by rw[a,b];rfl
   clear a
   go_in
   go_wp2;go_ret;exact⟨bJ H.symm,rfl⟩
 have H:=η (Xw h b);have t:(bits .and .u32 x 1 != 0)=false:=by rw[a,show x%2=0 by omega];rfl
 clear a
 go_in
 go_wp2;go_ret;exact⟨bJ H.symm,rfl⟩
def oq (k i:Nat):Value:= .int .u32 (if i<k then mY 8 (i:Int)else 0)
theorem xG (i:Nat):Value.int .u32 0=oq 0 i:=by unfold oq;rw[a8 (jx _)]
theorem XF (k j:Nat):upd (oq k) k (.int .u32 (mY 8 (k:Int))) j=oq (k+1) j:=by
 by_cases a:j=k
 · subst a;rw[upd_same];unfold oq;rw[aa ω]
 rw[dA _ _ a];unfold oq;congr 1;by_cases h':j<k
 · rw[aa h',aa ω]
 rw[a8 h',a8 ω]
theorem vZ:(Tryz.prog.info? 117).map (·.size)=some 256:=by kernel_rfl
theorem C9 (n:Nat) (z:Value):eB n z=iL n (λ_=>z):=by
 unfold iL eB
 apply Array.ext
 · simp
 intro i b a;simp
theorem PD (W:World):(zeroValue 117).run Tryz.prog W= .ok (.agg (eB 256 (.int .u32 0))) W:=by kernel_rfl
theorem Si (w:World):Calls Tryz.prog 56 #[] w λe w'=>e= .returned (.agg (iL 256 (oq 256)))/\Below w.heap.size w w':=by
 have hz:=PD
 go_in
 go_wp2;clear hz;have a:pV (w.alloc (.cells (eB 256 (.int .u32 0)) 117)) w.heap.size 117 256 (oq 0):=pV.new rfl _ _ (by rw[C9];exact oG λi _=>xG i);have b:pV ((w.alloc (.cells (eB 256 (.int .u32 0)) 117)).alloc (.cells (eB 256 (.int .u32 0)) 117)) (w.heap.size+1) 117 256 (oq 0):=pV.new σ _ _ (by rw[C9];exact oG λi _=>xG i);have d:Below w.heap.size w ((w.alloc (.cells (eB 256 (.int .u32 0)) 117)).alloc (.cells (eB 256 (.int .u32 0)) 117)):=((aw _ _).alloc (af _) _).alloc σ _;have a:=a.alloc (.cells (eB 256 (.int .u32 0)) 117);obtain⟨w1,g⟩ :∃w1:World,w1=(w.alloc (.cells (eB 256 (.int .u32 0)) 117)).alloc (.cells (eB 256 (.int .u32 0)) 117):= ⟨_,rfl⟩;rw[<-g]at a b d⊢;clear g
 go_loopw [4] (λi wr=>∃k:Nat,k<=256/\i= .int .i64 k/\pV wr w.heap.size 117 256 (oq 0)/\pV wr (w.heap.size+1) 117 256 (oq k)/\Below w.heap.size w wr) (λi _=>256-(intOf i).toNat)
 case atStart=>exact⟨0,ω,rfl,a,b,d⟩
 obtain⟨k,t,rfl,a,b,d⟩ :=hrel;by_cases f:k<256
 rotate_left
 · obtain rfl:256=k:=ω
   go_wp2_with (first
    | (refine wpList_load_row rfl 117 (.tmp 1) rfl (w.heap.size+1) rfl 117 _ (0,0) _ b Tryz.underlying117 rfl (by rw[jl];exact vZ) ?_)
    | (refine wpList_store_row rfl 117 (.tmp 0) (.tmp 18) rfl w.heap.size (iL 256 (oq 256)) rfl rfl 117 _ a (by rw[jl];exact vZ) (by rw[jl,jl]) (Df _ _ λ_ _=>rfl) ?_))
   refine bS (results_cell_row rfl _ _ w.heap.size 117 (iL 256 (oq 256)) (0,0) _ rfl (a.row 256 (oq 256)) Tryz.underlying117 rfl (by rw[jl];exact vZ)) rfl ?_;exact⟨rfl,uZ d (af _) _⟩
 have c1:=b.cell f;have p:=b.frozen k;have s:(0:Int)<=(k:Int)/\(k:Int)<256:=ω;obtain⟨q,n⟩ :=ν ((k:Int):Int);have u:=η n;clear n;go_wp2;go_loop [3,9] (λx j=>∃(m:Nat) (v:Int),m<=8/\j= .int .i64 m/\x= .int .u32 v/\0<=v/\v<4294967296/\Hid (v=mY m (k:Int))) (λ_ j=>8-(intOf j).toNat)
 case atStart=>exact⟨0,_,ω,rfl,rfl,ω,ω,(BP ω).symm⟩
 obtain⟨m,v,r,rfl,rfl,c,h,HV⟩ :=hrel;by_cases o:m<8
 · have l:=PA ⟨c,h⟩
   go_wp2_with fail;refine(Xr _ _ ⟨c,h⟩).mono ?_;rintro e w' ⟨rfl,rfl⟩;go_wp2
   go_round
   case rel=>exact⟨m+1,_,ω,by go_num,rfl,l.1,l.2,by show _=_;rw[BO,HV.out]⟩
   case measure=>simp [intOf];omega
 obtain rfl:8=m:=ω;go_wp2;go_roundw
 case rel=>exact⟨k+1,ω,by go_num,a.far σ _,(b.iz k _).congr λj _=>by rw[HV.out];exact XF k j,d.setCell σ _⟩
 case measure=>simp [intOf];omega
def nL (s:Int):Int:=qU 4294967295 s
theorem vh {s:Int} (h:0<=s/\s<4294967296):0<=nL s/\nL s<4294967296:=GL ω h
theorem Pf {s:Int} (h:0<=s/\s<4294967296):bits .xor .u32 IntKind.u32.max s=nL s:=PC δ h
theorem a9J {a b:Int} (h:0<=a/\a<256) (h':0<=b/\b<256):bits .xor .u8 a b=qU a b:=u8_xor a b h.1 h.2 h'.1 h'.2
theorem a0Z {i:Int} (h:0<=i/\i<256):oq 256 i.toNat= .int .u32 (mY 8 i):=by
 unfold oq;rw[aa ω];congr 2;omega
theorem Ow (s:Int) (A:ax) (n c B:Nat) (l:ag) (w:World) (G:bT .u8 w B A n l) (J:B<=w.heap.size) (z:∀i,0<=ix l i/\ix l i<256) (y:0<=s/\s<4294967296) (O:n<=1000000000):
  Calls Tryz.prog 44 #[.int .u32 s, .slice A n c] w λe w'=>e= .returned (.int .u32 (nL (pD (nL s) l n)))/\Below w.heap.size w w':=by
 have hz:=PD;have L:=η z;clear z
 go_in
 go_wp2_with fail;refine(Si _).mono ?_;rintro e w1 ⟨rfl,f⟩;have u:pV (w1.alloc (.cells (eB 256 (.int .u32 0)) 117)) w1.heap.size 117 256 (oq 0):=pV.new rfl _ _ (by rw[C9];exact oG λi _=>xG i)
 go_wp2_with (refine wpList_store_row rfl 117 (.tmp 5) (.tmp 9) rfl w1.heap.size (iL 256 (oq 256)) rfl rfl 117 _ u (by rw[jl];exact vZ) (by rw[jl,jl]) (Df _ _ λ_ _=>rfl) ?_)
 clear hz;have t:pV ((w1.alloc (.cells (eB 256 (.int .u32 0)) 117)).setRow w1.heap.size (iL 256 (oq 256))) w1.heap.size 117 256 (oq 256):=u.row 256 (oq 256);have j:Below w.heap.size w ((w1.alloc (.cells (eB 256 (.int .u32 0)) 117)).setRow w1.heap.size (iL 256 (oq 256))):=uZ (f.alloc f.size _) f.size _;obtain⟨g,r⟩ :∃g,g=w1.heap.size:= ⟨_,rfl⟩;obtain⟨w2,m⟩ :∃w2:World,w2=(w1.alloc (.cells (eB 256 (.int .u32 0)) 117)).setRow w1.heap.size (iL 256 (oq 256)):= ⟨_,rfl⟩;rw[<-m]at t j⊢;rw[<-r]at t⊢;have H:w.heap.size<=g:=by rw[r];exact f.size
 clear m r u f;have N:=η (Pf y);have D:=vh y;have p:=(G.more J).below j;rw[N.out];go_loop [6,14] (λx i=>∃(k:Nat) (v:Int),k<=n/\i= .int .i64 k/\x= .int .u32 v/\0<=v/\v<4294967296/\Hid (v=pD (nL s) l k)) (λ_ i=>n-(intOf i).toNat)
 case atStart=>exact⟨0,_,ω,rfl,rfl,D.1,D.2,rfl⟩
 obtain⟨k,v,P,rfl,rfl,h,o,HV⟩ :=hrel;by_cases q:k<n
 rotate_left
 · obtain rfl:n=k:=ω;have S:=Pf ⟨h,o⟩;go_wp2;go_ret;exact⟨bJ (by rw[HV.out]),j⟩
 obtain⟨R,rfl,_,K⟩ :=p.at_ q;have d:=L.out k;obtain⟨b,f⟩ :∃b:Int,b=ix l k:= ⟨_,rfl⟩;rw[<-f]at K d;have M:=η f;clear f;have F:=XU (a:=v%256) (b:=b) ω d;have Q:=a9J (a:=v%256) (b:=b) ω d;have c1:=t.cell (i:=(qU (v%256) b).toNat) ω;rw[a0Z F]at c1;have E:=Kf 8 (x:=qU (v%256) b) ω;have I:=PC (a:=mY 8 (qU (v%256) b)) (b:=v/256) E ω;rw[NM ⟨h,o⟩ d]at I;have C:=Dr ⟨h,o⟩ d;go_wp2
 go_round
 case rel=>exact⟨k+1,_,ω,by go_num,rfl,C.1,C.2,by show rT v b=rT _ _;rw[<-HV.out,<-M.out]⟩
 case measure=>simp [intOf];omega
theorem TE {x:Int} (h:0<=x/\x<4294967296):bits .and .u32 x 65535=x%65536:=by
 rw[u32_and x 65535 h.1 h.2 ω ω];have:x.toNat&&& (65535:Int).toNat=x.toNat%65536:=eZ x.toNat 16;rw[this];omega
def iW (s:Int):Int:=s%65536%65521
def jK (s:Int):Int:=s/65536%65521
theorem Ml (x:Int) (w:World) (h:0<=x/\x<4294967296):
  Calls Tryz.prog 162 #[.int .u32 x] w λe w'=>e= .returned (.tuple #[.int .u64 (iW x), .int .u64 (jK x)])/\w=w':=by
 have a:=TE h;have b:=η (show x%65536%65521=iW x from rfl)
 go_in
 go_wp2
 go_ret2
 exact⟨rfl,rfl⟩
theorem YW {y x:Int} (h:0<=y/\y<65521) (h':0<=x/\x<65521):bits .or .u64 (y*65536) x=y*65536+x:=by
 rw[u64_or (y*65536) x ω ω ω ω];have e:(y*65536).toNat=y.toNat <<< 16:=by rw[dP];omega
 rw[e,<-fu (show x.toNat<2 ^ 16 by omega),dP];omega
theorem De (s:Int) (A:ax) (n c B:Nat) (l:ag) (w:World) (t:bT .u8 w B A n l) (o:∀i,0<=ix l i/\ix l i<256) (r:0<=s/\s<4294967296) (D:n<=1000000000):
  Calls Tryz.prog 161 #[.int .u32 s, .slice A n c] w λe w'=>e= .returned (.int .u32 (Ce (iW s) (jK s) l n*65536+uW (iW s) l n))/\w=w':=by
 have z:=η o;clear o;have b1:0<=iW s/\iW s<65521:=by unfold iW;omega
 have b2:0<=jK s/\jK s<65521:=by unfold jK;omega
 go_in
 go_wp2_with fail;refine(Ml _ _ r).mono ?_;rintro e w1 ⟨rfl,rfl⟩;go_wp2;go_loop [5,6,16] (λx y i=>∃(k:Nat) (u v:Int),k<=n/\i= .int .i64 k/\x= .int .u64 u/\y= .int .u64 v/\0<=u/\u<65521/\0<=v/\v<65521/\Hid (u=uW (iW s) l k)/\Hid (v=Ce (iW s) (jK s) l k)) (λ_ _ i=>n-(intOf i).toNat)
 case atStart=>exact⟨0,_,_,ω,rfl,rfl,rfl,b1.1,b1.2,b2.1,b2.2,rfl,rfl⟩
 obtain⟨k,u,v,E,rfl,rfl,rfl,g,f,d,q,p,HV⟩ :=hrel;by_cases h:k<n
 · obtain⟨F,rfl,_,a⟩ :=t.at_ h;have j:=z.out k;obtain⟨b,m⟩ :∃b:Int,b=ix l k:= ⟨_,rfl⟩;rw[<-m]at a j;have C:=η m;clear m;go_wp2
   go_round
   case rel=>
    have a:(u+b)%65521=uW (iW s) l (k+1):=by show _=(_+_)%65521;rw[p.out,C.out]
    refine⟨k+1,(u+b)%65521,(v+(u+b)%65521)%65521,ω,by go_num,rfl,rfl,ω,ω,ω,ω,a, ?_⟩;show _=(_+_)%65521;rw[<-a,HV.out]
   case measure=>simp [intOf];omega
 obtain rfl:n=k:=ω;have G:=YW ⟨d,q⟩ ⟨g,f⟩;go_wp2;go_ret;exact⟨bJ (by rw[p.out,HV.out]),rfl⟩
end Go.Proofs.YtgiimmkmjpbecaaGreat
