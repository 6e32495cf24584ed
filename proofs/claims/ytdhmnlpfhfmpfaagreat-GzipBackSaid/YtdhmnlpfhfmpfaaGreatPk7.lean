/-
  part
-/
import Derived.Test.YtdhmnlpfhfmpfaaGreatPk2
import Derived.Test.YtdhmnlpfhfmpfaaGreatProg
set_option linter.unusedVariables false
set_option maxRecDepth 100000
set_option maxHeartbeats 16000000
namespace Go.Proofs.YtdhmnlpfhfmpfaaGreat
open Go.RowKit
theorem Aj:(Tryz.prog.info? 29).map (λi=>(i.zero,i.size,i.bytes))=some (some (.int .u32 0),1,4):=by kernel_rfl
def yS (l:aj) (k:Nat) (v:Nat):Value:= .int .u32 (if 1<=v then(cnt l k v:Nat)else 0:Nat)
def FJ (l:aj) (k:Nat) (v:Nat):Value:= .int .u32 (if v<k then nQ l v else 0:Nat)
def BI (l:aj) (k:Nat) (v:Nat):Value:= .int .u32 (nQ l v+if 1<=v then(cnt l k v:Nat)else 0:Nat)
def zj (l:aj) (k:Nat) (i:Nat):Value:= .int .u32 (if i<k then fk l i else 0:Nat)
theorem Pu (l:aj) (v:Nat):Value.int .u32 0=yS l 0 v:=by unfold yS;congr 1;simp [cnt]
theorem EG (l:aj) (k:Nat) {v:Nat} (h:1<=v):yS l k v= .int .u32 (cnt l k v:Nat):=by unfold yS;rw[af h]
theorem Tt (l:aj) (k:Nat) {v:Nat} (h:1<=v) (e:ix l k=(v:Int)) (j:Nat):upd (yS l k) v (.int .u32 ((cnt l k v:Int)+1)) j=yS l (k+1) j:=by
 by_cases a:j=v
 · subst a;rw[upd_same,EG _ _ h];congr 1;simp [cnt,e]
 rw[dx _ _ a];unfold yS;congr 3;have:¬ix l k=(j:Int):=by rw[e];omega
 simp [cnt,this]
theorem Pt (l:aj) (k:Nat) (h:¬(1<=ix l k/\ix l k<=15)) (j:Nat) (b:j<16):yS l k j=yS l (k+1) j:=by
 unfold yS;by_cases a:1<=j
 · rw[af a,af a];have:¬ix l k=(j:Int):=ω;simp [cnt,this]
 rw[aa a,aa a]
theorem QS (l:aj) (v:Nat):Value.int .u32 0=FJ l 2 v:=by
 unfold FJ;congr 1;split
 · rename_i h;rcases v with _ | _ | v <;> simp [nQ];omega
 rfl
theorem FK (l:aj) {k v:Nat} (h:v<k):FJ l k v= .int .u32 (nQ l v:Nat):=by unfold FJ;rw[af h]
theorem Wl (l:aj) (n:Nat) {k:Nat} (h:2<=k) (b:n=l.length) (j:Nat):upd (FJ l k) k (.int .u32 (2*((nQ l (k-1):Int)+(cnt l n (k-1):Int)))) j=FJ l (k+1) j:=by
 subst b;by_cases a:j=k
 · subst a;rw[upd_same,FK _ ω];obtain⟨q,rfl⟩ :∃q,j=q+2:= ⟨j-2,ω⟩;congr 1
 rw[dx _ _ a];unfold FJ;congr 2;by_cases h':j<k
 · rw[af h',af ω]
 rw[aa h',aa ω]
theorem a0U (l:aj) (j:Nat) (a:j<16):FJ l 16 j=BI l 0 j:=by
 rw[FK _ a];unfold BI;congr 1;simp [cnt]
theorem OH (l:aj) (k:Nat) {v:Nat} (h:1<=v):BI l k v= .int .u32 ((nQ l v+cnt l k v:Nat):Int):=by unfold BI;rw[af h]
theorem WW (l:aj) (k:Nat) {v:Nat} (h:1<=v) (e:ix l k=(v:Int)) (j:Nat):upd (BI l k) v (.int .u32 (((nQ l v+cnt l k v:Nat):Int)+1)) j=BI l (k+1) j:=by
 by_cases a:j=v
 · subst a;rw[upd_same,OH _ _ h];congr 1;simp [cnt,e];omega
 rw[dx _ _ a];unfold BI;congr 4;have:¬ix l k=(j:Int):=by rw[e];omega
 simp [cnt,this]
theorem Rm (l:aj) (k:Nat) (h:¬(1<=ix l k/\ix l k<=15)) (j:Nat) (b:j<16):BI l k j=BI l (k+1) j:=by
 unfold BI;by_cases a:1<=j
 · rw[af a,af a];have:¬ix l k=(j:Int):=ω;simp [cnt,this]
 rw[aa a,aa a]
theorem QZ (l:aj) (v:Nat):Value.int .u32 0=zj l 0 v:=by unfold zj;congr 1
theorem WA (l:aj) (k:Nat) {v:Nat} (h:1<=v) (h':v<=15) (e:ix l k=(v:Int)) (j:Nat):upd (zj l k) k (.int .u32 ((nQ l v+cnt l k v:Nat):Int)) j=zj l (k+1) j:=by
 by_cases b:j=k
 · subst b;rw[upd_same];unfold zj fk isLen;rw[af ω,e];congr 1;rw[af ξ];simp
 rw[dx _ _ b];unfold zj;congr 2;by_cases a:j<k
 · rw[af a,af ω]
 rw[aa a,aa ω]
theorem QY (l:aj) (k:Nat) (h:¬(1<=ix l k/\ix l k<=15)) (j:Nat):zj l k j=zj l (k+1) j:=by
 unfold zj;congr 2;by_cases b:j=k
 · subst b;rw[aa ω,af ω];unfold fk isLen;rw[aa (by simpa using h)]
 by_cases a:j<k
 · rw[af a,af ω]
 rw[aa a,aa ω]
theorem Tw (A:ay) (n c:Nat) (l:aj) (w:World) (u:bT .i64 w w.heap.size A n l) (U:n<=288):
  Calls Tryz.prog 132 #[.slice A n c] w λe w'=>e= .returned (.slice (some ⟨w.heap.size+2,0,none⟩) n n)/\bT .u32 w' w'.heap.size (some ⟨w.heap.size+2,0,none⟩) n (jk l)/\Below w.heap.size w w':=by
 obtain⟨I,hi,p,o,m⟩ :=aL Aj;have L:n<=l.length/\l.length<=n:=by have:=u.1;omega
 have E:=λW=>fV (P:=Tryz.prog) 64 29 I (.int .u32 0) Tryz.underlying64 hi p o rfl .i64 .i64 n (by rw[m];omega) ω W;have Q:=η E;clear E hi p o m;have T:¬(288<(n:Int)):=ω;go_enter Tryz.func132,Tryz.ntmps132;go_wp2
 go_loopw [16] (λi wr=>∃k:Nat,k<=n/\i= .int .i64 k/\Ar wr w.heap.size 16 (yS l k)/\Ar wr (w.heap.size+1) 16 (λ_=> .int .u32 0)/\Sz wr (w.heap.size+2)/\Below w.heap.size w wr) (λi _=>n-(intOf i).toNat)
 case atStart=>
  have B:Ar (w.alloc (.cells (eH 16 (.int .u32 0)) 191)) w.heap.size 16 _:=Ar.zeros w 16 (.int .u32 0) 191;have O:Ar ((w.alloc (.cells (eH 16 (.int .u32 0)) 191)).alloc (.cells (eH 16 (.int .u32 0)) 191)) (w.heap.size+1) 16 _:=Ar.N6 16 (.int .u32 0) 191 σ;exact⟨0,aF _,rfl,(B.alloc _).congr λv _=>Pu l v,O,by simp [Sz],((ax _ _).alloc (ai _) _).alloc σ _⟩
 obtain⟨k,F,rfl,g,a,b,f⟩ :=hrel;by_cases d:k<n
 · obtain⟨B,rfl,_,y⟩ :=(u.below f).at_ d;by_cases ht:1<=ix l k/\ix l k<=15
   · obtain⟨v,hv⟩ :∃v:Nat,ix l k=(v:Int):= ⟨(ix l k).toNat,ω⟩;rw[hv]at y ht;have z:(1:Int)<=(v:Int)/\(v:Int)<=15:=ht;have c1:=g.cell (i:=v) ω;rw[EG l k ω]at c1;have G:=g.frozen' (i:=v) ω;have bd:=lU l k v;have H:=η hv;clear hv;go_wp2;go_roundw
     case rel=>exact⟨k+1,ω,by go_num,(g.bK ω _).congr λj _=>Tt l k ω H.out j,a.far σ _,b.bK _ _,f.setCell σ _⟩
     case measure=>simp [intOf];omega
   go_wp2
   all_goals
    go_roundw
    case rel=>exact⟨k+1,ω,by go_num,g.congr (Pt l k ht),a,b,f⟩
    case measure=>simp [intOf];omega
 obtain rfl:n=k:=ω;go_wp2;obtain⟨D,rfl⟩ :∃D:World,D=wr:= ⟨_,rfl⟩
 go_loopw [7] (λi wr=>∃k:Nat,2<=k/\k<=16/\i= .int .i64 k/\Ar wr w.heap.size 16 (yS l n)/\Ar wr (w.heap.size+1) 16 (FJ l k)/\Sz wr (w.heap.size+2)/\Below w.heap.size w wr) (λi _=>16-(intOf i).toNat)
 case atStart=>exact⟨2,ω,ω,rfl,g,a.congr λv _=>QS l v,b,f⟩
 obtain⟨k,x,F,rfl,g,a,b,f⟩ :=hrel;by_cases d:k<16
 · have c1:=g.cell (i:=k-1) ω;rw[EG l n ω]at c1;have c2:=a.cell (i:=k-1) ω;rw[FK l ω]at c2;have V:=a.cell (i:=k) ω;have R:=a.frozen' (i:=k) ω;have b1:=lU l n (k-1);have b2:=uO l ω (v:=k-1) ω;have b3:((k:Int)-1).toNat=k-1:=ω;go_wp2;go_region;go_wp2;go_roundw
   case rel=>exact⟨k+1,ω,ω,by go_num,g.far σ _,(a.bK ω _).congr λj _=>Wl l n x ω j,(b.bK _ _).drew,(f.setCell σ _).drew⟩
   case measure=>simp [intOf];omega
 obtain rfl:16=k:=ω;have K:=Q.out wr;have J:wr.heap.size=w.heap.size+2:=b;go_wp2;clear J K;have h:Ar (wr.alloc (.cells (eH n (.int .u32 0)) 29)) (w.heap.size+2) n (zj l 0):=(Ar.N6 n (.int .u32 0) 29 b.symm).congr λj _=>QZ l j;have s:=(a.congr (λj M=>a0U l j M)).alloc (.cells (eH n (.int .u32 0)) 29);have r:=f.alloc (by rw[show wr.heap.size=w.heap.size+2 from b];omega) (.cells (eH n (.int .u32 0)) 29);have t:=b.alloc (.cells (eH n (.int .u32 0)) 29);clear g a f b;obtain⟨C,q⟩ :∃C:World,C=wr.alloc (.cells (eH n (.int .u32 0)) 29):= ⟨_,rfl⟩;rw[<-q]at h s r t⊢;clear q
 go_loopw [53] (λi wr=>∃k:Nat,k<=n/\i= .int .i64 k/\Ar wr (w.heap.size+1) 16 (BI l k)/\Ar wr (w.heap.size+2) n (zj l k)/\Sz wr (w.heap.size+3)/\Below w.heap.size w wr) (λi _=>n-(intOf i).toNat)
 case atStart=>exact⟨0,aF _,rfl,s,h,t,r⟩
 obtain⟨k,F,rfl,a,h,b,f⟩ :=hrel;by_cases d:k<n
 rotate_left
 · obtain rfl:n=k:=ω;go_wp2;go_ret;refine⟨rfl, ⟨by rw[sq l ω];omega, ?_⟩,f⟩;refine(h.rd (by rw[show wr.heap.size=_ from b];omega) (ai _)).congr λi hi=> ?_;unfold zj;rw[af hi,qP l ω ω]
 obtain⟨B,rfl,_,y⟩ :=(u.below f).at_ d;by_cases ht:1<=ix l k/\ix l k<=15
 rotate_left
 · go_wp2
   all_goals
    go_roundw
    case rel=>exact⟨k+1,ω,by go_num,a.congr (Rm l k ht),h.congr λj _=>QY l k ht j,b,f⟩
    case measure=>simp [intOf];omega
 obtain⟨v,hv⟩ :∃v:Nat,ix l k=(v:Int):= ⟨(ix l k).toNat,ω⟩;rw[hv]at y ht;have z:(1:Int)<=(v:Int)/\(v:Int)<=15:=ht;have c1:=a.cell (i:=v) ω;rw[OH l k ω]at c1;have G:=a.frozen' (i:=v) ω;have c2:=h.cell d;have S:=h.frozen' (i:=k) ω;have bd:=lU l k v;have N:=uO l ω (v:=v) ω;have H:=η hv;clear hv;go_wp2;go_roundw
 case rel=>exact⟨k+1,ω,by go_num,((a.far σ _).bK ω _).congr λj _=>WW l k ω H.out j,((h.bK d _).far σ _).congr λj _=>WA l k ω ω H.out j,(b.bK _ _).bK _ _,(f.setCell σ _).setCell σ _⟩
 case measure=>simp [intOf];omega
def Bx (l:aj) (v:Nat):Nat:=if v<=1 then 0 else nQ l (v-1)+cnt l l.length (v-1)
theorem WK (l:aj):Bx l 1=0:=by simp [Bx]
theorem Bz (l:aj) {v:Nat} (h:1<=v):nQ l v=2*Bx l v:=by
 unfold Bx;rcases v with _ | _ | v
 · omega
 · simp [nQ]
 simp [nQ]
theorem DU (l:aj) {v:Nat} (h:1<=v):Bx l (v+1)=nQ l v+cnt l l.length v:=by
 unfold Bx;rw[aa ω];simp
def mY (l:aj) (v k j:Nat):Value:= .int .u32 (if ix l j<v\/(ix l j=v/\j<k)then fk l j else 0:Nat)
theorem D6 {l:aj} {j:Nat} (h:¬(1<=ix l j/\ix l j<=15)):fk l j=0:=by
 unfold fk isLen;rw[aa (by simpa using h)]
theorem qD {l:aj} {j v:Nat} (b:1<=v) (a:v<=15) (e:ix l j=v):fk l j=nQ l v+cnt l j v:=by
 unfold fk isLen;rw[e,af ξ];simp
theorem Hv (l:aj) (j:Nat):Value.int .u32 0=mY l 1 0 j:=by
 unfold mY;congr 1;split
 · rename_i h
   rw[D6 ω];rfl
 rfl
theorem KZ (l:aj) (v j:Nat) (a:j<l.length):mY l v l.length j=mY l (v+1) 0 j:=by
 unfold mY;congr 2;by_cases h:ix l j<(v:Int)+1
 · rw[af ω,af ω]
 rw[aa ω,aa ω]
theorem PF (l:aj) (j:Nat):mY l 16 0 j= .int .u32 (fk l j:Nat):=by
 unfold mY;congr 2;split
 · rfl
 rename_i h
 rw[D6 ω]
theorem PG {l:aj} {v k:Nat} (c:1<=v) (b:v<=15) (e:ix l k=v) (j:Nat):upd (mY l v k) k (.int .u32 ((nQ l v+cnt l k v:Nat):Int)) j=mY l v (k+1) j:=by
 by_cases a:j=k
 · subst a;rw[upd_same];unfold mY;rw[af (.inr ⟨e,ω⟩),qD c b e]
 rw[dx _ _ a];unfold mY;congr 2;by_cases h:ix l j<(v:Int)\/(ix l j=v/\j<k)
 · rw[af h,af ω]
 rw[aa h,aa ω]
theorem KY {l:aj} {v k:Nat} (e:¬ix l k=v) (j:Nat):mY l v k j=mY l v (k+1) j:=by
 unfold mY;congr 2;by_cases h:ix l j<(v:Int)\/(ix l j=v/\j<k)
 · rw[af h,af ω]
 by_cases a:j=k
 · subst a;rw[aa h,aa ω]
 rw[aa h,aa ω]
theorem qR (j:Nat) (b:j<29) (x:Int) (a:x=257+(j:Int)) (w:World):Calls Tryz.prog 134 #[.int .i64 x] w λe w'=>e= .returned (.tuple #[.int .i64 ((lB j:Nat):Int), .int .i64 ((lE j:Nat):Int), .bool true])/\w=w':=by
 have h:j=0\/j=1\/j=2\/j=3\/j=4\/j=5\/j=6\/j=7\/j=8\/j=9\/j=10\/j=11\/j=12\/j=13\/j=14\/j=15\/j=16\/j=17\/j=18\/j=19\/j=20\/j=21\/j=22\/j=23\/j=24\/j=25\/j=26\/j=27\/j=28:=ω;rcases h with rfl | rfl | rfl | rfl | rfl | rfl | rfl | rfl | rfl | rfl | rfl | rfl | rfl | rfl | rfl | rfl | rfl | rfl | rfl | rfl | rfl | rfl | rfl | rfl | rfl | rfl | rfl | rfl | rfl
 all_goals
  subst a;go_enter Tryz.func134,Tryz.ntmps134;go_wp2;go_ret3;exact⟨rfl,rfl⟩
theorem pA (j:Nat) (b:j<30) (x:Int) (a:x=0+(j:Int)) (w:World):Calls Tryz.prog 135 #[.int .i64 x] w λe w'=>e= .returned (.tuple #[.int .i64 ((dB j:Nat):Int), .int .i64 ((dE j:Nat):Int), .bool true])/\w=w':=by
 have h:j=0\/j=1\/j=2\/j=3\/j=4\/j=5\/j=6\/j=7\/j=8\/j=9\/j=10\/j=11\/j=12\/j=13\/j=14\/j=15\/j=16\/j=17\/j=18\/j=19\/j=20\/j=21\/j=22\/j=23\/j=24\/j=25\/j=26\/j=27\/j=28\/j=29:=ω;rcases h with rfl | rfl | rfl | rfl | rfl | rfl | rfl | rfl | rfl | rfl | rfl | rfl | rfl | rfl | rfl | rfl | rfl | rfl | rfl | rfl | rfl | rfl | rfl | rfl | rfl | rfl | rfl | rfl | rfl | rfl
 all_goals
  subst a;go_enter Tryz.func135,Tryz.ntmps135;go_wp2;go_ret3;exact⟨rfl,rfl⟩
theorem FC (x:Int) (a:x<257\/285<x) (b: -9223372036854775808<=x/\x<=9223372036854775807) (w:World):Calls Tryz.prog 134 #[.int .i64 x] w λe w'=>e= .returned (.tuple #[.int .i64 0, .int .i64 0, .bool false])/\w=w':=by
 have h:x<257\/(¬x<257/\285<x):=ω;clear a;rcases h with h | ⟨c,h⟩
 all_goals
  go_enter Tryz.func134,Tryz.ntmps134;go_wp2;go_ret3;exact⟨rfl,rfl⟩
theorem Cz (x:Int) (a:x<0\/30<=x) (w:World):Calls Tryz.prog 135 #[.int .i64 x] w λe w'=>e= .returned (.tuple #[.int .i64 0, .int .i64 0, .bool false])/\w=w':=by
 have h:x<0\/(¬x<0/\30<=x):=ω;clear a;rcases h with h | ⟨b,h⟩
 all_goals
  go_enter Tryz.func135,Tryz.ntmps135;go_wp2;go_ret3;exact⟨rfl,rfl⟩
def oc (B E:Nat->Nat) (lo hi off:Int) (a:Nat) (n:Int) (w:World) (e:Ending) (w':World):Prop:=(∃v,e= .returned v/\kV B E lo hi off a n v)/\w=w'
theorem a4o:∀j,j<29->1<=lB j/\lB j<=32768:=by decide+kernel
theorem a2D:∀j,j<30->1<=dB j/\dB j<=32768:=by decide+kernel
def J4 (x:Int):Value:=if 257<=x/\x<=285 then .tuple #[.int .i64 ((lB (x-257).toNat:Nat):Int), .int .i64 ((lE (x-257).toNat:Nat):Int), .bool true] else .tuple #[.int .i64 0, .int .i64 0, .bool false]
def a0v (x:Int) (w:World) (b i:Value) (wr:World):Prop:=∃j:Nat,j<=28/\i= .int .i64 (257+(j:Int))/\b= .int .i64 ((lR j:Nat):Int)/\wr=w/\Hid (x<257\/257+(j:Int)<=x)
theorem J5 (x:Int) (w:World):Calls Tryz.prog 73 #[.int .i64 x] w λe w'=>e= .returned (J4 x)/\w=w':=by
 have f:x<257\/285<x->J4 x= .tuple #[.int .i64 0, .int .i64 0, .bool false]:=λh=>by unfold J4;rw[aa ω]
 have k:=η f;clear f;go_enter Tryz.func73,Tryz.ntmps73;go_wp2
 go_loopw [5,6] (a0v x w) (λ_ i _=>28-(intOf i-257).toNat)
 case atStart=>exact⟨0,ω,rfl,rfl,rfl,by show _\/_;omega⟩
 obtain⟨j,g,rfl,rfl,rfl,d⟩ :=hrel;have h:j=0\/j=1\/j=2\/j=3\/j=4\/j=5\/j=6\/j=7\/j=8\/j=9\/j=10\/j=11\/j=12\/j=13\/j=14\/j=15\/j=16\/j=17\/j=18\/j=19\/j=20\/j=21\/j=22\/j=23\/j=24\/j=25\/j=26\/j=27\/j=28:=ω;clear g;rcases h with rfl | rfl | rfl | rfl | rfl | rfl | rfl | rfl | rfl | rfl | rfl | rfl | rfl | rfl | rfl | rfl | rfl | rfl | rfl | rfl | rfl | rfl | rfl | rfl | rfl | rfl | rfl | rfl | rfl
 · rw[show((lR 0:Nat):Int)=3 from rfl,show(257:Int)+((0:Nat):Int)=257 from rfl];by_cases b:x=257
   · subst b;go_wp2;go_ret3;exact⟨rfl,rfl⟩
   have a:¬(257:Int)=x:=λh=>b h.symm;have c:((257:Int)==x)=false:=by simpa using a
   go_wp2;go_roundw
   case rel=>exact⟨1,ω,rfl,rfl,rfl,by have:=d.out;show _\/_;omega⟩
   case measure=>decide
 · rw[show((lR 1:Nat):Int)=4 from rfl,show(257:Int)+((1:Nat):Int)=258 from rfl];by_cases b:x=258
   · subst b;go_wp2;go_ret3;exact⟨rfl,rfl⟩
   have a:¬(258:Int)=x:=λh=>b h.symm;have c:((258:Int)==x)=false:=by simpa using a
   go_wp2;go_roundw
   case rel=>exact⟨2,ω,rfl,rfl,rfl,by have:=d.out;show _\/_;omega⟩
   case measure=>decide
 · rw[show((lR 2:Nat):Int)=5 from rfl,show(257:Int)+((2:Nat):Int)=259 from rfl];by_cases b:x=259
   · subst b;go_wp2;go_ret3;exact⟨rfl,rfl⟩
   have a:¬(259:Int)=x:=λh=>b h.symm;have c:((259:Int)==x)=false:=by simpa using a
   go_wp2;go_roundw
   case rel=>exact⟨3,ω,rfl,rfl,rfl,by have:=d.out;show _\/_;omega⟩
   case measure=>decide
 · rw[show((lR 3:Nat):Int)=6 from rfl,show(257:Int)+((3:Nat):Int)=260 from rfl];by_cases b:x=260
   · subst b;go_wp2;go_ret3;exact⟨rfl,rfl⟩
   have a:¬(260:Int)=x:=λh=>b h.symm;have c:((260:Int)==x)=false:=by simpa using a
   go_wp2;go_roundw
   case rel=>exact⟨4,ω,rfl,rfl,rfl,by have:=d.out;show _\/_;omega⟩
   case measure=>decide
 · rw[show((lR 4:Nat):Int)=7 from rfl,show(257:Int)+((4:Nat):Int)=261 from rfl];by_cases b:x=261
   · subst b;go_wp2;go_ret3;exact⟨rfl,rfl⟩
   have a:¬(261:Int)=x:=λh=>b h.symm;have c:((261:Int)==x)=false:=by simpa using a
   go_wp2;go_roundw
   case rel=>exact⟨5,ω,rfl,rfl,rfl,by have:=d.out;show _\/_;omega⟩
   case measure=>decide
 · rw[show((lR 5:Nat):Int)=8 from rfl,show(257:Int)+((5:Nat):Int)=262 from rfl];by_cases b:x=262
   · subst b;go_wp2;go_ret3;exact⟨rfl,rfl⟩
   have a:¬(262:Int)=x:=λh=>b h.symm;have c:((262:Int)==x)=false:=by simpa using a
   go_wp2;go_roundw
   case rel=>exact⟨6,ω,rfl,rfl,rfl,by have:=d.out;show _\/_;omega⟩
   case measure=>decide
 · rw[show((lR 6:Nat):Int)=9 from rfl,show(257:Int)+((6:Nat):Int)=263 from rfl];by_cases b:x=263
   · subst b;go_wp2;go_ret3;exact⟨rfl,rfl⟩
   have a:¬(263:Int)=x:=λh=>b h.symm;have c:((263:Int)==x)=false:=by simpa using a
   go_wp2;go_roundw
   case rel=>exact⟨7,ω,rfl,rfl,rfl,by have:=d.out;show _\/_;omega⟩
   case measure=>decide
 · rw[show((lR 7:Nat):Int)=10 from rfl,show(257:Int)+((7:Nat):Int)=264 from rfl];by_cases b:x=264
   · subst b;go_wp2;go_ret3;exact⟨rfl,rfl⟩
   have a:¬(264:Int)=x:=λh=>b h.symm;have c:((264:Int)==x)=false:=by simpa using a
   go_wp2;go_roundw
   case rel=>exact⟨8,ω,rfl,rfl,rfl,by have:=d.out;show _\/_;omega⟩
   case measure=>decide
 · rw[show((lR 8:Nat):Int)=11 from rfl,show(257:Int)+((8:Nat):Int)=265 from rfl];by_cases b:x=265
   · subst b;go_wp2;go_ret3;exact⟨rfl,rfl⟩
   have a:¬(265:Int)=x:=λh=>b h.symm;have c:((265:Int)==x)=false:=by simpa using a
   go_wp2;go_roundw
   case rel=>exact⟨9,ω,rfl,rfl,rfl,by have:=d.out;show _\/_;omega⟩
   case measure=>decide
 · rw[show((lR 9:Nat):Int)=13 from rfl,show(257:Int)+((9:Nat):Int)=266 from rfl];by_cases b:x=266
   · subst b;go_wp2;go_ret3;exact⟨rfl,rfl⟩
   have a:¬(266:Int)=x:=λh=>b h.symm;have c:((266:Int)==x)=false:=by simpa using a
   go_wp2;go_roundw
   case rel=>exact⟨10,ω,rfl,rfl,rfl,by have:=d.out;show _\/_;omega⟩
   case measure=>decide
 · rw[show((lR 10:Nat):Int)=15 from rfl,show(257:Int)+((10:Nat):Int)=267 from rfl];by_cases b:x=267
   · subst b;go_wp2;go_ret3;exact⟨rfl,rfl⟩
   have a:¬(267:Int)=x:=λh=>b h.symm;have c:((267:Int)==x)=false:=by simpa using a
   go_wp2;go_roundw
   case rel=>exact⟨11,ω,rfl,rfl,rfl,by have:=d.out;show _\/_;omega⟩
   case measure=>decide
 · rw[show((lR 11:Nat):Int)=17 from rfl,show(257:Int)+((11:Nat):Int)=268 from rfl];by_cases b:x=268
   · subst b;go_wp2;go_ret3;exact⟨rfl,rfl⟩
   have a:¬(268:Int)=x:=λh=>b h.symm;have c:((268:Int)==x)=false:=by simpa using a
   go_wp2;go_roundw
   case rel=>exact⟨12,ω,rfl,rfl,rfl,by have:=d.out;show _\/_;omega⟩
   case measure=>decide
 · rw[show((lR 12:Nat):Int)=19 from rfl,show(257:Int)+((12:Nat):Int)=269 from rfl];by_cases b:x=269
   · subst b;go_wp2;go_ret3;exact⟨rfl,rfl⟩
   have a:¬(269:Int)=x:=λh=>b h.symm;have c:((269:Int)==x)=false:=by simpa using a
   go_wp2;go_roundw
   case rel=>exact⟨13,ω,rfl,rfl,rfl,by have:=d.out;show _\/_;omega⟩
   case measure=>decide
 · rw[show((lR 13:Nat):Int)=23 from rfl,show(257:Int)+((13:Nat):Int)=270 from rfl];by_cases b:x=270
   · subst b;go_wp2;go_ret3;exact⟨rfl,rfl⟩
   have a:¬(270:Int)=x:=λh=>b h.symm;have c:((270:Int)==x)=false:=by simpa using a
   go_wp2;go_roundw
   case rel=>exact⟨14,ω,rfl,rfl,rfl,by have:=d.out;show _\/_;omega⟩
   case measure=>decide
 · rw[show((lR 14:Nat):Int)=27 from rfl,show(257:Int)+((14:Nat):Int)=271 from rfl];by_cases b:x=271
   · subst b;go_wp2;go_ret3;exact⟨rfl,rfl⟩
   have a:¬(271:Int)=x:=λh=>b h.symm;have c:((271:Int)==x)=false:=by simpa using a
   go_wp2;go_roundw
   case rel=>exact⟨15,ω,rfl,rfl,rfl,by have:=d.out;show _\/_;omega⟩
   case measure=>decide
 · rw[show((lR 15:Nat):Int)=31 from rfl,show(257:Int)+((15:Nat):Int)=272 from rfl];by_cases b:x=272
   · subst b;go_wp2;go_ret3;exact⟨rfl,rfl⟩
   have a:¬(272:Int)=x:=λh=>b h.symm;have c:((272:Int)==x)=false:=by simpa using a
   go_wp2;go_roundw
   case rel=>exact⟨16,ω,rfl,rfl,rfl,by have:=d.out;show _\/_;omega⟩
   case measure=>decide
 · rw[show((lR 16:Nat):Int)=35 from rfl,show(257:Int)+((16:Nat):Int)=273 from rfl];by_cases b:x=273
   · subst b;go_wp2;go_ret3;exact⟨rfl,rfl⟩
   have a:¬(273:Int)=x:=λh=>b h.symm;have c:((273:Int)==x)=false:=by simpa using a
   go_wp2;go_roundw
   case rel=>exact⟨17,ω,rfl,rfl,rfl,by have:=d.out;show _\/_;omega⟩
   case measure=>decide
 · rw[show((lR 17:Nat):Int)=43 from rfl,show(257:Int)+((17:Nat):Int)=274 from rfl];by_cases b:x=274
   · subst b;go_wp2;go_ret3;exact⟨rfl,rfl⟩
   have a:¬(274:Int)=x:=λh=>b h.symm;have c:((274:Int)==x)=false:=by simpa using a
   go_wp2;go_roundw
   case rel=>exact⟨18,ω,rfl,rfl,rfl,by have:=d.out;show _\/_;omega⟩
   case measure=>decide
 · rw[show((lR 18:Nat):Int)=51 from rfl,show(257:Int)+((18:Nat):Int)=275 from rfl];by_cases b:x=275
   · subst b;go_wp2;go_ret3;exact⟨rfl,rfl⟩
   have a:¬(275:Int)=x:=λh=>b h.symm;have c:((275:Int)==x)=false:=by simpa using a
   go_wp2;go_roundw
   case rel=>exact⟨19,ω,rfl,rfl,rfl,by have:=d.out;show _\/_;omega⟩
   case measure=>decide
 · rw[show((lR 19:Nat):Int)=59 from rfl,show(257:Int)+((19:Nat):Int)=276 from rfl];by_cases b:x=276
   · subst b;go_wp2;go_ret3;exact⟨rfl,rfl⟩
   have a:¬(276:Int)=x:=λh=>b h.symm;have c:((276:Int)==x)=false:=by simpa using a
   go_wp2;go_roundw
   case rel=>exact⟨20,ω,rfl,rfl,rfl,by have:=d.out;show _\/_;omega⟩
   case measure=>decide
 · rw[show((lR 20:Nat):Int)=67 from rfl,show(257:Int)+((20:Nat):Int)=277 from rfl];by_cases b:x=277
   · subst b;go_wp2;go_ret3;exact⟨rfl,rfl⟩
   have a:¬(277:Int)=x:=λh=>b h.symm;have c:((277:Int)==x)=false:=by simpa using a
   go_wp2;go_roundw
   case rel=>exact⟨21,ω,rfl,rfl,rfl,by have:=d.out;show _\/_;omega⟩
   case measure=>decide
 · rw[show((lR 21:Nat):Int)=83 from rfl,show(257:Int)+((21:Nat):Int)=278 from rfl];by_cases b:x=278
   · subst b;go_wp2;go_ret3;exact⟨rfl,rfl⟩
   have a:¬(278:Int)=x:=λh=>b h.symm;have c:((278:Int)==x)=false:=by simpa using a
   go_wp2;go_roundw
   case rel=>exact⟨22,ω,rfl,rfl,rfl,by have:=d.out;show _\/_;omega⟩
   case measure=>decide
 · rw[show((lR 22:Nat):Int)=99 from rfl,show(257:Int)+((22:Nat):Int)=279 from rfl];by_cases b:x=279
   · subst b;go_wp2;go_ret3;exact⟨rfl,rfl⟩
   have a:¬(279:Int)=x:=λh=>b h.symm;have c:((279:Int)==x)=false:=by simpa using a
   go_wp2;go_roundw
   case rel=>exact⟨23,ω,rfl,rfl,rfl,by have:=d.out;show _\/_;omega⟩
   case measure=>decide
 · rw[show((lR 23:Nat):Int)=115 from rfl,show(257:Int)+((23:Nat):Int)=280 from rfl];by_cases b:x=280
   · subst b;go_wp2;go_ret3;exact⟨rfl,rfl⟩
   have a:¬(280:Int)=x:=λh=>b h.symm;have c:((280:Int)==x)=false:=by simpa using a
   go_wp2;go_roundw
   case rel=>exact⟨24,ω,rfl,rfl,rfl,by have:=d.out;show _\/_;omega⟩
   case measure=>decide
 · rw[show((lR 24:Nat):Int)=131 from rfl,show(257:Int)+((24:Nat):Int)=281 from rfl];by_cases b:x=281
   · subst b;go_wp2;go_ret3;exact⟨rfl,rfl⟩
   have a:¬(281:Int)=x:=λh=>b h.symm;have c:((281:Int)==x)=false:=by simpa using a
   go_wp2;go_roundw
   case rel=>exact⟨25,ω,rfl,rfl,rfl,by have:=d.out;show _\/_;omega⟩
   case measure=>decide
 · rw[show((lR 25:Nat):Int)=163 from rfl,show(257:Int)+((25:Nat):Int)=282 from rfl];by_cases b:x=282
   · subst b;go_wp2;go_ret3;exact⟨rfl,rfl⟩
   have a:¬(282:Int)=x:=λh=>b h.symm;have c:((282:Int)==x)=false:=by simpa using a
   go_wp2;go_roundw
   case rel=>exact⟨26,ω,rfl,rfl,rfl,by have:=d.out;show _\/_;omega⟩
   case measure=>decide
 · rw[show((lR 26:Nat):Int)=195 from rfl,show(257:Int)+((26:Nat):Int)=283 from rfl];by_cases b:x=283
   · subst b;go_wp2;go_ret3;exact⟨rfl,rfl⟩
   have a:¬(283:Int)=x:=λh=>b h.symm;have c:((283:Int)==x)=false:=by simpa using a
   go_wp2;go_roundw
   case rel=>exact⟨27,ω,rfl,rfl,rfl,by have:=d.out;show _\/_;omega⟩
   case measure=>decide
 · rw[show((lR 27:Nat):Int)=227 from rfl,show(257:Int)+((27:Nat):Int)=284 from rfl];by_cases b:x=284
   · subst b;go_wp2;go_ret3;exact⟨rfl,rfl⟩
   have a:¬(284:Int)=x:=λh=>b h.symm;have c:((284:Int)==x)=false:=by simpa using a
   go_wp2;go_roundw
   case rel=>exact⟨28,ω,rfl,rfl,rfl,by have:=d.out;show _\/_;omega⟩
   case measure=>decide
 rw[show((lR 28:Nat):Int)=259 from rfl,show(257:Int)+((28:Nat):Int)=285 from rfl];by_cases b:x=285
 · subst b;go_wp2;go_ret3;exact⟨rfl,rfl⟩
 have a:(x==285)=false:=by simpa using b
 go_wp2;go_ret3;rw[k.out (τ d.out)];exact⟨rfl,rfl⟩
def Au (x:Int):Value:=if 0<=x/\x<=29 then .tuple #[.int .i64 ((dB (x-0).toNat:Nat):Int), .int .i64 ((dE (x-0).toNat:Nat):Int), .bool true] else .tuple #[.int .i64 0, .int .i64 0, .bool false]
def TF (x:Int) (w:World) (b i:Value) (wr:World):Prop:=∃j:Nat,j<=30/\i= .int .i64 (0+(j:Int))/\b= .int .i64 ((dB j:Nat):Int)/\wr=w/\Hid (x<0\/0+(j:Int)<=x)
theorem Dc (x:Int) (w:World):Calls Tryz.prog 74 #[.int .i64 x] w λe w'=>e= .returned (Au x)/\w=w':=by
 have f:x<0\/29<x->Au x= .tuple #[.int .i64 0, .int .i64 0, .bool false]:=λh=>by unfold Au;rw[aa ω]
 have k:=η f;clear f;go_enter Tryz.func74,Tryz.ntmps74;go_wp2
 go_loopw [5,6] (TF x w) (λ_ i _=>30-(intOf i-0).toNat)
 case atStart=>exact⟨0,ω,rfl,rfl,rfl,by show _\/_;omega⟩
 obtain⟨j,g,rfl,rfl,rfl,d⟩ :=hrel;have h:j=0\/j=1\/j=2\/j=3\/j=4\/j=5\/j=6\/j=7\/j=8\/j=9\/j=10\/j=11\/j=12\/j=13\/j=14\/j=15\/j=16\/j=17\/j=18\/j=19\/j=20\/j=21\/j=22\/j=23\/j=24\/j=25\/j=26\/j=27\/j=28\/j=29\/j=30:=ω;clear g;rcases h with rfl | rfl | rfl | rfl | rfl | rfl | rfl | rfl | rfl | rfl | rfl | rfl | rfl | rfl | rfl | rfl | rfl | rfl | rfl | rfl | rfl | rfl | rfl | rfl | rfl | rfl | rfl | rfl | rfl | rfl | rfl
 · rw[show((dB 0:Nat):Int)=1 from rfl,show(0:Int)+((0:Nat):Int)=0 from rfl];by_cases b:x=0
   · subst b;go_wp2;go_ret3;exact⟨rfl,rfl⟩
   have a:¬(0:Int)=x:=λh=>b h.symm;have c:((0:Int)==x)=false:=by simpa using a
   go_wp2;go_roundw
   case rel=>exact⟨1,ω,rfl,rfl,rfl,by have:=d.out;show _\/_;omega⟩
   case measure=>decide
 · rw[show((dB 1:Nat):Int)=2 from rfl,show(0:Int)+((1:Nat):Int)=1 from rfl];by_cases b:x=1
   · subst b;go_wp2;go_ret3;exact⟨rfl,rfl⟩
   have a:¬(1:Int)=x:=λh=>b h.symm;have c:((1:Int)==x)=false:=by simpa using a
   go_wp2;go_roundw
   case rel=>exact⟨2,ω,rfl,rfl,rfl,by have:=d.out;show _\/_;omega⟩
   case measure=>decide
 · rw[show((dB 2:Nat):Int)=3 from rfl,show(0:Int)+((2:Nat):Int)=2 from rfl];by_cases b:x=2
   · subst b;go_wp2;go_ret3;exact⟨rfl,rfl⟩
   have a:¬(2:Int)=x:=λh=>b h.symm;have c:((2:Int)==x)=false:=by simpa using a
   go_wp2;go_roundw
   case rel=>exact⟨3,ω,rfl,rfl,rfl,by have:=d.out;show _\/_;omega⟩
   case measure=>decide
 · rw[show((dB 3:Nat):Int)=4 from rfl,show(0:Int)+((3:Nat):Int)=3 from rfl];by_cases b:x=3
   · subst b;go_wp2;go_ret3;exact⟨rfl,rfl⟩
   have a:¬(3:Int)=x:=λh=>b h.symm;have c:((3:Int)==x)=false:=by simpa using a
   go_wp2;go_roundw
   case rel=>exact⟨4,ω,rfl,rfl,rfl,by have:=d.out;show _\/_;omega⟩
   case measure=>decide
 · rw[show((dB 4:Nat):Int)=5 from rfl,show(0:Int)+((4:Nat):Int)=4 from rfl];by_cases b:x=4
   · subst b;go_wp2;go_ret3;exact⟨rfl,rfl⟩
   have a:¬(4:Int)=x:=λh=>b h.symm;have c:((4:Int)==x)=false:=by simpa using a
   go_wp2;go_roundw
   case rel=>exact⟨5,ω,rfl,rfl,rfl,by have:=d.out;show _\/_;omega⟩
   case measure=>decide
 · rw[show((dB 5:Nat):Int)=7 from rfl,show(0:Int)+((5:Nat):Int)=5 from rfl];by_cases b:x=5
   · subst b;go_wp2;go_ret3;exact⟨rfl,rfl⟩
   have a:¬(5:Int)=x:=λh=>b h.symm;have c:((5:Int)==x)=false:=by simpa using a
   go_wp2;go_roundw
   case rel=>exact⟨6,ω,rfl,rfl,rfl,by have:=d.out;show _\/_;omega⟩
   case measure=>decide
 · rw[show((dB 6:Nat):Int)=9 from rfl,show(0:Int)+((6:Nat):Int)=6 from rfl];by_cases b:x=6
   · subst b;go_wp2;go_ret3;exact⟨rfl,rfl⟩
   have a:¬(6:Int)=x:=λh=>b h.symm;have c:((6:Int)==x)=false:=by simpa using a
   go_wp2;go_roundw
   case rel=>exact⟨7,ω,rfl,rfl,rfl,by have:=d.out;show _\/_;omega⟩
   case measure=>decide
 · rw[show((dB 7:Nat):Int)=13 from rfl,show(0:Int)+((7:Nat):Int)=7 from rfl];by_cases b:x=7
   · subst b;go_wp2;go_ret3;exact⟨rfl,rfl⟩
   have a:¬(7:Int)=x:=λh=>b h.symm;have c:((7:Int)==x)=false:=by simpa using a
   go_wp2;go_roundw
   case rel=>exact⟨8,ω,rfl,rfl,rfl,by have:=d.out;show _\/_;omega⟩
   case measure=>decide
 · rw[show((dB 8:Nat):Int)=17 from rfl,show(0:Int)+((8:Nat):Int)=8 from rfl];by_cases b:x=8
   · subst b;go_wp2;go_ret3;exact⟨rfl,rfl⟩
   have a:¬(8:Int)=x:=λh=>b h.symm;have c:((8:Int)==x)=false:=by simpa using a
   go_wp2;go_roundw
   case rel=>exact⟨9,ω,rfl,rfl,rfl,by have:=d.out;show _\/_;omega⟩
   case measure=>decide
 · rw[show((dB 9:Nat):Int)=25 from rfl,show(0:Int)+((9:Nat):Int)=9 from rfl];by_cases b:x=9
   · subst b;go_wp2;go_ret3;exact⟨rfl,rfl⟩
   have a:¬(9:Int)=x:=λh=>b h.symm;have c:((9:Int)==x)=false:=by simpa using a
   go_wp2;go_roundw
   case rel=>exact⟨10,ω,rfl,rfl,rfl,by have:=d.out;show _\/_;omega⟩
   case measure=>decide
 · rw[show((dB 10:Nat):Int)=33 from rfl,show(0:Int)+((10:Nat):Int)=10 from rfl];by_cases b:x=10
   · subst b;go_wp2;go_ret3;exact⟨rfl,rfl⟩
   have a:¬(10:Int)=x:=λh=>b h.symm;have c:((10:Int)==x)=false:=by simpa using a
   go_wp2;go_roundw
   case rel=>exact⟨11,ω,rfl,rfl,rfl,by have:=d.out;show _\/_;omega⟩
   case measure=>decide
 · rw[show((dB 11:Nat):Int)=49 from rfl,show(0:Int)+((11:Nat):Int)=11 from rfl];by_cases b:x=11
   · subst b;go_wp2;go_ret3;exact⟨rfl,rfl⟩
   have a:¬(11:Int)=x:=λh=>b h.symm;have c:((11:Int)==x)=false:=by simpa using a
   go_wp2;go_roundw
   case rel=>exact⟨12,ω,rfl,rfl,rfl,by have:=d.out;show _\/_;omega⟩
   case measure=>decide
 · rw[show((dB 12:Nat):Int)=65 from rfl,show(0:Int)+((12:Nat):Int)=12 from rfl];by_cases b:x=12
   · subst b;go_wp2;go_ret3;exact⟨rfl,rfl⟩
   have a:¬(12:Int)=x:=λh=>b h.symm;have c:((12:Int)==x)=false:=by simpa using a
   go_wp2;go_roundw
   case rel=>exact⟨13,ω,rfl,rfl,rfl,by have:=d.out;show _\/_;omega⟩
   case measure=>decide
 · rw[show((dB 13:Nat):Int)=97 from rfl,show(0:Int)+((13:Nat):Int)=13 from rfl];by_cases b:x=13
   · subst b;go_wp2;go_ret3;exact⟨rfl,rfl⟩
   have a:¬(13:Int)=x:=λh=>b h.symm;have c:((13:Int)==x)=false:=by simpa using a
   go_wp2;go_roundw
   case rel=>exact⟨14,ω,rfl,rfl,rfl,by have:=d.out;show _\/_;omega⟩
   case measure=>decide
 · rw[show((dB 14:Nat):Int)=129 from rfl,show(0:Int)+((14:Nat):Int)=14 from rfl];by_cases b:x=14
   · subst b;go_wp2;go_ret3;exact⟨rfl,rfl⟩
   have a:¬(14:Int)=x:=λh=>b h.symm;have c:((14:Int)==x)=false:=by simpa using a
   go_wp2;go_roundw
   case rel=>exact⟨15,ω,rfl,rfl,rfl,by have:=d.out;show _\/_;omega⟩
   case measure=>decide
 · rw[show((dB 15:Nat):Int)=193 from rfl,show(0:Int)+((15:Nat):Int)=15 from rfl];by_cases b:x=15
   · subst b;go_wp2;go_ret3;exact⟨rfl,rfl⟩
   have a:¬(15:Int)=x:=λh=>b h.symm;have c:((15:Int)==x)=false:=by simpa using a
   go_wp2;go_roundw
   case rel=>exact⟨16,ω,rfl,rfl,rfl,by have:=d.out;show _\/_;omega⟩
   case measure=>decide
 · rw[show((dB 16:Nat):Int)=257 from rfl,show(0:Int)+((16:Nat):Int)=16 from rfl];by_cases b:x=16
   · subst b;go_wp2;go_ret3;exact⟨rfl,rfl⟩
   have a:¬(16:Int)=x:=λh=>b h.symm;have c:((16:Int)==x)=false:=by simpa using a
   go_wp2;go_roundw
   case rel=>exact⟨17,ω,rfl,rfl,rfl,by have:=d.out;show _\/_;omega⟩
   case measure=>decide
 · rw[show((dB 17:Nat):Int)=385 from rfl,show(0:Int)+((17:Nat):Int)=17 from rfl];by_cases b:x=17
   · subst b;go_wp2;go_ret3;exact⟨rfl,rfl⟩
   have a:¬(17:Int)=x:=λh=>b h.symm;have c:((17:Int)==x)=false:=by simpa using a
   go_wp2;go_roundw
   case rel=>exact⟨18,ω,rfl,rfl,rfl,by have:=d.out;show _\/_;omega⟩
   case measure=>decide
 · rw[show((dB 18:Nat):Int)=513 from rfl,show(0:Int)+((18:Nat):Int)=18 from rfl];by_cases b:x=18
   · subst b;go_wp2;go_ret3;exact⟨rfl,rfl⟩
   have a:¬(18:Int)=x:=λh=>b h.symm;have c:((18:Int)==x)=false:=by simpa using a
   go_wp2;go_roundw
   case rel=>exact⟨19,ω,rfl,rfl,rfl,by have:=d.out;show _\/_;omega⟩
   case measure=>decide
 · rw[show((dB 19:Nat):Int)=769 from rfl,show(0:Int)+((19:Nat):Int)=19 from rfl];by_cases b:x=19
   · subst b;go_wp2;go_ret3;exact⟨rfl,rfl⟩
   have a:¬(19:Int)=x:=λh=>b h.symm;have c:((19:Int)==x)=false:=by simpa using a
   go_wp2;go_roundw
   case rel=>exact⟨20,ω,rfl,rfl,rfl,by have:=d.out;show _\/_;omega⟩
   case measure=>decide
 · rw[show((dB 20:Nat):Int)=1025 from rfl,show(0:Int)+((20:Nat):Int)=20 from rfl];by_cases b:x=20
   · subst b;go_wp2;go_ret3;exact⟨rfl,rfl⟩
   have a:¬(20:Int)=x:=λh=>b h.symm;have c:((20:Int)==x)=false:=by simpa using a
   go_wp2;go_roundw
   case rel=>exact⟨21,ω,rfl,rfl,rfl,by have:=d.out;show _\/_;omega⟩
   case measure=>decide
 · rw[show((dB 21:Nat):Int)=1537 from rfl,show(0:Int)+((21:Nat):Int)=21 from rfl];by_cases b:x=21
   · subst b;go_wp2;go_ret3;exact⟨rfl,rfl⟩
   have a:¬(21:Int)=x:=λh=>b h.symm;have c:((21:Int)==x)=false:=by simpa using a
   go_wp2;go_roundw
   case rel=>exact⟨22,ω,rfl,rfl,rfl,by have:=d.out;show _\/_;omega⟩
   case measure=>decide
 · rw[show((dB 22:Nat):Int)=2049 from rfl,show(0:Int)+((22:Nat):Int)=22 from rfl];by_cases b:x=22
   · subst b;go_wp2;go_ret3;exact⟨rfl,rfl⟩
   have a:¬(22:Int)=x:=λh=>b h.symm;have c:((22:Int)==x)=false:=by simpa using a
   go_wp2;go_roundw
   case rel=>exact⟨23,ω,rfl,rfl,rfl,by have:=d.out;show _\/_;omega⟩
   case measure=>decide
 · rw[show((dB 23:Nat):Int)=3073 from rfl,show(0:Int)+((23:Nat):Int)=23 from rfl];by_cases b:x=23
   · subst b;go_wp2;go_ret3;exact⟨rfl,rfl⟩
   have a:¬(23:Int)=x:=λh=>b h.symm;have c:((23:Int)==x)=false:=by simpa using a
   go_wp2;go_roundw
   case rel=>exact⟨24,ω,rfl,rfl,rfl,by have:=d.out;show _\/_;omega⟩
   case measure=>decide
 · rw[show((dB 24:Nat):Int)=4097 from rfl,show(0:Int)+((24:Nat):Int)=24 from rfl];by_cases b:x=24
   · subst b;go_wp2;go_ret3;exact⟨rfl,rfl⟩
   have a:¬(24:Int)=x:=λh=>b h.symm;have c:((24:Int)==x)=false:=by simpa using a
   go_wp2;go_roundw
   case rel=>exact⟨25,ω,rfl,rfl,rfl,by have:=d.out;show _\/_;omega⟩
   case measure=>decide
 · rw[show((dB 25:Nat):Int)=6145 from rfl,show(0:Int)+((25:Nat):Int)=25 from rfl];by_cases b:x=25
   · subst b;go_wp2;go_ret3;exact⟨rfl,rfl⟩
   have a:¬(25:Int)=x:=λh=>b h.symm;have c:((25:Int)==x)=false:=by simpa using a
   go_wp2;go_roundw
   case rel=>exact⟨26,ω,rfl,rfl,rfl,by have:=d.out;show _\/_;omega⟩
   case measure=>decide
 · rw[show((dB 26:Nat):Int)=8193 from rfl,show(0:Int)+((26:Nat):Int)=26 from rfl];by_cases b:x=26
   · subst b;go_wp2;go_ret3;exact⟨rfl,rfl⟩
   have a:¬(26:Int)=x:=λh=>b h.symm;have c:((26:Int)==x)=false:=by simpa using a
   go_wp2;go_roundw
   case rel=>exact⟨27,ω,rfl,rfl,rfl,by have:=d.out;show _\/_;omega⟩
   case measure=>decide
 · rw[show((dB 27:Nat):Int)=12289 from rfl,show(0:Int)+((27:Nat):Int)=27 from rfl];by_cases b:x=27
   · subst b;go_wp2;go_ret3;exact⟨rfl,rfl⟩
   have a:¬(27:Int)=x:=λh=>b h.symm;have c:((27:Int)==x)=false:=by simpa using a
   go_wp2;go_roundw
   case rel=>exact⟨28,ω,rfl,rfl,rfl,by have:=d.out;show _\/_;omega⟩
   case measure=>decide
 · rw[show((dB 28:Nat):Int)=16385 from rfl,show(0:Int)+((28:Nat):Int)=28 from rfl];by_cases b:x=28
   · subst b;go_wp2;go_ret3;exact⟨rfl,rfl⟩
   have a:¬(28:Int)=x:=λh=>b h.symm;have c:((28:Int)==x)=false:=by simpa using a
   go_wp2;go_roundw
   case rel=>exact⟨29,ω,rfl,rfl,rfl,by have:=d.out;show _\/_;omega⟩
   case measure=>decide
 · rw[show((dB 29:Nat):Int)=24577 from rfl,show(0:Int)+((29:Nat):Int)=29 from rfl];by_cases b:x=29
   · subst b;go_wp2;go_ret3;exact⟨rfl,rfl⟩
   have a:¬(29:Int)=x:=λh=>b h.symm;have c:((29:Int)==x)=false:=by simpa using a
   go_wp2;go_roundw
   case rel=>exact⟨30,ω,rfl,rfl,rfl,by have:=d.out;show _\/_;omega⟩
   case measure=>decide
 rw[show((dB 30:Nat):Int)=32769 from rfl,show(0:Int)+((30:Nat):Int)=30 from rfl];go_wp2;go_ret3;rw[k.out (τ d.out)];exact⟨rfl,rfl⟩
def M7 (n:Int) (w:World) (i:Value) (wr:World):Prop:=∃(j:Nat) (x:Int),i= .int .i64 x/\Hid (x=257+(j:Int))/\(257<=x/\x<=285)/\wr=w/\Hid (∀i,j<i->i<=28->n<((lB i:Nat):Int))
theorem sP (n:Int) (w:World):Calls Tryz.prog 112 #[.int .i64 n] w (oc lB lE 3 258 257 28 n w):=by
 by_cases d:n<3\/258<n
 · have h:n<3\/(¬n<3/\258<n):=ω;have hp:oc lB lE 3 258 257 28 n w (.returned (.tuple #[.int .i64 0, .int .i64 0, .int .i64 0])) w:= ⟨⟨_,rfl, .inl ⟨d,rfl⟩⟩,rfl⟩;clear d;rcases h with h | ⟨C,h⟩
   all_goals
    go_enter Tryz.func112,Tryz.ntmps112;go_wp2;go_ret3;exact hp
 have s:¬n<3/\¬258<n:=ω;have v:3<=n/\n<=258:=ω;clear d;go_enter Tryz.func112,Tryz.ntmps112;go_wp2
 go_loopw [2] (M7 n w) (λi _=>(intOf i-257).toNat)
 case atStart=>exact⟨28,285,rfl,by show _=_;rfl,ω,rfl,λi s l=>ω⟩
 obtain⟨j,x,rfl,a,z,rfl,t⟩ :=hrel;have p:j<29:=by have:=a.out;omega
 have k:=a4o j p;obtain⟨b,r⟩ :=ν (((lB j:Nat):Int):Int);obtain⟨q,o⟩ :=ν (((lE j:Nat):Int):Int);have A:1<=b/\b<=32768:=ω;have c:=η r;have m:=η o;clear r o k p;by_cases g:b<=n
 · go_wp2_with fail;refine(qR j (τ a.out) x a.out _).mono ?_;rintro e w' ⟨rfl,rfl⟩;rw[c.out,m.out];go_wp2;go_ret3;refine⟨⟨_,rfl, .inr ⟨v,j, ⟨τ a.out,by rw[c.out];exact g,t.out⟩, ?_⟩⟩,rfl⟩;show Value.tuple #[.int .i64 x, .int .i64 q, .int .i64 (n-b)]=_;rw[c.out,m.out,<-a.out]
 have f:n<b:=ω
 have u:257<x:=by
  have l:=a.out;have B:=c.out;rcases bY j with rfl | hp
  · have h4:lB 0=3:=rfl;omega
  omega
 go_wp2_with fail;refine(qR j (τ a.out) x a.out _).mono ?_;rintro e w' ⟨rfl,rfl⟩;rw[c.out,m.out];go_wp2;go_roundw
 case rel=>
  refine⟨j-1,x-1,rfl, ?_,ω,rfl, ?_⟩
  · have:=a.out;show _=_;omega
  intro i s l;by_cases y:i=j
  · subst y;rw[c.out];exact f
  exact t.out i ω l
 case measure=>simp [intOf];omega
def Ht (n:Int) (w:World) (i:Value) (wr:World):Prop:=∃(j:Nat) (x:Int),i= .int .i64 x/\Hid (x=0+(j:Int))/\(0<=x/\x<=29)/\wr=w/\Hid (∀i,j<i->i<=29->n<((dB i:Nat):Int))
theorem qE (n:Int) (w:World):Calls Tryz.prog 113 #[.int .i64 n] w (oc dB dE 1 32768 0 29 n w):=by
 by_cases d:n<1\/32768<n
 · have h:n<1\/(¬n<1/\32768<n):=ω;have hp:oc dB dE 1 32768 0 29 n w (.returned (.tuple #[.int .i64 0, .int .i64 0, .int .i64 0])) w:= ⟨⟨_,rfl, .inl ⟨d,rfl⟩⟩,rfl⟩;clear d;rcases h with h | ⟨C,h⟩
   all_goals
    go_enter Tryz.func113,Tryz.ntmps113;go_wp2;go_ret3;exact hp
 have s:¬n<1/\¬32768<n:=ω;have v:1<=n/\n<=32768:=ω;clear d;go_enter Tryz.func113,Tryz.ntmps113;go_wp2
 go_loopw [2] (Ht n w) (λi _=>(intOf i-0).toNat)
 case atStart=>exact⟨29,29,rfl,by show _=_;rfl,ω,rfl,λi s l=>ω⟩
 obtain⟨j,x,rfl,a,z,rfl,t⟩ :=hrel;have p:j<30:=by have:=a.out;omega
 have k:=a2D j p;obtain⟨b,r⟩ :=ν (((dB j:Nat):Int):Int);obtain⟨q,o⟩ :=ν (((dE j:Nat):Int):Int);have A:1<=b/\b<=32768:=ω;have c:=η r;have m:=η o;clear r o k p;by_cases g:b<=n
 · go_wp2_with fail;refine(pA j (τ a.out) x a.out _).mono ?_;rintro e w' ⟨rfl,rfl⟩;rw[c.out,m.out];go_wp2;go_ret3;refine⟨⟨_,rfl, .inr ⟨v,j, ⟨τ a.out,by rw[c.out];exact g,t.out⟩, ?_⟩⟩,rfl⟩;show Value.tuple #[.int .i64 x, .int .i64 q, .int .i64 (n-b)]=_;rw[c.out,m.out,<-a.out]
 have f:n<b:=ω
 have u:0<x:=by
  have l:=a.out;have B:=c.out;rcases bY j with rfl | hp
  · have h4:dB 0=1:=rfl;omega
  omega
 go_wp2_with fail;refine(pA j (τ a.out) x a.out _).mono ?_;rintro e w' ⟨rfl,rfl⟩;rw[c.out,m.out];go_wp2;go_roundw
 case rel=>
  refine⟨j-1,x-1,rfl, ?_,ω,rfl, ?_⟩
  · have:=a.out;show _=_;omega
  intro i s l;by_cases y:i=j
  · subst y;rw[c.out];exact f
  exact t.out i ω l
 case measure=>simp [intOf];omega
theorem Xr (s v:Nat) (a:s<=65536000):wrap64 ((s:Int)+wrap64 (2 ^ (15-v)))=((s+qX v:Nat):Int):=by
 have h:=xT v;rw[<-a0J,IntWalk.wrap64_in ((qX v:Nat):Int) ω,IntWalk.wrap64_in _ ω];omega
theorem zI (A:ay) (n c B:Nat) (l:aj) (w:World) (f:bT .i64 w B A n l) (j:n<=1000):
  Calls Tryz.prog 150 #[.slice A n c] w λe w'=>e= .returned (.int .i64 (sumTo l n))/\w=w':=by
 go_enter Tryz.func150,Tryz.ntmps150;go_wp2;go_loop [3,8] (λs i=>∃k:Nat,k<=n/\i= .int .i64 k/\s= .int .i64 (sumTo l k)) (λ_ i=>n-(intOf i).toNat)
 case atStart=>exact⟨0,aF _,rfl,rfl⟩
 obtain⟨k,m,rfl,rfl⟩ :=hrel;have bd:=wM l k;by_cases b:k<n
 rotate_left
 · obtain rfl:n=k:=ω;go_wp2;go_ret;exact⟨rfl,rfl⟩
 obtain⟨o,rfl,_,g⟩ :=f.at_ b;by_cases ht:1<=ix l k/\ix l k<=15
 · obtain⟨v,hv⟩ :∃v:Nat,ix l k=(v:Int):= ⟨(ix l k).toNat,ω⟩
   have a:sumTo l (k+1)=sumTo l k+qX v:=by
    show sumTo l k+share (ix l k)=_;rw[hv,qj ω ω]
   have d:=η a;rw[hv]at g ht;have h:(1:Int)<=(v:Int)/\(v:Int)<=15:=ht;have b2:=xT v;clear hv a;go_wp2
   go_round
   case rel=>exact⟨k+1,ω,by go_num,by rw[d.out,Xr _ _ ω]⟩
   case measure=>simp [intOf];omega
 have a:sumTo l (k+1)=sumTo l k:=by
  show sumTo l k+share (ix l k)=_;rw[nC ht];rfl
 have d:=η a;clear a;go_wp2
 all_goals
  go_round
  case rel=>exact⟨k+1,ω,by go_num,by rw[d.out]⟩
  case measure=>simp [intOf];omega
theorem Bo {l:aj} {k:Nat} (h:ui l k=true) (a:ix l k<=1):ui l (k+1)=true:=by
 unfold ui at*;simp only [decide_eq_true_eq]at*;intro i hi;by_cases e:i=k
 · subst e;exact a
 exact h i ω
theorem Pc {l:aj} {n k:Nat} (a:k<n) (h:1<ix l k):kW l n=false:=by
 unfold kW ui;rw[Bool.and_eq_false_iff];left;rw[decide_eq_false_iff_not];intro b;have:=b k a;omega
theorem Pd {l:aj} {n:Nat} (h:ui l n=true):kW l n=decide ((di l n:Int)<=1):=by
 unfold kW;rw[h,Bool.true_and];congr 1;simp;omega
theorem tE (A:ay) (n c B:Nat) (l:aj) (w:World) (g:bT .i64 w B A n l) (m:n<=1000):
  Calls Tryz.prog 151 #[.slice A n c] w λe w'=>e= .returned (.bool (kW l n))/\w=w':=by
 go_enter Tryz.func151,Tryz.ntmps151;go_wp2;go_loop [3,8] (λs i=>∃k:Nat,k<=n/\i= .int .i64 k/\s= .int .i64 (di l k)/\Hid (ui l k=true)) (λ_ i=>n-(intOf i).toNat)
 case atStart=>exact⟨0,aF _,rfl,rfl,by simp [Hid,ui]⟩
 obtain⟨k,o,rfl,rfl,b⟩ :=hrel;have bd:=Jj l k;by_cases a:k<n
 rotate_left
 · obtain rfl:n=k:=ω;go_wp2;go_ret;exact⟨dH (Pd b.out).symm,rfl⟩
 obtain⟨q,rfl,_,p⟩ :=g.at_ a;by_cases f:0<ix l k
 · have d:=η (show di l (k+1)=di l k+1 by simp [di,f]);by_cases h:1<ix l k
   · have j:=η (Pc a h);go_wp2;go_ret;exact⟨dH j.out.symm,rfl⟩
   go_wp2
   go_round
   case rel=>exact⟨k+1,ω,by go_num,by rw[d.out];go_num,Bo b.out ω⟩
   case measure=>simp [intOf];omega
 have d:=η (show di l (k+1)=di l k by simp [di,f]);go_wp2
 go_round
 case rel=>exact⟨k+1,ω,by go_num,by rw[d.out],Bo b.out ω⟩
 case measure=>simp [intOf];omega
theorem yh {l:aj} {most:Int} (h:most<1\/15<most\/288<l.length):bg l most=1:=by unfold bg;rw[af h]
theorem uu {l:aj} {most:Int} {k:Nat} (b:k<l.length) (h:¬(0<=ix l k/\ix l k<=most)):bg l most=1:=by
 unfold bg;by_cases a:most<1\/15<most\/288<l.length
 · rw[af a]
 rw[aa a,af (VR b h)]
theorem lQ {l:aj} {most:Int} (b:¬(most<1\/15<most\/288<l.length)) (a:∀i,i<l.length->0<=ix l i/\ix l i<=most)
  (h:32768<sumTo l l.length\/(sumTo l l.length<32768/\kW l l.length=false)):bg l most=3:=by
 unfold bg;rw[aa b,aa (by rw[Fx a];simp),af h]
theorem oq {l:aj} {most:Int} (b:¬(most<1\/15<most\/288<l.length)) (a:∀i,i<l.length->0<=ix l i/\ix l i<=most)
  (h:¬(32768<sumTo l l.length\/(sumTo l l.length<32768/\kW l l.length=false))):bg l most=0:=by
 unfold bg;rw[aa b,aa (by rw[Fx a];simp),aa h]
theorem D3 (A:ay) (n c B:Nat) (l:aj) (most:Int) (w:World) (b:bT .i64 w B A n l) (d:n<=1000):
  Calls Tryz.prog 131 #[.slice A n c, .int .i64 most] w λe w'=>e= .returned (.int .i64 (bg l most))/\w=w':=by
 have f:=η b.1;by_cases m:most<1\/15<most\/288<n
 · have a:=η (yh (l:=l) (most:=most) (by rw[<-f.out];exact m));by_cases z:most<1
   · clear m;go_enter Tryz.func131,Tryz.ntmps131;go_wp2;go_ret;exact⟨bZ a.out.symm,rfl⟩
   by_cases y:15<most
   · clear m;go_enter Tryz.func131,Tryz.ntmps131;go_wp2;go_ret;exact⟨bZ a.out.symm,rfl⟩
   have H:288<n:=ω;clear m;go_enter Tryz.func131,Tryz.ntmps131;go_wp2;go_ret;exact⟨bZ a.out.symm,rfl⟩
 have q:=η (show¬(most<1\/15<most\/288<l.length) by rw[<-f.out];exact m);have D:1<=most/\most<=15:=ω;have C:n<=288:=ω;clear m;go_enter Tryz.func131,Tryz.ntmps131;go_wp2;go_loop [21] (λi=>∃k:Nat,k<=n/\i= .int .i64 k/\Hid (∀j,j<k->0<=ix l j/\ix l j<=most)) (λi=>n-(intOf i).toNat)
 case atStart=>exact⟨0,aF _,rfl,λj s=>absurd s ω⟩
 obtain⟨k,E,rfl,t⟩ :=hrel;by_cases o:k<n
 · obtain⟨I,rfl,_,G⟩ :=b.at_ o;by_cases ht:0<=ix l k/\ix l k<=most
   · go_wp2
     go_round
     case rel=>
      refine⟨k+1,ω,by go_num,λj s=> ?_⟩;by_cases e:j=k
      · subst e;exact ht
      exact t.out j ω
     case measure=>simp [intOf];omega
   have a:=η (uu (most:=most) (show k<l.length by rw[<-f.out];exact o) ht);by_cases z:ix l k<0
   · go_wp2;go_ret;exact⟨bZ a.out.symm,rfl⟩
   have y:most<ix l k:=ω;go_wp2;go_ret;exact⟨bZ a.out.symm,rfl⟩
 obtain rfl:n=k:=ω;have p:=η (show∀j,j<l.length->0<=ix l j/\ix l j<=most by rw[<-f.out];exact t.out);obtain⟨S,u⟩ :=ν (((sumTo l n:Nat):Int):Int);have b1:(0:Int)<=S/\S<=32768*(n:Int):=by have:=wM l n;omega
 have g:=η u;clear u;by_cases x:(32768:Int)<S
 · have a:=η (lQ q.out p.out (.inl (by rw[<-f.out];have:=g.out;omega)))
   go_wp2_with (first | (go_at_call 150;refine(zI _ _ _ _ _ _ b d).mono ?_;rintro e w' ⟨rfl,rfl⟩;rw[g.out]) | (go_at_call 151;refine(tE _ _ _ _ _ _ b d).mono ?_;rintro e w' ⟨rfl,rfl⟩))
   go_ret;exact⟨bZ a.out.symm,rfl⟩
 have F:decide ((32768:Int)<S)=false:=by simpa using x
 by_cases v:S<32768
 · cases h:kW l n
   · have a:=η (lQ q.out p.out (.inr (by rw[<-f.out];exact⟨τ g.out,h⟩)));have r:=η h;clear h
     go_wp2_with (first | (go_at_call 150;refine(zI _ _ _ _ _ _ b d).mono ?_;rintro e w' ⟨rfl,rfl⟩;rw[g.out]) | (go_at_call 151;refine(tE _ _ _ _ _ _ b d).mono ?_;rintro e w' ⟨rfl,rfl⟩;rw[r.out]))
     go_ret;exact⟨bZ a.out.symm,rfl⟩
   have a:=η (oq q.out p.out (by rw[<-f.out,h];have:=g.out;simp;omega));have r:=η h;clear h
   go_wp2_with (first | (go_at_call 150;refine(zI _ _ _ _ _ _ b d).mono ?_;rintro e w' ⟨rfl,rfl⟩;rw[g.out]) | (go_at_call 151;refine(tE _ _ _ _ _ _ b d).mono ?_;rintro e w' ⟨rfl,rfl⟩;rw[r.out]))
   go_ret;exact⟨bZ a.out.symm,rfl⟩
 have a:=η (oq q.out p.out (by rw[<-f.out];have:=g.out;omega))
 go_wp2_with (first | (go_at_call 150;refine(zI _ _ _ _ _ _ b d).mono ?_;rintro e w' ⟨rfl,rfl⟩;rw[g.out]) | (go_at_call 151;refine(tE _ _ _ _ _ _ b d).mono ?_;rintro e w' ⟨rfl,rfl⟩))
 go_ret;exact⟨bZ a.out.symm,rfl⟩
theorem BK (w:World) (B n c m d:Nat) (A C:ay) (l b:aj) (g:bT .u8 w B A n l) (j:bT .u8 w B C m b) (r:(n:Int)<=1000000000) (h:l=b):
  Calls Tryz.prog 16 #[.slice A n c, .slice C m d] w λe w'=>e= .returned (.bool true)/\∃q,w'=w.drewN q:=by
 have o:n=m:=by rw[g.1,j.1,h]
 subst o;subst h;go_enter Tryz.func16,Tryz.ntmps16;go_wp2
 go_loopw [5] (λi wr=>∃k q:Nat,k<=n/\i= .int .i64 k/\wr=w.drewN q) (λi _=>n-(intOf i).toNat)
 case atStart=>exact⟨0,0,aF _,rfl,rfl⟩
 obtain⟨k,q,t,rfl,rfl⟩ :=hrel;by_cases a:k<n
 · obtain⟨x,rfl,_,p⟩ :=g.at_ a;obtain⟨u,rfl,_,f⟩ :=j.at_ a;have s:(0:Int)<=k/\(k:Int)<n:=ω;obtain⟨v,hv⟩ :=ν (ix l k:Int);rw[hv]at p f;clear hv;go_wp2;go_quiet (fail);go_wp2;go_roundw
   case rel=>exact⟨k+1,_,ω,by go_num,rfl⟩
   case measure=>simp [intOf];omega
 obtain rfl:n=k:=ω;go_wp2;go_ret;exact⟨rfl,_,rfl⟩
theorem Tz (A C:ay) (n m c d:Nat) (l f:aj) (w:World) (B:Nat) (r:bT .i64 w B A n l) (hf:bT .i64 w B C m f) (E:n<=1000) (F:m<=1000):
  Calls Tryz.prog 119 #[.slice A n c, .slice C m d] w λe w'=>e= .returned (.int .i64 (fc l f (min n m)))/\∃q,w'=w.drewN q:=by
 go_enter Tryz.func119,Tryz.ntmps119;go_wp2
 all_goals
  go_loopw [5,14] (λs i wr=>∃k:Nat,k<=min n m/\i= .int .i64 k/\s= .int .i64 (fc l f k)/\∃q,wr=w.drewN q) (λ_ i _=>min n m-(intOf i).toNat)
  case atStart=>exact⟨0,aF _,rfl,rfl,0,rfl⟩
  obtain⟨k,H,rfl,rfl,q,rfl⟩ :=hrel;by_cases p:k<min n m
  rotate_left
  · have:k=min n m:=ω;subst this;go_wp2;go_ret;exact⟨rfl,_,rfl⟩
  have z:=r.at_ (i:=k) ω;have y:=hf.at_ (i:=k) ω;obtain⟨J,rfl,_,x⟩ :=z;obtain⟨I,rfl,_,v⟩ :=y;have G:k<n:=ω;have t:k<m:=ω;have u:(k:Int)<((min n m:Nat):Int):=ω;have bd:=mE l f k ω;have D:=D7 (ix l k) (ix f k);by_cases ht:0<ix l k/\0<ix f k/\ix f k<=1048576/\ix l k<=1048576
  · obtain⟨o,j,h,g⟩ :=ht;have a:=Am o j h g;rw[a]at D;have b:Hid (fc l f (k+1)=fc l f k+ix l k*ix f k):=by show fc l f k+pz (ix l k) (ix f k)=_;rw[a]
    clear a;go_wp2;go_quiet (fail);go_wp2;go_roundw
    case rel=>exact⟨k+1,ω,by go_num,by rw[b.out],_,rfl⟩
    case measure=>simp [intOf];omega
  have a:=D8 ht;have b:Hid (fc l f (k+1)=fc l f k):=by show fc l f k+pz (ix l k) (ix f k)=_;rw[a];omega
  clear a;go_wp2;go_quiet (fail);go_wp2
  all_goals
   go_roundw
   case rel=>exact⟨k+1,ω,by go_num,by rw[b.out],_,rfl⟩
   case measure=>simp [intOf];omega
theorem OS {a b:Int} (h:0<=a/\a<4294967296) (h':0<=b/\b<4294967296):bits .xor .u32 a b=rD a b:=u32_xor a b h.1 h.2 h'.1 h'.2
theorem OO {x:Int} (h:0<=x/\x<4294967296) (a:x%2=1):BU x=bits .xor .u32 (x/2) 3988292384:=by
 rw[OS ω ω];unfold BU MQ rD;rw[af ω];congr 2;omega
theorem Xl {x:Int} (h:0<=x/\x<4294967296) (a:¬x%2=1):BU x=x/2:=by
 unfold BU MQ;rw[aa ω];omega
theorem YM {x:Int} (h:0<=x/\x<4294967296):bits .and .u32 x 1=x%2:=by
 rw[u32_and x 1 h.1 h.2 ω ω];have:x.toNat&&& (1:Int).toNat=x.toNat%2:=Nat.and_one_is_mod _;rw[this];omega
theorem Xh (x:Int) (w:World) (h:0<=x/\x<4294967296):
  Calls Tryz.prog 67 #[.int .u32 x] w λe w'=>e= .returned (.int .u32 (BU x))/\w=w':=by
 have a:=YM h;by_cases b:x%2=1
 · have H:=η (OO h b);have t:(bits .and .u32 x 1 != 0)=true:=by rw[a,b];rfl
   clear a;go_enter Tryz.func67,Tryz.ntmps67;go_wp2;go_ret;exact⟨bZ H.out.symm,rfl⟩
 have H:=η (Xl h b);have t:(bits .and .u32 x 1 != 0)=false:=by rw[a,show x%2=0 by omega];rfl
 clear a;go_enter Tryz.func67,Tryz.ntmps67;go_wp2;go_ret;exact⟨bZ H.out.symm,rfl⟩
def oD (k i:Nat):Value:= .int .u32 (if i<k then nE 8 (i:Int)else 0)
theorem yb (i:Nat):Value.int .u32 0=oD 0 i:=by unfold oD;rw[aa (jw _)]
theorem Xw (k j:Nat):upd (oD k) k (.int .u32 (nE 8 (k:Int))) j=oD (k+1) j:=by
 by_cases a:j=k
 · subst a;rw[upd_same];unfold oD;rw[af ω]
 rw[dx _ _ a];unfold oD;congr 1;by_cases h':j<k
 · rw[af h',af ω]
 rw[aa h',aa ω]
theorem wO:(Tryz.prog.info? 83).map (·.size)=some 256:=by kernel_rfl
theorem Cc (n:Nat) (z:Value):eH n z=iN n (λ_=>z):=by
 unfold iN eH
 apply Array.ext
 · simp
 intro i b a;simp
theorem OT (W:World):(zeroValue 83).run Tryz.prog W= .ok (.agg (eH 256 (.int .u32 0))) W:=by kernel_rfl
theorem Rx (w:World):Calls Tryz.prog 44 #[] w λe w'=>e= .returned (.agg (iN 256 (oD 256)))/\Below w.heap.size w w':=by
 have hz:=OT;go_enter Tryz.func44,Tryz.ntmps44;go_wp2;clear hz;have a:qp (w.alloc (.cells (eH 256 (.int .u32 0)) 83)) w.heap.size 83 256 (oD 0):=qp.new rfl _ _ (by rw[Cc];exact oT λi _=>yb i);have b:qp ((w.alloc (.cells (eH 256 (.int .u32 0)) 83)).alloc (.cells (eH 256 (.int .u32 0)) 83)) (w.heap.size+1) 83 256 (oD 0):=qp.new σ _ _ (by rw[Cc];exact oT λi _=>yb i);have d:Below w.heap.size w ((w.alloc (.cells (eH 256 (.int .u32 0)) 83)).alloc (.cells (eH 256 (.int .u32 0)) 83)):=((ax _ _).alloc (ai _) _).alloc σ _;have a:=a.alloc (.cells (eH 256 (.int .u32 0)) 83);obtain⟨w1,g⟩ :∃w1:World,w1=(w.alloc (.cells (eH 256 (.int .u32 0)) 83)).alloc (.cells (eH 256 (.int .u32 0)) 83):= ⟨_,rfl⟩;rw[<-g]at a b d⊢;clear g
 go_loopw [4] (λi wr=>∃k:Nat,k<=256/\i= .int .i64 k/\qp wr w.heap.size 83 256 (oD 0)/\qp wr (w.heap.size+1) 83 256 (oD k)/\Below w.heap.size w wr) (λi _=>256-(intOf i).toNat)
 case atStart=>exact⟨0,ω,rfl,a,b,d⟩
 obtain⟨k,t,rfl,a,b,d⟩ :=hrel;by_cases f:k<256
 rotate_left
 · obtain rfl:256=k:=ω
   go_wp2_with (first
    | (refine wpList_load_row rfl 83 (.tmp 1) rfl (w.heap.size+1) rfl 83 _ (0,0) _ b Tryz.underlying83 rfl (by rw[jh];exact wO) ?_)
    | (refine wpList_store_row rfl 83 (.tmp 0) (.tmp 18) rfl w.heap.size (iN 256 (oD 256)) rfl rfl 83 _ a (by rw[jh];exact wO) (by rw[jh,jh]) (CX _ _ λ_ _=>rfl) ?_))
   refine bj (results_cell_row rfl _ _ w.heap.size 83 (iN 256 (oD 256)) (0,0) _ rfl (a.row 256 (oD 256)) Tryz.underlying83 rfl (by rw[jh];exact wO)) rfl ?_;exact⟨rfl,vF d (ai _) _⟩
 have c1:=b.cell f;have p:=b.frozen k;have s:(0:Int)<=(k:Int)/\(k:Int)<256:=ω;obtain⟨q,n⟩ :=ν ((k:Int):Int);have u:=η n;clear n;go_wp2;go_loop [3,9] (λx j=>∃(m:Nat) (v:Int),m<=8/\j= .int .i64 m/\x= .int .u32 v/\0<=v/\v<4294967296/\Hid (v=nE m (k:Int))) (λ_ j=>8-(intOf j).toNat)
 case atStart=>exact⟨0,_,ω,rfl,rfl,ω,ω,(BW ω).symm⟩
 obtain⟨m,v,r,rfl,rfl,c,h,HV⟩ :=hrel;by_cases o:m<8
 · have l:=OM ⟨c,h⟩
   go_wp2_with fail;refine(Xh _ _ ⟨c,h⟩).mono ?_;rintro e w' ⟨rfl,rfl⟩;go_wp2
   go_round
   case rel=>exact⟨m+1,_,ω,by go_num,rfl,l.1,l.2,by show _=_;rw[BV,HV.out]⟩
   case measure=>simp [intOf];omega
 obtain rfl:8=m:=ω;go_wp2;go_roundw
 case rel=>exact⟨k+1,ω,by go_num,a.far σ _,(b.bK k _).congr λj _=>by rw[HV.out];exact Xw k j,d.setCell σ _⟩
 case measure=>simp [intOf];omega
def iz (s:Int):Int:=rD 4294967295 s
theorem ku {s:Int} (h:0<=s/\s<4294967296):0<=iz s/\iz s<4294967296:=Gn ω h
theorem Oi {s:Int} (h:0<=s/\s<4294967296):bits .xor .u32 IntKind.u32.max s=iz s:=OS δ h
theorem b1k {a b:Int} (h:0<=a/\a<256) (h':0<=b/\b<256):bits .xor .u8 a b=rD a b:=u8_xor a b h.1 h.2 h'.1 h'.2
theorem a19 {i:Int} (h:0<=i/\i<256):oD 256 i.toNat= .int .u32 (nE 8 i):=by
 unfold oD;rw[af ω];congr 2;omega
theorem zt (s:Int) (A:ay) (n c B:Nat) (l:aj) (w:World) (G:bT .u8 w B A n l) (J:B<=w.heap.size) (z:∀i,0<=ix l i/\ix l i<256) (y:0<=s/\s<4294967296) (O:n<=1000000000):
  Calls Tryz.prog 26 #[.int .u32 s, .slice A n c] w λe w'=>e= .returned (.int .u32 (iz (mq (iz s) l n)))/\Below w.heap.size w w':=by
 have hz:=OT;have L:=η z;clear z;go_enter Tryz.func26,Tryz.ntmps26
 go_wp2_with fail;refine(Rx _).mono ?_;rintro e w1 ⟨rfl,f⟩;have u:qp (w1.alloc (.cells (eH 256 (.int .u32 0)) 83)) w1.heap.size 83 256 (oD 0):=qp.new rfl _ _ (by rw[Cc];exact oT λi _=>yb i)
 go_wp2_with (refine wpList_store_row rfl 83 (.tmp 5) (.tmp 9) rfl w1.heap.size (iN 256 (oD 256)) rfl rfl 83 _ u (by rw[jh];exact wO) (by rw[jh,jh]) (CX _ _ λ_ _=>rfl) ?_)
 clear hz;have t:qp ((w1.alloc (.cells (eH 256 (.int .u32 0)) 83)).setRow w1.heap.size (iN 256 (oD 256))) w1.heap.size 83 256 (oD 256):=u.row 256 (oD 256);have j:Below w.heap.size w ((w1.alloc (.cells (eH 256 (.int .u32 0)) 83)).setRow w1.heap.size (iN 256 (oD 256))):=vF (f.alloc f.size _) f.size _;obtain⟨g,r⟩ :∃g,g=w1.heap.size:= ⟨_,rfl⟩;obtain⟨w2,m⟩ :∃w2:World,w2=(w1.alloc (.cells (eH 256 (.int .u32 0)) 83)).setRow w1.heap.size (iN 256 (oD 256)):= ⟨_,rfl⟩;rw[<-m]at t j⊢;rw[<-r]at t⊢;have H:w.heap.size<=g:=by rw[r];exact f.size
 clear m r u f;have N:=η (Oi y);have D:=ku y;have p:=(G.more J).below j;rw[N.out];go_loop [6,14] (λx i=>∃(k:Nat) (v:Int),k<=n/\i= .int .i64 k/\x= .int .u32 v/\0<=v/\v<4294967296/\Hid (v=mq (iz s) l k)) (λ_ i=>n-(intOf i).toNat)
 case atStart=>exact⟨0,_,ω,rfl,rfl,D.1,D.2,rfl⟩
 obtain⟨k,v,P,rfl,rfl,h,o,HV⟩ :=hrel;by_cases q:k<n
 rotate_left
 · obtain rfl:n=k:=ω;have S:=Oi ⟨h,o⟩;go_wp2;go_ret;exact⟨bZ (by rw[HV.out]),j⟩
 obtain⟨R,rfl,_,K⟩ :=p.at_ q;have d:=L.out k;obtain⟨b,f⟩ :∃b:Int,b=ix l k:= ⟨_,rfl⟩;rw[<-f]at K d;have M:=η f;clear f;have F:=XN (a:=v%256) (b:=b) ω d;have Q:=b1k (a:=v%256) (b:=b) ω d;have c1:=t.cell (i:=(rD (v%256) b).toNat) ω;rw[a19 F]at c1;have E:=JJ 8 (x:=rD (v%256) b) ω;have I:=OS (a:=nE 8 (rD (v%256) b)) (b:=v/256) E ω;rw[MT ⟨h,o⟩ d]at I;have C:=D9 ⟨h,o⟩ d;go_wp2
 go_round
 case rel=>exact⟨k+1,_,ω,by go_num,rfl,C.1,C.2,by show su v b=su _ _;rw[<-HV.out,<-M.out]⟩
 case measure=>simp [intOf];omega
theorem Rk (x:Int) (w:World) (h:0<=x/\x<4294967296):
  Calls Tryz.prog 55 #[.int .u32 x] w λe w'=>e= .returned (.int .u32 (BU x))/\w=w':=by
 by_cases a:x%2=1
 · have H:=η (OO h a);have t:(x%2==1)=true:=by rw[a];rfl
   clear a;go_enter Tryz.func55,Tryz.ntmps55;go_wp2;go_ret;exact⟨bZ H.out.symm,rfl⟩
 have H:=η (Xl h a);have t:(x%2==1)=false:=by simpa using a
 clear a;go_enter Tryz.func55,Tryz.ntmps55;go_wp2;go_ret;exact⟨bZ H.out.symm,rfl⟩
theorem Jl (s:Int) (A:ay) (n c B:Nat) (l:aj) (w:World) (E:bT .u8 w B A n l) (z:∀i,0<=ix l i/\ix l i<256) (y:0<=s/\s<4294967296) (K:n<=1000000000):
  Calls Tryz.prog 33 #[.int .u32 s, .slice A n c] w λe w'=>e= .returned (.int .u32 (iz (mq (iz s) l n)))/\w=w':=by
 have H:=η z;have J:=η (Oi y);have D:=ku y;clear z;go_enter Tryz.func33,Tryz.ntmps33;go_wp2;rw[J.out];go_loop [5,6] (λx i=>∃(k:Nat) (v:Int),k<=n/\i= .int .i64 k/\x= .int .u32 v/\0<=v/\v<4294967296/\Hid (v=mq (iz s) l k)) (λ_ i=>n-(intOf i).toNat)
 case atStart=>exact⟨0,_,ω,rfl,rfl,D.1,D.2,rfl⟩
 obtain⟨k,v,M,rfl,rfl,d,h,HV⟩ :=hrel;by_cases o:k<n
 rotate_left
 · obtain rfl:n=k:=ω;have P:=Oi ⟨d,h⟩;go_wp2;go_ret;exact⟨bZ (by rw[HV.out]),rfl⟩
 obtain⟨O,rfl,_,G⟩ :=E.at_ o;have p:=H.out k;obtain⟨b,q⟩ :∃b:Int,b=ix l k:= ⟨_,rfl⟩;rw[<-q]at G p;have I:=η q;clear q;have N:=OS (a:=v) (b:=b) ⟨d,h⟩ ω;have r:=Gn (a:=v) (b:=b) ⟨d,h⟩ ω;go_wp2;go_loop [5,7] (λx j=>∃(m:Nat) (u:Int),m<=8/\j= .int .i64 m/\x= .int .u32 u/\0<=u/\u<4294967296/\Hid (u=nE m (rD v b))) (λ_ j=>8-(intOf j).toNat)
 case atStart=>exact⟨0,_,ω,rfl,rfl,r.1,r.2,(BW r.1).symm⟩
 obtain⟨m,u,L,rfl,rfl,g,f,C⟩ :=hrel;by_cases F:m<8
 · have t:=OM ⟨g,f⟩
   go_wp2_with fail;refine(Rk _ _ ⟨g,f⟩).mono ?_;rintro e w' ⟨rfl,rfl⟩;go_wp2
   go_round
   case rel=>exact⟨m+1,_,ω,by go_num,rfl,t.1,t.2,by show _=_;rw[BV,C.out]⟩
   case measure=>simp [intOf];omega
 obtain rfl:8=m:=ω;go_wp2
 go_round
 case rel=>exact⟨k+1,_,ω,by go_num,rfl,g,f,by show _=su _ _;rw[<-HV.out,<-I.out];exact C.out⟩
 case measure=>simp [intOf];omega
end Go.Proofs.YtdhmnlpfhfmpfaaGreat
