/-
  part
-/
import Derived.WalkKit
import Derived.WalkLawsBesides
import Derived.WalkSpells
import Derived.Below
import Derived.Laws.OwnMore
import Derived.Deep.AppendLies
import Derived.Deep.Draws
import Derived.Deep.QuietTactic
import Derived.BigQuiet
import Derived.BigGuardPart
import Derived.Lib.Hide
import Derived.LoopTactic
import Derived.Deep.LoopGhost
import Derived.RegionTactic
import Derived.Outline
import Derived.WalkSmall
import Derived.OneCell
set_option linter.unusedVariables false
set_option maxRecDepth 100000
set_option maxHeartbeats 4000000
namespace Go.Proofs.YtddhegejmkgmjaaGreat
open Go.RowKit
theorem ω {p:Prop} (h:p:=by omega):p:=h
theorem σ {p:Prop} (h:p:=by simp):p:=h
theorem δ {p:Prop} (h:p:=by decide):p:=h
theorem ξ {p:Prop} (h:p:=by simp;omega):p:=h
theorem ν {α:Sort _} (a:α):∃b,a=b:=⟨a,rfl⟩
theorem η {p:Prop} (h:p):Hid p:=h
theorem aw (a:Addr) (n:Nat):(a.add n).block=a.block:=by unfold Addr.add;split <;> rfl
theorem BS (a:Addr) (i j:Nat):(a.add i).add j=a.add (i+j):=by
 unfold Addr.add;by_cases hi:i=0 <;> by_cases b:j=0 <;> simp [hi,b,Nat.add_assoc]
def Rd (w:World) (B:Nat) (A:Option Addr) (m:Nat) (f:Nat->Value):Prop:=
 0<m->∃a,A=some a/\a.block<B/\∀i,i<m->w.cell? (a.add i)=some (f i)
def ix (l:List Int) (i:Nat):Int:=l.getD i 0
def aT (k:IntKind) (w:World) (B:Nat) (A:Option Addr) (n:Nat) (l:List Int):Prop:=
 n=l.length/\Rd w B A n (λi=> .int k (ix l i))
section
variable {w w':World} {B B' n m:Nat} {A:Option Addr} {f:Nat->Value}
theorem Rd.br:Rd w B A 0 f:=λh=>absurd h ω
theorem Rd.keep (h:Rd w B A m f) (c:∀p:Addr,p.block<B->w'.cell? p=w.cell? p):Rd w' B A m f:=λb=>by
 obtain⟨g,e,a,d⟩ :=h b;exact⟨g,e,a,λi hi=>(c _ (by rw[aw];exact a)).trans (d i hi)⟩
theorem Rd.more (h:Rd w B A m f) (g:B<=B'):Rd w B' A m f:=λa=>by
 obtain⟨c,e,d,b⟩ :=h a;exact⟨c,e,ω,b⟩
theorem Rd.below (h:Rd w B A m f) (a:Below B w w'):Rd w' B A m f:=h.keep λ_ hp=>a.cell hp
theorem Rd.congr {g:Nat->Value} (h:Rd w B A m f) (a:∀i,i<m->f i=g i):Rd w B A m g:=λb=>by
 obtain⟨j,e,d,c⟩ :=h b;exact⟨j,e,d,λi hi=>by rw[c i hi,a i hi]⟩
end
section
variable {k:IntKind} {w w':World} {B B' n:Nat} {A:Option Addr} {l:List Int}
theorem aT.at_ (h:aT k w B A n l) {i:Nat} (hi:i<n):∃a,A=some a/\a.block<B/\w.cell? (a.add i)=some (.int k (ix l i)):=by
 obtain⟨a,e,c,b⟩ :=h.2 ω;exact⟨a,e,c,b i hi⟩
theorem aT.keep (h:aT k w B A n l) (a:∀p:Addr,p.block<B->w'.cell? p=w.cell? p):aT k w' B A n l:= ⟨h.1,h.2.keep a⟩
theorem aT.more (h:aT k w B A n l) (a:B<=B'):aT k w B' A n l:= ⟨h.1,h.2.more a⟩
theorem aT.below (h:aT k w B A n l) (a:Below B w w'):aT k w' B A n l:= ⟨h.1,h.2.below a⟩
theorem aT.drewN (h:aT k w B A n l) (j:Nat):aT k (w.drewN j) B A n l:=h
end
theorem aK {k:IntKind} {a b:Int} (h:a=b):Ending.returned (.int k a)= .returned (.int k b):=by rw[h]
theorem qE {a b:Bool} (h:a=b):Ending.returned (.bool a)= .returned (.bool b):=by rw[h]
def Ar (w:World) (g m:Nat) (f:Nat->Value):Prop:=
 ∃(cs:Array Value) (t:TypeId) (fr:Nat×Nat),w.heap[g]?=some (.cells cs t fr)/\(m<=fr.1\/fr.2=0)/\m<=cs.size/\∀i,i<m->cs[i]?=some (f i)
def upd {α:Type} (f:Nat->α) (i:Nat) (v:α):Nat->α:=λj=>if j=i then v else f j
theorem upd_same {α:Type} (f:Nat->α) (i:Nat) (v:α):upd f i v i=v:=by simp [upd]
theorem bm {α:Type} (f:Nat->α) {i j:Nat} (v:α) (h:j≠i):upd f i v j=f j:=by simp [upd,h]
section
variable {w w':World} {g m:Nat} {f:Nat->Value}
theorem Ar.lt (h:Ar w g m f):g<w.heap.size:=by
 obtain⟨cs,t,b,a,_⟩ :=h;exact lt_of_block a
theorem Ar.cell (h:Ar w g m f) {i:Nat} (hi:i<m):w.cell? ⟨g,i,none⟩ =some (f i):=by
 obtain⟨cs,t,c,a,_,_,b⟩ :=h;rw[cell_of_row w g i cs t c a,b i hi]
theorem Ar.frozen' (h:Ar w g m f) {i:Nat} (hi:i<m):w.frozen? ⟨g,i,none⟩ =false:=by
 obtain⟨cs,t, ⟨lo,a⟩,b,c,_⟩ :=h;simp [World.frozen?,b]
 simp at c;omega
theorem Ar.drewN (h:Ar w g m f) (k:Nat):Ar (w.drewN k) g m f:=h
theorem Ar.drew (h:Ar w g m f):Ar w.drew g m f:=h
theorem Ar.same (h:Ar w g m f) (b:w'.heap[g]?=w.heap[g]?):Ar w' g m f:=by
 obtain⟨cs,t,c,a,r⟩ :=h;exact⟨cs,t,c,b.trans a,r⟩
theorem Ar.alloc (h:Ar w g m f) (o:Obj):Ar (w.alloc o) g m f:=h.same (Below.heap_alloc w o g h.lt)
theorem Ar.far (h:Ar w g m f) {p:Addr} (hp:g≠p.block) (u:Value):Ar (w.setCell p u) g m f:=h.same (Below.heap_setCell w p u g hp)
theorem Ar.below {B:Nat} (h:Ar w g m f) (b:Below B w w') (a:g<B):Ar w' g m f:=h.same (b.block g a)
theorem Ar.keeps (h:Ar w g m f) (a:Below w.heap.size w w'):Ar w' g m f:=h.below a h.lt
theorem Ar.grown {row:Option Nat} (h:Ar w g m f) (b:w.grownBy w' row) (a:some g≠row):Ar w' g m f:=h.same (b.block g h.lt a)
theorem Ar.aQ (h:Ar w g m f) {i:Nat} (hi:i<m) (u:Value):Ar (w.setCell ⟨g,i,none⟩ u) g m (upd f i u):=by
 obtain⟨cs,t,l,d,e,b,k⟩ :=h;refine⟨cs.setIfInBounds i u,t,l, ?_,e,by simpa using b,λj c=> ?_⟩
 · simp [World.setCell,Array.getElem?_modify,d]
 · rw[Array.getElem?_setIfInBounds];by_cases a:i=j
   · subst a;rw[if_pos rfl,if_pos ω,upd_same]
   · rw[if_neg a,k j c,bm _ _ ω]
theorem Ar.congr {f':Nat->Value} (h:Ar w g m f) (d:∀i,i<m->f i=f' i):Ar w g m f':=by
 obtain⟨cs,t,j,c,a,b,e⟩ :=h;exact⟨cs,t,j,c,a,b,λi hi=>by rw[e i hi,d i hi]⟩
theorem Ar.new (w:World) (cs:Array Value) (t:TypeId) (a:cs.size=m) (b:∀i,i<m->cs[i]?=some (f i)):Ar (w.alloc (.cells cs t)) w.heap.size m f:=
 ⟨cs,t,(0,0),heap_alloc_new w _, .inr rfl,Nat.le_of_eq a.symm,b⟩
theorem Ar.rd (h:Ar w g m f) {B n:Nat} (a:g<B) (b:n<=m):Rd w B (some ⟨g,0,none⟩) n f:=λ_=>by
 refine⟨_,rfl,a,λi hi=> ?_⟩;have:(⟨g,0,none⟩ :Addr).add i= ⟨g,i,none⟩ :=by unfold Addr.add;split <;> simp_all
 rw[this];exact h.cell ω
end
theorem aT.head {k:IntKind} {w:World} {B n g:Nat} {l:List Int} (h:aT k w B (some ⟨g,0,none⟩) n l) {i:Nat} (hi:i<n):w.cell? ⟨g,i,none⟩ =some (.int k (ix l i)):=by
 obtain⟨b,e,_,a⟩ :=h.at_ hi;cases e;have:(⟨g,0,none⟩ :Addr).add i= ⟨g,i,none⟩ :=by unfold Addr.add;split <;> simp_all
 rwa [this]at a
theorem yb {k:IntKind} {w:World} {a:Option Addr} {len cap:Nat} {zs:List Int}
  (h:(a=none/\len=0/\cap=0/\zs=[])\/∃x,a=some x/\len<=cap/\cap<=maxLen/\zs.length=cap/\(∀i,i<zs.length->w.cell? (x.add i)=some (.int k (zs.getD i 0)))/\∀n∈zs,(Lit.int k n).wf=true):
  aT k w w.heap.size a len (zs.take len)/\len<=maxLen/\∀n∈zs.take len,(Lit.int k n).wf=true:=by
 rcases h with ⟨rfl,rfl,rfl,rfl⟩ | ⟨x,rfl,m,l,j,e,f⟩
 · exact⟨⟨rfl,Rd.br⟩,Nat.zero_le _,λn b=>by simp at b⟩
 · refine⟨⟨ξ,λo=> ⟨x,rfl, ?_,λi hi=> ?_⟩⟩,ω,λn b=>f n (List.mem_of_mem_take b)⟩
   · have g:=e 0 ω
     have c:(x.add 0).block<w.heap.size:=by
      rcases Nat.lt_or_ge (x.add 0).block w.heap.size with d | d
      · exact d
      · simp [World.cell?,Array.getElem?_eq_none d]at g
     rwa [aw]at c
   · rw[e i ω];congr 2;simp [ix,hi]
theorem bounds_i64 {x:Int} (h:(Lit.int .i64 x).wf=true): -9223372036854775808<=x/\x<=9223372036854775807:=by
 simpa [Lit.wf,IntKind.min,IntKind.max,IntKind.signed,IntKind.bits] using h
theorem bounds_u8 {x:Int} (h:(Lit.int .u8 x).wf=true):0<=x/\x<256:=by
 have:0<=x/\x<=255:=by simpa [Lit.wf,IntKind.min,IntKind.max,IntKind.signed,IntKind.bits] using h
 omega
theorem a2A {k:IntKind} {l:List Int} (h:∀n∈l,(Lit.int k n).wf=true) (a:(Lit.int k 0).wf=true) (i:Nat):(Lit.int k (ix l i)).wf=true:=by
 unfold ix;rw[List.getD_eq_getElem?_getD];cases hi:l[i]? with
 | none=>simpa using a
 | some v=>exact h v (List.mem_of_getElem? hi)
theorem aT.lit (k:IntKind) (w:World) (l:List Int) (t:TypeId):aT k (w.alloc (.cells (l.map (Value.int k)).toArray t)) (w.heap.size+1) (some ⟨w.heap.size,0,none⟩) l.length l:=by
 refine⟨rfl, ?_⟩
 have h:Ar (w.alloc (.cells (l.map (Value.int k)).toArray t)) w.heap.size l.length (λi=> .int k (ix l i)):=
  Ar.new w _ t σ λi hi=>by simp [ix,hi]
 exact h.rd ω (Nat.le_refl _)
theorem aT.SK (k:IntKind) {w:World} {g:Nat} (a:g=w.heap.size) (l:List Int) (t:TypeId):aT k (w.alloc (.cells (l.map (Value.int k)).toArray t)) (g+1) (some ⟨g,0,none⟩) l.length l:=by
 subst a;exact aT.lit k w l t
theorem aT.alloc {k:IntKind} {w:World} {B n:Nat} {A:Option Addr} {l:List Int} (h:aT k w B A n l) (a:B<=w.heap.size) (o:Obj):aT k (w.alloc o) B A n l:=
 h.keep λp hp=>World.cell?_alloc_lt w o p ω
def Sz (w:World) (n:Nat):Prop:=w.heap.size=n
theorem Sz.aQ {w:World} {n:Nat} (h:Sz w n) (p:Addr) (u:Value):Sz (w.setCell p u) n:=by unfold Sz at*;simpa [World.setCell] using h
theorem Sz.drew {w:World} {n:Nat} (h:Sz w n):Sz w.drew n:=h
theorem Sz.drewN {w:World} {n:Nat} (h:Sz w n) (k:Nat):Sz (w.drewN k) n:=h
theorem Sz.alloc {w:World} {n:Nat} (h:Sz w n) (o:Obj):Sz (w.alloc o) (n+1):=by unfold Sz at*;simp [h]
def cn (n:Nat) (z:Value):Array Value:=Array.replicate n z
theorem kS (n:Nat) (z:Value):(cn n z).size=n:=by simp [cn]
theorem J0 {n i:Nat} (z:Value) (hi:i<n):(cn n z)[i]?=some z:=by simp [cn,hi]
theorem Ar.zeros (w:World) (n:Nat) (z:Value) (t:TypeId):Ar (w.alloc (.cells (cn n z) t)) w.heap.size n (λ_=>z):=
 Ar.new w _ t (kS n z) λ_ hi=>J0 z hi
theorem Ar.Hd {w:World} (n:Nat) (z:Value) (t:TypeId) {g:Nat} (a:g=w.heap.size):Ar (w.alloc (.cells (cn n z) t)) g n (λ_=>z):=by
 subst a;exact Ar.zeros w n z t
theorem cF {P:Program} (t e:TypeId) (i:TypeInfo) (z:Value) (ht:P.underlying t=some (.slice e)) (hi:P.info? e=some i) (f:i.zero=some z) (g:i.size=1) (d:z.cells= #[z])
  (kl b:IntKind) (n:Nat) (a:i.bytes*n<=281474976710656) (l:n<=9223372036854775807) (w:World):
  (Instr.makeSlice t (.int kl (n:Int)) (.int b (n:Int))).run P w= .ok (.slice (some ⟨w.heap.size,0,none⟩) n n) (w.alloc (.cells (cn n z) e)):=by
 have k:(i.bytes:Int)*(n:Int)<=281474976710656:=by
  have h:((i.bytes*n:Nat):Int)<=281474976710656:=ω
  rwa [Int.natCast_mul]at h
 have c:=run_make (P:=P) w t e i z ht hi f kl b n n ω ω k ω;simp only [Int.toNat_natCast,g,Nat.mul_one]at c;rw[c]
 have:madeCells z.cells n=cn n z:=by
  apply Array.ext
  · rw[size_madeCells,kS]
  · intro j o m;have e:(#[z]:Array Value).size=1:=rfl;simp [madeCells,cn,d,Nat.mod_one]
 rw[this]
theorem xf {P:Program} (t e:TypeId) (i:TypeInfo) (z:Value) (ht:P.underlying t=some (.slice e)) (hi:P.info? e=some i) (g:i.zero=some z) (k:i.size=1) (f:z.cells= #[z])
  (kl b:IntKind) (n c:Nat) (o:n<=c) (a:i.bytes*c<=281474976710656) (m:c<=9223372036854775807) (w:World):
  (Instr.makeSlice t (.int kl (n:Int)) (.int b (c:Int))).run P w= .ok (.slice (some ⟨w.heap.size,0,none⟩) n c) (w.alloc (.cells (cn c z) e)):=by
 have l:(i.bytes:Int)*(c:Int)<=281474976710656:=by
  have h:((i.bytes*c:Nat):Int)<=281474976710656:=ω
  rwa [Int.natCast_mul]at h
 have d:=run_make (P:=P) w t e i z ht hi g kl b n c ω ω l ω;simp only [Int.toNat_natCast,k,Nat.mul_one]at d;rw[d]
 have:madeCells z.cells c=cn c z:=by
  apply Array.ext
  · rw[size_madeCells,kS]
  · intro j q p;have e:(#[z]:Array Value).size=1:=rfl;simp [madeCells,cn,f,Nat.mod_one]
 rw[this]
def lB (j:Nat):Nat:=if j=28 then 258 else if j<8 then 3+j else 3+(4+j%4)*2 ^ (j/4-1)
def lE (j:Nat):Nat:=if j=28 then 0 else if j<8 then 0 else j/4-1
def dB (j:Nat):Nat:=if j<4 then 1+j else 1+(2+j%2)*2 ^ (j/2-1)
def dE (j:Nat):Nat:=if j<4 then 0 else j/2-1
def lR (j:Nat):Nat:=if j=28 then 259 else lB j
theorem Rf:∀j,j<30->dB (j+1)=dB j+2 ^ dE j:=by decide+kernel
theorem SD:∀j,j<28->lB (j+1)<=lB j+2 ^ lE j:=by decide+kernel
theorem CW:∀j,j<29->3<=lB j/\lB j<=258/\lE j<=5:=by decide+kernel
theorem Fc:∀j,j<30->1<=dB j/\dB j<=24577/\dE j<=13:=by decide+kernel
def mL (B:Nat->Nat) (top:Nat) (n:Int) (j:Nat):Prop:=j<=top/\((B j:Nat):Int)<=n/\∀i,j<i->i<=top->n<((B i:Nat):Int)
theorem mL.uniq {B:Nat->Nat} {top:Nat} {n:Int} {j k:Nat} (h:mL B top n j) (b:mL B top n k):j=k:=by
 rcases Nat.lt_trichotomy j k with a | a | a
 · have:=h.2.2 k a b.1;have:=b.2.1;omega
 · exact a
 · have:=b.2.2 j a h.1;have:=h.2.1;omega
theorem mL.UM {n:Int} {j:Nat} (h:mL lB 28 n j) (c:n<=258):n-((lB j:Nat):Int)<((2 ^ lE j:Nat):Int):=by
 obtain⟨e,d,b⟩ :=h;by_cases a:j=28
 · subst a;have:lB 28=258:=δ;have:2 ^ lE 28=1:=δ;omega
 · have h4:=b (j+1) ω ω;have h5:=SD j ω;omega
theorem mL.UL {n:Int} {j:Nat} (h:mL dB 29 n j) (c:n<=32768):n-((dB j:Nat):Int)<((2 ^ dE j:Nat):Int):=by
 obtain⟨e,d,b⟩ :=h;have h5:=Rf j ω;by_cases a:j=29
 · subst a;have:dB (29+1)=32769:=δ;omega
 · have h4:=b (j+1) ω ω;omega
def eI (B E:Nat->Nat) (lo hi off:Int) (top:Nat) (n:Int) (v:Value):Prop:=
 ((n<lo\/hi<n)/\v= .tuple #[.int .i64 0, .int .i64 0, .int .i64 0])\/
 ((lo<=n/\n<=hi)/\∃j,mL B top n j/\v= .tuple #[.int .i64 (off+(j:Int)), .int .i64 ((E j:Nat):Int), .int .i64 (n-((B j:Nat):Int))])
theorem eI.uniq {B E:Nat->Nat} {lo hi off:Int} {top:Nat} {n:Int} {u v:Value} (h:eI B E lo hi off top n u) (e:eI B E lo hi off top n v):u=v:=by
 rcases h with ⟨d,rfl⟩ | ⟨d,j,b,rfl⟩ <;> rcases e with ⟨c,rfl⟩ | ⟨c,k,a,rfl⟩
 · rfl
 · omega
 · omega
 · rw[b.uniq a]
def cnt (l:List Int):Nat->Nat->Nat
 | 0,_=>0
 | k+1,v=>cnt l k v+if ix l k=(v:Int)then 1 else 0
def jd (l:List Int):Nat->Nat
 | 0=>0
 | 1=>0
 | v+2=>2*(jd l (v+1)+cnt l l.length (v+1))
def isLen (x:Int):Bool:=decide (1<=x/\x<=15)
def bQ (l:List Int) (i:Nat):Nat:=if isLen (ix l i)then jd l (ix l i).toNat+cnt l i (ix l i).toNat else 0
def eh (l:List Int):List Int:=if l.length<=288 then(List.range l.length).map λi=>(bQ l i:Int)else []
theorem gS (l:List Int) (k v:Nat):cnt l k v<=k:=by
 induction k with
 | zero=>simp [cnt]
 | succ k a=>simp only [cnt];split <;> omega
theorem Cb (l:List Int) (v:Nat) {j k:Nat} (h:j<=k):cnt l j v<=cnt l k v:=by
 induction k with
 | zero=>have:j=0:=ω
         subst this;omega
 | succ k a=>
   by_cases e:j=k+1
   · subst e;omega
   · have:=a ω;simp only [cnt];split <;> omega
theorem Y1 (l:List Int) (b:l.length<=288) (v:Nat):jd l v+576<=576*2 ^ v:=by
 induction v with
 | zero=>simp [jd]
 | succ v a=>
   cases v with
   | zero=>simp [jd]
   | succ v=>
     have:=gS l l.length (v+1);simp only [jd,Nat.pow_succ]at a⊢;omega
theorem pq (l:List Int) (a:l.length<=288) {v:Nat} (hv:v<=15):jd l v<=18874368:=by
 have h:=Y1 l a v;have b:2 ^ v<=2 ^ 15:=Nat.pow_le_pow_right ω hv;omega
theorem mQ (l:List Int) (h:l.length<=288):(eh l).length=l.length:=by simp [eh,h]
theorem lI (l:List Int) (h:l.length<=288) {i:Nat} (hi:i<l.length):ix (eh l) i=(bQ l i:Int):=by
 simp [ix,eh,h,hi]
def bc (l:List Int):Prop:=∀x∈l,x=0\/x=1
def bW:List Int->Int
 | []=>0
 | b::l=>b+2*bW l
def aX:Int->Nat->List Int
 | _,0=>[]
 | v,n+1=>v%2::aX (v/2) n
theorem af (v:Int) (n:Nat):(aX v n).length=n:=by
 induction n generalizing v with
 | zero=>rfl
 | succ n a=>simp [aX,a]
theorem bc.br:bc []:=λx h=>by cases h
theorem bc.app {a b:List Int} (h:bc a) (e:bc b):bc (a++b):=λx d=>by
 rcases List.mem_append.1 d with c | c
 · exact h x c
 · exact e x c
theorem bc.bu {a:List Int} (h:bc a) (k:Nat):bc (a.drop k):=λx b=>h x (List.mem_of_mem_drop b)
theorem bc.oL {a:List Int} (h:bc a) (k:Nat):bc (a.take k):=λx b=>h x (List.mem_of_mem_take b)
theorem bc.aX (v:Int) (n:Nat):bc (aX v n):=by
 induction n generalizing v with
 | zero=>exact bc.br
 | succ n a=>
   intro x b;rcases List.mem_cons.1 b with rfl | h
   · omega
   · exact a _ x h
theorem bc.zeros (n:Nat):bc (List.replicate n 0):=λx a=> .inl (List.eq_of_mem_replicate a)
theorem dX (a b:List Int):bW (a++b)=bW a+2 ^ a.length*bW b:=by
 induction a with
 | nil=>simp [bW]
 | cons x a c=>simp only [List.cons_append,bW,c,List.length_cons,Int.pow_succ];rw[Int.mul_add,Int.mul_right_comm,Int.mul_comm 2];omega
theorem fy {l:List Int} (h:bc l):0<=bW l/\bW l<2 ^ l.length:=by
 induction l with
 | nil=>simp [bW]
 | cons x l a=>
   have d:=a λy b=>h y (List.mem_cons_of_mem _ b)
   have c:=h x (List.mem_cons_self ..);simp only [bW,List.length_cons,Int.pow_succ];omega
theorem two_pos (n:Nat):(0:Int)<2 ^ n:=Int.pow_pos ω
theorem cP (v:Int) (n:Nat):bW (aX v n)=v%2 ^ n:=by
 induction n generalizing v with
 | zero=>simp [aX,bW]
 | succ n d=>
   have hp:=two_pos n;have e:=Int.emod_nonneg (v/2) (b:=2 ^ n) ω;have h4:=Int.emod_lt_of_pos (v/2) hp;have h5:=Int.emod_add_mul_ediv (v/2) (2 ^ n)
   have c:v%2+2*(v/2%2 ^ n)+2*2 ^ n*(v/2/2 ^ n)=v:=by
    rw[Int.mul_assoc];generalize 2 ^ n*(v/2/2 ^ n)=z at*;omega
   simp only [aX,bW,d,Int.pow_succ];rw[Int.mul_comm (2 ^ n) 2]
   calc v%2+2*(v/2%2 ^ n)=(v%2+2*(v/2%2 ^ n)+2*2 ^ n*(v/2/2 ^ n))%(2*2 ^ n):=by
         rw[Int.add_mul_emod_self_left,Int.emod_eq_of_lt (a:=v%2+2*(v/2%2 ^ n)) (b:=2*2 ^ n) ω ω]
    _=v%(2*2 ^ n):=by rw[c]
theorem xV {l:List Int} (h:bc l) (n:Nat):bW (l.take n)=bW l%2 ^ n:=by
 by_cases b:n<=l.length
 · have e:=dX (l.take n) (l.drop n);rw[List.take_append_drop,List.length_take,Nat.min_eq_left b]at e;have a:=fy (h.oL n);rw[List.length_take,Nat.min_eq_left b]at a;rw[e,Int.add_mul_emod_self_left,Int.emod_eq_of_lt a.1 a.2]
 · have a:=fy h
   have:(2:Int) ^ l.length<=2 ^ n:=by
    rw[show n=l.length+(n-l.length) by omega,Int.pow_add];have:=two_pos (n-l.length);have c:=two_pos l.length
    calc (2:Int) ^ l.length=2 ^ l.length*1:=ω
     _<=2 ^ l.length*2 ^ (n-l.length):=Int.mul_le_mul_of_nonneg_left ω ω
   rw[List.take_of_length_le ω,Int.emod_eq_of_lt a.1 ω]
theorem oc {l:List Int} (h:bc l) (n:Nat):bW (l.drop n)=bW l/2 ^ n:=by
 by_cases b:n<=l.length
 · have e:=dX (l.take n) (l.drop n);rw[List.take_append_drop,List.length_take,Nat.min_eq_left b]at e;have a:=fy (h.oL n);rw[List.length_take,Nat.min_eq_left b]at a;have hp:=two_pos n;rw[e,Int.add_mul_ediv_left _ _ ω,Int.ediv_eq_zero_of_lt a.1 a.2];omega
 · have a:=fy h
   have:(2:Int) ^ l.length<=2 ^ n:=by
    rw[show n=l.length+(n-l.length) by omega,Int.pow_add];have:=two_pos (n-l.length);have c:=two_pos l.length
    calc (2:Int) ^ l.length=2 ^ l.length*1:=ω
     _<=2 ^ l.length*2 ^ (n-l.length):=Int.mul_le_mul_of_nonneg_left ω ω
   rw[List.drop_eq_nil_of_le ω,Int.ediv_eq_zero_of_lt a.1 ω];rfl
theorem qx {l:List Int} (h:bc l):aX (bW l) l.length=l:=by
 induction l with
 | nil=>rfl
 | cons x l a=>
   have c:=a λy b=>h y (List.mem_cons_of_mem _ b)
   have d:=h x (List.mem_cons_self ..);simp only [bW,List.length_cons,aX];rw[show(x+2*bW l)%2=x by omega,show(x+2*bW l)/2=bW l by omega,c]
theorem OP (v:Int) (n:Nat):aX v (n+1)=aX v n++[v/2 ^ n%2]:=by
 induction n generalizing v with
 | zero=>simp [aX]
 | succ n a=>
   rw[aX,a,aX,List.cons_append];congr 4;rw[Int.pow_succ,Int.mul_comm,Int.ediv_ediv_of_nonneg ω]
theorem IG (v:Int) (n:Nat):aX (v%2 ^ n) n=aX v n:=by
 have:=qx (bc.aX v n)
 rwa [af,cP]at this
def gK (l:List Int):List Int:=(List.range (l.length/8)).map λi=>bW ((l.drop (8*i)).take 8)
def rest (l:List Int):List Int:=l.drop (8*(l.length/8))
def bV:List Int->List Int
 | []=>[]
 | b::l=>aX b 8++bV l
theorem dA (l:List Int):(gK l).length=l.length/8:=by simp [gK]
theorem dZ (l:List Int):(rest l).length=l.length%8:=by simp [rest];omega
theorem bD (l:List Int):(bV l).length=8*l.length:=by
 induction l with
 | nil=>rfl
 | cons b l a=>simp [bV,af,a];omega
theorem bc.rest {l:List Int} (h:bc l):bc (rest l):=h.bu _
theorem bc.bV (l:List Int):bc (bV l):=by
 induction l with
 | nil=>exact bc.br
 | cons b l a=>exact(bc.aX b 8).app a
theorem kC {l:List Int} (h:l.length<8):gK l=[]:=by unfold gK;rw[Nat.div_eq_of_lt h];rfl
theorem lV {l:List Int} (h:l.length<8):rest l=l:=by unfold rest;rw[Nat.div_eq_of_lt h];simp
theorem kB {a:List Int} (h:a.length=8) (l:List Int):gK (a++l)=bW a::gK l:=by
 unfold gK;rw[List.length_append,h,show(8+l.length)/8=l.length/8+1 by omega,List.range_succ_eq_map];simp only [List.map_cons,List.map_map];congr 1
 · rw[Nat.mul_zero,List.drop_zero,List.take_append_of_le_length ω,List.take_of_length_le ω]
 · apply List.map_congr_left
   intro i _;simp only [Function.comp];rw[show 8*(i+1)=a.length+8*i by omega,List.drop_append,List.drop_eq_nil_of_le ω,List.nil_append,Nat.add_sub_cancel_left]
theorem lU {a:List Int} (h:a.length=8) (l:List Int):rest (a++l)=rest l:=by
 unfold rest;rw[List.length_append,h,show 8*((8+l.length)/8)=a.length+8*(l.length/8) by omega,List.drop_append,List.drop_eq_nil_of_le ω,List.nil_append,Nat.add_sub_cancel_left]
theorem GI {l:List Int} (h:8<=l.length):∃a b,l=a++b/\a.length=8:= ⟨l.take 8,l.drop 8,(List.take_append_drop ..).symm,ξ⟩
theorem Hw (a x:List Int):gK (a++x)=gK a++gK (rest a++x):=by
 induction e:a.length using Nat.strongRecOn generalizing a with
 | _ n ih=>
   by_cases h:a.length<8
   · rw[kC h,lV h];rfl
   · obtain⟨b,c,rfl,d⟩ :=GI (l:=a) ω;rw[List.append_assoc,kB d,kB d,lU d,ih c.length (by rw[<-e,List.length_append];omega) c rfl];rfl
theorem Du (a x:List Int):rest (a++x)=rest (rest a++x):=by
 induction e:a.length using Nat.strongRecOn generalizing a with
 | _ n ih=>
   by_cases h:a.length<8
   · rw[lV h]
   · obtain⟨b,c,rfl,d⟩ :=GI (l:=a) ω;rw[List.append_assoc,lU d,lU d,ih c.length (by rw[<-e,List.length_append];omega) c rfl]
theorem tD {B:List Int} (h:∀b∈B,0<=b/\b<256):gK (bV B)=B:=by
 induction B with
 | nil=>rfl
 | cons b B a=>
   have d:=h b (List.mem_cons_self ..);rw[bV,kB (af b 8),cP,a λy c=>h y (List.mem_cons_of_mem _ c)];congr 1;omega
theorem Pe (B:List Int):rest (bV B)=[]:=by
 unfold rest;rw[bD,Nat.mul_div_cancel_left _ ω,<-bD,List.drop_length]
theorem oM (a b:List Int):bV (a++b)=bV a++bV b:=by
 induction a with
 | nil=>rfl
 | cons x a c=>simp [bV,c]
theorem R4 {l:List Int} (h:bc l):bV (gK l)++rest l=l:=by
 induction f:l.length using Nat.strongRecOn generalizing l with
 | _ n ih=>
   by_cases e:l.length<8
   · rw[kC e,lV e];rfl
   · obtain⟨a,b,rfl,d⟩ :=GI (l:=l) ω;rw[kB d,lU d,bV,List.append_assoc,ih b.length (by rw[<-f,List.length_append];omega) (λx c=>h x (List.mem_append_right _ c)) rfl];have:=qx (l:=a) λx c=>h x (List.mem_append_left _ c)
     rw[d]at this;rw[this]
theorem EZ {l:List Int} (h:bc l):∀b∈gK l,0<=b/\b<256:=by
 intro b c;obtain⟨i,hi,rfl⟩ :=List.mem_map.1 c;have a:=fy ((h.bu (8*i)).oL 8);have d:((l.drop (8*i)).take 8).length=8:=by have:=List.mem_range.1 hi;simp;omega
 rw[d]at a;exact a
theorem mN {a:List Int} (h:a.length%8=0) (x:List Int):gK (a++x)=gK a++gK x:=by
 rw[Hw];have:rest a=[]:=List.eq_nil_of_length_eq_zero (by rw[dZ,h]);rw[this];rfl
theorem KH {a:List Int} (h:a.length%8=0) (x:List Int):rest (a++x)=rest x:=by
 rw[Du];have:rest a=[]:=List.eq_nil_of_length_eq_zero (by rw[dZ,h]);rw[this];rfl
def kE (l:List Int):List Int:=l++List.replicate ((8-l.length%8)%8) 0
theorem fV (l:List Int):(kE l).length=l.length+(8-l.length%8)%8:=by simp [kE]
theorem jA (l:List Int):(kE l).length%8=0:=by rw[fV];omega
theorem bc.kE {l:List Int} (h:bc l):bc (kE l):=h.app (bc.zeros _)
theorem OQ (n:Nat):aX 0 n=List.replicate n 0:=by
 induction n with
 | zero=>rfl
 | succ n a=>simp [aX,a,List.replicate_succ]
theorem Ml {l:List Int} {j:Nat} (b:j<l.length/8) (h:bc l):gK (l.take (8*(j+1)))=gK (l.take (8*j))++[bW (l.drop (8*j))%256]:=by
 have e:l.take (8*(j+1))=l.take (8*j)++(l.drop (8*j)).take 8:=by
  rw[show 8*(j+1)=8*j+8 by omega,List.take_add]
 have a:((l.drop (8*j)).take 8).length=8:=ξ;rw[e,mN ξ];congr 1;have:=kB a [];rw[List.append_nil,kC (l:=[]) σ]at this;rw[this,xV (h.bu _)];rfl
theorem Ca (l:List Int):gK (l.take (8*(l.length/8)))=gK l:=by
 conv=>rhs;rw[<-List.take_append_drop (8*(l.length/8)) l]
 rw[mN ξ,kC (l:=l.drop _) ξ,List.append_nil]
theorem KG (l:List Int):rest l=l.drop (8*(l.length/8)):=rfl
def kX (v:Nat):Nat:=2 ^ (15-v)
theorem P3:kX 0=32768:=rfl
theorem rP (v:Nat):1<=kX v/\kX v<=32768:=by
 unfold kX;have b:2 ^ (15-v)<=2 ^ 15:=Nat.pow_le_pow_right ω ω;have a:1<=2 ^ (15-v):=Nat.one_le_two_pow;omega
theorem vh {v:Nat} (h:v<15):kX v=2*kX (v+1):=by
 unfold kX;have:15-v=(15-(v+1))+1:=ω;rw[this,Nat.pow_succ];omega
theorem SU (v:Nat):((kX v:Nat):Int)=2 ^ (15-v):=by unfold kX;simp
def share (x:Int):Nat:=if isLen x then kX x.toNat else 0
def sumTo (l:List Int):Nat->Nat
 | 0=>0
 | k+1=>sumTo l k+share (ix l k)
theorem jn {v:Nat} (b:1<=v) (a:v<=15):share (v:Int)=kX v:=by
 unfold share isLen;rw[if_pos ξ];simp
theorem iR {x:Int} (h:¬(1<=x/\x<=15)):share x=0:=by
 unfold share isLen;rw[if_neg (by simpa using h)]
theorem Pt (x:Int):share x<=32768:=by
 unfold share;split
 · exact(rP _).2
 · omega
theorem qF (l:List Int) (k:Nat):sumTo l k<=32768*k:=by
 induction k with
 | zero=>simp [sumTo]
 | succ k a=>have:=Pt (ix l k);simp only [sumTo];omega
def aR (l:List Int):Nat->Nat
 | 0=>0
 | k+1=>aR l k+if 0<ix l k then 1 else 0
theorem Dq (l:List Int) (k:Nat):aR l k<=k:=by
 induction k with
 | zero=>simp [aR]
 | succ k a=>simp only [aR];split <;> omega
def oG (l:List Int) (k:Nat):Bool:=decide (∀i,i<k->ix l i<=1)
def fS (l:List Int) (n:Nat):Bool:=oG l n&&decide (aR l n<=1)
def rJ (l:List Int) (most:Int) (k:Nat):Bool:=decide (∀i,i<k->0<=ix l i/\ix l i<=most)
def ai (l:List Int) (most:Int):Int:=
 if most<1\/15<most\/288<l.length then 1
 else if rJ l most l.length=false then 1
 else if 32768<sumTo l l.length\/(sumTo l l.length<32768/\fS l l.length=false)then 3 else 0
theorem Ae {l:List Int} {most:Int} {k:Nat} (h:∀i,i<k->0<=ix l i/\ix l i<=most):rJ l most k=true:=by simpa [rJ] using h
theorem Ou {l:List Int} {most:Int} {n k:Nat} (a:k<n) (h:¬(0<=ix l k/\ix l k<=most)):rJ l most n=false:=by
 rw[<-Bool.not_eq_true];intro b;have:=of_decide_eq_true b;exact h (this k a)
def BF (l:List Int) (k:Nat):Nat->Nat
 | 0=>0
 | m+1=>BF l k m+cnt l k (m+1)*kX (m+1)
theorem PN (l:List Int) (k m:Nat):BF l (k+1) m=BF l k m+if 1<=ix l k/\ix l k<=m then kX (ix l k).toNat else 0:=by
 induction m with
 | zero=>simp [BF];omega
 | succ m c=>
   simp only [BF,cnt,c];by_cases h:ix l k=((m+1:Nat):Int)
   · rw[if_pos h,if_neg ω,if_pos ω,h,Int.toNat_natCast,Nat.add_mul];omega
   · simp only [if_neg h,Nat.add_zero];by_cases b:1<=ix l k/\ix l k<=m
     · have a:1<=ix l k/\ix l k<=((m+1:Nat):Int):=ω;simp only [if_pos b,if_pos a];omega
     · have a:¬(1<=ix l k/\ix l k<=((m+1:Nat):Int)):=ω;simp only [if_neg b,if_neg a];omega
theorem Tf (l:List Int) (k:Nat):BF l k 15=sumTo l k:=by
 induction k with
 | zero=>simp [BF,cnt,sumTo]
 | succ k a=>
   rw[PN,a];show _=sumTo l k+share (ix l k)
   congr 1;unfold share isLen;by_cases h:1<=ix l k/\ix l k<=15
   · rw[if_pos (by simpa using h),if_pos (by simpa using h)]
   · rw[if_neg (by simpa using h),if_neg (by simpa using h)]
theorem Eb (l:List Int) (k:Nat) {m a:Nat} (h:m<=a):BF l k m<=BF l k a:=by
 induction a with
 | zero=>have:m=0:=ω
         subst this;omega
 | succ q b=>
   by_cases e:m=q+1
   · subst e;omega
   · have:=b ω;simp only [BF];omega
theorem IE (l:List Int) (v:Nat) (c:1<=v) (b:v<=15):jd l v*kX v=BF l l.length (v-1):=by
 induction v with
 | zero=>omega
 | succ v a=>
   rcases v with _ | v
   · simp [jd,BF]
   · have hi:=a ω ω;have hp:=vh (v:=v+1) ω;simp only [Nat.add_sub_cancel]at hi⊢;show 2*(jd l (v+1)+cnt l l.length (v+1))*kX (v+1+1)=BF l l.length v+cnt l l.length (v+1)*kX (v+1)
     rw[<-hi,hp,<-Nat.add_mul,Nat.mul_comm 2 (jd l (v+1)+cnt l l.length (v+1)),Nat.mul_assoc]
def placeOf (l:List Int) (i:Nat):Nat:=bQ l i*kX (ix l i).toNat
theorem vp {l:List Int} {i v:Nat} (b:1<=v) (a:v<=15) (e:ix l i=v):placeOf l i=BF l l.length (v-1)+cnt l i v*kX v:=by
 unfold placeOf bQ isLen;rw[e,if_pos ξ,Int.toNat_natCast,Nat.add_mul,IE l v b a]
theorem l7 {l:List Int} {i k v:Nat} (h:i<k) (e:ix l i=v):cnt l i v+1<=cnt l k v:=by
 have b:cnt l (i+1) v=cnt l i v+1:=by simp [cnt,e]
 have a:=Cb l v (show i+1<=k by omega);omega
theorem KD {l:List Int} {i v:Nat} (c:1<=v) (b:v<=15) (e:ix l i=v) (hi:i<l.length):placeOf l i+kX v<=BF l l.length v:=by
 rw[vp c b e];obtain⟨u,rfl⟩ :∃u,v=u+1:= ⟨v-1,ω⟩;have a:=l7 hi e;have:(cnt l i (u+1)+1)*kX (u+1)<=cnt l l.length (u+1)*kX (u+1):=Nat.mul_le_mul_right _ a;rw[Nat.add_mul]at this;simp only [BF,Nat.add_sub_cancel];omega
theorem IL {u v:Nat} (h:u<=v) (hv:v<=15):kX u=2 ^ (v-u)*kX v:=by
 unfold kX;rw[<-Nat.pow_add];congr 1;omega
theorem Jp {l:List Int} {i v:Nat} (f:1<=v) (d:v<=15) (e:ix l i=v) (hi:i<l.length) (g:sumTo l l.length<=32768):bQ l i<2 ^ v:=by
 have a:=KD f d e hi;have b:=Eb l l.length d;rw[Tf]at b;unfold placeOf at a;rw[e,Int.toNat_natCast]at a
 have c:(bQ l i+1)*kX v<=2 ^ v*kX v:=by
  have:=IL (Nat.zero_le v) d;rw[P3,Nat.sub_zero]at this;rw[Nat.add_mul];omega
 have:=Nat.le_of_mul_le_mul_right c (rP v).1;omega
def WT (l:List Int) (x i:Nat):Bool:=isLen (ix l i)&&decide (x/kX (ix l i).toNat=bQ l i)
theorem pY {l:List Int} (h:ai l 15=0):l.length<=288/\(∀i,i<l.length->0<=ix l i/\ix l i<=15)/\sumTo l l.length<=32768/\(sumTo l l.length=32768\/fS l l.length=true):=by
 unfold ai at h
 split at h
 · simp at h
 · split at h
   · simp at h
   · split at h
     · simp at h
     · rename_i d c b
       refine⟨ω, ?_,ω, ?_⟩
       · have:rJ l 15 l.length=true:=by simpa using c
         simpa [rJ] using this
       · rcases Nat.lt_or_ge (sumTo l l.length) 32768 with h4 | h4
         · right
           cases a:fS l l.length
           · exact absurd (Or.inr ⟨h4,a⟩) b
           · rfl
         · left;omega
abbrev El:=Int×Option Addr×Nat×Nat
def ps (e:El):Nat:=match e.2.1 with
 | some a=>a.block
 | none=>0
def jZ (p q:El):Prop:=p.1<q.1\/(p.1=q.1/\ps p<=ps q)
theorem jZ.le {p q:El} (h:jZ p q):p.1<=q.1:=by rcases h with h | h <;> omega
theorem jZ.rfl' (p:El):jZ p p:= .inr ⟨rfl,Nat.le_refl _⟩
theorem jZ.trans {p q r:El} (h:jZ p q) (a:jZ q r):jZ p r:=by
 rcases h with h | ⟨h,c⟩ <;> rcases a with a | ⟨a,b⟩
 · exact .inl ω
 · exact .inl ω
 · exact .inl ω
 · exact .inr ⟨ω,ω⟩
theorem jZ.of_le {p q:El} (h:p.1<=q.1) (a:ps p<=ps q):jZ p q:=by
 rcases Int.lt_or_eq_of_le h with h | h
 · exact .inl h
 · exact .inr ⟨h,a⟩
def dy (l:List El):Prop:=l.Pairwise jZ
def Sep (U V:List El):Prop:=∀p∈U,∀q∈V,ps p<=ps q
def J1 (l:List El):Prop:=l.Pairwise λp q=>ps p<=ps q
theorem Sep.perm {U V b a:List El} (h:Sep U V) (e:b.Perm U) (d:a.Perm V):Sep b a:=λp hp q c=>h p (e.mem_iff.1 hp) q (d.mem_iff.1 c)
theorem Sep.sub {U V b a:List El} (h:Sep U V) (e:∀p∈b,p∈U) (d:∀p∈a,p∈V):Sep b a:=λp hp q c=>h p (e p hp) q (d q c)
theorem Sep.app {U V W:List El} (h:Sep U W) (b:Sep V W):Sep (U++V) W:=λp hp q a=>by
 rcases List.mem_append.1 hp with hp | hp
 · exact h p hp q a
 · exact b p hp q a
theorem Sep.a3f {U V W:List El} (h:Sep W U) (b:Sep W V):Sep W (U++V):=λp hp q a=>by
 rcases List.mem_append.1 a with a | a
 · exact h p hp q a
 · exact b p hp q a
theorem Sep.br (U:List El):Sep U []:=λp _ q a=>by simp at a
theorem Sep.nil' (U:List El):Sep [] U:=λp hp=>by simp at hp
theorem Hs {U V:List El}:J1 (U++V)↔J1 U/\J1 V/\Sep U V:=List.pairwise_append
theorem DI {U V W:List El} {x:El} (h:Sep U (x::V)/\J1 (x::V)) (b:∀p∈W,p=x\/p∈U):Sep W V/\J1 V:=by
 obtain⟨d,c⟩ :=List.pairwise_cons.1 h.2;refine⟨λp hp q a=> ?_,c⟩;rcases b p hp with rfl | hp
 · exact d q a
 · exact h.1 p hp q (List.mem_cons_of_mem _ a)
def el (D:List El) (i:Nat):El:=D.getD i (0,none,0,0)
section
variable {X Y Q U V U1 U2 V1 V2 Z1 Z2 D:List El} {x y:El} {i j s:Nat}
theorem dy.br:dy []:=List.Pairwise.nil
theorem dt:dy (U++V)↔dy U/\dy V/\∀p∈U,∀q∈V,jZ p q:=List.pairwise_append
theorem si (h:i<X.length):el (X++Y) i=el X i:=by unfold el;rw[List.getD_eq_getElem?_getD,List.getD_eq_getElem?_getD,List.getElem?_append_left h]
theorem ln (h:X.length<=i):el (X++Y) i=el Y (i-X.length):=by unfold el;rw[List.getD_eq_getElem?_getD,List.getD_eq_getElem?_getD,List.getElem?_append_right h]
theorem fU (h:i=X.length):el (X++x::Y) i=x:=by subst h;rw[ln (Nat.le_refl _),Nat.sub_self];rfl
theorem gW (h:i<D.length):el D i∈D:=by
 unfold el;rw[List.getD_eq_getElem?_getD,List.getElem?_eq_getElem h];exact List.getElem_mem h
def swp (D:List El) (i j:Nat):List El:=(D.set i (el D j)).set j (el D i)
theorem GR:(swp D i j).length=D.length:=by simp [swp]
theorem tT (hi:i=X.length) (a:j=X.length+1+Q.length):swp (X++x::(Q++y::Y)) i j=X++y::(Q++x::Y):=by
 have e:el (X++x::(Q++y::Y)) i=x:=fU hi
 have d:el (X++x::(Q++y::Y)) j=y:=by
  have:X++x::(Q++y::Y)=(X++x::Q)++y::Y:=σ;rw[this];exact fU (by rw[a];simp;omega)
 unfold swp;rw[e,d];subst hi a
 have b:(X++x::(Q++y::Y)).set X.length y=(X++y::Q)++y::Y:=by
  rw[List.set_append_right _ _ (Nat.le_refl _),Nat.sub_self];simp
 rw[b];have c:(X++y::Q).length=X.length+1+Q.length:=ξ;rw[<-c,List.set_append_right _ _ (Nat.le_refl _),Nat.sub_self];simp
theorem DY (D:List El) (i j:Nat):swp D i j=swp D j i:=by
 unfold swp;by_cases h:i=j
 · subst h;rfl
 · rw[List.set_comm _ _ h]
theorem Tc (hi:i<D.length) (a:j<D.length):∀p∈swp D i j,p∈D:=λp hp=>by
 unfold swp at hp;rcases List.mem_or_eq_of_mem_set hp with h | h
 · rcases List.mem_or_eq_of_mem_set h with h | h
   · exact h
   · rw[h];exact gW a
 · rw[h];exact gW hi
theorem Aj (e:dy (U1++U2)) (f:∀q∈U2,jZ x q) (g:∀p∈U1,jZ p x):dy (U1++x::U2):=by
 obtain⟨a,b,c⟩ :=dt.1 e;refine dt.2 ⟨a,List.pairwise_cons.2 ⟨f,b⟩,λp hp q d=> ?_⟩;rcases List.mem_cons.1 d with rfl | d
 · exact g p hp
 · exact c p hp q d
theorem DN (h:dy (U++[y])) (b:jZ y x):∀p∈U++[y],jZ p x:=λp hp=>by
 rcases List.mem_append.1 hp with a | a
 · exact((dt.1 h).2.2 p a y List.mem_cons_self).trans b
 · rw[List.mem_singleton.1 a];exact b
theorem yi (i:dy U) (g:dy V) (h:0<U.length->0<V.length->jZ (el U (U.length-1)) (el V 0)):∀p∈U,∀q∈V,jZ p q:=λp hp q a=>by
 have c:0<U.length:=List.length_pos_of_mem hp;have k:0<V.length:=List.length_pos_of_mem a;have j:=h c k
 have f:jZ p (el U (U.length-1)):=by
  obtain⟨b,z,e⟩ :∃b z,U=b++[z]:= ⟨U.dropLast,U.getLast (by intro e;rw[e]at c;simp at c),by rw[List.dropLast_concat_getLast]⟩;subst e;have l:el (b++[z]) ((b++[z]).length-1)=z:=fU σ;rw[l];exact DN i (jZ.rfl' _) p hp
 have d:jZ (el V 0) q:=by
  cases V with
  | nil=>simp at a
  | cons v V=>
    rcases List.mem_cons.1 a with rfl | a
    · exact jZ.rfl' _
    · exact(List.pairwise_cons.1 g).1 q a
 exact f.trans (j.trans d)
theorem PJ (j:dy (U1++U2)) (i:dy (V1++V2)) (c:Z1.Perm (U1++V1)) (h:dy Z1) (b:Z2.Perm (U2++V2)) (g:dy Z2)
  (c1:0<U1.length->0<V2.length->jZ (el U1 (U1.length-1)) (el V2 0)) (c2:0<V1.length->0<U2.length->jZ (el V1 (V1.length-1)) (el U2 0)):
  dy (Z1++Z2)/\(Z1++Z2).Perm ((U1++U2)++(V1++V2)):=by
 obtain⟨u1,u2,u3⟩ :=dt.1 j;obtain⟨f,e,d⟩ :=dt.1 i;have d1:=yi u1 e c1;have d2:=yi f u2 c2;refine⟨dt.2 ⟨h,g,λp hp q a=> ?_⟩, ?_⟩
 · rcases List.mem_append.1 (c.mem_iff.1 hp)with hp | hp <;> rcases List.mem_append.1 (b.mem_iff.1 a)with a | a
   · exact u3 p hp q a
   · exact d1 p hp q a
   · exact d2 p hp q a
   · exact d p hp q a
 · refine(c.append b).trans ?_;have l:(U1++V1)++(U2++V2)=U1++((V1++U2)++V2):=σ;have k:(U1++U2)++(V1++V2)=U1++((U2++V1)++V2):=σ;rw[l,k];exact List.Perm.append_left _ (List.Perm.append_right _ List.perm_append_comm)
inductive EB (s:Nat):List El->Prop
 | last {c:List El}:c.length<=s->dy c->EB s c
 | more {c D:List El}:c.length=s->dy c->Sep c D->EB s D->EB s (c++D)
def Pre (s:Nat) (P:List El):Prop:=∀R,EB s R->Sep P R->EB s (P++R)
theorem Pre.br (s:Nat):Pre s []:=λR h _=>h
theorem Pre.more {P c:List El} (h:Pre s P) (e:c.length=s) (d:dy c) (a:Sep P c):Pre s (P++c):=λR f b=>by
 rw[List.append_assoc];exact h _ (.more e d (b.sub (λp hp=>List.mem_append_right _ hp) λp hp=>hp) f) (a.a3f (b.sub (λp hp=>List.mem_append_left _ hp) λp hp=>hp))
theorem EB.pD (h:EB s D) (a:D.length<=s):dy D:=by
 cases h with
 | last _ h=>exact h
 | @more c D hc hs mK hD=>
   have:D=[]:=List.eq_nil_of_length_eq_zero (by rw[List.length_append]at a;omega);rw[this,List.append_nil];exact hs
theorem EB.head (h:EB s D) (b:s<=D.length):∃c R,D=c++R/\c.length=s/\dy c/\EB s R/\Sep c R:=by
 cases h with
 | last d a=>exact⟨D,[],σ,ω,a, .last (Nat.zero_le _) dy.br,Sep.br _⟩
 | @more c R hc hs mK hD=>exact⟨c,R,rfl,hc,hs,hD,mK⟩
end
structure Pk where
 w:Int
 l:List Int
def aU:List Pk->List Pk
 | a::b::r=> ⟨a.w+b.w,a.l++b.l⟩ ::aU r
 | _=>[]
def tM:List Pk->List Pk->List Pk
 | [],bs=>bs
 | a::as,[]=>a::as
 | a::as,b::bs=>if b.w<a.w then b::tM (a::as) bs else a::tM as (b::bs)
termination_by as bs=>as.length+bs.length
def lev (F:List Pk):Nat->List Pk
 | 0=>F
 | k+1=>tM F (aU (lev F k))
def ky (l:List Pk):Int:=(l.map Pk.w).sum
def mF (l:List Pk):List Int:=l.flatMap Pk.l
def EJ (l:List Pk):Prop:=l.Pairwise λp q=>p.w<=q.w
section
variable {a b l F:List Pk} {p q e:Pk} {k j x n m:Nat}
theorem tN (a:List Pk):tM a []=a:=by cases a <;> simp [tM]
theorem tP (a:List Pk):tM [] a=a:=by simp [tM]
theorem kN (a b:List Pk):(tM a b).Perm (a++b):=by
 induction a generalizing b with
 | nil=>rw[tP];exact List.Perm.refl _
 | cons p as d=>
   induction b with
   | nil=>rw[tN,List.append_nil]
   | cons q e c=>
     rw[tM]
     split
     · exact(List.Perm.cons q c).trans List.perm_middle.symm
     · exact List.Perm.cons p (d (q::e))
theorem pn (a b:List Pk):(tM a b).length=a.length+b.length:=by rw[(kN a b).length_eq,List.length_append]
theorem Gh (j:EJ a) (f:EJ b):EJ (tM a b):=by
 induction a generalizing b with
 | nil=>rw[tP];exact f
 | cons p as d=>
   induction b with
   | nil=>rw[tN];exact j
   | cons q l c=>
     have i:=List.pairwise_cons.1 j;have g:=List.pairwise_cons.1 f;rw[tM]
     split <;> rename_i k
     · refine List.pairwise_cons.2 ⟨λr e=> ?_,c g.2⟩;rcases List.mem_append.1 ((kN _ _).mem_iff.1 e)with h | h
       · rcases List.mem_cons.1 h with rfl | h
         · omega
         · have:=i.1 r h;omega
       · exact g.1 r h
     · refine List.pairwise_cons.2 ⟨λr e=> ?_,d i.2 f⟩;rcases List.mem_append.1 ((kN _ _).mem_iff.1 e)with h | h
       · exact i.1 r h
       · rcases List.mem_cons.1 h with rfl | h
         · omega
         · have:=g.1 r h;omega
theorem xT (v:EJ a) (u:EJ b) (i:x<=a.length+b.length):
  ∃c g b1 f,a=c++g/\b=b1++f/\c.length+b1.length=x/\((tM a b).take x).Perm (c++b1)/\(∀p∈b1,∀q∈g,p.w<q.w)/\(∀p∈c,∀q∈f,p.w<=q.w):=by
 induction x generalizing a b with
 | zero=>exact⟨[],a,[],b,rfl,rfl,rfl,σ,σ,σ⟩
 | succ x t=>
   cases a with
   | nil=>
     refine⟨[],[],b.take (x+1),b.drop (x+1),rfl,(List.take_append_drop ..).symm, ?_,by rw[tP];simp,σ,σ⟩;simp only [List.length_nil,List.length_take]at i⊢;omega
   | cons p as=>
     cases b with
     | nil=>
       refine⟨(p::as).take (x+1),(p::as).drop (x+1),[],[],(List.take_append_drop ..).symm,rfl, ?_,by rw[tN];simp,σ,σ⟩;simp only [List.length_nil,List.length_take]at i⊢;omega
     | cons q o=>
       have z:=List.pairwise_cons.1 v;have y:=List.pairwise_cons.1 u;rw[tM]
       split <;> rename_i A
       · obtain⟨c,g,b1,f,k,j,B,n,m,l⟩ :=t (a:=p::as) (b:=o) v y.2 (by simp only [List.length_cons]at i⊢;omega);refine⟨c,g,q::b1,f,k,by rw[j];rfl,by simp only [List.length_cons];omega, ?_,λr d s h=> ?_,l⟩
         · rw[List.take_succ_cons];exact(List.Perm.cons q n).trans List.perm_middle.symm
         · rcases List.mem_cons.1 d with rfl | d
           · have e:s∈p::as:=by rw[k];exact List.mem_append_right _ h
             rcases List.mem_cons.1 e with rfl | e
             · exact A
             · have:=z.1 s e;omega
           · exact m r d s h
       · obtain⟨c,g,b1,f,k,j,B,n,m,l⟩ :=t (a:=as) (b:=q::o) z.2 u (by simp only [List.length_cons]at i⊢;omega);refine⟨p::c,g,b1,f,by rw[k];rfl,j,by simp only [List.length_cons];omega, ?_,m,λr d s h=> ?_⟩
         · rw[List.take_succ_cons];exact List.Perm.cons p n
         · rcases List.mem_cons.1 d with rfl | d
           · have e:s∈q::o:=by rw[j];exact List.mem_append_right _ h
             rcases List.mem_cons.1 e with rfl | e
             · omega
             · have:=y.1 s e;omega
           · exact l r d s h
theorem dw (p:Pk) (l:List Pk):ky (p::l)=p.w+ky l:=by simp [ky]
theorem fZ (a b:List Pk):ky (a++b)=ky a+ky b:=by simp [ky]
theorem PT (h:a.Perm b):ky a=ky b:=by
 induction h with
 | nil=>rfl
 | cons x _ ih=>rw[dw,dw,ih]
 | swap x y l=>rw[dw,dw,dw,dw];omega
 | trans _ _ h1 h2=>exact h1.trans h2
theorem lq (a b:List Pk):mF (a++b)=mF a++mF b:=by simp [mF]
theorem mW (p:Pk) (l:List Pk):mF (p::l)=p.l++mF l:=by simp [mF]
theorem MN (h:a.Perm b):(mF a).Perm (mF b):=List.Perm.flatMap_right _ h
theorem vV (h:∀p∈l,0<=p.w):0<=ky l:=by
 induction l with
 | nil=>exact Int.le_refl _
 | cons p l a=>
   rw[dw];have:=h p List.mem_cons_self;have:=a λq b=>h q (List.mem_cons_of_mem _ b)
   omega
theorem PS (c:a.length=b.length) (h:∀p∈a,∀q∈b,p.w<=q.w):ky a<=ky b:=by
 induction a generalizing b with
 | nil=>
   cases b with
   | nil=>exact Int.le_refl _
   | cons q b=>simp at c
 | cons p a d=>
   cases b with
   | nil=>simp at c
   | cons q b=>
     rw[dw,dw];have i:=h p List.mem_cons_self q List.mem_cons_self;have g:=d (b:=b) (by simpa using c) λr f s e=>h r (List.mem_cons_of_mem _ f) s (List.mem_cons_of_mem _ e)
     omega
theorem Ko {i j:Nat} (r:EJ a) (o:EJ b) (hi:i<=a.length) (y:j<=b.length):ky ((tM a b).take (i+j))<=ky (a.take i)+ky (b.take j):=by
 obtain⟨c,n,b1,m,l,k,z,u,t,s⟩ :=xT r o (x:=i+j) ω;rw[PT u,fZ];rcases Nat.le_total c.length i with h | h
 ·
  have g:a.take i=c++n.take (i-c.length):=by rw[l,List.take_append,List.take_of_length_le h]
  have f:b1=b.take j++b1.drop j:=by
   have:b.take j=b1.take j:=by rw[k,List.take_append_of_le_length ω]
   rw[this,List.take_append_drop]
  have w:n.length=a.length-c.length:=by rw[l,List.length_append];omega
  have e:ky (b1.drop j)<=ky (n.take (i-c.length)):=PS (by rw[List.length_drop,List.length_take];omega) λp hp q d=>Int.le_of_lt (t p (List.mem_of_mem_drop hp) q (List.mem_of_mem_take d))
  rw[g,fZ];have:ky b1=ky (b.take j)+ky (b1.drop j):=by rw[<-fZ,<-f]
  omega
 · have g:b.take j=b1++m.take (j-b1.length):=by rw[k,List.take_append,List.take_of_length_le ω]
   have f:c=a.take i++c.drop i:=by
    have:a.take i=c.take i:=by rw[l,List.take_append_of_le_length h]
    rw[this,List.take_append_drop]
   have v:m.length=b.length-b1.length:=by rw[k,List.length_append];omega
   have e:ky (c.drop i)<=ky (m.take (j-b1.length)):=PS (by rw[List.length_drop,List.length_take];omega) λp hp q d=>s p (List.mem_of_mem_drop hp) q (List.mem_of_mem_take d)
   rw[g,fZ];have:ky c=ky (a.take i)+ky (c.drop i):=by rw[<-fZ,<-f]
   omega
theorem ep (l:List Pk):(aU l).length=l.length/2:=by
 induction l using aU.induct with
 | case1 a b r ih=>rw[aU,List.length_cons,ih];simp only [List.length_cons];omega
 | case2 t h=>
   match t,h with
   | [],_=>rfl
   | [a],_=>simp [aU]
   | a::b::r,h=>exact absurd rfl (h a b r)
theorem vo (l:List Pk) (j:Nat):(aU l).take j=aU (l.take (2*j)):=by
 induction l using aU.induct generalizing j with
 | case1 a b r ih=>
   cases j with
   | zero=>simp [aU]
   | succ j=>rw[aU,List.take_succ_cons,ih j,show 2*(j+1)=2*j+1+1 by omega,List.take_succ_cons,List.take_succ_cons,aU]
 | case2 t h=>
   match t,h with
   | [],_=>simp [aU]
   | [a],_=>
     cases j with
     | zero=>simp [aU]
     | succ j=>rw[show 2*(j+1)=2*j+1+1 by omega];simp [aU]
   | a::b::r,h=>exact absurd rfl (h a b r)
theorem vk (l:List Pk) (h:l.length%2=0):mF (aU l)=mF l/\ky (aU l)=ky l/\((∀e∈l,0<=e.w)->∀e∈l,∃p∈aU l,e.w<=p.w):=by
 induction l using aU.induct with
 | case1 a b r ih=>
   obtain⟨k,j,i⟩ :=ih (by simp only [List.length_cons]at h;omega);rw[aU];refine⟨by rw[mW,mW,mW,k];simp,by rw[dw,dw,dw,j];show a.w+b.w+_=_;omega,λd e c=> ?_⟩;have n:=d a List.mem_cons_self;have m:=d b (List.mem_cons_of_mem _ List.mem_cons_self);rcases List.mem_cons.1 c with rfl | c
   · exact⟨_,List.mem_cons_self,by show e.w<=e.w+b.w;omega⟩
   · rcases List.mem_cons.1 c with rfl | c
     · exact⟨_,List.mem_cons_self,by show e.w<=a.w+e.w;omega⟩
     · obtain⟨p,hp,f⟩ :=i (λq g=>d q (List.mem_cons_of_mem _ (List.mem_cons_of_mem _ g))) e c;exact⟨p,List.mem_cons_of_mem _ hp,f⟩
 | case2 t h'=>
   match t,h' with
   | [],_=>exact⟨rfl,rfl,λ_ e c=>by simp at c⟩
   | [a],_=>simp at h
   | a::b::r,h'=>exact absurd rfl (h' a b r)
theorem od (l:List Pk):∀p∈aU l,∃c∈l,∃d∈l,p.w=c.w+d.w/\p.l=c.l++d.l:=by
 induction l using aU.induct with
 | case1 a b r ih=>
   intro p hp;rw[aU]at hp;rcases List.mem_cons.1 hp with rfl | hp
   · exact⟨a,List.mem_cons_self,b,List.mem_cons_of_mem _ List.mem_cons_self,rfl,rfl⟩
   · obtain⟨c,e,d,hd,g,f⟩ :=ih p hp;exact⟨c,List.mem_cons_of_mem _ (List.mem_cons_of_mem _ e),d,List.mem_cons_of_mem _ (List.mem_cons_of_mem _ hd),g,f⟩
 | case2 t h=>
   match t,h with
   | [],_=>intro p hp;simp [aU]at hp
   | [a],_=>intro p hp;simp [aU]at hp
   | a::b::r,h=>exact absurd rfl (h a b r)
theorem lQ (l:List Pk) (h:EJ l):EJ (aU l):=by
 induction l using aU.induct with
 | case1 a b r ih=>
   rw[aU];have g:=List.pairwise_cons.1 h;have f:=List.pairwise_cons.1 g.2;refine List.pairwise_cons.2 ⟨λp hp=> ?_,ih f.2⟩;obtain⟨c,i,d,hd,e,_⟩ :=od r p hp;have:=g.1 c (List.mem_cons_of_mem _ i);have:=f.1 d hd;show a.w+b.w<=p.w
   omega
 | case2 t h'=>
   match t,h' with
   | [],_=>exact List.Pairwise.nil
   | [a],_=>exact List.Pairwise.nil
   | a::b::r,h'=>exact absurd rfl (h' a b r)
theorem uV (hF:EJ F) (k:Nat):EJ (lev F k):=by
 induction k with
 | zero=>exact hF
 | succ k a=>exact Gh hF (lQ _ a)
theorem lM (F:List Pk) (k:Nat):(lev F (k+1)).length=F.length+(lev F k).length/2:=by rw[lev,pn,ep]
theorem pj (hF:∀p∈F,0<=p.w) (k:Nat):∀p∈lev F k,0<=p.w:=by
 induction k with
 | zero=>exact hF
 | succ k a=>
   intro p hp;rcases List.mem_append.1 ((kN _ _).mem_iff.1 hp)with h | h
   · exact hF p h
   · obtain⟨c,b,d,hd,e,_⟩ :=od _ p h;have:=a c b;have:=a d hd;omega
theorem Da (h:F.length<=n*2 ^ k):2*F.length<=(lev F k).length+n:=by
 induction k generalizing n with
 | zero=>rw[Nat.pow_zero,Nat.mul_one]at h;show 2*F.length<=F.length+n;omega
 | succ k a=>
   have:=a (n:=2*n) (by rw[Nat.pow_succ]at h;rw[Nat.mul_comm 2 n,Nat.mul_assoc,Nat.mul_comm 2];exact h);rw[lM];omega
def gJ:List Nat->Nat
 | []=>0
 | b::r=>b*2 ^ r.length+gJ r
theorem Kl (hF:EJ F) (N:∀p∈F,0<=p.w) (k:Nat):∀x,x<=(lev F k).length->∃A B,(A::B).length=k+1/\(∀b∈A::B,b<=F.length)/\(A::B).Pairwise (λc d=>d<=c)/\
  (mF ((lev F k).take x)).Perm ((A::B).flatMap λb=>mF (F.take b))/\gJ (A::B)=x*2 ^ k/\∀e∈F.take A,e∈(lev F k).take x:=by
 induction k with
 | zero=>
   intro x l;refine⟨x,[],rfl,λb a=> ?_,σ, ?_,by simp [gJ],λe g=>g⟩
   · rcases List.mem_cons.1 a with rfl | a
     · exact l
     · simp at a
   · show(mF (F.take x)).Perm _
     simp
 | succ k G=>
   intro x l;have I:=lQ _ (uV hF k);obtain⟨f,D,b1,V,j,C,S,y,R,U⟩ :=xT hF I (x:=x) (by rw[<-pn];exact l)
   have M:b1.length<=(lev F k).length/2:=by
    rw[<-ep,C,List.length_append];omega
   have m:b1=(aU (lev F k)).take b1.length:=by rw[C,List.take_left]
   have i:f=F.take f.length:=by rw[j,List.take_left]
   obtain⟨A,B,v,u,t,Q,P,O⟩ :=G (2*b1.length) ω;have L:((lev F k).take (2*b1.length)).length%2=0:=by rw[List.length_take];omega
   obtain⟨r,E,o⟩ :=vk _ L;rw[<-vo,<-m]at r E o
   have s:A<=f.length:=by
    rcases Nat.lt_or_ge f.length A with K | h
    · exfalso
      have n:=u A List.mem_cons_self;cases D with
      | nil=>rw[j,List.append_nil]at n;omega
      | cons q D=>
        have J:q∈F.take A:=by
         rw[j,List.take_append];refine List.mem_append_right _ ?_;obtain⟨z,H⟩ :∃z,A-f.length=z+1:= ⟨A-f.length-1,ω⟩;rw[H,List.take_succ_cons];exact List.mem_cons_self
        obtain⟨p,hp,T⟩ :=o (λe g=>pj N k e (List.mem_of_mem_take g)) q (O q J);have:=R p hp q List.mem_cons_self;omega
    · exact h
   refine⟨f.length,A::B,by rw[List.length_cons,v],λb a=> ?_,List.pairwise_cons.2 ⟨λb a=> ?_,t⟩, ?_, ?_,λe g=> ?_⟩
   · rcases List.mem_cons.1 a with rfl | a
     · rw[j,List.length_append];omega
     · exact u b a
   · rcases List.mem_cons.1 a with rfl | a
     · exact s
     · exact Nat.le_trans ((List.pairwise_cons.1 t).1 b a) s
   · refine(MN y).trans ?_;rw[lq,List.flatMap_cons,<-i,r];exact List.Perm.append_left _ Q
   · rw[gJ,v,P,<-S,Nat.pow_succ,Nat.add_mul];congr 1;rw[Nat.mul_comm 2 b1.length,Nat.mul_assoc,Nat.mul_comm 2]
   · rw[<-i]at g;exact y.mem_iff.2 (List.mem_append_left _ g)
theorem Km (hF:EJ F) (r:∀p∈F,0<=p.w) (k:Nat):∀B:List Nat,B.length=k+1->(∀b∈B,b<=F.length)->gJ B/2 ^ k<=(lev F k).length/\ky ((lev F k).take (gJ B/2 ^ k))<=(B.map λb=>ky (F.take b)).sum:=by
 induction k with
 | zero=>
   intro B a d
   match B,a with
   | [b],_=>
     have e:gJ [b] / 2 ^ 0=b:=by simp [gJ]
     rw[e];refine⟨d b List.mem_cons_self, ?_⟩;show ky (F.take b)<=_
     simp
 | succ k j=>
   intro B a d
   match B,a with
   | b::B,a=>
     have a:B.length=k+1:=by simpa using a
     obtain⟨q,o⟩ :=j B a λc m=>d c (List.mem_cons_of_mem _ m)
     obtain⟨X,i⟩ :=ν (gJ B/2 ^ k)
     have e:gJ (b::B)/2 ^ (k+1)=b+X/2:=by
      rw[gJ,a,<-i,Nat.div_div_eq_div_mul,<-Nat.pow_succ,Nat.add_comm,Nat.add_mul_div_right _ _ (Nat.two_pow_pos _),Nat.add_comm]
     rw[i]at q o;have n:=d b List.mem_cons_self;rw[e];have h:X/2<=(aU (lev F k)).length:=by rw[ep];omega
     refine⟨by rw[lM];omega, ?_⟩;have s:=Ko hF (lQ _ (uV hF k)) n h;have l:((lev F k).take (2*(X/2))).length%2=0:=by rw[List.length_take];omega
     have h4:=(vk _ l).2.1;rw[<-vo]at h4
     have h5:ky ((lev F k).take (2*(X/2)))<=ky ((lev F k).take X):=by
      have f:(lev F k).take X=(lev F k).take (2*(X/2))++((lev F k).take X).drop (2*(X/2)):=by
       have:(lev F k).take (2*(X/2))=((lev F k).take X).take (2*(X/2)):=by rw[List.take_take,Nat.min_eq_left ω]
       rw[this,List.take_append_drop]
      have g:0<=ky (((lev F k).take X).drop (2*(X/2))):=vV λp hp=>pj r k p (List.mem_of_mem_take (List.mem_of_mem_drop hp))
      rw[f,fZ];omega
     rw[List.map_cons,List.sum_cons];show ky ((tM F (aU (lev F k))).take (b+X/2))<=_
     omega
end
end Go.Proofs.YtddhegejmkgmjaaGreat
