/-
  part
-/
import Derived.WalkKit
import Derived.WalkLawsBesides
import Derived.WalkSpells
import Derived.Below
import Derived.Laws.OwnMore
import Derived.Deep.AppendLies
import Derived.Deep.Draws
import Derived.Deep.QuietTactic
import Derived.BigQuiet
import Derived.BigGuardPart
import Derived.Lib.Hide
import Derived.LoopTactic
import Derived.Deep.LoopGhost
import Derived.RegionTactic
import Derived.Outline
import Derived.WalkSmall
import Derived.OneCell
set_option linter.unusedVariables false
set_option maxRecDepth 100000
set_option maxHeartbeats 4000000
namespace Go.Proofs.YtdhmnlpfhfmpfaaGreat
open Go.RowKit
theorem ω {p:Prop} (h:p:=by omega):p:=h
theorem σ {p:Prop} (h:p:=by simp):p:=h
theorem δ {p:Prop} (h:p:=by decide):p:=h
theorem ξ {p:Prop} (h:p:=by simp;omega):p:=h
theorem ν {α:Sort _} (a:α):∃b,a=b:=⟨a,rfl⟩
abbrev af:=@List.length_append
abbrev aa:=@if_neg
abbrev ag:=@Nat.le_refl
abbrev ae:=@if_pos
abbrev ak:=@List.append_assoc
abbrev aq:=@List.getD_eq_getElem?_getD
abbrev av:=@List.length_drop
abbrev au:=@Nat.le_trans
abbrev ax:=@List.append_nil
abbrev aw:=@Below.refl
abbrev ay:=@List.take_of_length_le
abbrev az:=@List.mem_cons_self
abbrev aB:=@List.mem_cons_of_mem
abbrev aC:=@List.eq_nil_of_length_eq_zero
abbrev aA:=@List.length_take
abbrev aD:=@Nat.lt_of_lt_of_le
abbrev aG:=@Int.eq_ofNat_of_zero_le
abbrev aF:=@Nat.zero_le
abbrev aH:=@List.mem_of_mem_take
abbrev aK:=@IntWalk.i64_in
abbrev aM:=@List.take_append_drop
abbrev aJ:=@info_parts
abbrev aN:=@List.mem_append
abbrev aQ:=@List.length_replicate
abbrev aO:=@decide_eq_false
abbrev aR:=@List.pairwise_cons
abbrev aL:=@congrArg
abbrev aS:=@decide_eq_true
abbrev aT:=@List.nil_append
abbrev aU:=@Int.toNat_natCast
abbrev aX:=@List.mem_of_mem_drop
abbrev aV:=@List.mem_cons
abbrev aY:=@List.take_succ_eq_append_getElem
abbrev aZ:=@Nat.lt_or_ge
abbrev bc:=@List.length_cons
abbrev bg:=@List.mem_singleton
abbrev bh:=@bodyPost_ret
abbrev bm:=@List.drop_drop
abbrev bq:=@Nat.pow_le_pow_right
abbrev br:=@List.getElem?_eq_none
abbrev bn:=@Int.emod_eq_of_lt
abbrev bu:=@List.mem_append_right
abbrev bw:=@Nat.min_eq_left
abbrev bD:=@List.map_congr_left
abbrev bF:=@List.getElem?_append_right
abbrev bG:=@List.map_cons
abbrev bJ:=@List.getElem?_append_left
abbrev bM:=@List.take_succ_cons
abbrev bK:=@Calls.quiet_of_same
abbrev bL:=@List.sum_cons
abbrev bN:=@List.getElem?_eq_getElem
abbrev bO:=@Decidable.not_not
abbrev bS:=@Nat.add_sub_cancel_left
abbrev bP:=@List.take_append_of_le_length
abbrev bT:=@List.drop_eq_getElem_cons
abbrev bY:=@Nat.add_sub_cancel
abbrev bZ:=@Nat.zero_add
abbrev cF:=@List.getElem_mem
abbrev cJ:=@List.length_singleton
abbrev cI:=@List.Perm.append_left
abbrev cM:=@of_decide_eq_true
abbrev cS:=@Nat.eq_zero_or_pos
abbrev cQ:=@List.mem_of_getElem?
abbrev cP:=@List.mem_append_left
abbrev cO:=@List.Perm.refl
abbrev cK:=@Int.tmod_eq_emod_of_nonneg
abbrev cR:=@Below.heap_setCell
abbrev cZ:=@Nat.le_of_lt
abbrev df:=@Int.le_refl
abbrev dr:=@heap_alloc_new
abbrev dh:=@Array.getElem?_append_left
abbrev dt:=@List.map_append
abbrev dA:=@List.cons_append
abbrev dH:=@World.cell?_alloc_lt
abbrev dG:=@Nat.mul_one
abbrev dD:=@Nat.add_mul
abbrev dI:=@Calls.quiet_of
abbrev dC:=@List.getElem?_replicate
abbrev dR:=@Nat.sub_self
abbrev dM:=@List.drop_of_length_le
abbrev dU:=@Nat.mod_eq_of_lt
abbrev dS:=@World.cell?_setCell_other
abbrev ez:=@Nat.two_pow_pos
abbrev ep:=@List.take_left'
abbrev eo:=@List.length_set
abbrev ek:=@List.drop_left'
abbrev eB:=@Nat.pow_succ
abbrev eA:=@Nat.mul_comm
abbrev ei:=@Int.ediv_ediv_of_nonneg
abbrev eI:=@Below.heap_alloc
abbrev dW:=@List.drop_append_of_le_length
abbrev eG:=@List.Perm.append_right
abbrev eP:=@Int.pow_succ
abbrev eO:=@Int.mul_comm
abbrev eX:=@Nat.min_le_left
abbrev eW:=@Int.natCast_mul
abbrev eZ:=@Nat.add_assoc
abbrev eE:=@Nat.two_pow_add_eq_or_of_lt
abbrev fe:=@World.cell?_of_block
abbrev fc:=@Nat.mul_le_mul_right
abbrev fu:=@Nat.le_succ
abbrev ft:=@List.take_take
abbrev fy:=@List.ext_getElem
abbrev fx:=@IntKind.wrap_u64
abbrev fw:=@IntKind.wrap_u32
abbrev eR:=@Nat.shiftRight_eq_div_pow
abbrev eQ:=@List.mem_or_eq_of_mem_set
abbrev fL:=@Nat.mul_assoc
abbrev fK:=@List.sum_append
abbrev fW:=@lt_of_block
abbrev fG:=@Nat.testBit_lt_two_pow
abbrev gB:=@Nat.mul_le_mul
abbrev gy:=@List.take_left
abbrev gF:=@List.mem_map
abbrev gv:=@List.drop_left
abbrev fF:=@List.drop_eq_nil_of_le
abbrev fV:=@List.count_append
abbrev fg:=@Nat.and_two_pow_sub_one_eq_mod
abbrev gK:=@List.take_append
abbrev gJ:=@List.mem_flatMap
abbrev gI:=@List.all_eq_true
abbrev gA:=@Nat.eq_of_testBit_eq
abbrev fq:=@Int.mul_le_mul_of_nonneg_left
abbrev gu:=@BitVec.ofInt_natCast
abbrev i6:=@List.length_map
abbrev gZ:=@List.foldl_cons
abbrev gY:=@Int.natCast_add
abbrev fE:=@Array.getElem?_setIfInBounds
abbrev gO:=@Nat.add_sub_cancel'
abbrev gN:=@List.length_reverse
abbrev iz:=@List.take_zero
abbrev iy:=@List.mem_range
abbrev ib:=@List.getElem?_take
abbrev iw:=@List.drop_zero
abbrev ia:=@Int.emod_lt_of_pos
abbrev i9:=@BitVec.toNat_ofNat
abbrev iU:=@wpList_step
abbrev iT:=@cell_of_row
abbrev iR:=@Below.trans
abbrev gM:=@List.eq_of_mem_replicate
abbrev iL:=@Nat.lt_succ_self
abbrev i7:=@List.pairwise_singleton
abbrev jz:=@Nat.sub_zero
abbrev jy:=@List.map_map
abbrev jx:=@Int.le_of_lt
abbrev js:=@Nat.not_lt_zero
abbrev jr:=@List.range_succ
abbrev jq:=@Int.emod_nonneg
abbrev iH:=@List.perm_append_comm
theorem η {p:Prop} (h:p):Hid p:=h
theorem bH (a:Addr) (n:Nat):(a.add n).block=a.block:=by unfold Addr.add;split <;> rfl
theorem GM (a:Addr) (i j:Nat):(a.add i).add j=a.add (i+j):=by
 unfold Addr.add;by_cases hi:i=0 <;> by_cases b:j=0 <;> simp [hi,b,Nat.add_assoc]
def Rd (w:World) (B:Nat) (A:Option Addr) (m:Nat) (f:Nat->Value):Prop:=
 0<m->∃a,A=some a/\a.block<B/\∀i,i<m->w.cell? (a.add i)=some (f i)
def ix (l:List Int) (i:Nat):Int:=l.getD i 0
def bU (k:IntKind) (w:World) (B:Nat) (A:Option Addr) (n:Nat) (l:List Int):Prop:=
 n=l.length/\Rd w B A n (λi=> .int k (ix l i))
section
variable {w w':World} {B B' n m:Nat} {A:Option Addr} {f:Nat->Value}
theorem Rd.dK:Rd w B A 0 f:=λh=>absurd h ω
theorem Rd.keep (h:Rd w B A m f) (c:∀p:Addr,p.block<B->w'.cell? p=w.cell? p):Rd w' B A m f:=λb=>by
 obtain⟨g,e,a,d⟩ :=h b;exact⟨g,e,a,λi hi=>(c _ (by rw[bH];exact a)).trans (d i hi)⟩
theorem Rd.more (h:Rd w B A m f) (g:B<=B'):Rd w B' A m f:=λa=>by
 obtain⟨c,e,d,b⟩ :=h a;exact⟨c,e,ω,b⟩
theorem Rd.below (h:Rd w B A m f) (a:Below B w w'):Rd w' B A m f:=h.keep λ_ hp=>a.cell hp
theorem Rd.congr {g:Nat->Value} (h:Rd w B A m f) (a:∀i,i<m->f i=g i):Rd w B A m g:=λb=>by
 obtain⟨j,e,d,c⟩ :=h b;exact⟨j,e,d,λi hi=>by rw[c i hi,a i hi]⟩
end
section
variable {k:IntKind} {w w':World} {B B' n:Nat} {A:Option Addr} {l:List Int}
theorem bU.at_ (h:bU k w B A n l) {i:Nat} (hi:i<n):∃a,A=some a/\a.block<B/\w.cell? (a.add i)=some (.int k (ix l i)):=by
 obtain⟨a,e,c,b⟩ :=h.2 ω;exact⟨a,e,c,b i hi⟩
theorem bU.keep (h:bU k w B A n l) (a:∀p:Addr,p.block<B->w'.cell? p=w.cell? p):bU k w' B A n l:= ⟨h.1,h.2.keep a⟩
theorem bU.more (h:bU k w B A n l) (a:B<=B'):bU k w B' A n l:= ⟨h.1,h.2.more a⟩
theorem bU.below (h:bU k w B A n l) (a:Below B w w'):bU k w' B A n l:= ⟨h.1,h.2.below a⟩
theorem bU.drewN (h:bU k w B A n l) (j:Nat):bU k (w.drewN j) B A n l:=h
end
theorem cn {k:IntKind} {a b:Int} (h:a=b):Ending.returned (.int k a)= .returned (.int k b):=by rw[h]
theorem wh {a b:Bool} (h:a=b):Ending.returned (.bool a)= .returned (.bool b):=by rw[h]
def Ar (w:World) (g m:Nat) (f:Nat->Value):Prop:=
 ∃(cs:Array Value) (t:TypeId) (fr:Nat×Nat),w.heap[g]?=some (.cells cs t fr)/\(m<=fr.1\/fr.2=0)/\m<=cs.size/\∀i,i<m->cs[i]?=some (f i)
def upd {α:Type} (f:Nat->α) (i:Nat) (v:α):Nat->α:=λj=>if j=i then v else f j
theorem upd_same {α:Type} (f:Nat->α) (i:Nat) (v:α):upd f i v i=v:=by simp [upd]
theorem dL {α:Type} (f:Nat->α) {i j:Nat} (v:α) (h:j≠i):upd f i v j=f j:=by simp [upd,h]
section
variable {w w':World} {g m:Nat} {f:Nat->Value}
theorem Ar.lt (h:Ar w g m f):g<w.heap.size:=by
 obtain⟨cs,t,b,a,_⟩ :=h;exact fW a
theorem Ar.cell (h:Ar w g m f) {i:Nat} (hi:i<m):w.cell? ⟨g,i,none⟩ =some (f i):=by
 obtain⟨cs,t,c,a,_,_,b⟩ :=h;rw[iT w g i cs t c a,b i hi]
theorem Ar.frozen' (h:Ar w g m f) {i:Nat} (hi:i<m):w.frozen? ⟨g,i,none⟩ =false:=by
 obtain⟨cs,t, ⟨lo,a⟩,b,hf,_⟩ :=h;simp [World.frozen?,b];simp at hf;omega
theorem Ar.drewN (h:Ar w g m f) (k:Nat):Ar (w.drewN k) g m f:=h
theorem Ar.drew (h:Ar w g m f):Ar w.drew g m f:=h
theorem Ar.same (h:Ar w g m f) (b:w'.heap[g]?=w.heap[g]?):Ar w' g m f:=by
 obtain⟨cs,t,c,a,r⟩ :=h;exact⟨cs,t,c,b.trans a,r⟩
theorem Ar.alloc (h:Ar w g m f) (o:Obj):Ar (w.alloc o) g m f:=h.same (eI w o g h.lt)
theorem Ar.far (h:Ar w g m f) {p:Addr} (hp:g≠p.block) (u:Value):Ar (w.setCell p u) g m f:=h.same (cR w p u g hp)
theorem Ar.below {B:Nat} (h:Ar w g m f) (b:Below B w w') (a:g<B):Ar w' g m f:=h.same (b.block g a)
theorem Ar.keeps (h:Ar w g m f) (a:Below w.heap.size w w'):Ar w' g m f:=h.below a h.lt
theorem Ar.grown {row:Option Nat} (h:Ar w g m f) (b:w.grownBy w' row) (a:some g≠row):Ar w' g m f:=h.same (b.block g h.lt a)
theorem Ar.bC (h:Ar w g m f) {i:Nat} (hi:i<m) (u:Value):Ar (w.setCell ⟨g,i,none⟩ u) g m (upd f i u):=by
 obtain⟨cs,t,k,d,hf,b,e⟩ :=h;refine⟨cs.setIfInBounds i u,t,k, ?_,hf,by simpa using b,λj c=> ?_⟩
 · simp [World.setCell,Array.getElem?_modify,d]
 rw[fE];by_cases a:i=j
 · subst a;rw[ae rfl,ae ω,upd_same]
 rw[aa a,e j c,dL _ _ ω]
theorem Ar.congr {f':Nat->Value} (h:Ar w g m f) (hf:∀i,i<m->f i=f' i):Ar w g m f':=by
 obtain⟨cs,t,e,c,a,b,d⟩ :=h;exact⟨cs,t,e,c,a,b,λi hi=>by rw[d i hi,hf i hi]⟩
theorem Ar.new (w:World) (cs:Array Value) (t:TypeId) (a:cs.size=m) (hf:∀i,i<m->cs[i]?=some (f i)):Ar (w.alloc (.cells cs t)) w.heap.size m f:=
 ⟨cs,t,(0,0),dr w _, .inr rfl,Nat.le_of_eq a.symm,hf⟩
theorem Ar.rd (h:Ar w g m f) {B n:Nat} (a:g<B) (b:n<=m):Rd w B (some ⟨g,0,none⟩) n f:=λ_=>by
 refine⟨_,rfl,a,λi hi=> ?_⟩;have:(⟨g,0,none⟩ :Addr).add i= ⟨g,i,none⟩ :=by unfold Addr.add;split <;> simp_all
 rw[this];exact h.cell ω
end
theorem bU.head {k:IntKind} {w:World} {B n g:Nat} {l:List Int} (h:bU k w B (some ⟨g,0,none⟩) n l) {i:Nat} (hi:i<n):w.cell? ⟨g,i,none⟩ =some (.int k (ix l i)):=by
 obtain⟨b,e,_,a⟩ :=h.at_ hi;cases e;have:(⟨g,0,none⟩ :Addr).add i= ⟨g,i,none⟩ :=by unfold Addr.add;split <;> simp_all
 rwa [this]at a
theorem QC {k:IntKind} {w:World} {a:Option Addr} {len cap:Nat} {zs:List Int}
  (h:(a=none/\len=0/\cap=0/\zs=[])\/∃x,a=some x/\len<=cap/\cap<=maxLen/\zs.length=cap/\(∀i,i<zs.length->w.cell? (x.add i)=some (.int k (zs.getD i 0)))/\∀n∈zs,(Lit.int k n).wf=true):
  bU k w w.heap.size a len (zs.take len)/\len<=maxLen/\∀n∈zs.take len,(Lit.int k n).wf=true:=by
 rcases h with ⟨rfl,rfl,rfl,rfl⟩ | ⟨x,rfl,j,g,hz,d,e⟩
 · exact⟨⟨rfl,Rd.dK⟩,aF _,λn b=>by simp at b⟩
 refine⟨⟨ξ,λl=> ⟨x,rfl, ?_,λi hi=> ?_⟩⟩,ω,λn b=>e n (aH b)⟩
 · have f:=d 0 ω
   have c:(x.add 0).block<w.heap.size:=by
    rcases aZ (x.add 0).block w.heap.size with h' | h'
    · exact h'
    simp [World.cell?,Array.getElem?_eq_none h']at f
   rwa [bH]at c
 rw[d i ω];congr 2;simp [ix,hi]
theorem bounds_u8 {x:Int} (h:(Lit.int .u8 x).wf=true):0<=x/\x<256:=by
 have:0<=x/\x<=255:=by simpa [Lit.wf,IntKind.min,IntKind.max,IntKind.signed,IntKind.bits] using h
 omega
theorem bU.lit (k:IntKind) (w:World) (l:List Int) (t:TypeId):bU k (w.alloc (.cells (l.map (Value.int k)).toArray t)) (w.heap.size+1) (some ⟨w.heap.size,0,none⟩) l.length l:=by
 refine⟨rfl, ?_⟩
 have h:Ar (w.alloc (.cells (l.map (Value.int k)).toArray t)) w.heap.size l.length (λi=> .int k (ix l i)):=
  Ar.new w _ t σ λi hi=>by simp [ix,hi]
 exact h.rd ω (ag _)
theorem bU.Vu (k:IntKind) {w:World} {g:Nat} (a:g=w.heap.size) (l:List Int) (t:TypeId):bU k (w.alloc (.cells (l.map (Value.int k)).toArray t)) (g+1) (some ⟨g,0,none⟩) l.length l:=by
 subst a;exact bU.lit k w l t
theorem bU.alloc {k:IntKind} {w:World} {B n:Nat} {A:Option Addr} {l:List Int} (h:bU k w B A n l) (a:B<=w.heap.size) (o:Obj):bU k (w.alloc o) B A n l:=
 h.keep λp hp=>dH w o p ω
def Sz (w:World) (n:Nat):Prop:=w.heap.size=n
theorem Sz.bC {w:World} {n:Nat} (h:Sz w n) (p:Addr) (u:Value):Sz (w.setCell p u) n:=by unfold Sz at*;simpa [World.setCell] using h
theorem Sz.drew {w:World} {n:Nat} (h:Sz w n):Sz w.drew n:=h
theorem Sz.alloc {w:World} {n:Nat} (h:Sz w n) (o:Obj):Sz (w.alloc o) (n+1):=by unfold Sz at*;simp [h]
def eD (n:Nat) (z:Value):Array Value:=Array.replicate n z
theorem qb (n:Nat) (z:Value):(eD n z).size=n:=by simp [eD]
theorem Ou {n i:Nat} (z:Value) (hi:i<n):(eD n z)[i]?=some z:=by simp [eD,hi]
theorem Ar.zeros (w:World) (n:Nat) (z:Value) (t:TypeId):Ar (w.alloc (.cells (eD n z) t)) w.heap.size n (λ_=>z):=
 Ar.new w _ t (qb n z) λ_ hi=>Ou z hi
theorem Ar.MJ {w:World} (n:Nat) (z:Value) (t:TypeId) {g:Nat} (a:g=w.heap.size):Ar (w.alloc (.cells (eD n z) t)) g n (λ_=>z):=by
 subst a;exact Ar.zeros w n z t
theorem fQ {P:Program} (t e:TypeId) (i:TypeInfo) (z:Value) (ht:P.underlying t=some (.slice e)) (hi:P.info? e=some i) (hz:i.zero=some z) (f:i.size=1) (b:z.cells= #[z])
  (kl c:IntKind) (n:Nat) (a:i.bytes*n<=281474976710656) (k:n<=9223372036854775807) (w:World):
  (Instr.makeSlice t (.int kl (n:Int)) (.int c (n:Int))).run P w= .ok (.slice (some ⟨w.heap.size,0,none⟩) n n) (w.alloc (.cells (eD n z) e)):=by
 have g:(i.bytes:Int)*(n:Int)<=281474976710656:=by
  have h:((i.bytes*n:Nat):Int)<=281474976710656:=ω
  rwa [eW]at h
 have d:=run_make (P:=P) w t e i z ht hi hz kl c n n ω ω g ω;simp only [Int.toNat_natCast,f,Nat.mul_one]at d;rw[d]
 have:madeCells z.cells n=eD n z:=by
  apply Array.ext
  · rw[size_madeCells,qb]
  intro j m l;have e:(#[z]:Array Value).size=1:=rfl;simp [madeCells,eD,b,Nat.mod_one]
 rw[this]
theorem CJ {P:Program} (t e:TypeId) (i:TypeInfo) (z:Value) (ht:P.underlying t=some (.slice e)) (hi:P.info? e=some i) (hz:i.zero=some z) (g:i.size=1) (b:z.cells= #[z])
  (kl d:IntKind) (n c:Nat) (m:n<=c) (a:i.bytes*c<=281474976710656) (l:c<=9223372036854775807) (w:World):
  (Instr.makeSlice t (.int kl (n:Int)) (.int d (c:Int))).run P w= .ok (.slice (some ⟨w.heap.size,0,none⟩) n c) (w.alloc (.cells (eD c z) e)):=by
 have k:(i.bytes:Int)*(c:Int)<=281474976710656:=by
  have h:((i.bytes*c:Nat):Int)<=281474976710656:=ω
  rwa [eW]at h
 have f:=run_make (P:=P) w t e i z ht hi hz kl d n c ω ω k ω;simp only [Int.toNat_natCast,g,Nat.mul_one]at f;rw[f]
 have:madeCells z.cells c=eD c z:=by
  apply Array.ext
  · rw[size_madeCells,qb]
  intro j p o;have e:(#[z]:Array Value).size=1:=rfl;simp [madeCells,eD,b,Nat.mod_one]
 rw[this]
def lB (j:Nat):Nat:=if j=28 then 258 else if j<8 then 3+j else 3+(4+j%4)*2 ^ (j/4-1)
def lE (j:Nat):Nat:=if j=28 then 0 else if j<8 then 0 else j/4-1
def dB (j:Nat):Nat:=if j<4 then 1+j else 1+(2+j%2)*2 ^ (j/2-1)
def dE (j:Nat):Nat:=if j<4 then 0 else j/2-1
def lR (j:Nat):Nat:=if j=28 then 259 else lB j
theorem Yi:∀j,j<30->dB (j+1)=dB j+2 ^ dE j:=by decide+kernel
theorem a00:∀j,j<28->lB (j+1)<=lB j+2 ^ lE j:=by decide+kernel
theorem IB:∀j,j<29->3<=lB j/\lB j<=258/\lE j<=5:=by decide+kernel
theorem KH:∀j,j<30->1<=dB j/\dB j<=24577/\dE j<=13:=by decide+kernel
def rS (B:Nat->Nat) (a:Nat) (n:Int) (j:Nat):Prop:=j<=a/\((B j:Nat):Int)<=n/\∀i,j<i->i<=a->n<((B i:Nat):Int)
theorem rS.uniq {B:Nat->Nat} {a:Nat} {n:Int} {j k:Nat} (h:rS B a n j) (h':rS B a n k):j=k:=by
 rcases Nat.lt_trichotomy j k with b | b | b
 · have:=h.2.2 k b h'.1;have:=h'.2.1;omega
 · exact b
 have:=h'.2.2 j b h.1;have:=h.2.1;omega
theorem rS.a1x {n:Int} {j:Nat} (h:rS lB 28 n j) (c:n<=258):n-((lB j:Nat):Int)<((2 ^ lE j:Nat):Int):=by
 obtain⟨e,d,b⟩ :=h;by_cases a:j=28
 · subst a;have:lB 28=258:=δ;have:2 ^ lE 28=1:=δ;omega
 have h4:=b (j+1) ω ω;have h5:=a00 j ω;omega
theorem rS.a1w {n:Int} {j:Nat} (h:rS dB 29 n j) (c:n<=32768):n-((dB j:Nat):Int)<((2 ^ dE j:Nat):Int):=by
 obtain⟨e,d,b⟩ :=h;have h5:=Yi j ω;by_cases a:j=29
 · subst a;have:dB (29+1)=32769:=δ;omega
 have h4:=b (j+1) ω ω;omega
def kJ (B E:Nat->Nat) (lo hi off:Int) (a:Nat) (n:Int) (v:Value):Prop:=
 ((n<lo\/hi<n)/\v= .tuple #[.int .i64 0, .int .i64 0, .int .i64 0])\/
 ((lo<=n/\n<=hi)/\∃j,rS B a n j/\v= .tuple #[.int .i64 (off+(j:Int)), .int .i64 ((E j:Nat):Int), .int .i64 (n-((B j:Nat):Int))])
def cnt (l:List Int):Nat->Nat->Nat
 | 0,_=>0
 | k+1,v=>cnt l k v+if ix l k=(v:Int)then 1 else 0
def nI (l:List Int):Nat->Nat
 | 0=>0
 | 1=>0
 | v+2=>2*(nI l (v+1)+cnt l l.length (v+1))
def isLen (x:Int):Bool:=decide (1<=x/\x<=15)
def fo (l:List Int) (i:Nat):Nat:=if isLen (ix l i)then nI l (ix l i).toNat+cnt l i (ix l i).toNat else 0
def jd (l:List Int):List Int:=if l.length<=288 then(List.range l.length).map λi=>(fo l i:Int)else []
theorem lI (l:List Int) (k v:Nat):cnt l k v<=k:=by
 induction k with
 | zero=>simp [cnt]
 | succ k a=>simp only [cnt];split <;> omega
theorem Hd (l:List Int) (v:Nat) {j k:Nat} (h:j<=k):cnt l j v<=cnt l k v:=by
 induction k with
 | zero=>have:j=0:=ω
         subst this;omega
 | succ k a=>
   by_cases e:j=k+1
   · subst e;omega
   have:=a ω;simp only [cnt];split <;> omega
theorem a3Z (l:List Int) (b:l.length<=288) (v:Nat):nI l v+576<=576*2 ^ v:=by
 induction v with
 | zero=>simp [nI]
 | succ v a=>
   cases v with
   | zero=>simp [nI]
   | succ v=>
     have:=lI l l.length (v+1);simp only [nI,Nat.pow_succ]at a⊢;omega
theorem uG (l:List Int) (a:l.length<=288) {v:Nat} (hv:v<=15):nI l v<=18874368:=by
 have h:=a3Z l a v;have b:2 ^ v<=2 ^ 15:=bq ω hv;omega
theorem rY (l:List Int) (h:l.length<=288):(jd l).length=l.length:=by simp [jd,h]
theorem qD (l:List Int) (h:l.length<=288) {i:Nat} (hi:i<l.length):ix (jd l) i=(fo l i:Int):=by
 simp [ix,jd,h,hi]
def dJ (l:List Int):Prop:=∀x∈l,x=0\/x=1
def fH:List Int->Int
 | []=>0
 | b::l=>b+2*fH l
def dv:Int->Nat->List Int
 | _,0=>[]
 | v,n+1=>v%2::dv (v/2) n
theorem aP (v:Int) (n:Nat):(dv v n).length=n:=by
 induction n generalizing v with
 | zero=>rfl
 | succ n a=>simp [dv,a]
theorem dJ.dK:dJ []:=λx h=>by cases h
theorem dJ.app {a b:List Int} (h:dJ a) (h':dJ b):dJ (a++b):=λx d=>by
 rcases aN.1 d with c | c
 · exact h x c
 exact h' x c
theorem dJ.dX {a:List Int} (h:dJ a) (k:Nat):dJ (a.drop k):=λx b=>h x (aX b)
theorem dJ.tY {a:List Int} (h:dJ a) (k:Nat):dJ (a.take k):=λx b=>h x (aH b)
theorem dJ.dv (v:Int) (n:Nat):dJ (dv v n):=by
 induction n generalizing v with
 | zero=>exact dJ.dK
 | succ n a=>
   intro x b;rcases aV.1 b with rfl | h
   · omega
   exact a _ x h
theorem dJ.zeros (n:Nat):dJ (List.replicate n 0):=λx a=> .inl (gM a)
theorem iZ (a b:List Int):fH (a++b)=fH a+2 ^ a.length*fH b:=by
 induction a with
 | nil=>simp [fH]
 | cons x a c=>simp only [List.cons_append,fH,c,List.length_cons,Int.pow_succ];rw[Int.mul_add,Int.mul_right_comm,eO 2];omega
theorem km {l:List Int} (h:dJ l):0<=fH l/\fH l<2 ^ l.length:=by
 induction l with
 | nil=>simp [fH]
 | cons x l a=>
   have d:=a λy b=>h y (aB _ b);have c:=h x (az ..);simp only [fH,List.length_cons,Int.pow_succ];omega
theorem two_pos (n:Nat):(0:Int)<2 ^ n:=Int.pow_pos ω
theorem gH (v:Int) (n:Nat):fH (dv v n)=v%2 ^ n:=by
 induction n generalizing v with
 | zero=>simp [dv,fH]
 | succ n d=>
   have hp:=two_pos n;have e:=jq (v/2) (b:=2 ^ n) ω;have h4:=ia (v/2) hp;have h5:=Int.emod_add_mul_ediv (v/2) (2 ^ n)
   have c:v%2+2*(v/2%2 ^ n)+2*2 ^ n*(v/2/2 ^ n)=v:=by
    rw[Int.mul_assoc];generalize 2 ^ n*(v/2/2 ^ n)=z at*;omega
   simp only [dv,fH,d,Int.pow_succ];rw[eO (2 ^ n) 2]
   calc v%2+2*(v/2%2 ^ n)=(v%2+2*(v/2%2 ^ n)+2*2 ^ n*(v/2/2 ^ n))%(2*2 ^ n):=by
         rw[Int.add_mul_emod_self_left,bn (a:=v%2+2*(v/2%2 ^ n)) (b:=2*2 ^ n) ω ω]
    _=v%(2*2 ^ n):=by rw[c]
theorem DF {l:List Int} (h:dJ l) (n:Nat):fH (l.take n)=fH l%2 ^ n:=by
 by_cases b:n<=l.length
 · have e:=iZ (l.take n) (l.drop n);rw[aM,aA,bw b]at e;have a:=km (h.tY n);rw[aA,bw b]at a;rw[e,Int.add_mul_emod_self_left,bn a.1 a.2]
 have a:=km h
 have:(2:Int) ^ l.length<=2 ^ n:=by
  rw[show n=l.length+(n-l.length) by omega,Int.pow_add];have:=two_pos (n-l.length);have c:=two_pos l.length
  calc (2:Int) ^ l.length=2 ^ l.length*1:=ω
   _<=2 ^ l.length*2 ^ (n-l.length):=fq ω ω
 rw[ay ω,bn a.1 ω]
theorem tD {l:List Int} (h:dJ l) (n:Nat):fH (l.drop n)=fH l/2 ^ n:=by
 by_cases b:n<=l.length
 · have e:=iZ (l.take n) (l.drop n);rw[aM,aA,bw b]at e;have a:=km (h.tY n);rw[aA,bw b]at a;have hp:=two_pos n;rw[e,Int.add_mul_ediv_left _ _ ω,Int.ediv_eq_zero_of_lt a.1 a.2];omega
 have a:=km h
 have:(2:Int) ^ l.length<=2 ^ n:=by
  rw[show n=l.length+(n-l.length) by omega,Int.pow_add];have:=two_pos (n-l.length);have c:=two_pos l.length
  calc (2:Int) ^ l.length=2 ^ l.length*1:=ω
   _<=2 ^ l.length*2 ^ (n-l.length):=fq ω ω
 rw[fF ω,Int.ediv_eq_zero_of_lt a.1 ω];rfl
theorem vT {l:List Int} (h:dJ l):dv (fH l) l.length=l:=by
 induction l with
 | nil=>rfl
 | cons x l a=>
   have c:=a λy b=>h y (aB _ b);have d:=h x (az ..);simp only [fH,List.length_cons,dv];rw[show(x+2*fH l)%2=x by omega,show(x+2*fH l)/2=fH l by omega,c]
theorem VJ (v:Int) (n:Nat):dv v (n+1)=dv v n++[v/2 ^ n%2]:=by
 induction n generalizing v with
 | zero=>simp [dv]
 | succ n a=>
   rw[dv,a,dv,dA];congr 4;rw[eP,eO,ei ω]
theorem O0 (v:Int) (n:Nat):dv (v%2 ^ n) n=dv v n:=by
 have:=vT (dJ.dv v n)
 rwa [aP,gH]at this
def jO (l:List Int):List Int:=(List.range (l.length/8)).map λi=>fH ((l.drop (8*i)).take 8)
def rest (l:List Int):List Int:=l.drop (8*(l.length/8))
def gG:List Int->List Int
 | []=>[]
 | b::l=>dv b 8++gG l
theorem mj (l:List Int):(jO l).length=l.length/8:=by simp [jO]
theorem jS (l:List Int):(rest l).length=l.length%8:=by simp [rest];omega
theorem eT (l:List Int):(gG l).length=8*l.length:=by
 induction l with
 | nil=>rfl
 | cons b l a=>simp [gG,aP,a];omega
theorem dJ.rest {l:List Int} (h:dJ l):dJ (rest l):=h.dX _
theorem dJ.gG (l:List Int):dJ (gG l):=by
 induction l with
 | nil=>exact dJ.dK
 | cons b l a=>exact(dJ.dv b 8).app a
theorem pI {l:List Int} (h:l.length<8):jO l=[]:=by unfold jO;rw[Nat.div_eq_of_lt h];rfl
theorem qP {l:List Int} (h:l.length<8):rest l=l:=by unfold rest;rw[Nat.div_eq_of_lt h];simp
theorem pH {a:List Int} (h:a.length=8) (l:List Int):jO (a++l)=fH a::jO l:=by
 unfold jO;rw[af,h,show(8+l.length)/8=l.length/8+1 by omega,List.range_succ_eq_map];simp only [List.map_cons,List.map_map];congr 1
 · rw[Nat.mul_zero,iw,bP ω,ay ω]
 apply bD
 intro i _;simp only [Function.comp];rw[show 8*(i+1)=a.length+8*i by omega,List.drop_append,fF ω,aT,bS]
theorem qO {a:List Int} (h:a.length=8) (l:List Int):rest (a++l)=rest l:=by
 unfold rest;rw[af,h,show 8*((8+l.length)/8)=a.length+8*(l.length/8) by omega,List.drop_append,fF ω,aT,bS]
theorem Mr {l:List Int} (h:8<=l.length):∃a b,l=a++b/\a.length=8:= ⟨l.take 8,l.drop 8,(aM ..).symm,ξ⟩
theorem N5 (a x:List Int):jO (a++x)=jO a++jO (rest a++x):=by
 induction e:a.length using Nat.strongRecOn generalizing a with
 | _ n ih=>
   by_cases h:a.length<8
   · rw[pI h,qP h];rfl
   obtain⟨b,c,rfl,d⟩ :=Mr (l:=a) ω;rw[ak,pH d,pH d,qO d,ih c.length (by rw[<-e,af];omega) c rfl];rfl
theorem J8 (a x:List Int):rest (a++x)=rest (rest a++x):=by
 induction e:a.length using Nat.strongRecOn generalizing a with
 | _ n ih=>
   by_cases h:a.length<8
   · rw[qP h]
   obtain⟨b,c,rfl,d⟩ :=Mr (l:=a) ω;rw[ak,qO d,qO d,ih c.length (by rw[<-e,af];omega) c rfl]
theorem vu {B:List Int} (h:∀b∈B,0<=b/\b<256):jO (gG B)=B:=by
 induction B with
 | nil=>rfl
 | cons b B a=>
   have d:=h b (az ..);rw[gG,pH (aP b 8),gH,a λy c=>h y (aB _ c)];congr 1;omega
theorem Wc (B:List Int):rest (gG B)=[]:=by
 unfold rest;rw[eT,Nat.mul_div_cancel_left _ ω,<-eT,List.drop_length]
theorem ua (a b:List Int):gG (a++b)=gG a++gG b:=by
 induction a with
 | nil=>rfl
 | cons x a c=>simp [gG,c]
theorem Y7 {l:List Int} (h:dJ l):gG (jO l)++rest l=l:=by
 induction f:l.length using Nat.strongRecOn generalizing l with
 | _ n ih=>
   by_cases e:l.length<8
   · rw[pI e,qP e];rfl
   obtain⟨a,b,rfl,d⟩ :=Mr (l:=l) ω;rw[pH d,qO d,gG,ak,ih b.length (by rw[<-f,af];omega) (λx c=>h x (bu _ c)) rfl];have:=vT (l:=a) λx c=>h x (cP _ c);rw[d]at this;rw[this]
theorem SJ {l:List Int} (h:dJ l):∀b∈jO l,0<=b/\b<256:=by
 intro b c;obtain⟨i,hi,rfl⟩ :=gF.1 c;have a:=km ((h.dX (8*i)).tY 8);have d:((l.drop (8*i)).take 8).length=8:=by have:=iy.1 hi;simp;omega
 rw[d]at a;exact a
theorem zJ {a:List Int} (h:a.length%8=0) (x:List Int):jO (a++x)=jO a++jO x:=by
 rw[N5];have:rest a=[]:=aC (by rw[jS,h]);rw[this];rfl
theorem QF {a:List Int} (h:a.length%8=0) (x:List Int):rest (a++x)=rest x:=by
 rw[J8];have:rest a=[]:=aC (by rw[jS,h]);rw[this];rfl
def qy (l:List Int):List Int:=l++List.replicate ((8-l.length%8)%8) 0
theorem mq (l:List Int):(qy l).length=l.length+(8-l.length%8)%8:=by simp [qy]
theorem pK (l:List Int):(qy l).length%8=0:=by rw[mq];omega
theorem dJ.qy {l:List Int} (h:dJ l):dJ (qy l):=h.app (dJ.zeros _)
theorem VK (n:Nat):dv 0 n=List.replicate n 0:=by
 induction n with
 | zero=>rfl
 | succ n a=>simp [dv,a,List.replicate_succ]
theorem SI {l:List Int} {j:Nat} (b:j<l.length/8) (h:dJ l):jO (l.take (8*(j+1)))=jO (l.take (8*j))++[fH (l.drop (8*j))%256]:=by
 have e:l.take (8*(j+1))=l.take (8*j)++(l.drop (8*j)).take 8:=by
  rw[show 8*(j+1)=8*j+8 by omega,List.take_add]
 have a:((l.drop (8*j)).take 8).length=8:=ξ;rw[e,zJ ξ];congr 1;have:=pH a [];rw[ax,pI (l:=[]) σ]at this;rw[this,DF (h.dX _)];rfl
theorem SK (l:List Int):jO (l.take (8*(l.length/8)))=jO l:=by
 conv=>rhs;rw[<-aM (8*(l.length/8)) l]
 rw[zJ ξ,pI (l:=l.drop _) ξ,ax]
theorem QE (l:List Int):rest l=l.drop (8*(l.length/8)):=rfl
def qK (v:Nat):Nat:=2 ^ (15-v)
theorem VV:qK 0=32768:=rfl
theorem xB (v:Nat):1<=qK v/\qK v<=32768:=by
 unfold qK;have b:2 ^ (15-v)<=2 ^ 15:=bq ω ω;have a:1<=2 ^ (15-v):=Nat.one_le_two_pow;omega
theorem Bg {v:Nat} (h:v<15):qK v=2*qK (v+1):=by
 unfold qK;have:15-v=(15-(v+1))+1:=ω;rw[this,eB];omega
theorem a0g (v:Nat):((qK v:Nat):Int)=2 ^ (15-v):=by unfold qK;simp
def share (x:Int):Nat:=if isLen x then qK x.toNat else 0
def sumTo (l:List Int):Nat->Nat
 | 0=>0
 | k+1=>sumTo l k+share (ix l k)
theorem pY {v:Nat} (b:1<=v) (a:v<=15):share (v:Int)=qK v:=by
 unfold share isLen;rw[ae ξ];simp
theorem mW {x:Int} (h:¬(1<=x/\x<=15)):share x=0:=by
 unfold share isLen;rw[aa (by simpa using h)]
theorem Wq (x:Int):share x<=32768:=by
 unfold share;split
 · exact(xB _).2
 omega
theorem wm (l:List Int) (k:Nat):sumTo l k<=32768*k:=by
 induction k with
 | zero=>simp [sumTo]
 | succ k a=>have:=Wq (ix l k);simp only [sumTo];omega
def dg (l:List Int):Nat->Nat
 | 0=>0
 | k+1=>dg l k+if 0<ix l k then 1 else 0
theorem J3 (l:List Int) (k:Nat):dg l k<=k:=by
 induction k with
 | zero=>simp [dg]
 | succ k a=>simp only [dg];split <;> omega
def tV (l:List Int) (k:Nat):Bool:=decide (∀i,i<k->ix l i<=1)
def kL (l:List Int) (n:Nat):Bool:=tV l n&&decide (dg l n<=1)
def yM (l:List Int) (most:Int) (k:Nat):Bool:=decide (∀i,i<k->0<=ix l i/\ix l i<=most)
def bb (l:List Int) (most:Int):Int:=
 if most<1\/15<most\/288<l.length then 1
 else if yM l most l.length=false then 1
 else if 32768<sumTo l l.length\/(sumTo l l.length<32768/\kL l l.length=false)then 3 else 0
theorem Fo {l:List Int} {most:Int} {k:Nat} (h:∀i,i<k->0<=ix l i/\ix l i<=most):yM l most k=true:=by simpa [yM] using h
theorem Vj {l:List Int} {most:Int} {n k:Nat} (a:k<n) (h:¬(0<=ix l k/\ix l k<=most)):yM l most n=false:=by
 rw[<-Bool.not_eq_true];intro b;have:=cM b;exact h (this k a)
def Gw (l:List Int) (k:Nat):Nat->Nat
 | 0=>0
 | m+1=>Gw l k m+cnt l k (m+1)*qK (m+1)
theorem WW (l:List Int) (k m:Nat):Gw l (k+1) m=Gw l k m+if 1<=ix l k/\ix l k<=m then qK (ix l k).toNat else 0:=by
 induction m with
 | zero=>simp [Gw];omega
 | succ m c=>
   simp only [Gw,cnt,c];by_cases h:ix l k=((m+1:Nat):Int)
   · rw[ae h,aa ω,ae ω,h,aU,dD];omega
   simp only [if_neg h,Nat.add_zero];by_cases b:1<=ix l k/\ix l k<=m
   · have a:1<=ix l k/\ix l k<=((m+1:Nat):Int):=ω;simp only [if_pos b,if_pos a];omega
   have a:¬(1<=ix l k/\ix l k<=((m+1:Nat):Int)):=ω;simp only [if_neg b,if_neg a];omega
theorem a0F (l:List Int) (k:Nat):Gw l k 15=sumTo l k:=by
 induction k with
 | zero=>simp [Gw,cnt,sumTo]
 | succ k a=>
   rw[WW,a];show _=sumTo l k+share (ix l k);congr 1;unfold share isLen;by_cases h:1<=ix l k/\ix l k<=15
   · rw[ae (by simpa using h),ae (by simpa using h)]
   rw[aa (by simpa using h),aa (by simpa using h)]
theorem JF (l:List Int) (k:Nat) {m a:Nat} (h:m<=a):Gw l k m<=Gw l k a:=by
 induction a with
 | zero=>have:m=0:=ω
         subst this;omega
 | succ q b=>
   by_cases e:m=q+1
   · subst e;omega
   have:=b ω;simp only [Gw];omega
theorem NZ (l:List Int) (v:Nat) (c:1<=v) (b:v<=15):nI l v*qK v=Gw l l.length (v-1):=by
 induction v with
 | zero=>omega
 | succ v a=>
   rcases v with _ | v
   · simp [nI,Gw]
   have hi:=a ω ω;have hp:=Bg (v:=v+1) ω;simp only [Nat.add_sub_cancel]at hi⊢;show 2*(nI l (v+1)+cnt l l.length (v+1))*qK (v+1+1)=Gw l l.length v+cnt l l.length (v+1)*qK (v+1);rw[<-hi,hp,<-dD,eA 2 (nI l (v+1)+cnt l l.length (v+1)),fL]
def placeOf (l:List Int) (i:Nat):Nat:=fo l i*qK (ix l i).toNat
theorem Bj {l:List Int} {i v:Nat} (b:1<=v) (a:v<=15) (e:ix l i=v):placeOf l i=Gw l l.length (v-1)+cnt l i v*qK v:=by
 unfold placeOf fo isLen;rw[e,ae ξ,aU,dD,NZ l v b a]
theorem qo {l:List Int} {i k v:Nat} (h:i<k) (e:ix l i=v):cnt l i v+1<=cnt l k v:=by
 have b:cnt l (i+1) v=cnt l i v+1:=by simp [cnt,e]
 have a:=Hd l v (show i+1<=k by omega);omega
theorem Qz {l:List Int} {i v:Nat} (c:1<=v) (b:v<=15) (e:ix l i=v) (hi:i<l.length):placeOf l i+qK v<=Gw l l.length v:=by
 rw[Bj c b e];obtain⟨u,rfl⟩ :∃u,v=u+1:= ⟨v-1,ω⟩;have a:=qo hi e;have:(cnt l i (u+1)+1)*qK (u+1)<=cnt l l.length (u+1)*qK (u+1):=fc _ a;rw[dD]at this;simp only [Gw,Nat.add_sub_cancel];omega
theorem O7 {u v:Nat} (h:u<=v) (hv:v<=15):qK u=2 ^ (v-u)*qK v:=by
 unfold qK;rw[<-Nat.pow_add];congr 1;omega
theorem P5 {l:List Int} {i v:Nat} (f:1<=v) (d:v<=15) (e:ix l i=v) (hi:i<l.length) (g:sumTo l l.length<=32768):fo l i<2 ^ v:=by
 have a:=Qz f d e hi;have b:=JF l l.length d;rw[a0F]at b;unfold placeOf at a;rw[e,aU]at a
 have c:(fo l i+1)*qK v<=2 ^ v*qK v:=by
  have:=O7 (aF v) d;rw[VV,jz]at this;rw[dD];omega
 have:=Nat.le_of_mul_le_mul_right c (xB v).1;omega
def a34 (l:List Int) (x i:Nat):Bool:=isLen (ix l i)&&decide (x/qK (ix l i).toNat=fo l i)
theorem vx {l:List Int} (h:bb l 15=0):l.length<=288/\(∀i,i<l.length->0<=ix l i/\ix l i<=15)/\sumTo l l.length<=32768/\(sumTo l l.length=32768\/kL l l.length=true):=by
 unfold bb at h;split at h
 · simp at h
 split at h
 · simp at h
 split at h
 · simp at h
 rename_i d c b
 refine⟨ω, ?_,ω, ?_⟩
 · have:yM l 15 l.length=true:=by simpa using c
   simpa [yM] using this
 rcases aZ (sumTo l l.length) 32768 with h4 | h4
 · right;cases a:kL l l.length
   · exact absurd (Or.inr ⟨h4,a⟩) b
   rfl
 left;omega
abbrev El:=Int×Option Addr×Nat×Nat
def ps (e:El):Nat:=match e.2.1 with
 | some a=>a.block
 | none=>0
def pG (p q:El):Prop:=p.1<q.1\/(p.1=q.1/\ps p<=ps q)
theorem pG.rfl' (p:El):pG p p:= .inr ⟨rfl,ag _⟩
theorem pG.trans {p q r:El} (h:pG p q) (h':pG q r):pG p r:=by
 rcases h with h | ⟨h,b⟩ <;> rcases h' with h' | ⟨h',a⟩
 · exact .inl ω
 · exact .inl ω
 · exact .inl ω
 exact .inr ⟨ω,ω⟩
theorem pG.of_le {p q:El} (h:p.1<=q.1) (a:ps p<=ps q):pG p q:=by
 rcases Int.lt_or_eq_of_le h with h | h
 · exact .inl h
 exact .inr ⟨h,a⟩
def iB (l:List El):Prop:=l.Pairwise pG
def Sep (U V:List El):Prop:=∀p∈U,∀q∈V,ps p<=ps q
def Ov (l:List El):Prop:=l.Pairwise λp q=>ps p<=ps q
theorem Sep.perm {U V b a:List El} (h:Sep U V) (e:b.Perm U) (d:a.Perm V):Sep b a:=λp hp q c=>h p (e.mem_iff.1 hp) q (d.mem_iff.1 c)
theorem Sep.sub {U V b a:List El} (h:Sep U V) (e:∀p∈b,p∈U) (d:∀p∈a,p∈V):Sep b a:=λp hp q c=>h p (e p hp) q (d q c)
theorem Sep.app {U V W:List El} (h:Sep U W) (h':Sep V W):Sep (U++V) W:=λp hp q a=>by
 rcases aN.1 hp with hp | hp
 · exact h p hp q a
 exact h' p hp q a
theorem Sep.a8u {U V W:List El} (h:Sep W U) (h':Sep W V):Sep W (U++V):=λp hp q a=>by
 rcases aN.1 a with a | a
 · exact h p hp q a
 exact h' p hp q a
theorem Sep.dK (U:List El):Sep U []:=λp _ q a=>by simp at a
theorem Sep.nil' (U:List El):Sep [] U:=λp hp=>by simp at hp
theorem MW {U V:List El}:Ov (U++V)↔Ov U/\Ov V/\Sep U V:=List.pairwise_append
theorem Jm {U V W:List El} {x:El} (h:Sep U (x::V)/\Ov (x::V)) (b:∀p∈W,p=x\/p∈U):Sep W V/\Ov V:=by
 obtain⟨d,c⟩ :=aR.1 h.2;refine⟨λp hp q a=> ?_,c⟩;rcases b p hp with rfl | hp
 · exact d q a
 exact h.1 p hp q (aB _ a)
def el (D:List El) (i:Nat):El:=D.getD i (0,none,0,0)
section
variable {X Y Q U V U1 U2 V1 V2 Z1 Z2 D:List El} {x y:El} {i j s:Nat}
theorem iB.dK:iB []:=List.Pairwise.nil
theorem iu:iB (U++V)↔iB U/\iB V/\∀p∈U,∀q∈V,pG p q:=List.pairwise_append
theorem xP (h:i<X.length):el (X++Y) i=el X i:=by unfold el;rw[aq,aq,bJ h]
theorem qx (h:X.length<=i):el (X++Y) i=el Y (i-X.length):=by unfold el;rw[aq,aq,bF h]
theorem kN (h:i=X.length):el (X++x::Y) i=x:=by subst h;rw[qx (ag _),dR];rfl
theorem lN (h:i<D.length):el D i∈D:=by
 unfold el;rw[aq,bN h];exact cF h
def swp (D:List El) (i j:Nat):List El:=(D.set i (el D j)).set j (el D i)
theorem MA:(swp D i j).length=D.length:=by simp [swp]
theorem zu (hi:i=X.length) (a:j=X.length+1+Q.length):swp (X++x::(Q++y::Y)) i j=X++y::(Q++x::Y):=by
 have d:el (X++x::(Q++y::Y)) i=x:=kN hi
 have c:el (X++x::(Q++y::Y)) j=y:=by
  have:X++x::(Q++y::Y)=(X++x::Q)++y::Y:=σ;rw[this];exact kN (by rw[a];simp;omega)
 unfold swp;rw[d,c];subst hi a
 have s1:(X++x::(Q++y::Y)).set X.length y=(X++y::Q)++y::Y:=by
  rw[List.set_append_right _ _ (ag _),dR];simp
 rw[s1];have b:(X++y::Q).length=X.length+1+Q.length:=ξ;rw[<-b,List.set_append_right _ _ (ag _),dR];simp
theorem Jy (D:List El) (i j:Nat):swp D i j=swp D j i:=by
 unfold swp;by_cases h:i=j
 · subst h;rfl
 rw[List.set_comm _ _ h]
theorem a0B (hi:i<D.length) (a:j<D.length):∀p∈swp D i j,p∈D:=λp hp=>by
 unfold swp at hp;rcases eQ hp with h | h
 · rcases eQ h with h | h
   · exact h
   rw[h];exact lN a
 rw[h];exact lN hi
theorem Fp (e:iB (U1++U2)) (f:∀q∈U2,pG x q) (g:∀p∈U1,pG p x):iB (U1++x::U2):=by
 obtain⟨a,b,c⟩ :=iu.1 e;refine iu.2 ⟨a,aR.2 ⟨f,b⟩,λp hp q d=> ?_⟩;rcases aV.1 d with rfl | d
 · exact g p hp
 exact c p hp q d
theorem Jp (h:iB (U++[y])) (b:pG y x):∀p∈U++[y],pG p x:=λp hp=>by
 rcases aN.1 hp with a | a
 · exact((iu.1 h).2.2 p a y az).trans b
 rw[bg.1 a];exact b
theorem DZ (i:iB U) (g:iB V) (h:0<U.length->0<V.length->pG (el U (U.length-1)) (el V 0)):∀p∈U,∀q∈V,pG p q:=λp hp q a=>by
 have c:0<U.length:=List.length_pos_of_mem hp;have k:0<V.length:=List.length_pos_of_mem a;have j:=h c k
 have f:pG p (el U (U.length-1)):=by
  obtain⟨b,z,e⟩ :∃b z,U=b++[z]:= ⟨U.dropLast,U.getLast (by intro e;rw[e]at c;simp at c),by rw[List.dropLast_concat_getLast]⟩;subst e;have l:el (b++[z]) ((b++[z]).length-1)=z:=kN σ;rw[l];exact Jp i (pG.rfl' _) p hp
 have d:pG (el V 0) q:=by
  cases V with
  | nil=>simp at a
  | cons v V=>
    rcases aV.1 a with rfl | a
    · exact pG.rfl' _
    exact(aR.1 g).1 q a
 exact f.trans (j.trans d)
theorem WN (h:iB (U1++U2)) (g:iB (V1++V2)) (c:Z1.Perm (U1++V1)) (s1:iB Z1) (b:Z2.Perm (U2++V2)) (s2:iB Z2)
  (c1:0<U1.length->0<V2.length->pG (el U1 (U1.length-1)) (el V2 0)) (c2:0<V1.length->0<U2.length->pG (el V1 (V1.length-1)) (el U2 0)):
  iB (Z1++Z2)/\(Z1++Z2).Perm ((U1++U2)++(V1++V2)):=by
 obtain⟨u1,u2,u3⟩ :=iu.1 h;obtain⟨f,e,d⟩ :=iu.1 g;have d1:=DZ u1 e c1;have d2:=DZ f u2 c2;refine⟨iu.2 ⟨s1,s2,λp hp q a=> ?_⟩, ?_⟩
 · rcases aN.1 (c.mem_iff.1 hp)with hp | hp <;> rcases aN.1 (b.mem_iff.1 a)with a | a
   · exact u3 p hp q a
   · exact d1 p hp q a
   · exact d2 p hp q a
   exact d p hp q a
 refine(c.append b).trans ?_;have j:(U1++V1)++(U2++V2)=U1++((V1++U2)++V2):=σ;have i:(U1++U2)++(V1++V2)=U1++((U2++V1)++V2):=σ;rw[j,i];exact cI _ (eG _ iH)
inductive Ka (s:Nat):List El->Prop
 | last {c:List El}:c.length<=s->iB c->Ka s c
 | more {c D:List El}:c.length=s->iB c->Sep c D->Ka s D->Ka s (c++D)
def Pre (s:Nat) (P:List El):Prop:=∀R,Ka s R->Sep P R->Ka s (P++R)
theorem Pre.dK (s:Nat):Pre s []:=λR h _=>h
theorem Pre.more {P c:List El} (h:Pre s P) (e:c.length=s) (d:iB c) (a:Sep P c):Pre s (P++c):=λR f b=>by
 rw[ak];exact h _ (.more e d (b.sub (λp hp=>bu _ hp) λp hp=>hp) f) (a.a8u (b.sub (λp hp=>cP _ hp) λp hp=>hp))
theorem Ka.uO (h:Ka s D) (a:D.length<=s):iB D:=by
 cases h with
 | last _ h=>exact h
 | @more c D hc hs ru hD=>
   have:D=[]:=aC (by rw[af]at a;omega);rw[this,ax];exact hs
theorem Ka.head (h:Ka s D) (b:s<=D.length):∃c R,D=c++R/\c.length=s/\iB c/\Ka s R/\Sep c R:=by
 cases h with
 | last d a=>exact⟨D,[],σ,ω,a, .last (aF _) iB.dK,Sep.dK _⟩
 | @more c R hc hs ru hD=>exact⟨c,R,rfl,hc,hs,hD,ru⟩
end
structure Pk where
 w:Int
 l:List Int
def di:List Pk->List Pk
 | a::b::r=> ⟨a.w+b.w,a.l++b.l⟩ ::di r
 | _=>[]
def zi:List Pk->List Pk->List Pk
 | [],bs=>bs
 | a::as,[]=>a::as
 | a::as,b::bs=>if b.w<a.w then b::zi (a::as) bs else a::zi as (b::bs)
termination_by as bs=>as.length+bs.length
def lev (F:List Pk):Nat->List Pk
 | 0=>F
 | k+1=>zi F (di (lev F k))
def pD (l:List Pk):Int:=(l.map Pk.w).sum
def rO (l:List Pk):List Int:=l.flatMap Pk.l
def Kk (l:List Pk):Prop:=l.Pairwise λp q=>p.w<=q.w
section
variable {a b l F:List Pk} {p q e:Pk} {k j x n m:Nat}
theorem zj (a:List Pk):zi a []=a:=by cases a <;> simp [zi]
theorem zn (a:List Pk):zi [] a=a:=by simp [zi]
theorem pS (a b:List Pk):(zi a b).Perm (a++b):=by
 induction a generalizing b with
 | nil=>rw[zn];exact cO _
 | cons p as d=>
   induction b with
   | nil=>rw[zj,ax]
   | cons q e c=>
     rw[zi];split
     · exact(List.Perm.cons q c).trans List.perm_middle.symm
     exact List.Perm.cons p (d (q::e))
theorem uE (a b:List Pk):(zi a b).length=a.length+b.length:=by rw[(pS a b).length_eq,af]
theorem LU (j:Kk a) (f:Kk b):Kk (zi a b):=by
 induction a generalizing b with
 | nil=>rw[zn];exact f
 | cons p as d=>
   induction b with
   | nil=>rw[zj];exact j
   | cons q l c=>
     have i:=aR.1 j;have g:=aR.1 f;rw[zi];split <;> rename_i k
     · refine aR.2 ⟨λr e=> ?_,c g.2⟩;rcases aN.1 ((pS _ _).mem_iff.1 e)with h | h
       · rcases aV.1 h with rfl | h
         · omega
         have:=i.1 r h;omega
       exact g.1 r h
     refine aR.2 ⟨λr e=> ?_,d i.2 f⟩;rcases aN.1 ((pS _ _).mem_iff.1 e)with h | h
     · exact i.1 r h
     rcases aV.1 h with rfl | h
     · omega
     have:=g.1 r h;omega
theorem DC (u:Kk a) (t:Kk b) (h:x<=a.length+b.length):
  ∃c f b1 b2,a=c++f/\b=b1++b2/\c.length+b1.length=x/\((zi a b).take x).Perm (c++b1)/\(∀p∈b1,∀q∈f,p.w<q.w)/\(∀p∈c,∀q∈b2,p.w<=q.w):=by
 induction x generalizing a b with
 | zero=>exact⟨[],a,[],b,rfl,rfl,rfl,σ,σ,σ⟩
 | succ x o=>
   cases a with
   | nil=>
     refine⟨[],[],b.take (x+1),b.drop (x+1),rfl,(aM ..).symm, ?_,by rw[zn];simp,σ,σ⟩;simp only [List.length_nil,List.length_take]at h⊢;omega
   | cons p as=>
     cases b with
     | nil=>
       refine⟨(p::as).take (x+1),(p::as).drop (x+1),[],[],(aM ..).symm,rfl, ?_,by rw[zj];simp,σ,σ⟩;simp only [List.length_nil,List.length_take]at h⊢;omega
     | cons q n=>
       have y:=aR.1 u;have v:=aR.1 t;rw[zi];split <;> rename_i z
       · obtain⟨c,f,b1,b2,j,i,A,m,l,k⟩ :=o (a:=p::as) (b:=n) u v.2 (by simp only [List.length_cons]at h⊢;omega);refine⟨c,f,q::b1,b2,j,by rw[i];rfl,by simp only [List.length_cons];omega, ?_,λr d s g=> ?_,k⟩
         · rw[bM];exact(List.Perm.cons q m).trans List.perm_middle.symm
         rcases aV.1 d with rfl | d
         · have e:s∈p::as:=by rw[j];exact bu _ g
           rcases aV.1 e with rfl | e
           · exact z
           have:=y.1 s e;omega
         exact l r d s g
       obtain⟨c,f,b1,b2,j,i,A,m,l,k⟩ :=o (a:=as) (b:=q::n) y.2 t (by simp only [List.length_cons]at h⊢;omega);refine⟨p::c,f,b1,b2,by rw[j];rfl,i,by simp only [List.length_cons];omega, ?_,l,λr d s g=> ?_⟩
       · rw[bM];exact List.Perm.cons p m
       rcases aV.1 d with rfl | d
       · have e:s∈q::n:=by rw[i];exact bu _ g
         rcases aV.1 e with rfl | e
         · omega
         have:=v.1 s e;omega
       exact k r d s g
theorem iv (p:Pk) (l:List Pk):pD (p::l)=p.w+pD l:=by simp [pD]
theorem kT (a b:List Pk):pD (a++b)=pD a+pD b:=by simp [pD]
theorem X7 (h:a.Perm b):pD a=pD b:=by
 induction h with
 | nil=>rfl
 | cons x _ ih=>rw[iv,iv,ih]
 | swap x y l=>rw[iv,iv,iv,iv];omega
 | trans _ _ h1 h2=>exact h1.trans h2
theorem qz (a b:List Pk):rO (a++b)=rO a++rO b:=by simp [rO]
theorem sj (p:Pk) (l:List Pk):rO (p::l)=p.l++rO l:=by simp [rO]
theorem Tq (h:a.Perm b):(rO a).Perm (rO b):=List.Perm.flatMap_right _ h
theorem C4 (h:∀p∈l,0<=p.w):0<=pD l:=by
 induction l with
 | nil=>exact df _
 | cons p l a=>
   rw[iv];have:=h p az;have:=a λq b=>h q (aB _ b);omega
theorem X6 (c:a.length=b.length) (h:∀p∈a,∀q∈b,p.w<=q.w):pD a<=pD b:=by
 induction a generalizing b with
 | nil=>
   cases b with
   | nil=>exact df _
   | cons q b=>simp at c
 | cons p a d=>
   cases b with
   | nil=>simp at c
   | cons q b=>
     rw[iv,iv];have i:=h p az q az;have g:=d (b:=b) (by simpa using c) λr f s e=>h r (aB _ f) s (aB _ e);omega
theorem Ql {i j:Nat} (o:Kk a) (n:Kk b) (hi:i<=a.length) (w:j<=b.length):pD ((zi a b).take (i+j))<=pD (a.take i)+pD (b.take j):=by
 obtain⟨c,m,b1,b2,l,k,y,t,s,r⟩ :=DC o n (x:=i+j) ω;rw[X7 t,kT];rcases Nat.le_total c.length i with h | h
 ·
  have g:a.take i=c++m.take (i-c.length):=by rw[l,gK,ay h]
  have f:b1=b.take j++b1.drop j:=by
   have:b.take j=b1.take j:=by rw[k,bP ω]
   rw[this,aM]
  have v:m.length=a.length-c.length:=by rw[l,af];omega
  have e:pD (b1.drop j)<=pD (m.take (i-c.length)):=X6 (by rw[av,aA];omega) λp hp q d=>jx (s p (aX hp) q (aH d));rw[g,kT];have:pD b1=pD (b.take j)+pD (b1.drop j):=by rw[<-kT,<-f]
  omega
 have g:b.take j=b1++b2.take (j-b1.length):=by rw[k,gK,ay ω]
 have f:c=a.take i++c.drop i:=by
  have:a.take i=c.take i:=by rw[l,bP h]
  rw[this,aM]
 have u:b2.length=b.length-b1.length:=by rw[k,af];omega
 have e:pD (c.drop i)<=pD (b2.take (j-b1.length)):=X6 (by rw[av,aA];omega) λp hp q d=>r p (aX hp) q (aH d);rw[g,kT];have:pD c=pD (a.take i)+pD (c.drop i):=by rw[<-kT,<-f]
 omega
theorem jk (l:List Pk):(di l).length=l.length/2:=by
 induction l using di.induct with
 | case1 a b r ih=>rw[di,bc,ih];simp only [List.length_cons];omega
 | case2 t h=>
   match t,h with
   | [],_=>rfl
   | [a],_=>simp [di]
   | a::b::r,h=>exact absurd rfl (h a b r)
theorem Bi (l:List Pk) (j:Nat):(di l).take j=di (l.take (2*j)):=by
 induction l using di.induct generalizing j with
 | case1 a b r ih=>
   cases j with
   | zero=>simp [di]
   | succ j=>rw[di,bM,ih j,show 2*(j+1)=2*j+1+1 by omega,bM,bM,di]
 | case2 t h=>
   match t,h with
   | [],_=>simp [di]
   | [a],_=>
     cases j with
     | zero=>simp [di]
     | succ j=>rw[show 2*(j+1)=2*j+1+1 by omega];simp [di]
   | a::b::r,h=>exact absurd rfl (h a b r)
theorem Bh (l:List Pk) (h:l.length%2=0):rO (di l)=rO l/\pD (di l)=pD l/\((∀e∈l,0<=e.w)->∀e∈l,∃p∈di l,e.w<=p.w):=by
 induction l using di.induct with
 | case1 a b r ih=>
   obtain⟨k,j,i⟩ :=ih (by simp only [List.length_cons]at h;omega);rw[di];refine⟨by rw[sj,sj,sj,k];simp,by rw[iv,iv,iv,j];show a.w+b.w+_=_;omega,λd e c=> ?_⟩;have n:=d a az;have m:=d b (aB _ az);rcases aV.1 c with rfl | c
   · exact⟨_,az,by show e.w<=e.w+b.w;omega⟩
   rcases aV.1 c with rfl | c
   · exact⟨_,az,by show e.w<=a.w+e.w;omega⟩
   obtain⟨p,hp,f⟩ :=i (λq g=>d q (aB _ (aB _ g))) e c;exact⟨p,aB _ hp,f⟩
 | case2 t h'=>
   match t,h' with
   | [],_=>exact⟨rfl,rfl,λ_ e c=>by simp at c⟩
   | [a],_=>simp at h
   | a::b::r,h'=>exact absurd rfl (h' a b r)
theorem tE (l:List Pk):∀p∈di l,∃c∈l,∃d∈l,p.w=c.w+d.w/\p.l=c.l++d.l:=by
 induction l using di.induct with
 | case1 a b r ih=>
   intro p hp;rw[di]at hp;rcases aV.1 hp with rfl | hp
   · exact⟨a,az,b,aB _ az,rfl,rfl⟩
   obtain⟨c,e,d,hd,g,f⟩ :=ih p hp;exact⟨c,aB _ (aB _ e),d,aB _ (aB _ hd),g,f⟩
 | case2 t h=>
   match t,h with
   | [],_=>intro p hp;simp [di]at hp
   | [a],_=>intro p hp;simp [di]at hp
   | a::b::r,h=>exact absurd rfl (h a b r)
theorem qL (l:List Pk) (h:Kk l):Kk (di l):=by
 induction l using di.induct with
 | case1 a b r ih=>
   rw[di];have g:=aR.1 h;have f:=aR.1 g.2;refine aR.2 ⟨λp hp=> ?_,ih f.2⟩;obtain⟨c,i,d,hd,e,_⟩ :=tE r p hp;have:=g.1 c (aB _ i);have:=f.1 d hd;show a.w+b.w<=p.w;omega
 | case2 t h'=>
   match t,h' with
   | [],_=>exact List.Pairwise.nil
   | [a],_=>exact List.Pairwise.nil
   | a::b::r,h'=>exact absurd rfl (h' a b r)
theorem B7 (hF:Kk F) (k:Nat):Kk (lev F k):=by
 induction k with
 | zero=>exact hF
 | succ k a=>exact LU hF (qL _ a)
theorem qG (F:List Pk) (k:Nat):(lev F (k+1)).length=F.length+(lev F k).length/2:=by rw[lev,uE,jk]
theorem uD (hF:∀p∈F,0<=p.w) (k:Nat):∀p∈lev F k,0<=p.w:=by
 induction k with
 | zero=>exact hF
 | succ k a=>
   intro p hp;rcases aN.1 ((pS _ _).mem_iff.1 hp)with h | h
   · exact hF p h
   obtain⟨c,b,d,hd,e,_⟩ :=tE _ p h;have:=a c b;have:=a d hd;omega
theorem IM (h:F.length<=n*2 ^ k):2*F.length<=(lev F k).length+n:=by
 induction k generalizing n with
 | zero=>rw[Nat.pow_zero,dG]at h;show 2*F.length<=F.length+n;omega
 | succ k a=>
   have:=a (n:=2*n) (by rw[eB]at h;rw[eA 2 n,fL,eA 2];exact h);rw[qG];omega
def ly:List Nat->Nat
 | []=>0
 | b::r=>b*2 ^ r.length+ly r
theorem Qi (hF:Kk F) (J:∀p∈F,0<=p.w) (k:Nat):∀x,x<=(lev F k).length->∃A B,(A::B).length=k+1/\(∀b∈A::B,b<=F.length)/\(A::B).Pairwise (λc d=>d<=c)/\
  (rO ((lev F k).take x)).Perm ((A::B).flatMap λb=>rO (F.take b))/\ly (A::B)=x*2 ^ k/\∀e∈F.take A,e∈(lev F k).take x:=by
 induction k with
 | zero=>
   intro x m;refine⟨x,[],rfl,λb a=> ?_,σ, ?_,by simp [ly],λe g=>g⟩
   · rcases aV.1 a with rfl | a
     · exact m
     simp at a
   show(rO (F.take x)).Perm _;simp
 | succ k C=>
   intro x m;have D:=qL _ (B7 hF k);obtain⟨f,y,b1,b2,l,v,O,u,N,Q⟩ :=DC hF D (x:=x) (by rw[<-uE];exact m)
   have I:b1.length<=(lev F k).length/2:=by
    rw[<-jk,v,af];omega
   have n:b1=(di (lev F k)).take b1.length:=by rw[v,gy]
   have i:f=F.take f.length:=by rw[l,gy]
   obtain⟨A,B,t,s,r,M,L,K⟩ :=C (2*b1.length) ω;have H:((lev F k).take (2*b1.length)).length%2=0:=by rw[aA];omega
   obtain⟨p1,p2,p3⟩ :=Bh _ H;rw[<-Bi,<-n]at p1 p2 p3
   have j:A<=f.length:=by
    rcases aZ f.length A with G | h
    · exfalso
      have o:=s A az;cases y with
      | nil=>rw[l,ax]at o;omega
      | cons q y=>
        have E:q∈F.take A:=by
         rw[l,gK];refine bu _ ?_;obtain⟨z,hz⟩ :∃z,A-f.length=z+1:= ⟨A-f.length-1,ω⟩;rw[hz,bM];exact az
        obtain⟨p,hp,P⟩ :=p3 (λe g=>uD J k e (aH g)) q (K q E);have:=N p hp q az;omega
    exact h
   refine⟨f.length,A::B,by rw[bc,t],λb a=> ?_,aR.2 ⟨λb a=> ?_,r⟩, ?_, ?_,λe g=> ?_⟩
   · rcases aV.1 a with rfl | a
     · rw[l,af];omega
     exact s b a
   · rcases aV.1 a with rfl | a
     · exact j
     exact au ((aR.1 r).1 b a) j
   · refine(Tq u).trans ?_;rw[qz,List.flatMap_cons,<-i,p1];exact cI _ M
   · rw[ly,t,L,<-O,eB,dD];congr 1;rw[eA 2 b1.length,fL,eA 2]
   rw[<-i]at g;exact u.mem_iff.2 (cP _ g)
theorem Qj (hF:Kk F) (r:∀p∈F,0<=p.w) (k:Nat):∀B:List Nat,B.length=k+1->(∀b∈B,b<=F.length)->ly B/2 ^ k<=(lev F k).length/\pD ((lev F k).take (ly B/2 ^ k))<=(B.map λb=>pD (F.take b)).sum:=by
 induction k with
 | zero=>
   intro B a d
   match B,a with
   | [b],_=>
     have e:ly [b] / 2 ^ 0=b:=by simp [ly]
     rw[e];refine⟨d b az, ?_⟩;show pD (F.take b)<=_;simp
 | succ k j=>
   intro B a d
   match B,a with
   | b::B,a=>
     have a:B.length=k+1:=by simpa using a
     obtain⟨q,o⟩ :=j B a λc m=>d c (aB _ m);obtain⟨X,i⟩ :=ν (ly B/2 ^ k)
     have e:ly (b::B)/2 ^ (k+1)=b+X/2:=by
      rw[ly,a,<-i,Nat.div_div_eq_div_mul,<-eB,Nat.add_comm,Nat.add_mul_div_right _ _ (ez _),Nat.add_comm]
     rw[i]at q o;have n:=d b az;rw[e];have h:X/2<=(di (lev F k)).length:=by rw[jk];omega
     refine⟨by rw[qG];omega, ?_⟩;have s:=Ql hF (qL _ (B7 hF k)) n h;have l:((lev F k).take (2*(X/2))).length%2=0:=by rw[aA];omega
     have h4:=(Bh _ l).2.1;rw[<-Bi]at h4
     have h5:pD ((lev F k).take (2*(X/2)))<=pD ((lev F k).take X):=by
      have f:(lev F k).take X=(lev F k).take (2*(X/2))++((lev F k).take X).drop (2*(X/2)):=by
       have:(lev F k).take (2*(X/2))=((lev F k).take X).take (2*(X/2)):=by rw[ft,bw ω]
       rw[this,aM]
      have g:0<=pD (((lev F k).take X).drop (2*(X/2))):=C4 λp hp=>uD r k p (aH (aX hp));rw[f,kT];omega
     rw[bG,bL];show pD ((zi F (di (lev F k))).take (b+X/2))<=_;omega
end
end Go.Proofs.YtdhmnlpfhfmpfaaGreat
