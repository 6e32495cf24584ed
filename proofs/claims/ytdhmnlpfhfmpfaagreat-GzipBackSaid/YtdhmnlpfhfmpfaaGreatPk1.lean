/-
  part
-/
import Derived.WalkKit
import Derived.WalkLawsBesides
import Derived.WalkSpells
import Derived.Below
import Derived.Laws.OwnMore
import Derived.Deep.AppendLies
import Derived.Deep.Draws
import Derived.Deep.QuietTactic
import Derived.BigQuiet
import Derived.BigGuardPart
import Derived.Lib.Hide
import Derived.LoopTactic
import Derived.Deep.LoopGhost
import Derived.RegionTactic
import Derived.Outline
import Derived.WalkSmall
import Derived.OneCell
set_option linter.unusedVariables false
set_option maxRecDepth 100000
set_option maxHeartbeats 4000000
namespace Go.Proofs.YtdhmnlpfhfmpfaaGreat
open Go.RowKit
theorem ω {p:Prop} (h:p:=by omega):p:=h
theorem σ {p:Prop} (h:p:=by simp):p:=h
theorem δ {p:Prop} (h:p:=by decide):p:=h
theorem ξ {p:Prop} (h:p:=by simp;omega):p:=h
theorem ν {α:Sort _} (a:α):∃b,a=b:=⟨a,rfl⟩
abbrev ag:=@List.length_append
abbrev aa:=@if_neg
abbrev ai:=@Nat.le_refl
abbrev af:=@if_pos
abbrev aq:=@List.getD_eq_getElem?_getD
abbrev av:=@List.append_assoc
abbrev az:=@List.length_drop
abbrev aw:=@Nat.le_trans
abbrev ax:=@Below.refl
abbrev aA:=@List.append_nil
abbrev aB:=@Nat.lt_of_lt_of_le
abbrev aC:=@List.take_of_length_le
abbrev aG:=@List.eq_nil_of_length_eq_zero
abbrev aD:=@List.length_take
abbrev aH:=@List.mem_cons_self
abbrev aI:=@List.mem_cons_of_mem
abbrev aJ:=@Int.eq_ofNat_of_zero_le
abbrev aF:=@Nat.zero_le
abbrev aM:=@IntWalk.i64_in
abbrev aL:=@info_parts
abbrev aO:=@List.mem_of_mem_take
abbrev aU:=@List.take_append_drop
abbrev aT:=@List.length_replicate
abbrev aQ:=@decide_eq_false
abbrev aP:=@List.mem_append
abbrev aS:=@decide_eq_true
abbrev aN:=@congrArg
abbrev aW:=@List.pairwise_cons
abbrev aX:=@Int.toNat_natCast
abbrev aV:=@Nat.lt_or_ge
abbrev bb:=@List.take_succ_eq_append_getElem
abbrev aZ:=@List.nil_append
abbrev aY:=@List.mem_cons
abbrev bf:=@List.mem_singleton
abbrev bc:=@List.length_cons
abbrev br:=@List.getElem?_eq_getElem
abbrev bu:=@List.mem_of_mem_drop
abbrev bw:=@List.getElem?_eq_none
abbrev bj:=@bodyPost_ret
abbrev bn:=@List.drop_drop
abbrev bC:=@Nat.pow_le_pow_right
abbrev bA:=@List.getElem?_append_right
abbrev bD:=@List.mem_append_right
abbrev bz:=@Int.emod_eq_of_lt
abbrev bE:=@List.getElem?_append_left
abbrev bH:=@Nat.min_eq_left
abbrev bM:=@Calls.quiet_of_same
abbrev bN:=@Decidable.not_not
abbrev bQ:=@Nat.add_sub_cancel_left
abbrev bR:=@List.drop_eq_getElem_cons
abbrev bU:=@List.getElem_mem
abbrev bS:=@Nat.zero_add
abbrev bY:=@Nat.eq_zero_or_pos
abbrev bX:=@Nat.add_sub_cancel
abbrev cI:=@List.mem_append_left
abbrev cO:=@List.take_succ_cons
abbrev cN:=@List.length_singleton
abbrev cM:=@List.Perm.append_left
abbrev cP:=@of_decide_eq_true
abbrev cT:=@List.mem_of_getElem?
abbrev cS:=@List.Perm.refl
abbrev cV:=@Below.heap_setCell
abbrev df:=@List.map_congr_left
abbrev cU:=@List.take_append_of_le_length
abbrev dh:=@Nat.le_of_lt
abbrev dt:=@heap_alloc_new
abbrev dm:=@Array.getElem?_append_left
abbrev dD:=@List.cons_append
abbrev dC:=@Below.heap_alloc
abbrev dG:=@Nat.sub_self
abbrev dL:=@World.cell?_of_block
abbrev dK:=@World.cell?_alloc_lt
abbrev dJ:=@Nat.mul_one
abbrev dM:=@Calls.quiet_of
abbrev dI:=@List.getElem?_replicate
abbrev dR:=@List.map_append
abbrev dP:=@List.drop_of_length_le
abbrev dW:=@Nat.mod_eq_of_lt
abbrev dU:=@World.cell?_setCell_other
abbrev eC:=@List.take_left'
abbrev eB:=@List.length_set
abbrev eA:=@List.drop_left'
abbrev eE:=@Nat.mul_comm
abbrev eD:=@Nat.add_mul
abbrev ez:=@Int.le_refl
abbrev ep:=@Int.ediv_ediv_of_nonneg
abbrev dY:=@List.drop_append_of_le_length
abbrev eJ:=@List.Perm.append_right
abbrev eP:=@Int.pow_succ
abbrev eW:=@Nat.min_le_left
abbrev eV:=@Int.natCast_mul
abbrev eY:=@Nat.add_assoc
abbrev eI:=@Nat.two_pow_add_eq_or_of_lt
abbrev eZ:=@Nat.mul_le_mul_right
abbrev fq:=@Nat.le_succ
abbrev eM:=@Int.tmod_eq_emod_of_nonneg
abbrev fG:=@Nat.pow_succ
abbrev fw:=@List.ext_getElem
abbrev fu:=@IntKind.wrap_u64
abbrev ft:=@IntKind.wrap_u32
abbrev fF:=@Int.mul_comm
abbrev eR:=@toList_nil_iff_emptyBytes
abbrev eQ:=@Nat.shiftRight_eq_div_pow
abbrev fQ:=@Nat.two_pow_pos
abbrev fN:=@List.getElem?_take
abbrev gg:=@lt_of_block
abbrev fL:=@Nat.testBit_lt_two_pow
abbrev gG:=@Nat.mul_le_mul
abbrev gD:=@List.take_left
abbrev gJ:=@List.mem_map
abbrev gC:=@List.drop_left
abbrev fK:=@List.drop_eq_nil_of_le
abbrev fZ:=@List.count_append
abbrev fe:=@Nat.and_two_pow_sub_one_eq_mod
abbrev gM:=@List.all_eq_true
abbrev i6:=@Nat.mul_assoc
abbrev ig:=@wpList_step
abbrev gF:=@Nat.eq_of_testBit_eq
abbrev fp:=@Int.mul_le_mul_of_nonneg_left
abbrev gB:=@BitVec.ofInt_natCast
abbrev ic:=@List.foldl_cons
abbrev ib:=@DataW.trod_bool
abbrev fJ:=@Array.getElem?_setIfInBounds
abbrev gR:=@Nat.add_sub_cancel'
abbrev gQ:=@List.length_reverse
abbrev gP:=@List.getElem_of_mem
abbrev iF:=@eq_false
abbrev iE:=@List.take_zero
abbrev iD:=@List.take_take
abbrev iC:=@List.drop_zero
abbrev ij:=@BitVec.toNat_ofNat
abbrev iY:=@cell_of_row
abbrev iX:=@Below.trans
abbrev gO:=@List.eq_of_mem_replicate
abbrev iR:=@Nat.lt_succ_self
abbrev ie:=@List.pairwise_singleton
abbrev iQ:=@List.mem_flatMap
abbrev jC:=@Nat.add_zero
abbrev jw:=@Nat.not_lt_zero
abbrev jv:=@List.range_succ
abbrev ju:=@List.length_map
abbrev jt:=@Int.natCast_add
abbrev iM:=@List.perm_append_comm
abbrev aj:=List Int
abbrev ay:=Option Addr
theorem τ {q p:Prop} (a:q) (h:q->p:=by intro _;omega):p:=h a
theorem ε {r q p:Prop} (a:q) (b:r) (h:q->r->p:=by intro _ _;omega):p:=h a b
theorem η {p:Prop} (h:p):Hid p:=h
theorem bG (a:Addr) (n:Nat):(a.add n).block=a.block:=by unfold Addr.add;split <;> rfl
theorem GZ (a:Addr) (i j:Nat):(a.add i).add j=a.add (i+j):=by
 unfold Addr.add;by_cases hi:i=0 <;> by_cases b:j=0 <;> simp [hi,b,Nat.add_assoc]
def Rd (w:World) (B:Nat) (A:ay) (m:Nat) (f:Nat->Value):Prop:=
 0<m->∃a,A=some a/\a.block<B/\∀i,i<m->w.cell? (a.add i)=some (f i)
def ix (l:aj) (i:Nat):Int:=l.getD i 0
def bT (k:IntKind) (w:World) (B:Nat) (A:ay) (n:Nat) (l:aj):Prop:=
 n=l.length/\Rd w B A n (λi=> .int k (ix l i))
section
variable {w w':World} {B B' n m:Nat} {A:ay} {f:Nat->Value}
theorem Rd.dN:Rd w B A 0 f:=λh=>absurd h ω
theorem Rd.keep (h:Rd w B A m f) (c:∀p:Addr,p.block<B->w'.cell? p=w.cell? p):Rd w' B A m f:=λb=>by
 obtain⟨g,e,a,d⟩ :=h b;exact⟨g,e,a,λi hi=>(c _ (by rw[bG];exact a)).trans (d i hi)⟩
theorem Rd.more (h:Rd w B A m f) (g:B<=B'):Rd w B' A m f:=λa=>by
 obtain⟨c,e,d,b⟩ :=h a;exact⟨c,e,ω,b⟩
theorem Rd.below (h:Rd w B A m f) (a:Below B w w'):Rd w' B A m f:=h.keep λ_ hp=>a.cell hp
theorem Rd.congr {g:Nat->Value} (h:Rd w B A m f) (a:∀i,i<m->f i=g i):Rd w B A m g:=λb=>by
 obtain⟨j,e,d,c⟩ :=h b;exact⟨j,e,d,λi hi=>by rw[c i hi,a i hi]⟩
end
section
variable {k:IntKind} {w w':World} {B B' n:Nat} {A:ay} {l:aj}
theorem bT.at_ (h:bT k w B A n l) {i:Nat} (hi:i<n):∃a,A=some a/\a.block<B/\w.cell? (a.add i)=some (.int k (ix l i)):=by
 obtain⟨a,e,c,b⟩ :=h.2 ω;exact⟨a,e,c,b i hi⟩
theorem bT.keep (h:bT k w B A n l) (a:∀p:Addr,p.block<B->w'.cell? p=w.cell? p):bT k w' B A n l:= ⟨h.1,h.2.keep a⟩
theorem bT.more (h:bT k w B A n l) (a:B<=B'):bT k w B' A n l:= ⟨h.1,h.2.more a⟩
theorem bT.below (h:bT k w B A n l) (a:Below B w w'):bT k w' B A n l:= ⟨h.1,h.2.below a⟩
theorem bT.drewN (h:bT k w B A n l) (j:Nat):bT k (w.drewN j) B A n l:=h
end
theorem bZ {k:IntKind} {a b:Int} (h:a=b):Ending.returned (.int k a)= .returned (.int k b):=by rw[h]
theorem dH {a b:Bool} (h:a=b):Ending.returned (.bool a)= .returned (.bool b):=by rw[h]
def Ar (w:World) (g m:Nat) (f:Nat->Value):Prop:=
 ∃(cs:Array Value) (t:TypeId) (fr:Nat×Nat),w.heap[g]?=some (.cells cs t fr)/\(m<=fr.1\/fr.2=0)/\m<=cs.size/\∀i,i<m->cs[i]?=some (f i)
def upd {α:Type} (f:Nat->α) (i:Nat) (v:α):Nat->α:=λj=>if j=i then v else f j
theorem upd_same {α:Type} (f:Nat->α) (i:Nat) (v:α):upd f i v i=v:=by simp [upd]
theorem dx {α:Type} (f:Nat->α) {i j:Nat} (v:α) (h:j≠i):upd f i v j=f j:=by simp [upd,h]
section
variable {w w':World} {g m:Nat} {f:Nat->Value}
theorem Ar.lt (h:Ar w g m f):g<w.heap.size:=by
 obtain⟨cs,t,b,a,_⟩ :=h;exact gg a
theorem Ar.cell (h:Ar w g m f) {i:Nat} (hi:i<m):w.cell? ⟨g,i,none⟩ =some (f i):=by
 obtain⟨cs,t,c,a,_,_,b⟩ :=h;rw[iY w g i cs t c a,b i hi]
theorem Ar.frozen' (h:Ar w g m f) {i:Nat} (hi:i<m):w.frozen? ⟨g,i,none⟩ =false:=by
 obtain⟨cs,t, ⟨lo,a⟩,b,hf,_⟩ :=h;simp [World.frozen?,b];simp at hf;omega
theorem Ar.drewN (h:Ar w g m f) (k:Nat):Ar (w.drewN k) g m f:=h
theorem Ar.drew (h:Ar w g m f):Ar w.drew g m f:=h
theorem Ar.same (h:Ar w g m f) (b:w'.heap[g]?=w.heap[g]?):Ar w' g m f:=by
 obtain⟨cs,t,c,a,r⟩ :=h;exact⟨cs,t,c,b.trans a,r⟩
theorem Ar.alloc (h:Ar w g m f) (o:Obj):Ar (w.alloc o) g m f:=h.same (dC w o g h.lt)
theorem Ar.far (h:Ar w g m f) {p:Addr} (hp:g≠p.block) (u:Value):Ar (w.setCell p u) g m f:=h.same (cV w p u g hp)
theorem Ar.below {B:Nat} (h:Ar w g m f) (b:Below B w w') (a:g<B):Ar w' g m f:=h.same (b.block g a)
theorem Ar.keeps (h:Ar w g m f) (a:Below w.heap.size w w'):Ar w' g m f:=h.below a h.lt
theorem Ar.grown {row:Option Nat} (h:Ar w g m f) (b:w.grownBy w' row) (a:some g≠row):Ar w' g m f:=h.same (b.block g h.lt a)
theorem Ar.bK (h:Ar w g m f) {i:Nat} (hi:i<m) (u:Value):Ar (w.setCell ⟨g,i,none⟩ u) g m (upd f i u):=by
 obtain⟨cs,t,k,d,hf,b,e⟩ :=h;refine⟨cs.setIfInBounds i u,t,k, ?_,hf,by simpa using b,λj c=> ?_⟩
 · simp [World.setCell,Array.getElem?_modify,d]
 rw[fJ];by_cases a:i=j
 · subst a;rw[af rfl,af ω,upd_same]
 rw[aa a,e j c,dx _ _ ω]
theorem Ar.congr {f':Nat->Value} (h:Ar w g m f) (hf:∀i,i<m->f i=f' i):Ar w g m f':=by
 obtain⟨cs,t,e,c,a,b,d⟩ :=h;exact⟨cs,t,e,c,a,b,λi hi=>by rw[d i hi,hf i hi]⟩
theorem Ar.new (w:World) (cs:Array Value) (t:TypeId) (a:cs.size=m) (hf:∀i,i<m->cs[i]?=some (f i)):Ar (w.alloc (.cells cs t)) w.heap.size m f:=
 ⟨cs,t,(0,0),dt w _, .inr rfl,Nat.le_of_eq a.symm,hf⟩
theorem Ar.rd (h:Ar w g m f) {B n:Nat} (a:g<B) (b:n<=m):Rd w B (some ⟨g,0,none⟩) n f:=λ_=>by
 refine⟨_,rfl,a,λi hi=> ?_⟩;have:(⟨g,0,none⟩ :Addr).add i= ⟨g,i,none⟩ :=by unfold Addr.add;split <;> simp_all
 rw[this];exact h.cell ω
end
theorem bT.head {k:IntKind} {w:World} {B n g:Nat} {l:aj} (h:bT k w B (some ⟨g,0,none⟩) n l) {i:Nat} (hi:i<n):w.cell? ⟨g,i,none⟩ =some (.int k (ix l i)):=by
 obtain⟨b,e,_,a⟩ :=h.at_ hi;cases e;have:(⟨g,0,none⟩ :Addr).add i= ⟨g,i,none⟩ :=by unfold Addr.add;split <;> simp_all
 rwa [this]at a
theorem DX {k:IntKind} {w:World} {a:ay} {len cap:Nat} {zs:aj}
  (h:(a=none/\len=0/\cap=0/\zs=[])\/∃x,a=some x/\len<=cap/\cap<=maxLen/\zs.length=cap/\(∀i,i<zs.length->w.cell? (x.add i)=some (.int k (zs.getD i 0)))/\∀n∈zs,(Lit.int k n).wf=true):
  bT k w w.heap.size a len (zs.take len)/\len<=maxLen/\∀n∈zs.take len,(Lit.int k n).wf=true:=by
 rcases h with ⟨rfl,rfl,rfl,rfl⟩ | ⟨x,rfl,j,g,hz,d,e⟩
 · exact⟨⟨rfl,Rd.dN⟩,aF _,λn b=>by simp at b⟩
 refine⟨⟨ξ,λl=> ⟨x,rfl, ?_,λi hi=> ?_⟩⟩,ω,λn b=>e n (aO b)⟩
 · have f:=d 0 ω
   have c:(x.add 0).block<w.heap.size:=by
    rcases aV (x.add 0).block w.heap.size with h' | h'
    · exact h'
    simp [World.cell?,Array.getElem?_eq_none h']at f
   rwa [bG]at c
 rw[d i ω];congr 2;simp [ix,hi]
theorem bounds_u32 {x:Int} (h:(Lit.int .u32 x).wf=true):0<=x/\x<4294967296:=by
 have:0<=x/\x<=4294967295:=by simpa [Lit.wf,IntKind.min,IntKind.max,IntKind.signed,IntKind.bits] using h
 omega
theorem bounds_u8 {x:Int} (h:(Lit.int .u8 x).wf=true):0<=x/\x<256:=by
 have:0<=x/\x<=255:=by simpa [Lit.wf,IntKind.min,IntKind.max,IntKind.signed,IntKind.bits] using h
 omega
theorem bT.lit (k:IntKind) (w:World) (l:aj) (t:TypeId):bT k (w.alloc (.cells (l.map (Value.int k)).toArray t)) (w.heap.size+1) (some ⟨w.heap.size,0,none⟩) l.length l:=by
 refine⟨rfl, ?_⟩
 have h:Ar (w.alloc (.cells (l.map (Value.int k)).toArray t)) w.heap.size l.length (λi=> .int k (ix l i)):=
  Ar.new w _ t σ λi hi=>by simp [ix,hi]
 exact h.rd ω (ai _)
theorem bT.W7 (k:IntKind) {w:World} {g:Nat} (a:g=w.heap.size) (l:aj) (t:TypeId):bT k (w.alloc (.cells (l.map (Value.int k)).toArray t)) (g+1) (some ⟨g,0,none⟩) l.length l:=by
 subst a;exact bT.lit k w l t
theorem bT.alloc {k:IntKind} {w:World} {B n:Nat} {A:ay} {l:aj} (h:bT k w B A n l) (a:B<=w.heap.size) (o:Obj):bT k (w.alloc o) B A n l:=
 h.keep λp hp=>dK w o p ω
def Sz (w:World) (n:Nat):Prop:=w.heap.size=n
theorem Sz.bK {w:World} {n:Nat} (h:Sz w n) (p:Addr) (u:Value):Sz (w.setCell p u) n:=by unfold Sz at*;simpa [World.setCell] using h
theorem Sz.drew {w:World} {n:Nat} (h:Sz w n):Sz w.drew n:=h
theorem Sz.alloc {w:World} {n:Nat} (h:Sz w n) (o:Obj):Sz (w.alloc o) (n+1):=by unfold Sz at*;simp [h]
def eH (n:Nat) (z:Value):Array Value:=Array.replicate n z
theorem qo (n:Nat) (z:Value):(eH n z).size=n:=by simp [eH]
theorem OU {n i:Nat} (z:Value) (hi:i<n):(eH n z)[i]?=some z:=by simp [eH,hi]
theorem Ar.zeros (w:World) (n:Nat) (z:Value) (t:TypeId):Ar (w.alloc (.cells (eH n z) t)) w.heap.size n (λ_=>z):=
 Ar.new w _ t (qo n z) λ_ hi=>OU z hi
theorem Ar.N6 {w:World} (n:Nat) (z:Value) (t:TypeId) {g:Nat} (a:g=w.heap.size):Ar (w.alloc (.cells (eH n z) t)) g n (λ_=>z):=by
 subst a;exact Ar.zeros w n z t
theorem fV {P:Program} (t e:TypeId) (i:TypeInfo) (z:Value) (ht:P.underlying t=some (.slice e)) (hi:P.info? e=some i) (hz:i.zero=some z) (f:i.size=1) (b:z.cells= #[z])
  (kl c:IntKind) (n:Nat) (a:i.bytes*n<=281474976710656) (k:n<=9223372036854775807) (w:World):
  (Instr.makeSlice t (.int kl (n:Int)) (.int c (n:Int))).run P w= .ok (.slice (some ⟨w.heap.size,0,none⟩) n n) (w.alloc (.cells (eH n z) e)):=by
 have g:(i.bytes:Int)*(n:Int)<=281474976710656:=by
  have h:((i.bytes*n:Nat):Int)<=281474976710656:=ω
  rwa [eV]at h
 have d:=run_make (P:=P) w t e i z ht hi hz kl c n n ω ω g ω;simp only [Int.toNat_natCast,f,Nat.mul_one]at d;rw[d]
 have:madeCells z.cells n=eH n z:=by
  apply Array.ext
  · rw[size_madeCells,qo]
  intro j m l;have e:(#[z]:Array Value).size=1:=rfl;simp [madeCells,eH,b,Nat.mod_one]
 rw[this]
theorem CN {P:Program} (t e:TypeId) (i:TypeInfo) (z:Value) (ht:P.underlying t=some (.slice e)) (hi:P.info? e=some i) (hz:i.zero=some z) (g:i.size=1) (b:z.cells= #[z])
  (kl d:IntKind) (n c:Nat) (m:n<=c) (a:i.bytes*c<=281474976710656) (l:c<=9223372036854775807) (w:World):
  (Instr.makeSlice t (.int kl (n:Int)) (.int d (c:Int))).run P w= .ok (.slice (some ⟨w.heap.size,0,none⟩) n c) (w.alloc (.cells (eH c z) e)):=by
 have k:(i.bytes:Int)*(c:Int)<=281474976710656:=by
  have h:((i.bytes*c:Nat):Int)<=281474976710656:=ω
  rwa [eV]at h
 have f:=run_make (P:=P) w t e i z ht hi hz kl d n c ω ω k ω;simp only [Int.toNat_natCast,g,Nat.mul_one]at f;rw[f]
 have:madeCells z.cells c=eH c z:=by
  apply Array.ext
  · rw[size_madeCells,qo]
  intro j p o;have e:(#[z]:Array Value).size=1:=rfl;simp [madeCells,eH,b,Nat.mod_one]
 rw[this]
def lB (j:Nat):Nat:=if j=28 then 258 else if j<8 then 3+j else 3+(4+j%4)*2 ^ (j/4-1)
def lE (j:Nat):Nat:=if j=28 then 0 else if j<8 then 0 else j/4-1
def dB (j:Nat):Nat:=if j<4 then 1+j else 1+(2+j%2)*2 ^ (j/2-1)
def dE (j:Nat):Nat:=if j<4 then 0 else j/2-1
def lR (j:Nat):Nat:=if j=28 then 259 else lB j
theorem Z0:∀j,j<30->dB (j+1)=dB j+2 ^ dE j:=by decide+kernel
theorem a0s:∀j,j<28->lB (j+1)<=lB j+2 ^ lE j:=by decide+kernel
theorem IY:∀j,j<29->3<=lB j/\lB j<=258/\lE j<=5:=by decide+kernel
theorem KU:∀j,j<30->1<=dB j/\dB j<=24577/\dE j<=13:=by decide+kernel
def sf (B:Nat->Nat) (a:Nat) (n:Int) (j:Nat):Prop:=j<=a/\((B j:Nat):Int)<=n/\∀i,j<i->i<=a->n<((B i:Nat):Int)
theorem sf.uniq {B:Nat->Nat} {a:Nat} {n:Int} {j k:Nat} (h:sf B a n j) (h':sf B a n k):j=k:=by
 rcases Nat.lt_trichotomy j k with b | b | b
 · have:=h.2.2 k b h'.1;have:=h'.2.1;omega
 · exact b
 have:=h'.2.2 j b h.1;have:=h.2.1;omega
theorem sf.a2c {n:Int} {j:Nat} (h:sf lB 28 n j) (c:n<=258):n-((lB j:Nat):Int)<((2 ^ lE j:Nat):Int):=by
 obtain⟨e,d,b⟩ :=h;by_cases a:j=28
 · subst a;have:lB 28=258:=δ;have:2 ^ lE 28=1:=δ;omega
 have h4:=b (j+1) ω ω;have h5:=a0s j ω;omega
theorem sf.a2b {n:Int} {j:Nat} (h:sf dB 29 n j) (c:n<=32768):n-((dB j:Nat):Int)<((2 ^ dE j:Nat):Int):=by
 obtain⟨e,d,b⟩ :=h;have h5:=Z0 j ω;by_cases a:j=29
 · subst a;have:dB (29+1)=32769:=δ;omega
 have h4:=b (j+1) ω ω;omega
def kV (B E:Nat->Nat) (lo hi off:Int) (a:Nat) (n:Int) (v:Value):Prop:=
 ((n<lo\/hi<n)/\v= .tuple #[.int .i64 0, .int .i64 0, .int .i64 0])\/
 ((lo<=n/\n<=hi)/\∃j,sf B a n j/\v= .tuple #[.int .i64 (off+(j:Int)), .int .i64 ((E j:Nat):Int), .int .i64 (n-((B j:Nat):Int))])
def cnt (l:aj):Nat->Nat->Nat
 | 0,_=>0
 | k+1,v=>cnt l k v+if ix l k=(v:Int)then 1 else 0
def nQ (l:aj):Nat->Nat
 | 0=>0
 | 1=>0
 | v+2=>2*(nQ l (v+1)+cnt l l.length (v+1))
def isLen (x:Int):Bool:=decide (1<=x/\x<=15)
def fk (l:aj) (i:Nat):Nat:=if isLen (ix l i)then nQ l (ix l i).toNat+cnt l i (ix l i).toNat else 0
def jk (l:aj):aj:=if l.length<=288 then(List.range l.length).map λi=>(fk l i:Int)else []
theorem lU (l:aj) (k v:Nat):cnt l k v<=k:=by
 induction k with
 | zero=>simp [cnt]
 | succ k a=>simp only [cnt];split <;> omega
theorem Hq (l:aj) (v:Nat) {j k:Nat} (h:j<=k):cnt l j v<=cnt l k v:=by
 induction k with
 | zero=>have:j=0:=ω
         subst this;omega
 | succ k a=>
   by_cases e:j=k+1
   · subst e;omega
   have:=a ω;simp only [cnt];split <;> omega
theorem a4w (l:aj) (b:l.length<=288) (v:Nat):nQ l v+576<=576*2 ^ v:=by
 induction v with
 | zero=>simp [nQ]
 | succ v a=>
   cases v with
   | zero=>simp [nQ]
   | succ v=>
     have:=lU l l.length (v+1);simp only [nQ,Nat.pow_succ]at a⊢;omega
theorem uO (l:aj) (a:l.length<=288) {v:Nat} (hv:v<=15):nQ l v<=18874368:=by
 have h:=a4w l a v;have b:2 ^ v<=2 ^ 15:=bC ω hv;omega
theorem sq (l:aj) (h:l.length<=288):(jk l).length=l.length:=by simp [jk,h]
theorem qP (l:aj) (h:l.length<=288) {i:Nat} (hi:i<l.length):ix (jk l) i=(fk l i:Int):=by
 simp [ix,jk,h,hi]
def dO (l:aj):Prop:=∀x∈l,x=0\/x=1
def fM:aj->Int
 | []=>0
 | b::l=>b+2*fM l
def dw:Int->Nat->aj
 | _,0=>[]
 | v,n+1=>v%2::dw (v/2) n
theorem aR (v:Int) (n:Nat):(dw v n).length=n:=by
 induction n generalizing v with
 | zero=>rfl
 | succ n a=>simp [dw,a]
theorem dO.dN:dO []:=λx h=>by cases h
theorem dO.app {a b:aj} (h:dO a) (h':dO b):dO (a++b):=λx d=>by
 rcases aP.1 d with c | c
 · exact h x c
 exact h' x c
theorem dO.ed {a:aj} (h:dO a) (k:Nat):dO (a.drop k):=λx b=>h x (bu b)
theorem dO.um {a:aj} (h:dO a) (k:Nat):dO (a.take k):=λx b=>h x (aO b)
theorem dO.dw (v:Int) (n:Nat):dO (dw v n):=by
 induction n generalizing v with
 | zero=>exact dO.dN
 | succ n a=>
   intro x b;rcases aY.1 b with rfl | h
   · omega
   exact a _ x h
theorem dO.zeros (n:Nat):dO (List.replicate n 0):=λx a=> .inl (gO a)
theorem jc (a b:aj):fM (a++b)=fM a+2 ^ a.length*fM b:=by
 induction a with
 | nil=>simp [fM]
 | cons x a c=>simp only [List.cons_append,fM,c,List.length_cons,Int.pow_succ];rw[Int.mul_add,Int.mul_right_comm,fF 2];omega
theorem kC {l:aj} (h:dO l):0<=fM l/\fM l<2 ^ l.length:=by
 induction l with
 | nil=>simp [fM]
 | cons x l a=>
   have d:=a λy b=>h y (aI _ b);have c:=h x (aH ..);simp only [fM,List.length_cons,Int.pow_succ];omega
theorem two_pos (n:Nat):(0:Int)<2 ^ n:=Int.pow_pos ω
theorem gL (v:Int) (n:Nat):fM (dw v n)=v%2 ^ n:=by
 induction n generalizing v with
 | zero=>simp [dw,fM]
 | succ n d=>
   have hp:=two_pos n;have e:=Int.emod_nonneg (v/2) (b:=2 ^ n) ω;have h4:=Int.emod_lt_of_pos (v/2) hp;have h5:=Int.emod_add_mul_ediv (v/2) (2 ^ n)
   have c:v%2+2*(v/2%2 ^ n)+2*2 ^ n*(v/2/2 ^ n)=v:=by
    rw[Int.mul_assoc];generalize 2 ^ n*(v/2/2 ^ n)=z at*;omega
   simp only [dw,fM,d,Int.pow_succ];rw[fF (2 ^ n) 2]
   calc v%2+2*(v/2%2 ^ n)=(v%2+2*(v/2%2 ^ n)+2*2 ^ n*(v/2/2 ^ n))%(2*2 ^ n):=by
         rw[Int.add_mul_emod_self_left,bz (a:=v%2+2*(v/2%2 ^ n)) (b:=2*2 ^ n) ω ω]
    _=v%(2*2 ^ n):=by rw[c]
theorem DJ {l:aj} (h:dO l) (n:Nat):fM (l.take n)=fM l%2 ^ n:=by
 by_cases b:n<=l.length
 · have e:=jc (l.take n) (l.drop n);rw[aU,aD,bH b]at e;have a:=kC (h.um n);rw[aD,bH b]at a;rw[e,Int.add_mul_emod_self_left,bz a.1 a.2]
 have a:=kC h
 have:(2:Int) ^ l.length<=2 ^ n:=by
  rw[show n=l.length+(n-l.length) by omega,Int.pow_add];have:=two_pos (n-l.length);have c:=two_pos l.length
  calc (2:Int) ^ l.length=2 ^ l.length*1:=ω
   _<=2 ^ l.length*2 ^ (n-l.length):=fp ω ω
 rw[aC ω,bz a.1 ω]
theorem tM {l:aj} (h:dO l) (n:Nat):fM (l.drop n)=fM l/2 ^ n:=by
 by_cases b:n<=l.length
 · have e:=jc (l.take n) (l.drop n);rw[aU,aD,bH b]at e;have a:=kC (h.um n);rw[aD,bH b]at a;have hp:=two_pos n;rw[e,Int.add_mul_ediv_left _ _ ω,Int.ediv_eq_zero_of_lt a.1 a.2];omega
 have a:=kC h
 have:(2:Int) ^ l.length<=2 ^ n:=by
  rw[show n=l.length+(n-l.length) by omega,Int.pow_add];have:=two_pos (n-l.length);have c:=two_pos l.length
  calc (2:Int) ^ l.length=2 ^ l.length*1:=ω
   _<=2 ^ l.length*2 ^ (n-l.length):=fp ω ω
 rw[fK ω,Int.ediv_eq_zero_of_lt a.1 ω];rfl
theorem wB {l:aj} (h:dO l):dw (fM l) l.length=l:=by
 induction l with
 | nil=>rfl
 | cons x l a=>
   have c:=a λy b=>h y (aI _ b);have d:=h x (aH ..);simp only [fM,List.length_cons,dw];rw[show(x+2*fM l)%2=x by omega,show(x+2*fM l)/2=fM l by omega,c]
theorem Wp (v:Int) (n:Nat):dw v (n+1)=dw v n++[v/2 ^ n%2]:=by
 induction n generalizing v with
 | zero=>simp [dw]
 | succ n a=>
   rw[dw,a,dw,dD];congr 4;rw[eP,fF,ep ω]
theorem Om (v:Int) (n:Nat):dw (v%2 ^ n) n=dw v n:=by
 have:=wB (dO.dw v n)
 rwa [aR,gL]at this
def ke (l:aj):aj:=(List.range (l.length/8)).map λi=>fM ((l.drop (8*i)).take 8)
def rest (l:aj):aj:=l.drop (8*(l.length/8))
def gK:aj->aj
 | []=>[]
 | b::l=>dw b 8++gK l
theorem jS (l:aj):(ke l).length=l.length/8:=by simp [ke]
theorem je (l:aj):(rest l).length=l.length%8:=by simp [rest];omega
theorem eT (l:aj):(gK l).length=8*l.length:=by
 induction l with
 | nil=>rfl
 | cons b l a=>simp [gK,aR,a];omega
theorem dO.rest {l:aj} (h:dO l):dO (rest l):=h.ed _
theorem dO.gK (l:aj):dO (gK l):=by
 induction l with
 | nil=>exact dO.dN
 | cons b l a=>exact(dO.dw b 8).app a
theorem pR {l:aj} (h:l.length<8):ke l=[]:=by unfold ke;rw[Nat.div_eq_of_lt h];rfl
theorem rp {l:aj} (h:l.length<8):rest l=l:=by unfold rest;rw[Nat.div_eq_of_lt h];simp
theorem pQ {a:aj} (h:a.length=8) (l:aj):ke (a++l)=fM a::ke l:=by
 unfold ke;rw[ag,h,show(8+l.length)/8=l.length/8+1 by omega,List.range_succ_eq_map];simp only [List.map_cons,List.map_map];congr 1
 · rw[Nat.mul_zero,iC,cU ω,aC ω]
 apply df
 intro i _;simp only [Function.comp];rw[show 8*(i+1)=a.length+8*i by omega,List.drop_append,fK ω,aZ,bQ]
theorem rj {a:aj} (h:a.length=8) (l:aj):rest (a++l)=rest l:=by
 unfold rest;rw[ag,h,show 8*((8+l.length)/8)=a.length+8*(l.length/8) by omega,List.drop_append,fK ω,aZ,bQ]
theorem MI {l:aj} (h:8<=l.length):∃a b,l=a++b/\a.length=8:= ⟨l.take 8,l.drop 8,(aU ..).symm,ξ⟩
theorem Nr (a x:aj):ke (a++x)=ke a++ke (rest a++x):=by
 induction e:a.length using Nat.strongRecOn generalizing a with
 | _ n ih=>
   by_cases h:a.length<8
   · rw[pR h,rp h];rfl
   obtain⟨b,c,rfl,d⟩ :=MI (l:=a) ω;rw[av,pQ d,pQ d,rj d,ih c.length (by rw[<-e,ag];omega) c rfl];rfl
theorem Jn (a x:aj):rest (a++x)=rest (rest a++x):=by
 induction e:a.length using Nat.strongRecOn generalizing a with
 | _ n ih=>
   by_cases h:a.length<8
   · rw[rp h]
   obtain⟨b,c,rfl,d⟩ :=MI (l:=a) ω;rw[av,rj d,rj d,ih c.length (by rw[<-e,ag];omega) c rfl]
theorem vI {B:aj} (h:∀b∈B,0<=b/\b<256):ke (gK B)=B:=by
 induction B with
 | nil=>rfl
 | cons b B a=>
   have d:=h b (aH ..);rw[gK,pQ (aR b 8),gL,a λy c=>h y (aI _ c)];congr 1;omega
theorem WR (B:aj):rest (gK B)=[]:=by
 unfold rest;rw[eT,Nat.mul_div_cancel_left _ ω,<-eT,List.drop_length]
theorem uq (a b:aj):gK (a++b)=gK a++gK b:=by
 induction a with
 | nil=>rfl
 | cons x a c=>simp [gK,c]
theorem YO {l:aj} (h:dO l):gK (ke l)++rest l=l:=by
 induction f:l.length using Nat.strongRecOn generalizing l with
 | _ n ih=>
   by_cases e:l.length<8
   · rw[pR e,rp e];rfl
   obtain⟨a,b,rfl,d⟩ :=MI (l:=l) ω;rw[pQ d,rj d,gK,av,ih b.length (by rw[<-f,ag];omega) (λx c=>h x (bD _ c)) rfl];have:=wB (l:=a) λx c=>h x (cI _ c);rw[d]at this;rw[this]
theorem Tq {l:aj} (h:dO l):∀b∈ke l,0<=b/\b<256:=by
 intro b c;obtain⟨i,hi,rfl⟩ :=gJ.1 c;have a:=kC ((h.ed (8*i)).um 8);have d:((l.drop (8*i)).take 8).length=8:=by have:=List.mem_range.1 hi;simp;omega
 rw[d]at a;exact a
theorem vJ {a:aj} (h:a.length%8=0) (x:aj):ke (a++x)=ke a++ke x:=by
 rw[Nr];have:rest a=[]:=aG (by rw[je,h]);rw[this];rfl
theorem Rb {a:aj} (h:a.length%8=0) (x:aj):rest (a++x)=rest x:=by
 rw[Jn];have:rest a=[]:=aG (by rw[je,h]);rw[this];rfl
def qI (l:aj):aj:=l++List.replicate ((8-l.length%8)%8) 0
theorem mF (l:aj):(qI l).length=l.length+(8-l.length%8)%8:=by simp [qI]
theorem pS (l:aj):(qI l).length%8=0:=by rw[mF];omega
theorem dO.qI {l:aj} (h:dO l):dO (qI l):=h.app (dO.zeros _)
theorem Wq (n:Nat):dw 0 n=List.replicate n 0:=by
 induction n with
 | zero=>rfl
 | succ n a=>simp [dw,a,List.replicate_succ]
theorem Tp {l:aj} {j:Nat} (b:j<l.length/8) (h:dO l):ke (l.take (8*(j+1)))=ke (l.take (8*j))++[fM (l.drop (8*j))%256]:=by
 have e:l.take (8*(j+1))=l.take (8*j)++(l.drop (8*j)).take 8:=by
  rw[show 8*(j+1)=8*j+8 by omega,List.take_add]
 have a:((l.drop (8*j)).take 8).length=8:=ξ;rw[e,vJ ξ];congr 1;have:=pQ a [];rw[aA,pR (l:=[]) σ]at this;rw[this,DJ (h.ed _)];rfl
theorem Hp (l:aj):ke (l.take (8*(l.length/8)))=ke l:=by
 conv=>rhs;rw[<-aU (8*(l.length/8)) l]
 rw[vJ ξ,pR (l:=l.drop _) ξ,aA]
theorem Ra (l:aj):rest l=l.drop (8*(l.length/8)):=rfl
def qX (v:Nat):Nat:=2 ^ (15-v)
theorem WC:qX 0=32768:=rfl
theorem xT (v:Nat):1<=qX v/\qX v<=32768:=by
 unfold qX;have b:2 ^ (15-v)<=2 ^ 15:=bC ω ω;have a:1<=2 ^ (15-v):=Nat.one_le_two_pow;omega
theorem Bu {v:Nat} (h:v<15):qX v=2*qX (v+1):=by
 unfold qX;have:15-v=(15-(v+1))+1:=ω;rw[this,fG];omega
theorem a0J (v:Nat):((qX v:Nat):Int)=2 ^ (15-v):=by unfold qX;simp
def share (x:Int):Nat:=if isLen x then qX x.toNat else 0
def sumTo (l:aj):Nat->Nat
 | 0=>0
 | k+1=>sumTo l k+share (ix l k)
theorem qj {v:Nat} (b:1<=v) (a:v<=15):share (v:Int)=qX v:=by
 unfold share isLen;rw[af ξ];simp
theorem nC {x:Int} (h:¬(1<=x/\x<=15)):share x=0:=by
 unfold share isLen;rw[aa (by simpa using h)]
theorem X7 (x:Int):share x<=32768:=by
 unfold share;split
 · exact(xT _).2
 omega
theorem wM (l:aj) (k:Nat):sumTo l k<=32768*k:=by
 induction k with
 | zero=>simp [sumTo]
 | succ k a=>have:=X7 (ix l k);simp only [sumTo];omega
def di (l:aj):Nat->Nat
 | 0=>0
 | k+1=>di l k+if 0<ix l k then 1 else 0
theorem Jj (l:aj) (k:Nat):di l k<=k:=by
 induction k with
 | zero=>simp [di]
 | succ k a=>simp only [di];split <;> omega
def ui (l:aj) (k:Nat):Bool:=decide (∀i,i<k->ix l i<=1)
def kW (l:aj) (n:Nat):Bool:=ui l n&&decide (di l n<=1)
def zh (l:aj) (most:Int) (k:Nat):Bool:=decide (∀i,i<k->0<=ix l i/\ix l i<=most)
def bg (l:aj) (most:Int):Int:=
 if most<1\/15<most\/288<l.length then 1
 else if zh l most l.length=false then 1
 else if 32768<sumTo l l.length\/(sumTo l l.length<32768/\kW l l.length=false)then 3 else 0
theorem Fx {l:aj} {most:Int} {k:Nat} (h:∀i,i<k->0<=ix l i/\ix l i<=most):zh l most k=true:=by simpa [zh] using h
theorem VR {l:aj} {most:Int} {n k:Nat} (a:k<n) (h:¬(0<=ix l k/\ix l k<=most)):zh l most n=false:=by
 rw[<-Bool.not_eq_true];intro b;have:=cP b;exact h (this k a)
def GF (l:aj) (k:Nat):Nat->Nat
 | 0=>0
 | m+1=>GF l k m+cnt l k (m+1)*qX (m+1)
theorem XE (l:aj) (k m:Nat):GF l (k+1) m=GF l k m+if 1<=ix l k/\ix l k<=m then qX (ix l k).toNat else 0:=by
 induction m with
 | zero=>simp [GF];omega
 | succ m c=>
   simp only [GF,cnt,c];by_cases h:ix l k=((m+1:Nat):Int)
   · rw[af h,aa ω,af ω,h,aX,eD];omega
   simp only [if_neg h,Nat.add_zero];by_cases b:1<=ix l k/\ix l k<=m
   · have a:1<=ix l k/\ix l k<=((m+1:Nat):Int):=ω;simp only [if_pos b,if_pos a];omega
   have a:¬(1<=ix l k/\ix l k<=((m+1:Nat):Int)):=ω;simp only [if_neg b,if_neg a];omega
theorem a1b (l:aj) (k:Nat):GF l k 15=sumTo l k:=by
 induction k with
 | zero=>simp [GF,cnt,sumTo]
 | succ k a=>
   rw[XE,a];show _=sumTo l k+share (ix l k);congr 1;unfold share isLen;by_cases h:1<=ix l k/\ix l k<=15
   · rw[af (by simpa using h),af (by simpa using h)]
   rw[aa (by simpa using h),aa (by simpa using h)]
theorem JU (l:aj) (k:Nat) {m a:Nat} (h:m<=a):GF l k m<=GF l k a:=by
 induction a with
 | zero=>have:m=0:=ω
         subst this;omega
 | succ q b=>
   by_cases e:m=q+1
   · subst e;omega
   have:=b ω;simp only [GF];omega
theorem Ol (l:aj) (v:Nat) (c:1<=v) (b:v<=15):nQ l v*qX v=GF l l.length (v-1):=by
 induction v with
 | zero=>omega
 | succ v a=>
   rcases v with _ | v
   · simp [nQ,GF]
   have hi:=a ω ω;have hp:=Bu (v:=v+1) ω;simp only [Nat.add_sub_cancel]at hi⊢;show 2*(nQ l (v+1)+cnt l l.length (v+1))*qX (v+1+1)=GF l l.length v+cnt l l.length (v+1)*qX (v+1);rw[<-hi,hp,<-eD,eE 2 (nQ l (v+1)+cnt l l.length (v+1)),i6]
def placeOf (l:aj) (i:Nat):Nat:=fk l i*qX (ix l i).toNat
theorem Bv {l:aj} {i v:Nat} (b:1<=v) (a:v<=15) (e:ix l i=v):placeOf l i=GF l l.length (v-1)+cnt l i v*qX v:=by
 unfold placeOf fk isLen;rw[e,af ξ,aX,eD,Ol l v b a]
theorem qC {l:aj} {i k v:Nat} (h:i<k) (e:ix l i=v):cnt l i v+1<=cnt l k v:=by
 have b:cnt l (i+1) v=cnt l i v+1:=by simp [cnt,e]
 have a:=Hq l v (show i+1<=k by omega);omega
theorem R6 {l:aj} {i v:Nat} (c:1<=v) (b:v<=15) (e:ix l i=v) (hi:i<l.length):placeOf l i+qX v<=GF l l.length v:=by
 rw[Bv c b e];obtain⟨u,rfl⟩ :∃u,v=u+1:= ⟨v-1,ω⟩;have a:=qC hi e;have:(cnt l i (u+1)+1)*qX (u+1)<=cnt l l.length (u+1)*qX (u+1):=eZ _ a;rw[eD]at this;simp only [GF,Nat.add_sub_cancel];omega
theorem Oy {u v:Nat} (h:u<=v) (hv:v<=15):qX u=2 ^ (v-u)*qX v:=by
 unfold qX;rw[<-Nat.pow_add];congr 1;omega
theorem Pv {l:aj} {i v:Nat} (f:1<=v) (d:v<=15) (e:ix l i=v) (hi:i<l.length) (g:sumTo l l.length<=32768):fk l i<2 ^ v:=by
 have a:=R6 f d e hi;have b:=JU l l.length d;rw[a1b]at b;unfold placeOf at a;rw[e,aX]at a
 have c:(fk l i+1)*qX v<=2 ^ v*qX v:=by
  have:=Oy (aF v) d;rw[WC,Nat.sub_zero]at this;rw[eD];omega
 have:=Nat.le_of_mul_le_mul_right c (xT v).1;omega
def a3D (l:aj) (x i:Nat):Bool:=isLen (ix l i)&&decide (x/qX (ix l i).toNat=fk l i)
theorem vK {l:aj} (h:bg l 15=0):l.length<=288/\(∀i,i<l.length->0<=ix l i/\ix l i<=15)/\sumTo l l.length<=32768/\(sumTo l l.length=32768\/kW l l.length=true):=by
 unfold bg at h;split at h
 · simp at h
 split at h
 · simp at h
 split at h
 · simp at h
 rename_i d c b
 refine⟨ω, ?_,ω, ?_⟩
 · have:zh l 15 l.length=true:=by simpa using c
   simpa [zh] using this
 rcases aV (sumTo l l.length) 32768 with h4 | h4
 · right;cases a:kW l l.length
   · exact absurd (Or.inr ⟨h4,a⟩) b
   rfl
 left;omega
abbrev El:=Int×ay×Nat×Nat
def ps (e:El):Nat:=match e.2.1 with
 | some a=>a.block
 | none=>0
def pP (p q:El):Prop:=p.1<q.1\/(p.1=q.1/\ps p<=ps q)
theorem pP.rfl' (p:El):pP p p:= .inr ⟨rfl,ai _⟩
theorem pP.trans {p q r:El} (h:pP p q) (h':pP q r):pP p r:=by
 rcases h with h | ⟨h,b⟩ <;> rcases h' with h' | ⟨h',a⟩
 · exact .inl ω
 · exact .inl ω
 · exact .inl ω
 exact .inr ⟨ω,ω⟩
theorem pP.of_le {p q:El} (h:p.1<=q.1) (a:ps p<=ps q):pP p q:=by
 rcases Int.lt_or_eq_of_le h with h | h
 · exact .inl h
 exact .inr ⟨h,a⟩
def iH (l:List El):Prop:=l.Pairwise pP
def Sep (U V:List El):Prop:=∀p∈U,∀q∈V,ps p<=ps q
def OV (l:List El):Prop:=l.Pairwise λp q=>ps p<=ps q
theorem Sep.perm {U V b a:List El} (h:Sep U V) (e:b.Perm U) (d:a.Perm V):Sep b a:=λp hp q c=>h p (e.mem_iff.1 hp) q (d.mem_iff.1 c)
theorem Sep.sub {U V b a:List El} (h:Sep U V) (e:∀p∈b,p∈U) (d:∀p∈a,p∈V):Sep b a:=λp hp q c=>h p (e p hp) q (d q c)
theorem Sep.app {U V W:List El} (h:Sep U W) (h':Sep V W):Sep (U++V) W:=λp hp q a=>by
 rcases aP.1 hp with hp | hp
 · exact h p hp q a
 exact h' p hp q a
theorem Sep.a8Q {U V W:List El} (h:Sep W U) (h':Sep W V):Sep W (U++V):=λp hp q a=>by
 rcases aP.1 a with a | a
 · exact h p hp q a
 exact h' p hp q a
theorem Sep.dN (U:List El):Sep U []:=λp _ q a=>by simp at a
theorem Sep.nil' (U:List El):Sep [] U:=λp hp=>by simp at hp
theorem Nj {U V:List El}:OV (U++V)↔OV U/\OV V/\Sep U V:=List.pairwise_append
theorem JB {U V W:List El} {x:El} (h:Sep U (x::V)/\OV (x::V)) (b:∀p∈W,p=x\/p∈U):Sep W V/\OV V:=by
 obtain⟨d,c⟩ :=aW.1 h.2;refine⟨λp hp q a=> ?_,c⟩;rcases b p hp with rfl | hp
 · exact d q a
 exact h.1 p hp q (aI _ a)
def el (D:List El) (i:Nat):El:=D.getD i (0,none,0,0)
section
variable {X Y Q U V U1 U2 V1 V2 Z1 Z2 D:List El} {x y:El} {i j s:Nat}
theorem iH.dN:iH []:=List.Pairwise.nil
theorem iB:iH (U++V)↔iH U/\iH V/\∀p∈U,∀q∈V,pP p q:=List.pairwise_append
theorem yj (h:i<X.length):el (X++Y) i=el X i:=by unfold el;rw[aq,aq,bE h]
theorem qH (h:X.length<=i):el (X++Y) i=el Y (i-X.length):=by unfold el;rw[aq,aq,bA h]
theorem kZ (h:i=X.length):el (X++x::Y) i=x:=by subst h;rw[qH (ai _),dG];rfl
theorem lZ (h:i<D.length):el D i∈D:=by
 unfold el;rw[aq,br h];exact bU h
def swp (D:List El) (i j:Nat):List El:=(D.set i (el D j)).set j (el D i)
theorem MR:(swp D i j).length=D.length:=by simp [swp]
theorem zJ (hi:i=X.length) (a:j=X.length+1+Q.length):swp (X++x::(Q++y::Y)) i j=X++y::(Q++x::Y):=by
 have d:el (X++x::(Q++y::Y)) i=x:=kZ hi
 have c:el (X++x::(Q++y::Y)) j=y:=by
  have:X++x::(Q++y::Y)=(X++x::Q)++y::Y:=σ;rw[this];exact kZ (by rw[a];simp;omega)
 unfold swp;rw[d,c];subst hi a
 have s1:(X++x::(Q++y::Y)).set X.length y=(X++y::Q)++y::Y:=by
  rw[List.set_append_right _ _ (ai _),dG];simp
 rw[s1];have b:(X++y::Q).length=X.length+1+Q.length:=ξ;rw[<-b,List.set_append_right _ _ (ai _),dG];simp
theorem JN (D:List El) (i j:Nat):swp D i j=swp D j i:=by
 unfold swp;by_cases h:i=j
 · subst h;rfl
 rw[List.set_comm _ _ h]
theorem a17 (hi:i<D.length) (a:j<D.length):∀p∈swp D i j,p∈D:=λp hp=>by
 unfold swp at hp;rcases List.mem_or_eq_of_mem_set hp with h | h
 · rcases List.mem_or_eq_of_mem_set h with h | h
   · exact h
   rw[h];exact lZ a
 rw[h];exact lZ hi
theorem Fy (e:iH (U1++U2)) (f:∀q∈U2,pP x q) (g:∀p∈U1,pP p x):iH (U1++x::U2):=by
 obtain⟨a,b,c⟩ :=iB.1 e;refine iB.2 ⟨a,aW.2 ⟨f,b⟩,λp hp q d=> ?_⟩;rcases aY.1 d with rfl | d
 · exact g p hp
 exact c p hp q d
theorem JE (h:iH (U++[y])) (b:pP y x):∀p∈U++[y],pP p x:=λp hp=>by
 rcases aP.1 hp with a | a
 · exact((iB.1 h).2.2 p a y aH).trans b
 rw[bf.1 a];exact b
theorem Ea (i:iH U) (g:iH V) (h:0<U.length->0<V.length->pP (el U (U.length-1)) (el V 0)):∀p∈U,∀q∈V,pP p q:=λp hp q a=>by
 have c:0<U.length:=List.length_pos_of_mem hp;have k:0<V.length:=List.length_pos_of_mem a;have j:=h c k
 have f:pP p (el U (U.length-1)):=by
  obtain⟨b,z,e⟩ :∃b z,U=b++[z]:= ⟨U.dropLast,U.getLast (by intro e;rw[e]at c;simp at c),by rw[List.dropLast_concat_getLast]⟩;subst e;have l:el (b++[z]) ((b++[z]).length-1)=z:=kZ σ;rw[l];exact JE i (pP.rfl' _) p hp
 have d:pP (el V 0) q:=by
  cases V with
  | nil=>simp at a
  | cons v V=>
    rcases aY.1 a with rfl | a
    · exact pP.rfl' _
    exact(aW.1 g).1 q a
 exact f.trans (j.trans d)
theorem Xv (h:iH (U1++U2)) (g:iH (V1++V2)) (c:Z1.Perm (U1++V1)) (s1:iH Z1) (b:Z2.Perm (U2++V2)) (s2:iH Z2)
  (c1:0<U1.length->0<V2.length->pP (el U1 (U1.length-1)) (el V2 0)) (c2:0<V1.length->0<U2.length->pP (el V1 (V1.length-1)) (el U2 0)):
  iH (Z1++Z2)/\(Z1++Z2).Perm ((U1++U2)++(V1++V2)):=by
 obtain⟨u1,u2,u3⟩ :=iB.1 h;obtain⟨f,e,d⟩ :=iB.1 g;have d1:=Ea u1 e c1;have d2:=Ea f u2 c2;refine⟨iB.2 ⟨s1,s2,λp hp q a=> ?_⟩, ?_⟩
 · rcases aP.1 (c.mem_iff.1 hp)with hp | hp <;> rcases aP.1 (b.mem_iff.1 a)with a | a
   · exact u3 p hp q a
   · exact d1 p hp q a
   · exact d2 p hp q a
   exact d p hp q a
 refine(c.append b).trans ?_;have j:(U1++V1)++(U2++V2)=U1++((V1++U2)++V2):=σ;have i:(U1++U2)++(V1++V2)=U1++((U2++V1)++V2):=σ;rw[j,i];exact cM _ (eJ _ iM)
inductive Ko (s:Nat):List El->Prop
 | last {c:List El}:c.length<=s->iH c->Ko s c
 | more {c D:List El}:c.length=s->iH c->Sep c D->Ko s D->Ko s (c++D)
def Pre (s:Nat) (P:List El):Prop:=∀R,Ko s R->Sep P R->Ko s (P++R)
theorem Pre.dN (s:Nat):Pre s []:=λR h _=>h
theorem Pre.more {P c:List El} (h:Pre s P) (e:c.length=s) (d:iH c) (a:Sep P c):Pre s (P++c):=λR f b=>by
 rw[av];exact h _ (.more e d (b.sub (λp hp=>bD _ hp) λp hp=>hp) f) (a.a8Q (b.sub (λp hp=>cI _ hp) λp hp=>hp))
theorem Ko.uW (h:Ko s D) (a:D.length<=s):iH D:=by
 cases h with
 | last _ h=>exact h
 | @more c D hc hs rN hD=>
   have:D=[]:=aG (by rw[ag]at a;omega);rw[this,aA];exact hs
theorem Ko.head (h:Ko s D) (b:s<=D.length):∃c R,D=c++R/\c.length=s/\iH c/\Ko s R/\Sep c R:=by
 cases h with
 | last d a=>exact⟨D,[],σ,ω,a, .last (aF _) iH.dN,Sep.dN _⟩
 | @more c R hc hs rN hD=>exact⟨c,R,rfl,hc,hs,hD,rN⟩
end
structure Pk where
 w:Int
 l:aj
def dv:List Pk->List Pk
 | a::b::r=> ⟨a.w+b.w,a.l++b.l⟩ ::dv r
 | _=>[]
def Cq:List Pk->List Pk->List Pk
 | [],bs=>bs
 | a::as,[]=>a::as
 | a::as,b::bs=>if b.w<a.w then b::Cq (a::as) bs else a::Cq as (b::bs)
termination_by as bs=>as.length+bs.length
def lev (F:List Pk):Nat->List Pk
 | 0=>F
 | k+1=>Cq F (dv (lev F k))
def wtP (l:List Pk):Int:=(l.map Pk.w).sum
def sG (l:List Pk):aj:=l.flatMap Pk.l
def RX (l:List Pk):Prop:=l.Pairwise λp q=>p.w<=q.w
section
variable {a b l F:List Pk} {p q e:Pk} {k j x n m:Nat}
theorem zD (a:List Pk):Cq a []=a:=by cases a <;> simp [Cq]
theorem zF (a:List Pk):Cq [] a=a:=by simp [Cq]
theorem qc (a b:List Pk):(Cq a b).Perm (a++b):=by
 induction a generalizing b with
 | nil=>rw[zF];exact cS _
 | cons p as d=>
   induction b with
   | nil=>rw[zD,aA]
   | cons q e c=>
     rw[Cq];split
     · exact(List.Perm.cons q c).trans List.perm_middle.symm
     exact List.Perm.cons p (d (q::e))
theorem uM (a b:List Pk):(Cq a b).length=a.length+b.length:=by rw[(qc a b).length_eq,ag]
theorem Mg (j:RX a) (f:RX b):RX (Cq a b):=by
 induction a generalizing b with
 | nil=>rw[zF];exact f
 | cons p as d=>
   induction b with
   | nil=>rw[zD];exact j
   | cons q l c=>
     have i:=aW.1 j;have g:=aW.1 f;rw[Cq];split <;> rename_i k
     · refine aW.2 ⟨λr e=> ?_,c g.2⟩;rcases aP.1 ((qc _ _).mem_iff.1 e)with h | h
       · rcases aY.1 h with rfl | h
         · omega
         have:=i.1 r h;omega
       exact g.1 r h
     refine aW.2 ⟨λr e=> ?_,d i.2 f⟩;rcases aP.1 ((qc _ _).mem_iff.1 e)with h | h
     · exact i.1 r h
     rcases aY.1 h with rfl | h
     · omega
     have:=g.1 r h;omega
theorem QP (u:RX a) (t:RX b) (h:x<=a.length+b.length):
  ∃c f b1 b2,a=c++f/\b=b1++b2/\c.length+b1.length=x/\((Cq a b).take x).Perm (c++b1)/\(∀p∈b1,∀q∈f,p.w<q.w)/\(∀p∈c,∀q∈b2,p.w<=q.w):=by
 induction x generalizing a b with
 | zero=>exact⟨[],a,[],b,rfl,rfl,rfl,σ,σ,σ⟩
 | succ x o=>
   cases a with
   | nil=>
     refine⟨[],[],b.take (x+1),b.drop (x+1),rfl,(aU ..).symm, ?_,by rw[zF];simp,σ,σ⟩;simp only [List.length_nil,List.length_take]at h⊢;omega
   | cons p as=>
     cases b with
     | nil=>
       refine⟨(p::as).take (x+1),(p::as).drop (x+1),[],[],(aU ..).symm,rfl, ?_,by rw[zD];simp,σ,σ⟩;simp only [List.length_nil,List.length_take]at h⊢;omega
     | cons q n=>
       have y:=aW.1 u;have v:=aW.1 t;rw[Cq];split <;> rename_i z
       · obtain⟨c,f,b1,b2,j,i,A,m,l,k⟩ :=o (a:=p::as) (b:=n) u v.2 (by simp only [List.length_cons]at h⊢;omega);refine⟨c,f,q::b1,b2,j,by rw[i];rfl,by simp only [List.length_cons];omega, ?_,λr d s g=> ?_,k⟩
         · rw[cO];exact(List.Perm.cons q m).trans List.perm_middle.symm
         rcases aY.1 d with rfl | d
         · have e:s∈p::as:=by rw[j];exact bD _ g
           rcases aY.1 e with rfl | e
           · exact z
           have:=y.1 s e;omega
         exact l r d s g
       obtain⟨c,f,b1,b2,j,i,A,m,l,k⟩ :=o (a:=as) (b:=q::n) y.2 t (by simp only [List.length_cons]at h⊢;omega);refine⟨p::c,f,b1,b2,by rw[j];rfl,i,by simp only [List.length_cons];omega, ?_,l,λr d s g=> ?_⟩
       · rw[cO];exact List.Perm.cons p m
       rcases aY.1 d with rfl | d
       · have e:s∈q::n:=by rw[i];exact bD _ g
         rcases aY.1 e with rfl | e
         · omega
         have:=v.1 s e;omega
       exact k r d s g
theorem Cb (p:Pk) (l:List Pk):wtP (p::l)=p.w+wtP l:=by simp [wtP]
theorem qJ (a b:List Pk):sG (a++b)=sG a++sG b:=by simp [sG]
theorem vP (p:Pk) (l:List Pk):sG (p::l)=p.l++sG l:=by simp [sG]
theorem TW (h:a.Perm b):(sG a).Perm (sG b):=List.Perm.flatMap_right _ h
theorem kD (l:List Pk):(dv l).length=l.length/2:=by
 induction l using dv.induct with
 | case1 a b r ih=>rw[dv,bc,ih];simp only [List.length_cons];omega
 | case2 t h=>
   match t,h with
   | [],_=>rfl
   | [a],_=>simp [dv]
   | a::b::r,h=>exact absurd rfl (h a b r)
theorem Mx (l:List Pk) (j:Nat):(dv l).take j=dv (l.take (2*j)):=by
 induction l using dv.induct generalizing j with
 | case1 a b r ih=>
   cases j with
   | zero=>simp [dv]
   | succ j=>rw[dv,cO,ih j,show 2*(j+1)=2*j+1+1 by omega,cO,cO,dv]
 | case2 t h=>
   match t,h with
   | [],_=>simp [dv]
   | [a],_=>
     cases j with
     | zero=>simp [dv]
     | succ j=>rw[show 2*(j+1)=2*j+1+1 by omega];simp [dv]
   | a::b::r,h=>exact absurd rfl (h a b r)
theorem Mw (l:List Pk) (h:l.length%2=0):sG (dv l)=sG l/\wtP (dv l)=wtP l/\((∀e∈l,0<=e.w)->∀e∈l,∃p∈dv l,e.w<=p.w):=by
 induction l using dv.induct with
 | case1 a b r ih=>
   obtain⟨k,j,i⟩ :=ih (by simp only [List.length_cons]at h;omega);rw[dv];refine⟨by rw[vP,vP,vP,k];simp,by rw[Cb,Cb,Cb,j];show a.w+b.w+_=_;omega,λd e c=> ?_⟩;have n:=d a aH;have m:=d b (aI _ aH);rcases aY.1 c with rfl | c
   · exact⟨_,aH,by show e.w<=e.w+b.w;omega⟩
   rcases aY.1 c with rfl | c
   · exact⟨_,aH,by show e.w<=a.w+e.w;omega⟩
   obtain⟨p,hp,f⟩ :=i (λq g=>d q (aI _ (aI _ g))) e c;exact⟨p,aI _ hp,f⟩
 | case2 t h'=>
   match t,h' with
   | [],_=>exact⟨rfl,rfl,λ_ e c=>by simp at c⟩
   | [a],_=>simp at h
   | a::b::r,h'=>exact absurd rfl (h' a b r)
theorem tN (l:List Pk):∀p∈dv l,∃c∈l,∃d∈l,p.w=c.w+d.w/\p.l=c.l++d.l:=by
 induction l using dv.induct with
 | case1 a b r ih=>
   intro p hp;rw[dv]at hp;rcases aY.1 hp with rfl | hp
   · exact⟨a,aH,b,aI _ aH,rfl,rfl⟩
   obtain⟨c,e,d,hd,g,f⟩ :=ih p hp;exact⟨c,aI _ (aI _ e),d,aI _ (aI _ hd),g,f⟩
 | case2 t h=>
   match t,h with
   | [],_=>intro p hp;simp [dv]at hp
   | [a],_=>intro p hp;simp [dv]at hp
   | a::b::r,h=>exact absurd rfl (h a b r)
theorem wF (l:List Pk) (h:RX l):RX (dv l):=by
 induction l using dv.induct with
 | case1 a b r ih=>
   rw[dv];have g:=aW.1 h;have f:=aW.1 g.2;refine aW.2 ⟨λp hp=> ?_,ih f.2⟩;obtain⟨c,i,d,hd,e,_⟩ :=tN r p hp;have:=g.1 c (aI _ i);have:=f.1 d hd;show a.w+b.w<=p.w;omega
 | case2 t h'=>
   match t,h' with
   | [],_=>exact List.Pairwise.nil
   | [a],_=>exact List.Pairwise.nil
   | a::b::r,h'=>exact absurd rfl (h' a b r)
theorem Mc (hF:RX F) (k:Nat):RX (lev F k):=by
 induction k with
 | zero=>exact hF
 | succ k a=>exact Mg hF (wF _ a)
theorem uL (F:List Pk) (k:Nat):(lev F (k+1)).length=F.length+(lev F k).length/2:=by rw[lev,uM,kD]
theorem Mb (hF:∀p∈F,0<=p.w) (k:Nat):∀p∈lev F k,0<=p.w:=by
 induction k with
 | zero=>exact hF
 | succ k a=>
   intro p hp;rcases aP.1 ((qc _ _).mem_iff.1 hp)with h | h
   · exact hF p h
   obtain⟨c,b,d,hd,e,_⟩ :=tN _ p h;have:=a c b;have:=a d hd;omega
theorem J7 (h:F.length<=n*2 ^ k):2*F.length<=(lev F k).length+n:=by
 induction k generalizing n with
 | zero=>rw[Nat.pow_zero,dJ]at h;show 2*F.length<=F.length+n;omega
 | succ k a=>
   have:=a (n:=2*n) (by rw[fG]at h;rw[eE 2 n,i6,eE 2];exact h);rw[uL];omega
def MV:List Nat->Nat
 | []=>0
 | b::r=>b*2 ^ r.length+MV r
theorem QM (hF:RX F) (J:∀p∈F,0<=p.w) (k:Nat):∀x,x<=(lev F k).length->∃A B,(A::B).length=k+1/\(∀b∈A::B,b<=F.length)/\(A::B).Pairwise (λc d=>d<=c)/\
  (sG ((lev F k).take x)).Perm ((A::B).flatMap λb=>sG (F.take b))/\MV (A::B)=x*2 ^ k/\∀e∈F.take A,e∈(lev F k).take x:=by
 induction k with
 | zero=>
   intro x m;refine⟨x,[],rfl,λb a=> ?_,σ, ?_,by simp [MV],λe g=>g⟩
   · rcases aY.1 a with rfl | a
     · exact m
     simp at a
   show(sG (F.take x)).Perm _;simp
 | succ k C=>
   intro x m;have D:=wF _ (Mc hF k);obtain⟨f,y,b1,b2,l,v,O,u,N,Q⟩ :=QP hF D (x:=x) (by rw[<-uM];exact m)
   have I:b1.length<=(lev F k).length/2:=by
    rw[<-kD,v,ag];omega
   have n:b1=(dv (lev F k)).take b1.length:=by rw[v,gD]
   have i:f=F.take f.length:=by rw[l,gD]
   obtain⟨A,B,t,s,r,M,L,K⟩ :=C (2*b1.length) ω;have H:((lev F k).take (2*b1.length)).length%2=0:=by rw[aD];omega
   obtain⟨p1,p2,p3⟩ :=Mw _ H;rw[<-Mx,<-n]at p1 p2 p3
   have j:A<=f.length:=by
    rcases aV f.length A with G | h
    · exfalso
      have o:=s A aH;cases y with
      | nil=>rw[l,aA]at o;omega
      | cons q y=>
        have E:q∈F.take A:=by
         rw[l,List.take_append];refine bD _ ?_;obtain⟨z,hz⟩ :∃z,A-f.length=z+1:= ⟨A-f.length-1,ω⟩;rw[hz,cO];exact aH
        obtain⟨p,hp,P⟩ :=p3 (λe g=>Mb J k e (aO g)) q (K q E);have:=N p hp q aH;omega
    exact h
   refine⟨f.length,A::B,by rw[bc,t],λb a=> ?_,aW.2 ⟨λb a=> ?_,r⟩, ?_, ?_,λe g=> ?_⟩
   · rcases aY.1 a with rfl | a
     · rw[l,ag];omega
     exact s b a
   · rcases aY.1 a with rfl | a
     · exact j
     exact aw ((aW.1 r).1 b a) j
   · refine(TW u).trans ?_;rw[qJ,List.flatMap_cons,<-i,p1];exact cM _ M
   · rw[MV,t,L,<-O,fG,eD];congr 1;rw[eE 2 b1.length,i6,eE 2]
   rw[<-i]at g;exact u.mem_iff.2 (cI _ g)
end
end Go.Proofs.YtdhmnlpfhfmpfaaGreat
