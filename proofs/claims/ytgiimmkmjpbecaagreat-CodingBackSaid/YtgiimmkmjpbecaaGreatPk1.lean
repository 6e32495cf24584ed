/-
  part
-/
import Derived.WalkKit
import Derived.WalkLawsBesides
import Derived.WalkSpells
import Derived.Below
import Derived.Laws.OwnMore
import Derived.Deep.AppendLies
import Derived.Deep.Draws
import Derived.Deep.QuietTactic
import Derived.BigQuiet
import Derived.BigGuardPart
import Derived.Lib.Hide
import Derived.LoopTactic
import Derived.Deep.LoopGhost
import Derived.RegionTactic
import Derived.Outline
import Derived.WalkSmall
import Derived.OneCell
set_option linter.unusedVariables false
set_option maxRecDepth 100000
set_option maxHeartbeats 4000000
namespace Go.Proofs.YtgiimmkmjpbecaaGreat
open Go.RowKit
theorem ω {p:Prop} (h:p:=by omega):p:=h
theorem σ {p:Prop} (h:p:=by simp):p:=h
theorem δ {p:Prop} (h:p:=by decide):p:=h
theorem ξ {p:Prop} (h:p:=by simp;omega):p:=h
theorem ν {α:Sort _} (a:α):∃b,a=b:=⟨a,rfl⟩
abbrev ae:=@List.length_append
abbrev a8:=@if_neg
abbrev af:=@Nat.le_refl
abbrev aa:=@if_pos
abbrev au:=@List.getD_eq_getElem?_getD
abbrev ak:=@List.append_nil
abbrev aq:=@Nat.le_trans
abbrev av:=@List.append_assoc
abbrev ay:=@List.length_drop
abbrev aw:=@Below.refl
abbrev aA:=@List.take_of_length_le
abbrev aB:=@Nat.lt_of_lt_of_le
abbrev aC:=@List.eq_nil_of_length_eq_zero
abbrev aF:=@Int.eq_ofNat_of_zero_le
abbrev aD:=@List.length_take
abbrev aG:=@Nat.zero_le
abbrev aI:=@List.mem_cons_self
abbrev aJ:=@List.mem_cons_of_mem
abbrev aM:=@IntWalk.i64_in
abbrev aN:=@List.mem_of_mem_take
abbrev aL:=@info_parts
abbrev aO:=@List.take_append_drop
abbrev aP:=@decide_eq_false
abbrev aS:=@List.length_replicate
abbrev aQ:=@List.mem_append
abbrev aV:=@List.pairwise_cons
abbrev aW:=@List.mem_of_mem_drop
abbrev aY:=@Int.toNat_natCast
abbrev aU:=@Nat.lt_or_ge
abbrev aX:=@decide_eq_true
abbrev bc:=@List.take_succ_eq_append_getElem
abbrev ba:=@List.nil_append
abbrev aZ:=@List.mem_cons
abbrev bk:=@List.mem_singleton
abbrev bj:=@List.drop_drop
abbrev bq:=@List.getElem?_eq_none
abbrev bf:=@congrArg
abbrev br:=@List.length_cons
abbrev bw:=@Nat.pow_le_pow_right
abbrev bu:=@Int.emod_eq_of_lt
abbrev bz:=@List.mem_append_right
abbrev bD:=@Nat.eq_zero_or_pos
abbrev bF:=@Nat.min_eq_left
abbrev bE:=@Nat.le_of_lt
abbrev bK:=@Decidable.not_not
abbrev bL:=@List.getElem?_append_right
abbrev bP:=@Nat.add_sub_cancel_left
abbrev bR:=@List.getElem?_append_left
abbrev bQ:=@List.drop_eq_getElem_cons
abbrev bS:=@bodyPost_ret
abbrev bW:=@Nat.add_sub_cancel
abbrev bX:=@Nat.zero_add
abbrev cu:=@List.mem_of_getElem?
abbrev cF:=@List.getElem_mem
abbrev cJ:=@List.length_singleton
abbrev cI:=@List.Perm.append_left
abbrev cM:=@of_decide_eq_true
abbrev cR:=@heap_alloc_new
abbrev cP:=@List.mem_append_left
abbrev cO:=@List.Perm.refl
abbrev cS:=@Below.heap_setCell
abbrev cV:=@List.drop_of_length_le
abbrev dc:=@List.take_succ_cons
abbrev cQ:=@List.take_append_of_le_length
abbrev cZ:=@List.getElem?_eq_getElem
abbrev dh:=@Array.getElem?_append_left
abbrev dn:=@List.map_congr_left
abbrev dD:=@Nat.add_assoc
abbrev dG:=@World.cell?_alloc_lt
abbrev dC:=@List.getElem?_replicate
abbrev dL:=@Nat.sub_self
abbrev dK:=@Nat.mul_one
abbrev dP:=@Nat.shiftLeft_eq
abbrev dO:=@Nat.mod_eq_of_lt
abbrev dN:=@List.cons_append
abbrev ek:=@Int.natCast_mul
abbrev ez:=@Nat.mul_comm
abbrev eo:=@Nat.add_mul
abbrev ep:=@Int.pow_succ
abbrev ei:=@Int.le_refl
abbrev ed:=@Int.ediv_ediv_of_nonneg
abbrev eI:=@Calls.quiet_of
abbrev eE:=@Below.heap_alloc
abbrev dS:=@List.drop_append_of_le_length
abbrev eD:=@List.Perm.append_right
abbrev eR:=@Nat.min_le_left
abbrev eQ:=@List.map_append
abbrev eC:=@Nat.two_pow_add_eq_or_of_lt
abbrev eW:=@World.cell?_of_block
abbrev eV:=@Nat.mul_le_mul_right
abbrev ft:=@Nat.le_succ
abbrev fq:=@IntWalk.u32_in
abbrev eJ:=@Int.tmod_eq_emod_of_nonneg
abbrev fE:=@Nat.pow_succ
abbrev fx:=@List.ext_getElem
abbrev fw:=@IntKind.wrap_u64
abbrev fD:=@Int.mul_comm
abbrev eO:=@World.cell?_setCell_other
abbrev eN:=@Nat.shiftRight_eq_div_pow
abbrev eM:=@Decidable.byContradiction
abbrev fR:=@Nat.two_pow_pos
abbrev fQ:=@List.length_set
abbrev fM:=@Nat.lt_of_le_of_lt
abbrev gp:=@lt_of_block
abbrev fJ:=@Nat.testBit_lt_two_pow
abbrev gD:=@Nat.mul_le_mul
abbrev gB:=@List.take_left
abbrev gy:=@List.drop_left
abbrev fI:=@List.drop_eq_nil_of_le
abbrev gg:=@List.count_append
abbrev eZ:=@Nat.and_two_pow_sub_one_eq_mod
abbrev gK:=@List.all_eq_true
abbrev gY:=@Nat.mul_assoc
abbrev fu:=@Nat.shiftLeft_add_eq_or_of_lt
abbrev gC:=@Nat.eq_of_testBit_eq
abbrev fp:=@Int.mul_le_mul_of_nonneg_left
abbrev gv:=@BitVec.ofInt_natCast
abbrev i7:=@List.foldl_cons
abbrev i6:=@Int.natCast_add
abbrev fH:=@Array.getElem?_setIfInBounds
abbrev gQ:=@Nat.add_sub_cancel'
abbrev gP:=@List.length_reverse
abbrev iw:=@Nat.add_zero
abbrev iv:=@List.mem_map
abbrev iD:=@List.take_zero
abbrev iC:=@List.take_take
abbrev ie:=@List.getElem?_take
abbrev iB:=@List.drop_zero
abbrev ic:=@BitVec.toNat_ofNat
abbrev ja:=@cell_of_row
abbrev j3:=@Nat.lt_irrefl
abbrev gO:=@List.eq_of_mem_replicate
abbrev iR:=@Nat.lt_succ_self
abbrev iQ:=@List.take_append
abbrev i9:=@List.pairwise_singleton
abbrev iP:=@List.mem_flatMap
abbrev iO:=@IntKind.wrap_u32
abbrev jC:=@Nat.le_of_eq
abbrev jx:=@Nat.not_lt_zero
abbrev jw:=@List.length_map
abbrev iK:=@List.perm_append_comm
abbrev ag:=List Int
abbrev ax:=Option Addr
theorem τ {q p:Prop} (a:q) (h:q->p:=by intro _;omega):p:=h a
theorem ε {r q p:Prop} (a:q) (b:r) (h:q->r->p:=by intro _ _;omega):p:=h a b
theorem η {p:Prop} (h:p):Hid p:=h
theorem bH (a:Addr) (n:Nat):(a.add n).block=a.block:=by unfold Addr.add;split <;> rfl
theorem Hw (a:Addr) (i j:Nat):(a.add i).add j=a.add (i+j):=by
 unfold Addr.add;by_cases hi:i=0 <;> by_cases b:j=0 <;> simp [hi,b,Nat.add_assoc]
def Rd (w:World) (B:Nat) (A:ax) (m:Nat) (f:Nat->Value):Prop:=
 0<m->∃a,A=some a/\a.block<B/\∀i,i<m->w.cell? (a.add i)=some (f i)
def ix (l:ag) (i:Nat):Int:=l.getD i 0
def bT (k:IntKind) (w:World) (B:Nat) (A:ax) (n:Nat) (l:ag):Prop:=
 n=l.length/\Rd w B A n (λi=> .int k (ix l i))
section
variable {w w':World} {B B' n m:Nat} {A:ax} {f:Nat->Value}
theorem Rd.di:Rd w B A 0 f:=λh=>absurd h ω
theorem Rd.keep (h:Rd w B A m f) (c:∀p:Addr,p.block<B->w'.cell? p=w.cell? p):Rd w' B A m f:=λb=>by
 obtain⟨g,e,a,d⟩ :=h b;exact⟨g,e,a,λi hi=>(c _ (by rw[bH];exact a)).trans (d i hi)⟩
theorem Rd.more (h:Rd w B A m f) (g:B<=B'):Rd w B' A m f:=λa=>by
 obtain⟨c,e,d,b⟩ :=h a;exact⟨c,e,ω,b⟩
theorem Rd.below (h:Rd w B A m f) (a:Below B w w'):Rd w' B A m f:=h.keep λ_ hp=>a.cell hp
theorem Rd.congr {g:Nat->Value} (h:Rd w B A m f) (a:∀i,i<m->f i=g i):Rd w B A m g:=λb=>by
 obtain⟨j,e,d,c⟩ :=h b;exact⟨j,e,d,λi hi=>by rw[c i hi,a i hi]⟩
end
section
variable {k:IntKind} {w w':World} {B B' n:Nat} {A:ax} {l:ag}
theorem bT.at_ (h:bT k w B A n l) {i:Nat} (hi:i<n):∃a,A=some a/\a.block<B/\w.cell? (a.add i)=some (.int k (ix l i)):=by
 obtain⟨a,e,c,b⟩ :=h.2 ω;exact⟨a,e,c,b i hi⟩
theorem bT.keep (h:bT k w B A n l) (a:∀p:Addr,p.block<B->w'.cell? p=w.cell? p):bT k w' B A n l:= ⟨h.1,h.2.keep a⟩
theorem bT.more (h:bT k w B A n l) (a:B<=B'):bT k w B' A n l:= ⟨h.1,h.2.more a⟩
theorem bT.below (h:bT k w B A n l) (a:Below B w w'):bT k w' B A n l:= ⟨h.1,h.2.below a⟩
theorem bT.drewN (h:bT k w B A n l) (j:Nat):bT k (w.drewN j) B A n l:=h
end
theorem bJ {k:IntKind} {a b:Int} (h:a=b):Ending.returned (.int k a)= .returned (.int k b):=by rw[h]
theorem vU {a b:Bool} (h:a=b):Ending.returned (.bool a)= .returned (.bool b):=by rw[h]
def Ar (w:World) (g m:Nat) (f:Nat->Value):Prop:=
 ∃(cs:Array Value) (t:TypeId) (fr:Nat×Nat),w.heap[g]?=some (.cells cs t fr)/\(m<=fr.1\/fr.2=0)/\m<=cs.size/\∀i,i<m->cs[i]?=some (f i)
def upd {α:Type} (f:Nat->α) (i:Nat) (v:α):Nat->α:=λj=>if j=i then v else f j
theorem upd_same {α:Type} (f:Nat->α) (i:Nat) (v:α):upd f i v i=v:=by simp [upd]
theorem dA {α:Type} (f:Nat->α) {i j:Nat} (v:α) (h:j≠i):upd f i v j=f j:=by simp [upd,h]
section
variable {w w':World} {g m:Nat} {f:Nat->Value}
theorem Ar.lt (h:Ar w g m f):g<w.heap.size:=by
 obtain⟨cs,t,b,a,_⟩ :=h;exact gp a
theorem Ar.cell (h:Ar w g m f) {i:Nat} (hi:i<m):w.cell? ⟨g,i,none⟩ =some (f i):=by
 obtain⟨cs,t,c,a,_,_,b⟩ :=h;rw[ja w g i cs t c a,b i hi]
theorem Ar.frozen' (h:Ar w g m f) {i:Nat} (hi:i<m):w.frozen? ⟨g,i,none⟩ =false:=by
 obtain⟨cs,t, ⟨lo,a⟩,b,hf,_⟩ :=h;simp [World.frozen?,b];simp at hf;omega
theorem Ar.az (h:Ar w g m f) (i:Nat) (hi:i<m:=by(omega)):w.cell? ⟨g,i,none⟩ =some (f i):=h.cell hi
theorem Ar.aH (h:Ar w g m f) (i:Nat) (hi:i<m:=by(omega)):w.frozen? ⟨g,i,none⟩ =false:=h.frozen' hi
theorem Ar.drewN (h:Ar w g m f) (k:Nat):Ar (w.drewN k) g m f:=h
theorem Ar.drew (h:Ar w g m f):Ar w.drew g m f:=h
theorem Ar.same (h:Ar w g m f) (b:w'.heap[g]?=w.heap[g]?):Ar w' g m f:=by
 obtain⟨cs,t,c,a,r⟩ :=h;exact⟨cs,t,c,b.trans a,r⟩
theorem Ar.alloc (h:Ar w g m f) (o:Obj):Ar (w.alloc o) g m f:=h.same (eE w o g h.lt)
theorem Ar.far (h:Ar w g m f) {p:Addr} (hp:g≠p.block) (u:Value):Ar (w.setCell p u) g m f:=h.same (cS w p u g hp)
theorem Ar.below {B:Nat} (h:Ar w g m f) (b:Below B w w') (a:g<B):Ar w' g m f:=h.same (b.block g a)
theorem Ar.keeps (h:Ar w g m f) (a:Below w.heap.size w w'):Ar w' g m f:=h.below a h.lt
theorem Ar.grown {row:Option Nat} (h:Ar w g m f) (b:w.grownBy w' row) (a:some g≠row):Ar w' g m f:=h.same (b.block g h.lt a)
theorem Ar.iz (h:Ar w g m f) {i:Nat} (hi:i<m) (u:Value):Ar (w.setCell ⟨g,i,none⟩ u) g m (upd f i u):=by
 obtain⟨cs,t,k,d,hf,b,e⟩ :=h;refine⟨cs.setIfInBounds i u,t,k, ?_,hf,by simpa using b,λj c=> ?_⟩
 · simp [World.setCell,Array.getElem?_modify,d]
 rw[fH];by_cases a:i=j
 · subst a;rw[aa rfl,aa ω,upd_same]
 rw[a8 a,e j c,dA _ _ ω]
theorem Ar.cE (h:Ar w g m f) (i:Nat) (u:Value) (hi:i<m:=by(omega)):Ar (w.setCell ⟨g,i,none⟩ u) g m (upd f i u):=h.iz hi u
theorem Ar.congr {f':Nat->Value} (h:Ar w g m f) (hf:∀i,i<m->f i=f' i):Ar w g m f':=by
 obtain⟨cs,t,e,c,a,b,d⟩ :=h;exact⟨cs,t,e,c,a,b,λi hi=>by rw[d i hi,hf i hi]⟩
theorem Ar.new (w:World) (cs:Array Value) (t:TypeId) (a:cs.size=m) (hf:∀i,i<m->cs[i]?=some (f i)):Ar (w.alloc (.cells cs t)) w.heap.size m f:=
 ⟨cs,t,(0,0),cR w _, .inr rfl,jC a.symm,hf⟩
theorem Ar.rd (h:Ar w g m f) {B n:Nat} (a:g<B) (b:n<=m):Rd w B (some ⟨g,0,none⟩) n f:=λ_=>by
 refine⟨_,rfl,a,λi hi=> ?_⟩;have:(⟨g,0,none⟩ :Addr).add i= ⟨g,i,none⟩ :=by unfold Addr.add;split <;> simp_all
 rw[this];exact h.cell ω
end
theorem bT.head {k:IntKind} {w:World} {B n g:Nat} {l:ag} (h:bT k w B (some ⟨g,0,none⟩) n l) {i:Nat} (hi:i<n):w.cell? ⟨g,i,none⟩ =some (.int k (ix l i)):=by
 obtain⟨b,e,_,a⟩ :=h.at_ hi;cases e;have:(⟨g,0,none⟩ :Addr).add i= ⟨g,i,none⟩ :=by unfold Addr.add;split <;> simp_all
 rwa [this]at a
theorem RR {k:IntKind} {w:World} {a:ax} {len cap:Nat} {zs:ag}
  (h:(a=none/\len=0/\cap=0/\zs=[])\/∃x,a=some x/\len<=cap/\cap<=maxLen/\zs.length=cap/\(∀i,i<zs.length->w.cell? (x.add i)=some (.int k (zs.getD i 0)))/\∀n∈zs,(Lit.int k n).wf=true):
  bT k w w.heap.size a len (zs.take len)/\len<=maxLen/\∀n∈zs.take len,(Lit.int k n).wf=true:=by
 rcases h with ⟨rfl,rfl,rfl,rfl⟩ | ⟨x,rfl,j,g,hz,d,e⟩
 · exact⟨⟨rfl,Rd.di⟩,aG _,λn b=>by simp at b⟩
 refine⟨⟨ξ,λl=> ⟨x,rfl, ?_,λi hi=> ?_⟩⟩,ω,λn b=>e n (aN b)⟩
 · have f:=d 0 ω
   have c:(x.add 0).block<w.heap.size:=by
    rcases aU (x.add 0).block w.heap.size with h' | h'
    · exact h'
    simp [World.cell?,Array.getElem?_eq_none h']at f
   rwa [bH]at c
 rw[d i ω];congr 2;simp [ix,hi]
theorem bounds_u8 {x:Int} (h:(Lit.int .u8 x).wf=true):0<=x/\x<256:=by
 have:0<=x/\x<=255:=by simpa [Lit.wf,IntKind.min,IntKind.max,IntKind.signed,IntKind.bits] using h
 omega
theorem a6z {k:IntKind} {l:ag} (h:∀n∈l,(Lit.int k n).wf=true) (a:(Lit.int k 0).wf=true) (i:Nat):(Lit.int k (ix l i)).wf=true:=by
 unfold ix;rw[au];cases hi:l[i]? with
 | none=>simpa using a
 | some v=>exact h v (cu hi)
theorem bT.lit (k:IntKind) (w:World) (l:ag) (t:TypeId):bT k (w.alloc (.cells (l.map (Value.int k)).toArray t)) (w.heap.size+1) (some ⟨w.heap.size,0,none⟩) l.length l:=by
 refine⟨rfl, ?_⟩
 have h:Ar (w.alloc (.cells (l.map (Value.int k)).toArray t)) w.heap.size l.length (λi=> .int k (ix l i)):=
  Ar.new w _ t σ λi hi=>by simp [ix,hi]
 exact h.rd ω (af _)
theorem bT.Wl (k:IntKind) {w:World} {g:Nat} (a:g=w.heap.size) (l:ag) (t:TypeId):bT k (w.alloc (.cells (l.map (Value.int k)).toArray t)) (g+1) (some ⟨g,0,none⟩) l.length l:=by
 subst a;exact bT.lit k w l t
theorem bT.alloc {k:IntKind} {w:World} {B n:Nat} {A:ax} {l:ag} (h:bT k w B A n l) (a:B<=w.heap.size) (o:Obj):bT k (w.alloc o) B A n l:=
 h.keep λp hp=>dG w o p ω
def Sz (w:World) (n:Nat):Prop:=w.heap.size=n
theorem Sz.iz {w:World} {n:Nat} (h:Sz w n) (p:Addr) (u:Value):Sz (w.setCell p u) n:=by unfold Sz at*;simpa [World.setCell] using h
theorem Sz.drew {w:World} {n:Nat} (h:Sz w n):Sz w.drew n:=h
theorem Sz.alloc {w:World} {n:Nat} (h:Sz w n) (o:Obj):Sz (w.alloc o) (n+1):=by unfold Sz at*;simp [h]
def eB (n:Nat) (z:Value):Array Value:=Array.replicate n z
theorem pU (n:Nat) (z:Value):(eB n z).size=n:=by simp [eB]
theorem PE {n i:Nat} (z:Value) (hi:i<n):(eB n z)[i]?=some z:=by simp [eB,hi]
theorem Ar.zeros (w:World) (n:Nat) (z:Value) (t:TypeId):Ar (w.alloc (.cells (eB n z) t)) w.heap.size n (λ_=>z):=
 Ar.new w _ t (pU n z) λ_ hi=>PE z hi
theorem Ar.NX {w:World} (n:Nat) (z:Value) (t:TypeId) {g:Nat} (a:g=w.heap.size):Ar (w.alloc (.cells (eB n z) t)) g n (λ_=>z):=by
 subst a;exact Ar.zeros w n z t
theorem fW {P:Program} (t e:TypeId) (i:TypeInfo) (z:Value) (ht:P.underlying t=some (.slice e)) (hi:P.info? e=some i) (hz:i.zero=some z) (f:i.size=1) (b:z.cells= #[z])
  (kl c:IntKind) (n:Nat) (a:i.bytes*n<=281474976710656) (k:n<=9223372036854775807) (w:World):
  (Instr.makeSlice t (.int kl (n:Int)) (.int c (n:Int))).run P w= .ok (.slice (some ⟨w.heap.size,0,none⟩) n n) (w.alloc (.cells (eB n z) e)):=by
 have g:(i.bytes:Int)*(n:Int)<=281474976710656:=by
  have h:((i.bytes*n:Nat):Int)<=281474976710656:=ω
  rwa [ek]at h
 have d:=run_make (P:=P) w t e i z ht hi hz kl c n n ω ω g ω;simp only [Int.toNat_natCast,f,Nat.mul_one]at d;rw[d]
 have:madeCells z.cells n=eB n z:=by
  apply Array.ext
  · rw[size_madeCells,pU]
  intro j m l;have e:(#[z]:Array Value).size=1:=rfl;simp [madeCells,eB,b,Nat.mod_one]
 rw[this]
theorem CY {P:Program} (t e:TypeId) (i:TypeInfo) (z:Value) (ht:P.underlying t=some (.slice e)) (hi:P.info? e=some i) (hz:i.zero=some z) (g:i.size=1) (b:z.cells= #[z])
  (kl d:IntKind) (n c:Nat) (m:n<=c) (a:i.bytes*c<=281474976710656) (l:c<=9223372036854775807) (w:World):
  (Instr.makeSlice t (.int kl (n:Int)) (.int d (c:Int))).run P w= .ok (.slice (some ⟨w.heap.size,0,none⟩) n c) (w.alloc (.cells (eB c z) e)):=by
 have k:(i.bytes:Int)*(c:Int)<=281474976710656:=by
  have h:((i.bytes*c:Nat):Int)<=281474976710656:=ω
  rwa [ek]at h
 have f:=run_make (P:=P) w t e i z ht hi hz kl d n c ω ω k ω;simp only [Int.toNat_natCast,g,Nat.mul_one]at f;rw[f]
 have:madeCells z.cells c=eB c z:=by
  apply Array.ext
  · rw[size_madeCells,pU]
  intro j p o;have e:(#[z]:Array Value).size=1:=rfl;simp [madeCells,eB,b,Nat.mod_one]
 rw[this]
def lB (j:Nat):Nat:=if j=28 then 258 else if j<8 then 3+j else 3+(4+j%4)*2 ^ (j/4-1)
def lE (j:Nat):Nat:=if j=28 then 0 else if j<8 then 0 else j/4-1
def dB (j:Nat):Nat:=if j<4 then 1+j else 1+(2+j%2)*2 ^ (j/2-1)
def dE (j:Nat):Nat:=if j<4 then 0 else j/2-1
def lR (j:Nat):Nat:=if j=28 then 259 else lB j
theorem Ze:∀j,j<30->dB (j+1)=dB j+2 ^ dE j:=by decide+kernel
theorem a0q:∀j,j<28->lB (j+1)<=lB j+2 ^ lE j:=by decide+kernel
theorem Jm:∀j,j<29->3<=lB j/\lB j<=258/\lE j<=5:=by decide+kernel
theorem LF:∀j,j<30->1<=dB j/\dB j<=24577/\dE j<=13:=by decide+kernel
def rM (B:Nat->Nat) (a:Nat) (n:Int) (j:Nat):Prop:=j<=a/\((B j:Nat):Int)<=n/\∀i,j<i->i<=a->n<((B i:Nat):Int)
theorem rM.uniq {B:Nat->Nat} {a:Nat} {n:Int} {j k:Nat} (h:rM B a n j) (h':rM B a n k):j=k:=by
 rcases Nat.lt_trichotomy j k with b | b | b
 · have:=h.2.2 k b h'.1;have:=h'.2.1;omega
 · exact b
 have:=h'.2.2 j b h.1;have:=h.2.1;omega
theorem rM.a1D {n:Int} {j:Nat} (h:rM lB 28 n j) (c:n<=258):n-((lB j:Nat):Int)<((2 ^ lE j:Nat):Int):=by
 obtain⟨e,d,b⟩ :=h;by_cases a:j=28
 · subst a;have:lB 28=258:=δ;have:2 ^ lE 28=1:=δ;omega
 have h4:=b (j+1) ω ω;have h5:=a0q j ω;omega
theorem rM.a1C {n:Int} {j:Nat} (h:rM dB 29 n j) (c:n<=32768):n-((dB j:Nat):Int)<((2 ^ dE j:Nat):Int):=by
 obtain⟨e,d,b⟩ :=h;have h5:=Ze j ω;by_cases a:j=29
 · subst a;have:dB (29+1)=32769:=δ;omega
 have h4:=b (j+1) ω ω;omega
def kK (B E:Nat->Nat) (lo hi off:Int) (a:Nat) (n:Int) (v:Value):Prop:=
 ((n<lo\/hi<n)/\v= .tuple #[.int .i64 0, .int .i64 0, .int .i64 0])\/
 ((lo<=n/\n<=hi)/\∃j,rM B a n j/\v= .tuple #[.int .i64 (off+(j:Int)), .int .i64 ((E j:Nat):Int), .int .i64 (n-((B j:Nat):Int))])
def cnt (l:ag):Nat->Nat->Nat
 | 0,_=>0
 | k+1,v=>cnt l k v+if ix l k=(v:Int)then 1 else 0
def nJ (l:ag):Nat->Nat
 | 0=>0
 | 1=>0
 | v+2=>2*(nJ l (v+1)+cnt l l.length (v+1))
def isLen (x:Int):Bool:=decide (1<=x/\x<=15)
def fj (l:ag) (i:Nat):Nat:=if isLen (ix l i)then nJ l (ix l i).toNat+cnt l i (ix l i).toNat else 0
def jo (l:ag):ag:=if l.length<=288 then(List.range l.length).map λi=>(fj l i:Int)else []
theorem lG (l:ag) (k v:Nat):cnt l k v<=k:=by
 induction k with
 | zero=>simp [cnt]
 | succ k a=>simp only [cnt];split <;> omega
theorem Ie (l:ag) (v:Nat) {j k:Nat} (h:j<=k):cnt l j v<=cnt l k v:=by
 induction k with
 | zero=>have:j=0:=ω
         subst this;omega
 | succ k a=>
   by_cases e:j=k+1
   · subst e;omega
   have:=a ω;simp only [cnt];split <;> omega
theorem a3B (l:ag) (b:l.length<=288) (v:Nat):nJ l v+576<=576*2 ^ v:=by
 induction v with
 | zero=>simp [nJ]
 | succ v a=>
   cases v with
   | zero=>simp [nJ]
   | succ v=>
     have:=lG l l.length (v+1);simp only [nJ,Nat.pow_succ]at a⊢;omega
theorem uB (l:ag) (a:l.length<=288) {v:Nat} (hv:v<=15):nJ l v<=18874368:=by
 have h:=a3B l a v;have b:2 ^ v<=2 ^ 15:=bw ω hv;omega
theorem rR (l:ag) (h:l.length<=288):(jo l).length=l.length:=by simp [jo,h]
theorem qF (l:ag) (h:l.length<=288) {i:Nat} (hi:i<l.length):ix (jo l) i=(fj l i:Int):=by
 simp [ix,jo,h,hi]
def dH (l:ag):Prop:=∀x∈l,x=0\/x=1
def fL:ag->Int
 | []=>0
 | b::l=>b+2*fL l
def dt:Int->Nat->ag
 | _,0=>[]
 | v,n+1=>v%2::dt (v/2) n
theorem aR (v:Int) (n:Nat):(dt v n).length=n:=by
 induction n generalizing v with
 | zero=>rfl
 | succ n a=>simp [dt,a]
theorem dH.di:dH []:=λx h=>by cases h
theorem dH.app {a b:ag} (h:dH a) (h':dH b):dH (a++b):=λx d=>by
 rcases aQ.1 d with c | c
 · exact h x c
 exact h' x c
theorem dH.dU {a:ag} (h:dH a) (k:Nat):dH (a.drop k):=λx b=>h x (aW b)
theorem dH.ua {a:ag} (h:dH a) (k:Nat):dH (a.take k):=λx b=>h x (aN b)
theorem dH.dt (v:Int) (n:Nat):dH (dt v n):=by
 induction n generalizing v with
 | zero=>exact dH.di
 | succ n a=>
   intro x b;rcases aZ.1 b with rfl | h
   · omega
   exact a _ x h
theorem dH.zeros (n:Nat):dH (List.replicate n 0):=λx a=> .inl (gO a)
theorem jf (a b:ag):fL (a++b)=fL a+2 ^ a.length*fL b:=by
 induction a with
 | nil=>simp [fL]
 | cons x a c=>simp only [List.cons_append,fL,c,List.length_cons,Int.pow_succ];rw[Int.mul_add,Int.mul_right_comm,fD 2];omega
theorem kr {l:ag} (h:dH l):0<=fL l/\fL l<2 ^ l.length:=by
 induction l with
 | nil=>simp [fL]
 | cons x l a=>
   have d:=a λy b=>h y (aJ _ b);have c:=h x (aI ..);simp only [fL,List.length_cons,Int.pow_succ];omega
theorem two_pos (n:Nat):(0:Int)<2 ^ n:=Int.pow_pos ω
theorem gJ (v:Int) (n:Nat):fL (dt v n)=v%2 ^ n:=by
 induction n generalizing v with
 | zero=>simp [dt,fL]
 | succ n d=>
   have hp:=two_pos n;have e:=Int.emod_nonneg (v/2) (b:=2 ^ n) ω;have h4:=Int.emod_lt_of_pos (v/2) hp;have h5:=Int.emod_add_mul_ediv (v/2) (2 ^ n)
   have c:v%2+2*(v/2%2 ^ n)+2*2 ^ n*(v/2/2 ^ n)=v:=by
    rw[Int.mul_assoc];generalize 2 ^ n*(v/2/2 ^ n)=z at*;omega
   simp only [dt,fL,d,Int.pow_succ];rw[fD (2 ^ n) 2]
   calc v%2+2*(v/2%2 ^ n)=(v%2+2*(v/2%2 ^ n)+2*2 ^ n*(v/2/2 ^ n))%(2*2 ^ n):=by
         rw[Int.add_mul_emod_self_left,bu (a:=v%2+2*(v/2%2 ^ n)) (b:=2*2 ^ n) ω ω]
    _=v%(2*2 ^ n):=by rw[c]
theorem Ea {l:ag} (h:dH l) (n:Nat):fL (l.take n)=fL l%2 ^ n:=by
 by_cases b:n<=l.length
 · have e:=jf (l.take n) (l.drop n);rw[aO,aD,bF b]at e;have a:=kr (h.ua n);rw[aD,bF b]at a;rw[e,Int.add_mul_emod_self_left,bu a.1 a.2]
 have a:=kr h
 have:(2:Int) ^ l.length<=2 ^ n:=by
  rw[show n=l.length+(n-l.length) by omega,Int.pow_add];have:=two_pos (n-l.length);have c:=two_pos l.length
  calc (2:Int) ^ l.length=2 ^ l.length*1:=ω
   _<=2 ^ l.length*2 ^ (n-l.length):=fp ω ω
 rw[aA ω,bu a.1 ω]
theorem tz {l:ag} (h:dH l) (n:Nat):fL (l.drop n)=fL l/2 ^ n:=by
 by_cases b:n<=l.length
 · have e:=jf (l.take n) (l.drop n);rw[aO,aD,bF b]at e;have a:=kr (h.ua n);rw[aD,bF b]at a;have hp:=two_pos n;rw[e,Int.add_mul_ediv_left _ _ ω,Int.ediv_eq_zero_of_lt a.1 a.2];omega
 have a:=kr h
 have:(2:Int) ^ l.length<=2 ^ n:=by
  rw[show n=l.length+(n-l.length) by omega,Int.pow_add];have:=two_pos (n-l.length);have c:=two_pos l.length
  calc (2:Int) ^ l.length=2 ^ l.length*1:=ω
   _<=2 ^ l.length*2 ^ (n-l.length):=fp ω ω
 rw[fI ω,Int.ediv_eq_zero_of_lt a.1 ω];rfl
theorem vM {l:ag} (h:dH l):dt (fL l) l.length=l:=by
 induction l with
 | nil=>rfl
 | cons x l a=>
   have c:=a λy b=>h y (aJ _ b);have d:=h x (aI ..);simp only [fL,List.length_cons,dt];rw[show(x+2*fL l)%2=x by omega,show(x+2*fL l)/2=fL l by omega,c]
theorem WA (v:Int) (n:Nat):dt v (n+1)=dt v n++[v/2 ^ n%2]:=by
 induction n generalizing v with
 | zero=>simp [dt]
 | succ n a=>
   rw[dt,a,dt,dN];congr 4;rw[ep,fD,ed ω]
theorem Pj (v:Int) (n:Nat):dt (v%2 ^ n) n=dt v n:=by
 have:=vM (dH.dt v n)
 rwa [aR,gJ]at this
def gU (l:ag):ag:=(List.range (l.length/8)).map λi=>fL ((l.drop (8*i)).take 8)
def rest (l:ag):ag:=l.drop (8*(l.length/8))
def dT:ag->ag
 | []=>[]
 | b::l=>dt b 8++dT l
theorem jm (l:ag):(gU l).length=l.length/8:=by simp [gU]
theorem jh (l:ag):(rest l).length=l.length%8:=by simp [rest];omega
theorem dQ (l:ag):(dT l).length=8*l.length:=by
 induction l with
 | nil=>rfl
 | cons b l a=>simp [dT,aR,a];omega
theorem dH.rest {l:ag} (h:dH l):dH (rest l):=h.dU _
theorem dH.dT (l:ag):dH (dT l):=by
 induction l with
 | nil=>exact dH.di
 | cons b l a=>exact(dH.dt b 8).app a
theorem pC {l:ag} (h:l.length<8):gU l=[]:=by unfold gU;rw[Nat.div_eq_of_lt h];rfl
theorem qO {l:ag} (h:l.length<8):rest l=l:=by unfold rest;rw[Nat.div_eq_of_lt h];simp
theorem pB {a:ag} (h:a.length=8) (l:ag):gU (a++l)=fL a::gU l:=by
 unfold gU;rw[ae,h,show(8+l.length)/8=l.length/8+1 by omega,List.range_succ_eq_map];simp only [List.map_cons,List.map_map];congr 1
 · rw[Nat.mul_zero,iB,cQ ω,aA ω]
 apply dn
 intro i _;simp only [Function.comp];rw[show 8*(i+1)=a.length+8*i by omega,List.drop_append,fI ω,ba,bP]
theorem qN {a:ag} (h:a.length=8) (l:ag):rest (a++l)=rest l:=by
 unfold rest;rw[ae,h,show 8*((8+l.length)/8)=a.length+8*(l.length/8) by omega,List.drop_append,fI ω,ba,bP]
theorem Nz {l:ag} (h:8<=l.length):∃a b,l=a++b/\a.length=8:= ⟨l.take 8,l.drop 8,(aO ..).symm,ξ⟩
theorem Oj (a x:ag):gU (a++x)=gU a++gU (rest a++x):=by
 induction e:a.length using Nat.strongRecOn generalizing a with
 | _ n ih=>
   by_cases h:a.length<8
   · rw[pC h,qO h];rfl
   obtain⟨b,c,rfl,d⟩ :=Nz (l:=a) ω;rw[av,pB d,pB d,qN d,ih c.length (by rw[<-e,ae];omega) c rfl];rfl
theorem JO (a x:ag):rest (a++x)=rest (rest a++x):=by
 induction e:a.length using Nat.strongRecOn generalizing a with
 | _ n ih=>
   by_cases h:a.length<8
   · rw[qO h]
   obtain⟨b,c,rfl,d⟩ :=Nz (l:=a) ω;rw[av,qN d,qN d,ih c.length (by rw[<-e,ae];omega) c rfl]
theorem lC {B:ag} (h:∀b∈B,0<=b/\b<256):gU (dT B)=B:=by
 induction B with
 | nil=>rfl
 | cons b B a=>
   have d:=h b (aI ..);rw[dT,pB (aR b 8),gJ,a λy c=>h y (aJ _ c)];congr 1;omega
theorem X5 (B:ag):rest (dT B)=[]:=by
 unfold rest;rw[dQ,Nat.mul_div_cancel_left _ ω,<-dQ,List.drop_length]
theorem qh (a b:ag):dT (a++b)=dT a++dT b:=by
 induction a with
 | nil=>rfl
 | cons x a c=>simp [dT,c]
theorem Z0 {l:ag} (h:dH l):dT (gU l)++rest l=l:=by
 induction f:l.length using Nat.strongRecOn generalizing l with
 | _ n ih=>
   by_cases e:l.length<8
   · rw[pC e,qO e];rfl
   obtain⟨a,b,rfl,d⟩ :=Nz (l:=l) ω;rw[pB d,qN d,dT,av,ih b.length (by rw[<-f,ae];omega) (λx c=>h x (bz _ c)) rfl];have:=vM (l:=a) λx c=>h x (cP _ c);rw[d]at this;rw[this]
theorem Lm {l:ag} (h:dH l):∀b∈gU l,0<=b/\b<256:=by
 intro b c;obtain⟨i,hi,rfl⟩ :=iv.1 c;have a:=kr ((h.dU (8*i)).ua 8);have d:((l.drop (8*i)).take 8).length=8:=by have:=List.mem_range.1 hi;simp;omega
 rw[d]at a;exact a
theorem rO {a:ag} (h:a.length%8=0) (x:ag):gU (a++x)=gU a++gU x:=by
 rw[Oj];have:rest a=[]:=aC (by rw[jh,h]);rw[this];rfl
theorem RV {a:ag} (h:a.length%8=0) (x:ag):rest (a++x)=rest x:=by
 rw[JO];have:rest a=[]:=aC (by rw[jh,h]);rw[this];rfl
def qu (l:ag):ag:=l++List.replicate ((8-l.length%8)%8) 0
theorem mj (l:ag):(qu l).length=l.length+(8-l.length%8)%8:=by simp [qu]
theorem pE (l:ag):(qu l).length%8=0:=by rw[mj];omega
theorem dH.qu {l:ag} (h:dH l):dH (qu l):=h.app (dH.zeros _)
theorem WB (n:Nat):dt 0 n=List.replicate n 0:=by
 induction n with
 | zero=>rfl
 | succ n a=>simp [dt,a,List.replicate_succ]
theorem TP {l:ag} {j:Nat} (b:j<l.length/8) (h:dH l):gU (l.take (8*(j+1)))=gU (l.take (8*j))++[fL (l.drop (8*j))%256]:=by
 have e:l.take (8*(j+1))=l.take (8*j)++(l.drop (8*j)).take 8:=by
  rw[show 8*(j+1)=8*j+8 by omega,List.take_add]
 have a:((l.drop (8*j)).take 8).length=8:=ξ;rw[e,rO ξ];congr 1;have:=pB a [];rw[ak,pC (l:=[]) σ]at this;rw[this,Ea (h.dU _)];rfl
theorem Ia (l:ag):gU (l.take (8*(l.length/8)))=gU l:=by
 conv=>rhs;rw[<-aO (8*(l.length/8)) l]
 rw[rO ξ,pC (l:=l.drop _) ξ,ak]
theorem RU (l:ag):rest l=l.drop (8*(l.length/8)):=rfl
def qJ (v:Nat):Nat:=2 ^ (15-v)
theorem WN:qJ 0=32768:=rfl
theorem xx (v:Nat):1<=qJ v/\qJ v<=32768:=by
 unfold qJ;have b:2 ^ (15-v)<=2 ^ 15:=bw ω ω;have a:1<=2 ^ (15-v):=Nat.one_le_two_pow;omega
theorem Bn {v:Nat} (h:v<15):qJ v=2*qJ (v+1):=by
 unfold qJ;have:15-v=(15-(v+1))+1:=ω;rw[this,fE];omega
theorem a0F (v:Nat):((qJ v:Nat):Int)=2 ^ (15-v):=by unfold qJ;simp
def share (x:Int):Nat:=if isLen x then qJ x.toNat else 0
def sumTo (l:ag):Nat->Nat
 | 0=>0
 | k+1=>sumTo l k+share (ix l k)
theorem pS {v:Nat} (b:1<=v) (a:v<=15):share (v:Int)=qJ v:=by
 unfold share isLen;rw[aa ξ];simp
theorem mX {x:Int} (h:¬(1<=x/\x<=15)):share x=0:=by
 unfold share isLen;rw[a8 (by simpa using h)]
theorem Xk (x:Int):share x<=32768:=by
 unfold share;split
 · exact(xx _).2
 omega
theorem vX (l:ag) (k:Nat):sumTo l k<=32768*k:=by
 induction k with
 | zero=>simp [sumTo]
 | succ k a=>have:=Xk (ix l k);simp only [sumTo];omega
def dg (l:ag):Nat->Nat
 | 0=>0
 | k+1=>dg l k+if 0<ix l k then 1 else 0
theorem JK (l:ag) (k:Nat):dg l k<=k:=by
 induction k with
 | zero=>simp [dg]
 | succ k a=>simp only [dg];split <;> omega
def tX (l:ag) (k:Nat):Bool:=decide (∀i,i<k->ix l i<=1)
def kL (l:ag) (n:Nat):Bool:=tX l n&&decide (dg l n<=1)
def yI (l:ag) (most:Int) (k:Nat):Bool:=decide (∀i,i<k->0<=ix l i/\ix l i<=most)
def bg (l:ag) (most:Int):Int:=
 if most<1\/15<most\/288<l.length then 1
 else if yI l most l.length=false then 1
 else if 32768<sumTo l l.length\/(sumTo l l.length<32768/\kL l l.length=false)then 3 else 0
theorem FR {l:ag} {most:Int} {k:Nat} (h:∀i,i<k->0<=ix l i/\ix l i<=most):yI l most k=true:=by simpa [yI] using h
theorem W5 {l:ag} {most:Int} {n k:Nat} (a:k<n) (h:¬(0<=ix l k/\ix l k<=most)):yI l most n=false:=by
 rw[<-Bool.not_eq_true];intro b;have:=cM b;exact h (this k a)
def Hh (l:ag) (k:Nat):Nat->Nat
 | 0=>0
 | m+1=>Hh l k m+cnt l k (m+1)*qJ (m+1)
theorem XM (l:ag) (k m:Nat):Hh l (k+1) m=Hh l k m+if 1<=ix l k/\ix l k<=m then qJ (ix l k).toNat else 0:=by
 induction m with
 | zero=>simp [Hh];omega
 | succ m c=>
   simp only [Hh,cnt,c];by_cases h:ix l k=((m+1:Nat):Int)
   · rw[aa h,a8 ω,aa ω,h,aY,eo];omega
   simp only [if_neg h,Nat.add_zero];by_cases b:1<=ix l k/\ix l k<=m
   · have a:1<=ix l k/\ix l k<=((m+1:Nat):Int):=ω;simp only [if_pos b,if_pos a];omega
   have a:¬(1<=ix l k/\ix l k<=((m+1:Nat):Int)):=ω;simp only [if_neg b,if_neg a];omega
theorem a13 (l:ag) (k:Nat):Hh l k 15=sumTo l k:=by
 induction k with
 | zero=>simp [Hh,cnt,sumTo]
 | succ k a=>
   rw[XM,a];show _=sumTo l k+share (ix l k);congr 1;unfold share isLen;by_cases h:1<=ix l k/\ix l k<=15
   · rw[aa (by simpa using h),aa (by simpa using h)]
   rw[a8 (by simpa using h),a8 (by simpa using h)]
theorem Kr (l:ag) (k:Nat) {m a:Nat} (h:m<=a):Hh l k m<=Hh l k a:=by
 induction a with
 | zero=>have:m=0:=ω
         subst this;omega
 | succ q b=>
   by_cases e:m=q+1
   · subst e;omega
   have:=b ω;simp only [Hh];omega
theorem Ph (l:ag) (v:Nat) (c:1<=v) (b:v<=15):nJ l v*qJ v=Hh l l.length (v-1):=by
 induction v with
 | zero=>omega
 | succ v a=>
   rcases v with _ | v
   · simp [nJ,Hh]
   have hi:=a ω ω;have hp:=Bn (v:=v+1) ω;simp only [Nat.add_sub_cancel]at hi⊢;show 2*(nJ l (v+1)+cnt l l.length (v+1))*qJ (v+1+1)=Hh l l.length v+cnt l l.length (v+1)*qJ (v+1);rw[<-hi,hp,<-eo,ez 2 (nJ l (v+1)+cnt l l.length (v+1)),gY]
def placeOf (l:ag) (i:Nat):Nat:=fj l i*qJ (ix l i).toNat
theorem Bo {l:ag} {i v:Nat} (b:1<=v) (a:v<=15) (e:ix l i=v):placeOf l i=Hh l l.length (v-1)+cnt l i v*qJ v:=by
 unfold placeOf fj isLen;rw[e,aa ξ,aY,eo,Ph l v b a]
theorem qj {l:ag} {i k v:Nat} (h:i<k) (e:ix l i=v):cnt l i v+1<=cnt l k v:=by
 have b:cnt l (i+1) v=cnt l i v+1:=by simp [cnt,e]
 have a:=Ie l v (show i+1<=k by omega);omega
theorem RO {l:ag} {i v:Nat} (c:1<=v) (b:v<=15) (e:ix l i=v) (hi:i<l.length):placeOf l i+qJ v<=Hh l l.length v:=by
 rw[Bo c b e];obtain⟨u,rfl⟩ :∃u,v=u+1:= ⟨v-1,ω⟩;have a:=qj hi e;have:(cnt l i (u+1)+1)*qJ (u+1)<=cnt l l.length (u+1)*qJ (u+1):=eV _ a;rw[eo]at this;simp only [Hh,Nat.add_sub_cancel];omega
theorem Pp {u v:Nat} (h:u<=v) (hv:v<=15):qJ u=2 ^ (v-u)*qJ v:=by
 unfold qJ;rw[<-Nat.pow_add];congr 1;omega
theorem Qh {l:ag} {i v:Nat} (f:1<=v) (d:v<=15) (e:ix l i=v) (hi:i<l.length) (g:sumTo l l.length<=32768):fj l i<2 ^ v:=by
 have a:=RO f d e hi;have b:=Kr l l.length d;rw[a13]at b;unfold placeOf at a;rw[e,aY]at a
 have c:(fj l i+1)*qJ v<=2 ^ v*qJ v:=by
  have:=Pp (aG v) d;rw[WN,Nat.sub_zero]at this;rw[eo];omega
 have:=Nat.le_of_mul_le_mul_right c (xx v).1;omega
def a2O (l:ag) (x i:Nat):Bool:=isLen (ix l i)&&decide (x/qJ (ix l i).toNat=fj l i)
theorem vg {l:ag} (h:bg l 15=0):l.length<=288/\(∀i,i<l.length->0<=ix l i/\ix l i<=15)/\sumTo l l.length<=32768/\(sumTo l l.length=32768\/kL l l.length=true):=by
 unfold bg at h;split at h
 · simp at h
 split at h
 · simp at h
 split at h
 · simp at h
 rename_i d c b
 refine⟨ω, ?_,ω, ?_⟩
 · have:yI l 15 l.length=true:=by simpa using c
   simpa [yI] using this
 rcases aU (sumTo l l.length) 32768 with h4 | h4
 · right;cases a:kL l l.length
   · exact absurd (Or.inr ⟨h4,a⟩) b
   rfl
 left;omega
abbrev El:=Int×ax×Nat×Nat
def ps (e:El):Nat:=match e.2.1 with
 | some a=>a.block
 | none=>0
def pz (p q:El):Prop:=p.1<q.1\/(p.1=q.1/\ps p<=ps q)
theorem pz.rfl' (p:El):pz p p:= .inr ⟨rfl,af _⟩
theorem pz.trans {p q r:El} (h:pz p q) (h':pz q r):pz p r:=by
 rcases h with h | ⟨h,b⟩ <;> rcases h' with h' | ⟨h',a⟩
 · exact .inl ω
 · exact .inl ω
 · exact .inl ω
 exact .inr ⟨ω,ω⟩
theorem pz.of_le {p q:El} (h:p.1<=q.1) (a:ps p<=ps q):pz p q:=by
 rcases Int.lt_or_eq_of_le h with h | h
 · exact .inl h
 exact .inr ⟨h,a⟩
def iF (l:List El):Prop:=l.Pairwise pz
def Sep (U V:List El):Prop:=∀p∈U,∀q∈V,ps p<=ps q
def PF (l:List El):Prop:=l.Pairwise λp q=>ps p<=ps q
theorem Sep.perm {U V b a:List El} (h:Sep U V) (e:b.Perm U) (d:a.Perm V):Sep b a:=λp hp q c=>h p (e.mem_iff.1 hp) q (d.mem_iff.1 c)
theorem Sep.sub {U V b a:List El} (h:Sep U V) (e:∀p∈b,p∈U) (d:∀p∈a,p∈V):Sep b a:=λp hp q c=>h p (e p hp) q (d q c)
theorem Sep.app {U V W:List El} (h:Sep U W) (h':Sep V W):Sep (U++V) W:=λp hp q a=>by
 rcases aQ.1 hp with hp | hp
 · exact h p hp q a
 exact h' p hp q a
theorem Sep.a7h {U V W:List El} (h:Sep W U) (h':Sep W V):Sep W (U++V):=λp hp q a=>by
 rcases aQ.1 a with a | a
 · exact h p hp q a
 exact h' p hp q a
theorem Sep.di (U:List El):Sep U []:=λp _ q a=>by simp at a
theorem Sep.nil' (U:List El):Sep [] U:=λp hp=>by simp at hp
theorem Od {U V:List El}:PF (U++V)↔PF U/\PF V/\Sep U V:=List.pairwise_append
theorem K6 {U V W:List El} {x:El} (h:Sep U (x::V)/\PF (x::V)) (b:∀p∈W,p=x\/p∈U):Sep W V/\PF V:=by
 obtain⟨d,c⟩ :=aV.1 h.2;refine⟨λp hp q a=> ?_,c⟩;rcases b p hp with rfl | hp
 · exact d q a
 exact h.1 p hp q (aJ _ a)
def el (D:List El) (i:Nat):El:=D.getD i (0,none,0,0)
section
variable {X Y Q U V U1 U2 V1 V2 Z1 Z2 D:List El} {x y:El} {i j s:Nat}
theorem iF.di:iF []:=List.Pairwise.nil
theorem iA:iF (U++V)↔iF U/\iF V/\∀p∈U,∀q∈V,pz p q:=List.pairwise_append
theorem xR (h:i<X.length):el (X++Y) i=el X i:=by unfold el;rw[au,au,bR h]
theorem qs (h:X.length<=i):el (X++Y) i=el Y (i-X.length):=by unfold el;rw[au,au,bL h]
theorem kN (h:i=X.length):el (X++x::Y) i=x:=by subst h;rw[qs (af _),dL];rfl
theorem lL (h:i<D.length):el D i∈D:=by
 unfold el;rw[au,cZ h];exact cF h
def swp (D:List El) (i j:Nat):List El:=(D.set i (el D j)).set j (el D i)
theorem NK:(swp D i j).length=D.length:=by simp [swp]
theorem zn (hi:i=X.length) (a:j=X.length+1+Q.length):swp (X++x::(Q++y::Y)) i j=X++y::(Q++x::Y):=by
 have e:el (X++x::(Q++y::Y)) i=x:=kN hi
 have d:el (X++x::(Q++y::Y)) j=y:=by
  have:X++x::(Q++y::Y)=(X++x::Q)++y::Y:=σ;rw[this];exact kN (by rw[a];simp;omega)
 unfold swp;rw[e,d];subst hi a
 have b:(X++x::(Q++y::Y)).set X.length y=(X++y::Q)++y::Y:=by
  rw[List.set_append_right _ _ (af _),dL];simp
 rw[b];have c:(X++y::Q).length=X.length+1+Q.length:=ξ;rw[<-c,List.set_append_right _ _ (af _),dL];simp
theorem Kk (D:List El) (i j:Nat):swp D i j=swp D j i:=by
 unfold swp;by_cases h:i=j
 · subst h;rfl
 rw[List.set_comm _ _ h]
theorem a0X (hi:i<D.length) (a:j<D.length):∀p∈swp D i j,p∈D:=λp hp=>by
 unfold swp at hp;rcases List.mem_or_eq_of_mem_set hp with h | h
 · rcases List.mem_or_eq_of_mem_set h with h | h
   · exact h
   rw[h];exact lL a
 rw[h];exact lL hi
theorem FT (e:iF (U1++U2)) (f:∀q∈U2,pz x q) (g:∀p∈U1,pz p x):iF (U1++x::U2):=by
 obtain⟨a,b,c⟩ :=iA.1 e;refine iA.2 ⟨a,aV.2 ⟨f,b⟩,λp hp q d=> ?_⟩;rcases aZ.1 d with rfl | d
 · exact g p hp
 exact c p hp q d
theorem K9 (h:iF (U++[y])) (b:pz y x):∀p∈U++[y],pz p x:=λp hp=>by
 rcases aQ.1 hp with a | a
 · exact((iA.1 h).2.2 p a y aI).trans b
 rw[bk.1 a];exact b
theorem Em (i:iF U) (g:iF V) (h:0<U.length->0<V.length->pz (el U (U.length-1)) (el V 0)):∀p∈U,∀q∈V,pz p q:=λp hp q a=>by
 have c:0<U.length:=List.length_pos_of_mem hp;have k:0<V.length:=List.length_pos_of_mem a;have j:=h c k
 have f:pz p (el U (U.length-1)):=by
  obtain⟨b,z,e⟩ :∃b z,U=b++[z]:= ⟨U.dropLast,U.getLast (by intro e;rw[e]at c;simp at c),by rw[List.dropLast_concat_getLast]⟩;subst e;have l:el (b++[z]) ((b++[z]).length-1)=z:=kN σ;rw[l];exact K9 i (pz.rfl' _) p hp
 have d:pz (el V 0) q:=by
  cases V with
  | nil=>simp at a
  | cons v V=>
    rcases aZ.1 a with rfl | a
    · exact pz.rfl' _
    exact(aV.1 g).1 q a
 exact f.trans (j.trans d)
theorem XE (j:iF (U1++U2)) (i:iF (V1++V2)) (c:Z1.Perm (U1++V1)) (h:iF Z1) (b:Z2.Perm (U2++V2)) (g:iF Z2)
  (c1:0<U1.length->0<V2.length->pz (el U1 (U1.length-1)) (el V2 0)) (c2:0<V1.length->0<U2.length->pz (el V1 (V1.length-1)) (el U2 0)):
  iF (Z1++Z2)/\(Z1++Z2).Perm ((U1++U2)++(V1++V2)):=by
 obtain⟨u1,u2,u3⟩ :=iA.1 j;obtain⟨f,e,d⟩ :=iA.1 i;have d1:=Em u1 e c1;have d2:=Em f u2 c2;refine⟨iA.2 ⟨h,g,λp hp q a=> ?_⟩, ?_⟩
 · rcases aQ.1 (c.mem_iff.1 hp)with hp | hp <;> rcases aQ.1 (b.mem_iff.1 a)with a | a
   · exact u3 p hp q a
   · exact d1 p hp q a
   · exact d2 p hp q a
   exact d p hp q a
 refine(c.append b).trans ?_;have l:(U1++V1)++(U2++V2)=U1++((V1++U2)++V2):=σ;have k:(U1++U2)++(V1++V2)=U1++((U2++V1)++V2):=σ;rw[l,k];exact cI _ (eD _ iK)
inductive KX (s:Nat):List El->Prop
 | last {c:List El}:c.length<=s->iF c->KX s c
 | more {c D:List El}:c.length=s->iF c->Sep c D->KX s D->KX s (c++D)
def Pre (s:Nat) (P:List El):Prop:=∀R,KX s R->Sep P R->KX s (P++R)
theorem Pre.di (s:Nat):Pre s []:=λR h _=>h
theorem Pre.more {P c:List El} (h:Pre s P) (e:c.length=s) (d:iF c) (a:Sep P c):Pre s (P++c):=λR f b=>by
 rw[av];exact h _ (.more e d (b.sub (λp hp=>bz _ hp) λp hp=>hp) f) (a.a7h (b.sub (λp hp=>cP _ hp) λp hp=>hp))
theorem KX.uI (h:KX s D) (a:D.length<=s):iF D:=by
 cases h with
 | last _ h=>exact h
 | @more c D hc hs rh hD=>
   have:D=[]:=aC (by rw[ae]at a;omega);rw[this,ak];exact hs
theorem KX.head (h:KX s D) (b:s<=D.length):∃c R,D=c++R/\c.length=s/\iF c/\KX s R/\Sep c R:=by
 cases h with
 | last d a=>exact⟨D,[],σ,ω,a, .last (aG _) iF.di,Sep.di _⟩
 | @more c R hc hs rh hD=>exact⟨c,R,rfl,hc,hs,hD,rh⟩
end
structure Pk where
 w:Int
 l:ag
def dr:List Pk->List Pk
 | a::b::r=> ⟨a.w+b.w,a.l++b.l⟩ ::dr r
 | _=>[]
def Cq:List Pk->List Pk->List Pk
 | [],bs=>bs
 | a::as,[]=>a::as
 | a::as,b::bs=>if b.w<a.w then b::Cq (a::as) bs else a::Cq as (b::bs)
termination_by as bs=>as.length+bs.length
def lev (F:List Pk):Nat->List Pk
 | 0=>F
 | k+1=>Cq F (dr (lev F k))
def wtP (l:List Pk):Int:=(l.map Pk.w).sum
def rY (l:List Pk):ag:=l.flatMap Pk.l
def SI (l:List Pk):Prop:=l.Pairwise λp q=>p.w<=q.w
section
variable {a b l F:List Pk} {p q e:Pk} {k j x n m:Nat}
theorem zg (a:List Pk):Cq a []=a:=by cases a <;> simp [Cq]
theorem zi (a:List Pk):Cq [] a=a:=by simp [Cq]
theorem pO (a b:List Pk):(Cq a b).Perm (a++b):=by
 induction a generalizing b with
 | nil=>rw[zi];exact cO _
 | cons p as d=>
   induction b with
   | nil=>rw[zg,ak]
   | cons q e c=>
     rw[Cq];split
     · exact(List.Perm.cons q c).trans List.perm_middle.symm
     exact List.Perm.cons p (d (q::e))
theorem uy (a b:List Pk):(Cq a b).length=a.length+b.length:=by rw[(pO a b).length_eq,ae]
theorem MX (j:SI a) (f:SI b):SI (Cq a b):=by
 induction a generalizing b with
 | nil=>rw[zi];exact f
 | cons p as d=>
   induction b with
   | nil=>rw[zg];exact j
   | cons q l c=>
     have i:=aV.1 j;have g:=aV.1 f;rw[Cq];split <;> rename_i k
     · refine aV.2 ⟨λr e=> ?_,c g.2⟩;rcases aQ.1 ((pO _ _).mem_iff.1 e)with h | h
       · rcases aZ.1 h with rfl | h
         · omega
         have:=i.1 r h;omega
       exact g.1 r h
     refine aV.2 ⟨λr e=> ?_,d i.2 f⟩;rcases aQ.1 ((pO _ _).mem_iff.1 e)with h | h
     · exact i.1 r h
     rcases aZ.1 h with rfl | h
     · omega
     have:=g.1 r h;omega
theorem Rw (u:SI a) (t:SI b) (h:x<=a.length+b.length):
  ∃c f b1 b2,a=c++f/\b=b1++b2/\c.length+b1.length=x/\((Cq a b).take x).Perm (c++b1)/\(∀p∈b1,∀q∈f,p.w<q.w)/\(∀p∈c,∀q∈b2,p.w<=q.w):=by
 induction x generalizing a b with
 | zero=>exact⟨[],a,[],b,rfl,rfl,rfl,σ,σ,σ⟩
 | succ x o=>
   cases a with
   | nil=>
     refine⟨[],[],b.take (x+1),b.drop (x+1),rfl,(aO ..).symm, ?_,by rw[zi];simp,σ,σ⟩;simp only [List.length_nil,List.length_take]at h⊢;omega
   | cons p as=>
     cases b with
     | nil=>
       refine⟨(p::as).take (x+1),(p::as).drop (x+1),[],[],(aO ..).symm,rfl, ?_,by rw[zg];simp,σ,σ⟩;simp only [List.length_nil,List.length_take]at h⊢;omega
     | cons q n=>
       have y:=aV.1 u;have v:=aV.1 t;rw[Cq];split <;> rename_i z
       · obtain⟨c,f,b1,b2,j,i,A,m,l,k⟩ :=o (a:=p::as) (b:=n) u v.2 (by simp only [List.length_cons]at h⊢;omega);refine⟨c,f,q::b1,b2,j,by rw[i];rfl,by simp only [List.length_cons];omega, ?_,λr d s g=> ?_,k⟩
         · rw[dc];exact(List.Perm.cons q m).trans List.perm_middle.symm
         rcases aZ.1 d with rfl | d
         · have e:s∈p::as:=by rw[j];exact bz _ g
           rcases aZ.1 e with rfl | e
           · exact z
           have:=y.1 s e;omega
         exact l r d s g
       obtain⟨c,f,b1,b2,j,i,A,m,l,k⟩ :=o (a:=as) (b:=q::n) y.2 t (by simp only [List.length_cons]at h⊢;omega);refine⟨p::c,f,b1,b2,by rw[j];rfl,i,by simp only [List.length_cons];omega, ?_,l,λr d s g=> ?_⟩
       · rw[dc];exact List.Perm.cons p m
       rcases aZ.1 d with rfl | d
       · have e:s∈q::n:=by rw[i];exact bz _ g
         rcases aZ.1 e with rfl | e
         · omega
         have:=v.1 s e;omega
       exact k r d s g
theorem C7 (p:Pk) (l:List Pk):wtP (p::l)=p.w+wtP l:=by simp [wtP]
theorem qw (a b:List Pk):rY (a++b)=rY a++rY b:=by simp [rY]
theorem vr (p:Pk) (l:List Pk):rY (p::l)=p.l++rY l:=by simp [rY]
theorem Ug (h:a.Perm b):(rY a).Perm (rY b):=List.Perm.flatMap_right _ h
theorem kt (l:List Pk):(dr l).length=l.length/2:=by
 induction l using dr.induct with
 | case1 a b r ih=>rw[dr,br,ih];simp only [List.length_cons];omega
 | case2 t h=>
   match t,h with
   | [],_=>rfl
   | [a],_=>simp [dr]
   | a::b::r,h=>exact absurd rfl (h a b r)
theorem Nh (l:List Pk) (j:Nat):(dr l).take j=dr (l.take (2*j)):=by
 induction l using dr.induct generalizing j with
 | case1 a b r ih=>
   cases j with
   | zero=>simp [dr]
   | succ j=>rw[dr,dc,ih j,show 2*(j+1)=2*j+1+1 by omega,dc,dc,dr]
 | case2 t h=>
   match t,h with
   | [],_=>simp [dr]
   | [a],_=>
     cases j with
     | zero=>simp [dr]
     | succ j=>rw[show 2*(j+1)=2*j+1+1 by omega];simp [dr]
   | a::b::r,h=>exact absurd rfl (h a b r)
theorem Ng (l:List Pk) (h:l.length%2=0):rY (dr l)=rY l/\wtP (dr l)=wtP l/\((∀e∈l,0<=e.w)->∀e∈l,∃p∈dr l,e.w<=p.w):=by
 induction l using dr.induct with
 | case1 a b r ih=>
   obtain⟨k,j,i⟩ :=ih (by simp only [List.length_cons]at h;omega);rw[dr];refine⟨by rw[vr,vr,vr,k];simp,by rw[C7,C7,C7,j];show a.w+b.w+_=_;omega,λd e c=> ?_⟩;have n:=d a aI;have m:=d b (aJ _ aI);rcases aZ.1 c with rfl | c
   · exact⟨_,aI,by show e.w<=e.w+b.w;omega⟩
   rcases aZ.1 c with rfl | c
   · exact⟨_,aI,by show e.w<=a.w+e.w;omega⟩
   obtain⟨p,hp,f⟩ :=i (λq g=>d q (aJ _ (aJ _ g))) e c;exact⟨p,aJ _ hp,f⟩
 | case2 t h'=>
   match t,h' with
   | [],_=>exact⟨rfl,rfl,λ_ e c=>by simp at c⟩
   | [a],_=>simp at h
   | a::b::r,h'=>exact absurd rfl (h' a b r)
theorem tA (l:List Pk):∀p∈dr l,∃c∈l,∃d∈l,p.w=c.w+d.w/\p.l=c.l++d.l:=by
 induction l using dr.induct with
 | case1 a b r ih=>
   intro p hp;rw[dr]at hp;rcases aZ.1 hp with rfl | hp
   · exact⟨a,aI,b,aJ _ aI,rfl,rfl⟩
   obtain⟨c,e,d,hd,g,f⟩ :=ih p hp;exact⟨c,aJ _ (aJ _ e),d,aJ _ (aJ _ hd),g,f⟩
 | case2 t h=>
   match t,h with
   | [],_=>intro p hp;simp [dr]at hp
   | [a],_=>intro p hp;simp [dr]at hp
   | a::b::r,h=>exact absurd rfl (h a b r)
theorem vP (l:List Pk) (h:SI l):SI (dr l):=by
 induction l using dr.induct with
 | case1 a b r ih=>
   rw[dr];have g:=aV.1 h;have f:=aV.1 g.2;refine aV.2 ⟨λp hp=> ?_,ih f.2⟩;obtain⟨c,i,d,hd,e,_⟩ :=tA r p hp;have:=g.1 c (aJ _ i);have:=f.1 d hd;show a.w+b.w<=p.w;omega
 | case2 t h'=>
   match t,h' with
   | [],_=>exact List.Pairwise.nil
   | [a],_=>exact List.Pairwise.nil
   | a::b::r,h'=>exact absurd rfl (h' a b r)
theorem MT (hF:SI F) (k:Nat):SI (lev F k):=by
 induction k with
 | zero=>exact hF
 | succ k a=>exact MX hF (vP _ a)
theorem ux (F:List Pk) (k:Nat):(lev F (k+1)).length=F.length+(lev F k).length/2:=by rw[lev,uy,kt]
theorem MS (hF:∀p∈F,0<=p.w) (k:Nat):∀p∈lev F k,0<=p.w:=by
 induction k with
 | zero=>exact hF
 | succ k a=>
   intro p hp;rcases aQ.1 ((pO _ _).mem_iff.1 hp)with h | h
   · exact hF p h
   obtain⟨c,b,d,hd,e,_⟩ :=tA _ p h;have:=a c b;have:=a d hd;omega
theorem Jv (h:F.length<=n*2 ^ k):2*F.length<=(lev F k).length+n:=by
 induction k generalizing n with
 | zero=>rw[Nat.pow_zero,dK]at h;show 2*F.length<=F.length+n;omega
 | succ k a=>
   have:=a (n:=2*n) (by rw[fE]at h;rw[ez 2 n,gY,ez 2];exact h);rw[ux];omega
def NP:List Nat->Nat
 | []=>0
 | b::r=>b*2 ^ r.length+NP r
theorem Rs (hF:SI F) (J:∀p∈F,0<=p.w) (k:Nat):∀x,x<=(lev F k).length->∃A B,(A::B).length=k+1/\(∀b∈A::B,b<=F.length)/\(A::B).Pairwise (λc d=>d<=c)/\
  (rY ((lev F k).take x)).Perm ((A::B).flatMap λb=>rY (F.take b))/\NP (A::B)=x*2 ^ k/\∀e∈F.take A,e∈(lev F k).take x:=by
 induction k with
 | zero=>
   intro x m;refine⟨x,[],rfl,λb a=> ?_,σ, ?_,by simp [NP],λe g=>g⟩
   · rcases aZ.1 a with rfl | a
     · exact m
     simp at a
   show(rY (F.take x)).Perm _;simp
 | succ k C=>
   intro x m;have D:=vP _ (MT hF k);obtain⟨f,y,b1,b2,l,v,O,u,N,Q⟩ :=Rw hF D (x:=x) (by rw[<-uy];exact m)
   have I:b1.length<=(lev F k).length/2:=by
    rw[<-kt,v,ae];omega
   have n:b1=(dr (lev F k)).take b1.length:=by rw[v,gB]
   have i:f=F.take f.length:=by rw[l,gB]
   obtain⟨A,B,t,s,r,M,L,K⟩ :=C (2*b1.length) ω;have H:((lev F k).take (2*b1.length)).length%2=0:=by rw[aD];omega
   obtain⟨p1,p2,p3⟩ :=Ng _ H;rw[<-Nh,<-n]at p1 p2 p3
   have j:A<=f.length:=by
    rcases aU f.length A with G | h
    · exfalso
      have o:=s A aI;cases y with
      | nil=>rw[l,ak]at o;omega
      | cons q y=>
        have E:q∈F.take A:=by
         rw[l,iQ];refine bz _ ?_;obtain⟨z,hz⟩ :∃z,A-f.length=z+1:= ⟨A-f.length-1,ω⟩;rw[hz,dc];exact aI
        obtain⟨p,hp,P⟩ :=p3 (λe g=>MS J k e (aN g)) q (K q E);have:=N p hp q aI;omega
    exact h
   refine⟨f.length,A::B,by rw[br,t],λb a=> ?_,aV.2 ⟨λb a=> ?_,r⟩, ?_, ?_,λe g=> ?_⟩
   · rcases aZ.1 a with rfl | a
     · rw[l,ae];omega
     exact s b a
   · rcases aZ.1 a with rfl | a
     · exact j
     exact aq ((aV.1 r).1 b a) j
   · refine(Ug u).trans ?_;rw[qw,List.flatMap_cons,<-i,p1];exact cI _ M
   · rw[NP,t,L,<-O,fE,eo];congr 1;rw[ez 2 b1.length,gY,ez 2]
   rw[<-i]at g;exact u.mem_iff.2 (cP _ g)
end
end Go.Proofs.YtgiimmkmjpbecaaGreat
