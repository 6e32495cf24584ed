/-
  The walk of coding's Pipe.Take.
-/
import Derived.Test.YtlopmioamhendaaGreatCodY
namespace Go.Proofs.YtlopmioamhendaaGreat
open Go.RowKit
set_option linter.unusedVariables false
section
variable {w : World} {b0 gp gd ge gs gl n c ns cs : Nat} {A As : Option Addr} {l ls : List Int} {M : Nat} {ended : Bool}
def errOf (dn : Bool) : Int := if dn then 8 else 0
def PTRel (F0 : Nat → Prop) (w : World) (b0 gp gd ge gs gl : Nat) (n ns N : Nat) (l ls : List Int) (M : Nat) (ended : Bool) (k : Nat) (wr : World) : Prop :=
  ∃ (j : Nat) (A' : Option Addr) (c' : Nat) (As' : Option Addr) (cs' : Nat) (dn : Bool), j ≤ ns ∧ PipM wr b0 gp gd ge gs gl A' (n + j) c' (l ++ ls.take j) (errOf dn) As' (ns - j) cs' (ls.drop j) ((M : Int) - j) ended none 0 0 [] dn ∧
    BE b0 w wr F0 (PF A' As' none gp gs gl) ∧ Hid (dn = true → j = ns ∧ ended = true ∧ n + ns < N) ∧ Hid (2 * (ns - j) + (if dn then 0 else 1) ≤ k)
/-- behind the loop -/
def PTEnd (F0 : Nat → Prop) (w : World) (b0 gp gd ge gs gl : Nat) (n ns N : Nat) (l ls : List Int) (M : Nat) (ended : Bool) (wr : World) : Prop :=
  ∃ (j : Nat) (A' : Option Addr) (c' : Nat) (As' : Option Addr) (cs' : Nat) (dn : Bool), j ≤ ns ∧ PipM wr b0 gp gd ge gs gl A' (n + j) c' (l ++ ls.take j) (errOf dn) As' (ns - j) cs' (ls.drop j) ((M : Int) - j) ended none 0 0 [] dn ∧
    BE b0 w wr F0 (PF A' As' none gp gs gl) ∧ Hid ((dn = true → j = ns ∧ ended = true ∧ n + ns < N) ∧ (n + j < N → j = ns ∧ dn = ended))
def pTakeE (N K : Nat) (ended : Bool) : Int := if K = N then 0 else if 0 < K then 5 else if ended then 8 else 5
def PTakeP (F0 : Nat → Prop) (w : World) (b0 gp gd ge gs gl : Nat) (T : List Int) (N K ns M : Nat) (ended : Bool) (e : Ending) (w' : World) : Prop :=
  ∃ Ao no co A' n' c' l' As' ns' cs' ls' M' dn, e = .returned (.tuple #[.slice Ao no co, .int .i64 (pTakeE N K ended)]) ∧ RdI .u8 w' w'.heap.size Ao no (T.take K) ∧ l' ++ ls' = T.drop K ∧
    PipM w' b0 gp gd ge gs gl A' n' c' l' (errOf dn) As' ns' cs' ls' M' ended none 0 0 [] dn ∧ (BE b0 w w' F0 (PF A' As' none gp gs gl) ∧ ∀ k, blkOf Ao = some k → ¬ PF A' As' none gp gs gl k) ∧ dn = (decide (K < N) && ended) ∧ Hid ((M : Int) - ns ≤ M' ∧ M' ≤ M)
/-- the pipe's bytes behind a Take -/
theorem pt_fin {w w2 w3 : World} {b0 gp gd ge gs gl q c K J d2 d3 ns cs : Nat} {A A2 A3 As : Option Addr} {l lt ld ls : List Int} {err M : Int} {ended dn : Bool} (hb2 : Below w.heap.size w w2) (hb3 : Below w2.heap.size w2 w3)
    (h : PipM w b0 gp gd ge gs gl A q c l err As ns cs ls M ended none 0 0 [] dn) (ho2 : OwnI .u8 w2 w.heap.size 5 A2 K d2 lt) (ho3 : OwnI .u8 w3 w2.heap.size 5 A3 J d3 ld) :
    RdI .u8 (w3.setCell ⟨gp, 2, none⟩ (.slice A3 J d3)) (w3.setCell ⟨gp, 2, none⟩ (.slice A3 J d3)).heap.size A2 K lt ∧ PipM (w3.setCell ⟨gp, 2, none⟩ (.slice A3 J d3)) b0 gp gd ge gs gl A3 J d3 ld err As ns cs ls M ended none 0 0 [] dn ∧ (BE b0 w (w3.setCell ⟨gp, 2, none⟩ (.slice A3 J d3)) (PF A As none gp gs gl) (PF A3 As none gp gs gl) ∧ ∀ k, blkOf A2 = some k → ¬ PF A3 As none gp gs gl k) := by
  have s2 := hb2.size
  have s3 := hb3.size
  have hg := h.pc.lt
  have hlo := h.lo.1
  have l2 : ∀ k, blkOf A2 = some k → w.heap.size ≤ k ∧ k < w2.heap.size := fun k hk => ho2.2.lt hk
  have l3 : ∀ k, blkOf A3 = some k → w2.heap.size ≤ k := fun k hk => (ho3.2.lt hk).1
  have a2 : blkOf A2 ≠ some gp := fun e => by have := (l2 gp e).1; omega
  have a3 : blkOf A3 ≠ some gp := fun e => by have := l3 gp e; omega
  have h3 := (h.keeps hb2).keeps hb3
  have o2 := (ho2.below hb3 (fun k hk => (l2 k hk).2)).far (p := ⟨gp, 2, none⟩) a2 (.slice A3 J d3)
  have hC : Chg w w3 (foot A gp) := Chg.of_below (hb2.trans (hb3.mono s2))
  refine ⟨o2.rd, ?_, ?_⟩
  · have hq := h3.setQ2 (S := w.heap.size) (l' := ld) (err' := err) ((Chg.refl w3 (foot A gp)).setCell (p := ⟨gp, 2, none⟩) (.inl (.inl rfl)) (.slice A3 J d3)) ((h3.pc.set_ (i := 2) (by omega) (.slice A3 J d3)).congr (f' := ppF gd ge A3 J d3 err) fun i hi => by
      obtain rfl | rfl | rfl | rfl : i = 0 ∨ i = 1 ∨ i = 2 ∨ i = 3 := by omega
      all_goals rfl) ((ho3.more (by omega)).far (p := ⟨gp, 2, none⟩) a3 _) a3 h.ltS h.ltP ⟨h.dc.lt, h.ec.lt⟩ (fun k hk => by
        rcases hk with hk | hk
        · exact .inl (.inl hk)
        · exact .inr (by have := l3 k hk; omega))
    exact hq
  · have hQ : Chg w (w3.setCell ⟨gp, 2, none⟩ (.slice A3 J d3)) (foot A gp) := hC.setCell (p := ⟨gp, 2, none⟩) (.inl (.inl rfl)) _
    refine ⟨BE.ofQ h (by omega) hQ (fun k hk => by
      rcases hk with hk | hk
      · exact .inl (.inl hk)
      · have := l3 k hk; exact .inr (by omega)), fun k hk hF => ?_⟩
    have hk2 := l2 k hk
    rcases hF with hF | hF | hF | hF
    · have := h.ltS k hF; omega
    · have := h.ltP k hF; omega
    · omega
    · have := l3 k hF; omega
set_option maxRecDepth 100000 in
set_option maxHeartbeats 2000000 in
theorem pipTake_any (N : Nat) (h : PipM w b0 gp gd ge gs gl A n c l 0 As ns cs ls (M : Int) ended none 0 0 [] false) (hB : b0 ≤ w.heap.size) (hn : n + ns ≤ 100000000) (hM : ns ≤ M) (hM2 : (M : Int) ≤ 4611686018427387904) (hN : (N : Int) ≤ 1000000000) :
    Calls Tryz.prog 10 #[.pointer (some ⟨gp, 0, none⟩), .int .i64 N] w (PTakeP (PF A As none gp gs gl) w b0 gp gd ge gs gl (l ++ ls) N (min N (n + ns)) ns M ended) := by
  have hlen := h.own.1
  have hlen2 := h.s.own.1
  have HN := Lib.hid (show N ≤ 1000000000 by omega)
  have hNI : (0 : Int) ≤ N := by omega
  go_enter Tryz.func10, Tryz.ntmps10
  go_upto_block 0 with fail
  go_cut [] (fun wx => PTEnd (PF A As none gp gs gl) w b0 gp gd ge gs gl n ns N l ls M ended wx)
  case first =>
    go_wp2_with fail
    go_loopg [] (2 * ns + 1) (PTRel (PF A As none gp gs gl) w b0 gp gd ge gs gl n ns N l ls M ended)
    case atStart => exact ⟨0, A, c, As, cs, false, Nat.zero_le _, by simpa [errOf] using h, BE.refl _ _ _, (fun h => by cases h), by show _ ≤ _; simp⟩
    case round =>
      obtain ⟨j, A', c', As', cs', dn, hj, hp, hb, hd, hk⟩ := hrel
      have c2 : wr.cell? ⟨gp, 2, none⟩ = some (.slice A' ((n + j : Nat)) c') := hp.pc.cell (i := 2) (by omega)
      have c3 : wr.cell? ⟨gp, 3, none⟩ = some (.int .i64 (errOf dn)) := hp.pc.cell (i := 3) (by omega)
      obtain ⟨q, hq⟩ : ∃ q, n + j = q := ⟨_, rfl⟩
      rw [hq] at c2
      have HQ := Lib.hid hq
      have hqI : (0 : Int) ≤ q ∧ (q : Int) ≤ 200000000 := by omega
      clear hq
      by_cases hA : (q : Int) < N
      · cases dn with
        | true =>
          have c3' : wr.cell? ⟨gp, 3, none⟩ = some (.int .i64 8) := c3
          have HD2 := Lib.hid (hd.out rfl)
          clear c3 hd
          go_wp2_with fail
          go_meet
          exact ⟨j, A', c', As', cs', true, hj, hp, hb, fun _ => HD2.out, fun _ => ⟨HD2.out.1, HD2.out.2.1.symm⟩⟩
        | false =>
          have c3' : wr.cell? ⟨gp, 3, none⟩ = some (.int .i64 0) := c3
          clear c3 hd
          have hp' : PipM wr b0 gp gd ge gs gl A' (n + j) c' (l ++ ls.take j) 0 As' (ns - j) cs' (ls.drop j) (((M - j : Nat)) : Int) ended none 0 0 [] false := by
            have e : (M : Int) - j = ((M - j : Nat) : Int) := by omega
            rw [← e]; exact hp
          obtain ⟨K, hK⟩ : ∃ K, K = min 16384 (ns - j) := ⟨_, rfl⟩
          have hBr : b0 ≤ wr.heap.size := by have := hp.lo.1; have := hp.pc.lt; omega
          have HS := Lib.hid (pipStep_any K hp' hBr (by omega) (by omega) (by omega) hK)
          have HK := Lib.hid hK
          clear hK
          go_wp2_with fail
          refine HS.out.mono ?_
          rintro e w2 ⟨A2, n2, d2, As2, ns2, cs2, rfl, hp2, hb2⟩
          have hk := hk.out
          have hKj : K ≤ ns - j := by have := HK.out; omega
          have hn2 : n2 = n + (j + K) := by
            have := hp2.own.1
            rw [List.length_append, List.length_append, List.length_take, List.length_take, List.length_drop, ← hlen, ← hlen2] at this
            omega
          have hns2 : ns2 = ns - (j + K) := by
            have := hp2.s.own.1
            rw [List.length_drop, List.length_drop, ← hlen2] at this
            omega
          have hm2 : (((M - j : Nat)) : Int) - K = (M : Int) - ((j + K : Nat) : Int) := by omega
          rw [hn2, hns2, hm2, List.append_assoc, ← List.take_add, List.drop_drop] at hp2
          have hb3 := hb.trans hb2
          have her : (if K = 0 ∧ ended = true then (8 : Int) else 0) = errOf (decide (K = 0) && ended) := by
            unfold errOf
            by_cases h1 : K = 0 <;> cases ended <;> simp [h1]
          rw [her] at hp2
          clear her hm2 hn2 hns2 hp hp' c2 c3'
          have HKj := Lib.hid hKj
          clear hKj
          have HKK := Lib.hid hk
          clear hk
          by_cases hK0 : 0 < K
          · have hdn : (decide (K = 0) && ended) = false := by simp; intro h; omega
            rw [hdn] at hp2
            have hB0 : (decide (0 < K) || (decide (K = 0) && ended)) = true := by rw [decide_eq_true hK0]; rfl
            rw [hB0]
            have HK0 := Lib.hid hK0
            clear hdn hB0 hK0
            go_wp2_with fail
            go_roundg (gk - 1)
            case measure => have := HKK.out; simp at this; omega
            case rel => exact ⟨j + K, A2, d2, As2, cs2, false, by have := HKj.out; omega, hp2, hb3, (fun h => by cases h), by show _ ≤ _; have h1 := HKK.out; have h2 := HK0.out; have h3 := HKj.out; simp at h1 ⊢; omega⟩
          · have hz : K = 0 := by omega
            have hjn : Hid (j = ns) := by show _ = _; have := HK.out; omega
            cases ended with
            | true =>
              have hdn : (decide (K = 0) && true) = true := by simp [hz]
              rw [hdn] at hp2
              have hB0 : (decide (0 < K) || (decide (K = 0) && true)) = true := by rw [hdn]; simp
              rw [hB0]
              have HZ := Lib.hid hz
              clear hdn hB0 hK0 hz
              go_wp2_with fail
              go_roundg 0
              case measure => have := HKK.out; simp at this; omega
              case rel => exact ⟨j + K, A2, d2, As2, cs2, true, by have := HKj.out; omega, hp2, hb3, (fun _ => ⟨by have := hjn.out; have := HZ.out; omega, rfl, by have := HQ.out; have := hjn.out; omega⟩), by show _ ≤ _; have h2 := HZ.out; have h3 := hjn.out; simp; omega⟩
            | false =>
              have hdn : (decide (K = 0) && false) = false := by simp
              rw [hdn] at hp2
              have hB0 : (decide (0 < K) || (decide (K = 0) && false)) = false := by rw [hdn]; simp; omega
              rw [hB0]
              have HZ := Lib.hid hz
              clear hdn hB0 hK0 hz
              go_wp2_with fail
              go_meet
              exact ⟨j + K, A2, d2, As2, cs2, false, by have := HKj.out; omega, hp2, hb3, (fun h => by cases h), fun _ => ⟨by have := hjn.out; have := HZ.out; omega, rfl⟩⟩
      · go_wp2_with fail
        go_meet
        exact ⟨j, A', c', As', cs', dn, hj, hp, hb, hd.out, fun h9 => by have := HQ.out; omega⟩
  case rest =>
  obtain ⟨j, A', c', As', cs', dn, hj, hp, hb, hend⟩ := hcut
  obtain ⟨q, hq⟩ : ∃ q, n + j = q := ⟨_, rfl⟩
  rw [hq] at hp
  have HQ := Lib.hid hq
  have hqb : q ≤ 200000000 := by omega
  have c2 : wc.cell? ⟨gp, 2, none⟩ = some (.slice A' q c') := hp.pc.cell (i := 2) (by omega)
  have hql := hp.own.1
  have hcap := hp.own.2.capLe
  have hgp := hp.pc.lt
  have hBc : b0 ≤ wc.heap.size := by have := hp.lo.1; omega
  obtain ⟨K, hK⟩ : ∃ K, min N q = K := ⟨_, rfl⟩
  have hKq : K ≤ q := by omega
  obtain ⟨i0, hi, hz0, hz1, hz2⟩ := info_parts sbyte_info
  have hs1 := run_slice_to (P := Tryz.prog) 22 5 Tryz.underlying22 hi hz1 A' q c' (j := K) (by omega)
  have hs2 := run_slice_from (P := Tryz.prog) 22 5 Tryz.underlying22 hi hz1 A' q c' (j := K) hKq
  have hr1 : RdI .u8 wc wc.heap.size A' K ((l ++ ls.take j).take K) := RdI.pre hp.own.rd hKq
  have hr2 : RdI .u8 wc wc.heap.size (cutA A' c' K) (q - K) ((l ++ ls.take j).drop K) := RdI.cutA hp.own.rd hKq hcap
  obtain ⟨J, hJ⟩ : ∃ J, q - K = J := ⟨_, rfl⟩
  rw [hJ] at hs2 hr2
  have hJb : J ≤ 200000000 := by omega
  have hT1 : Hid ((l ++ ls.take j).take K = (l ++ ls).take K) := by
    show _ = _
    rw [show l ++ ls = (l ++ ls.take j) ++ ls.drop j by rw [List.append_assoc, List.take_append_drop]]
    exact (List.take_append_of_le_length (by rw [← hql]; exact hKq)).symm
  have hT2 : Hid ((l ++ ls.take j).drop K ++ ls.drop j = (l ++ ls).drop K) := by
    show _ = _
    rw [show l ++ ls = (l ++ ls.take j) ++ ls.drop j by rw [List.append_assoc, List.take_append_drop]]
    exact (List.drop_append_of_le_length (by rw [← hql]; exact hKq)).symm
  have Hi := Lib.hid hi
  have Hz0 := Lib.hid hz0
  have Hz1 := Lib.hid hz1
  have Hz2 := Lib.hid hz2
  have HMJ : Hid ((M : Int) - ns ≤ (M : Int) - j ∧ (M : Int) - j ≤ M) := by show _ ∧ _; omega
  have hKc : ((N : Int) ≤ q ∧ K = N) ∨ ((q : Int) < N ∧ K = q) := by omega
  have HEND := Lib.hid hend.out
  have hqI : (0 : Int) ≤ q ∧ (0 : Int) ≤ K := by omega
  clear hi hz0 hz1 hz2 hJ hq hql hend hlen hlen2 h
  rcases hKc with ⟨hNq, rfl⟩ | ⟨hNq, rfl⟩
  · have hKK : Hid (K = min K (n + ns)) := by show _ = _; have := HQ.out; omega
    have hdn : Hid (dn = (decide (K < K) && ended)) := by
      show _ = _
      have h1 := HEND.out.1
      have h2 := HQ.out
      cases dn with
      | false => simp
      | true => have := h1 rfl; exfalso; omega
    clear hK
    go_wp2_with (first
      | (at_builtin; (refine wpList_app .u8 wc.heap.size 5 i0 1 rfl (.tmp 37) (.tmp 43) _ rfl Tryz.underlying22 Hi.out Hz0.out Hz1.out Hz2.out rfl (OwnI.lit rfl [] _ (Nat.le_refl _) (by simp)) rfl (hr1.alloc (Nat.le_refl _) _) (by simp; omega) (by omega) (by simp) ?_)
         intro A2 d2 w2 ho2 hg2 hat2
         simp only [List.nil_append, Nat.zero_add] at ho2
         have hb2 : Below wc.heap.size wc w2 := ((Below.refl _ wc).alloc (Nat.le_refl _) _).grown hg2 (by simp) (by simp [blkOf])
         have hp2 := hp.keeps hb2
         have k0 : w2.cell? ⟨gp, 2, none⟩ = some (.slice A' q c') := hp2.pc.cell (i := 2) (by omega)
         have hr3 := hr2.below hb2
         have hg2l := hp2.pc.lt
         have hsz2 := hb2.size)
      | (at_builtin; have _g := hsz2; (refine wpList_app .u8 w2.heap.size 5 i0 1 rfl (.tmp 46) (.tmp 52) _ rfl Tryz.underlying22 Hi.out Hz0.out Hz1.out Hz2.out rfl (OwnI.lit rfl [] _ (Nat.le_refl _) (by simp)) rfl (hr3.alloc (by omega) _) (by simp; omega) (by omega) (by simp) ?_)
         intro A3 d3 w3 ho3 hg3 hat3
         simp only [List.nil_append, Nat.zero_add] at ho3
         have hb3 : Below w2.heap.size w2 w3 := ((Below.refl _ w2).alloc (Nat.le_refl _) _).grown hg3 (by simp) (by simp [blkOf])
         have hp3 := hp2.keeps hb3
         have hg3l := hp3.pc.lt
         have e2 : w3.cell? ⟨gp, 2, none⟩ = some (.slice A' q c') := hp3.pc.cell (i := 2) (by omega)
         have e3 : w3.cell? ⟨gp, 3, none⟩ = some (.int .i64 (errOf dn)) := hp3.pc.cell (i := 3) (by omega)
         have y2 := hp3.pc.frozen' (i := 2) (by omega)
         have hsz3 := hb3.size))
    go_returns
    obtain ⟨u1, u2, u3⟩ := pt_fin (l := l ++ ls.take j) hb2 hb3 hp ho2 ho3
    rw [← hKK.out]
    refine ⟨A2, K, d2, A3, J, d3, (l ++ ls.take j).drop K, As', ns - j, cs', ls.drop j, (M : Int) - j, dn, ?_, ?_, hT2.out, u2, ⟨hb.trans u3.1, u3.2⟩, hdn.out, HMJ⟩
    · simp [pTakeE]
    · rw [← hT1.out]; exact u1
  · have HLT : Hid (K < N) := by show _ < _; omega
    obtain ⟨hjn, hde⟩ := HEND.out.2 (by have := HQ.out; omega)
    have hKK : Hid (K = min N (n + ns)) := by show _ = _; have := HQ.out; omega
    have HKN : Hid (n + ns = K) := by show _ = _; have := HQ.out; omega
    have hne : ¬ ((K : Int) = N) := by omega
    clear HEND hK
    subst hde
    by_cases hK0 : 0 < K
    · have hK1 : Hid (0 < K) := hK0
      cases dn with
      | true =>
        have HPE : Hid (pTakeE N K true = 5) := by show _ = _; unfold pTakeE; rw [if_neg (by have := HLT.out; omega), if_pos (by omega)]
        go_wp2_with (first
          | (at_builtin; (refine wpList_app .u8 wc.heap.size 5 i0 1 rfl (.tmp 37) (.tmp 43) _ rfl Tryz.underlying22 Hi.out Hz0.out Hz1.out Hz2.out rfl (OwnI.lit rfl [] _ (Nat.le_refl _) (by simp)) rfl (hr1.alloc (Nat.le_refl _) _) (by simp; omega) (by omega) (by simp) ?_)
             intro A2 d2 w2 ho2 hg2 hat2
             simp only [List.nil_append, Nat.zero_add] at ho2
             have hb2 : Below wc.heap.size wc w2 := ((Below.refl _ wc).alloc (Nat.le_refl _) _).grown hg2 (by simp) (by simp [blkOf])
             have hp2 := hp.keeps hb2
             have k0 : w2.cell? ⟨gp, 2, none⟩ = some (.slice A' K c') := hp2.pc.cell (i := 2) (by omega)
             have hr3 := hr2.below hb2
             have hg2l := hp2.pc.lt
             have hsz2 := hb2.size)
          | (at_builtin; have _g := hsz2; (refine wpList_app .u8 w2.heap.size 5 i0 1 rfl (.tmp 46) (.tmp 52) _ rfl Tryz.underlying22 Hi.out Hz0.out Hz1.out Hz2.out rfl (OwnI.lit rfl [] _ (Nat.le_refl _) (by simp)) rfl (hr3.alloc (by omega) _) (by simp; omega) (by omega) (by simp) ?_)
             intro A3 d3 w3 ho3 hg3 hat3
             simp only [List.nil_append, Nat.zero_add] at ho3
             have hb3 : Below w2.heap.size w2 w3 := ((Below.refl _ w2).alloc (Nat.le_refl _) _).grown hg3 (by simp) (by simp [blkOf])
             have hp3 := hp2.keeps hb3
             have hg3l := hp3.pc.lt
             have e2 : w3.cell? ⟨gp, 2, none⟩ = some (.slice A' K c') := hp3.pc.cell (i := 2) (by omega)
             have e3 : w3.cell? ⟨gp, 3, none⟩ = some (.int .i64 8) := hp3.pc.cell (i := 3) (by omega)
             have y2 := hp3.pc.frozen' (i := 2) (by omega)
             have hsz3 := hb3.size))
        all_goals try (exfalso; have := hK1.out; omega)
        go_returns
        obtain ⟨u1, u2, u3⟩ := pt_fin (l := l ++ ls.take j) hb2 hb3 hp ho2 ho3
        rw [← hKK.out]
        refine ⟨A2, K, d2, A3, J, d3, (l ++ ls.take j).drop K, As', ns - j, cs', ls.drop j, (M : Int) - j, true, ?_, ?_, hT2.out, u2, ⟨hb.trans u3.1, u3.2⟩, ?_, HMJ⟩
        · rw [HPE.out]; rfl
        · rw [← hT1.out]; exact u1
        · have := HLT.out; simp [this]
      | false =>
        have HPE : Hid (pTakeE N K false = 5) := by show _ = _; unfold pTakeE; rw [if_neg (by have := HLT.out; omega), if_pos (by omega)]
        go_wp2_with (first
          | (at_builtin; (refine wpList_app .u8 wc.heap.size 5 i0 1 rfl (.tmp 37) (.tmp 43) _ rfl Tryz.underlying22 Hi.out Hz0.out Hz1.out Hz2.out rfl (OwnI.lit rfl [] _ (Nat.le_refl _) (by simp)) rfl (hr1.alloc (Nat.le_refl _) _) (by simp; omega) (by omega) (by simp) ?_)
             intro A2 d2 w2 ho2 hg2 hat2
             simp only [List.nil_append, Nat.zero_add] at ho2
             have hb2 : Below wc.heap.size wc w2 := ((Below.refl _ wc).alloc (Nat.le_refl _) _).grown hg2 (by simp) (by simp [blkOf])
             have hp2 := hp.keeps hb2
             have k0 : w2.cell? ⟨gp, 2, none⟩ = some (.slice A' K c') := hp2.pc.cell (i := 2) (by omega)
             have hr3 := hr2.below hb2
             have hg2l := hp2.pc.lt
             have hsz2 := hb2.size)
          | (at_builtin; have _g := hsz2; (refine wpList_app .u8 w2.heap.size 5 i0 1 rfl (.tmp 46) (.tmp 52) _ rfl Tryz.underlying22 Hi.out Hz0.out Hz1.out Hz2.out rfl (OwnI.lit rfl [] _ (Nat.le_refl _) (by simp)) rfl (hr3.alloc (by omega) _) (by simp; omega) (by omega) (by simp) ?_)
             intro A3 d3 w3 ho3 hg3 hat3
             simp only [List.nil_append, Nat.zero_add] at ho3
             have hb3 : Below w2.heap.size w2 w3 := ((Below.refl _ w2).alloc (Nat.le_refl _) _).grown hg3 (by simp) (by simp [blkOf])
             have hp3 := hp2.keeps hb3
             have hg3l := hp3.pc.lt
             have e2 : w3.cell? ⟨gp, 2, none⟩ = some (.slice A' K c') := hp3.pc.cell (i := 2) (by omega)
             have e3 : w3.cell? ⟨gp, 3, none⟩ = some (.int .i64 0) := hp3.pc.cell (i := 3) (by omega)
             have y2 := hp3.pc.frozen' (i := 2) (by omega)
             have hsz3 := hb3.size))
        all_goals try (exfalso; have := hK1.out; omega)
        go_returns
        obtain ⟨u1, u2, u3⟩ := pt_fin (l := l ++ ls.take j) hb2 hb3 hp ho2 ho3
        rw [← hKK.out]
        refine ⟨A2, K, d2, A3, J, d3, (l ++ ls.take j).drop K, As', ns - j, cs', ls.drop j, (M : Int) - j, false, ?_, ?_, hT2.out, u2, ⟨hb.trans u3.1, u3.2⟩, ?_, HMJ⟩
        · rw [HPE.out]; rfl
        · rw [← hT1.out]; exact u1
        · have := HLT.out; simp [this]
    · have hK1 : Hid (K = 0) := by show _ = _; omega
      clear hK0
      cases dn with
      | true =>
        have HPE : Hid (pTakeE N K true = 8) := by show _ = _; unfold pTakeE; rw [if_neg (by have := HLT.out; omega), if_neg (by have := hK1.out; omega)]; rfl
        go_wp2_with (first
          | (at_builtin; (refine wpList_app .u8 wc.heap.size 5 i0 1 rfl (.tmp 37) (.tmp 43) _ rfl Tryz.underlying22 Hi.out Hz0.out Hz1.out Hz2.out rfl (OwnI.lit rfl [] _ (Nat.le_refl _) (by simp)) rfl (hr1.alloc (Nat.le_refl _) _) (by simp; omega) (by omega) (by simp) ?_)
             intro A2 d2 w2 ho2 hg2 hat2
             simp only [List.nil_append, Nat.zero_add] at ho2
             have hb2 : Below wc.heap.size wc w2 := ((Below.refl _ wc).alloc (Nat.le_refl _) _).grown hg2 (by simp) (by simp [blkOf])
             have hp2 := hp.keeps hb2
             have k0 : w2.cell? ⟨gp, 2, none⟩ = some (.slice A' K c') := hp2.pc.cell (i := 2) (by omega)
             have hr3 := hr2.below hb2
             have hg2l := hp2.pc.lt
             have hsz2 := hb2.size)
          | (at_builtin; have _g := hsz2; (refine wpList_app .u8 w2.heap.size 5 i0 1 rfl (.tmp 46) (.tmp 52) _ rfl Tryz.underlying22 Hi.out Hz0.out Hz1.out Hz2.out rfl (OwnI.lit rfl [] _ (Nat.le_refl _) (by simp)) rfl (hr3.alloc (by omega) _) (by simp; omega) (by omega) (by simp) ?_)
             intro A3 d3 w3 ho3 hg3 hat3
             simp only [List.nil_append, Nat.zero_add] at ho3
             have hb3 : Below w2.heap.size w2 w3 := ((Below.refl _ w2).alloc (Nat.le_refl _) _).grown hg3 (by simp) (by simp [blkOf])
             have hp3 := hp2.keeps hb3
             have hg3l := hp3.pc.lt
             have e2 : w3.cell? ⟨gp, 2, none⟩ = some (.slice A' K c') := hp3.pc.cell (i := 2) (by omega)
             have e3 : w3.cell? ⟨gp, 3, none⟩ = some (.int .i64 8) := hp3.pc.cell (i := 3) (by omega)
             have y2 := hp3.pc.frozen' (i := 2) (by omega)
             have hsz3 := hb3.size))
        all_goals try (exfalso; have := hK1.out; omega)
        obtain ⟨u1, u2, u3⟩ := pt_fin (l := l ++ ls.take j) hb2 hb3 hp ho2 ho3
        have z3 : (w3.setCell ⟨gp, 2, none⟩ (.slice A3 J d3)).cell? ⟨gp, 3, none⟩ = some (.int .i64 8) := u2.pc.cell (i := 3) (by omega)
        go_region
        go_wp2_with fail
        go_returns
        rw [← hKK.out]
        refine ⟨none, 0, 0, A3, J, d3, (l ++ ls.take j).drop K, As', ns - j, cs', ls.drop j, (M : Int) - j, true, ?_, ?_, hT2.out, u2.keeps (Below.refl _ _).drew, ⟨hb.trans ⟨u3.1.1.drew, u3.1.2.1.drew, u3.1.2.2⟩, fun k hk => by simp [blkOf] at hk⟩, ?_, HMJ⟩
        · rw [HPE.out]; rfl
        · rw [hK1.out]; exact ⟨by simp, Rd.nil_⟩
        · have := HLT.out; simp [this]

      | false =>
        have HPE : Hid (pTakeE N K false = 5) := by show _ = _; unfold pTakeE; rw [if_neg (by have := HLT.out; omega), if_neg (by have := hK1.out; omega)]; rfl
        go_wp2_with (first
          | (at_builtin; (refine wpList_app .u8 wc.heap.size 5 i0 1 rfl (.tmp 37) (.tmp 43) _ rfl Tryz.underlying22 Hi.out Hz0.out Hz1.out Hz2.out rfl (OwnI.lit rfl [] _ (Nat.le_refl _) (by simp)) rfl (hr1.alloc (Nat.le_refl _) _) (by simp; omega) (by omega) (by simp) ?_)
             intro A2 d2 w2 ho2 hg2 hat2
             simp only [List.nil_append, Nat.zero_add] at ho2
             have hb2 : Below wc.heap.size wc w2 := ((Below.refl _ wc).alloc (Nat.le_refl _) _).grown hg2 (by simp) (by simp [blkOf])
             have hp2 := hp.keeps hb2
             have k0 : w2.cell? ⟨gp, 2, none⟩ = some (.slice A' K c') := hp2.pc.cell (i := 2) (by omega)
             have hr3 := hr2.below hb2
             have hg2l := hp2.pc.lt
             have hsz2 := hb2.size)
          | (at_builtin; have _g := hsz2; (refine wpList_app .u8 w2.heap.size 5 i0 1 rfl (.tmp 46) (.tmp 52) _ rfl Tryz.underlying22 Hi.out Hz0.out Hz1.out Hz2.out rfl (OwnI.lit rfl [] _ (Nat.le_refl _) (by simp)) rfl (hr3.alloc (by omega) _) (by simp; omega) (by omega) (by simp) ?_)
             intro A3 d3 w3 ho3 hg3 hat3
             simp only [List.nil_append, Nat.zero_add] at ho3
             have hb3 : Below w2.heap.size w2 w3 := ((Below.refl _ w2).alloc (Nat.le_refl _) _).grown hg3 (by simp) (by simp [blkOf])
             have hp3 := hp2.keeps hb3
             have hg3l := hp3.pc.lt
             have e2 : w3.cell? ⟨gp, 2, none⟩ = some (.slice A' K c') := hp3.pc.cell (i := 2) (by omega)
             have e3 : w3.cell? ⟨gp, 3, none⟩ = some (.int .i64 0) := hp3.pc.cell (i := 3) (by omega)
             have y2 := hp3.pc.frozen' (i := 2) (by omega)
             have hsz3 := hb3.size))
        all_goals try (exfalso; have := hK1.out; omega)
        go_returns
        obtain ⟨u1, u2, u3⟩ := pt_fin (l := l ++ ls.take j) hb2 hb3 hp ho2 ho3
        rw [← hKK.out]
        refine ⟨A2, K, d2, A3, J, d3, (l ++ ls.take j).drop K, As', ns - j, cs', ls.drop j, (M : Int) - j, false, ?_, ?_, hT2.out, u2, ⟨hb.trans u3.1, u3.2⟩, ?_, HMJ⟩
        · rw [HPE.out]; rfl
        · rw [← hT1.out]; exact u1
        · have := HLT.out; simp [this]
end
end Go.Proofs.YtlopmioamhendaaGreat
