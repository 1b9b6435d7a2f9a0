/-
  The law of blanks, walked.
-/
import Derived.Test.YtjcjlgiigjckeaaDoorYP
set_option linter.unusedVariables false
set_option linter.unusedSimpArgs false
namespace Go.Proofs.YtjcjlgiigjckeaaDoor
open Go Go.Xec

set_option maxRecDepth 10000
theorem call18 {d : Nat} {κ4 κ5 : Key} {bv : AVal} {B : List Int} {m : List UInt8} {i : Nat} {hp : Heap} {nc : Nat} {K : AVal × Heap × Nat → Prop} (hb : Rw bv B) (hm : m.length ≤ 10) (hi : i ≤ 1000)
    (h4 : hp κ4 = some (.var [bv])) (h5 : hp κ5 = some (.var [sv m])) (hK : ∀ nc', K (sv (bl B m i), hp, nc')) :
    Bd (callX C10 (inlD C10 (d + 1)) (.fn (.func 18) [] [.ptr κ4 0 0 0 0, .ptr κ5 0 0 0 0]) [.int .i64 i] hp nc) K := by
  have bp := hb.plain
  rw [call_inl (C := C10) (g := 18) rfl]
  refine inl_of (x := x18) rfl rfl ?_
  rw [x18_eq.1, x18_eq.2.1]
  by_cases h0 : B = []
  · have d0 : decide ((B.length : Int) = 0) = true := decide_eq_true (by rw [h0]; rfl)
    simp (disch := first | omega | simp only [*, go_sem, tm0, ↓reduceIte, Nat.reduceAdd, Nat.reduceMul, Nat.reduceSub, Nat.reduceLeDiff, Nat.reduceLT, Nat.reduceEqDiff, Int.reduceLT, Int.reduceLE, Int.reduceAdd, Int.reduceSub, Int.reduceMul, Int.reduceToNat, Int.reducePow, Int.reduceNe, Int.reduceMod, Int.reduceDiv, ne_eq, Int.reduceEq, not_false_eq_true, Nat.reducePow, List.length_append, List.length_replicate, List.replicate_succ, List.replicate_zero, Int.cast_ofNat_Int, not_true_eq_false, decide_true, decide_false, ite_self, beq_self_eq_true, Bool.true_beq, Bool.false_beq, Bool.not_true, Bool.not_false, Int.reduceNeg, dropK_eq]) only [x18b, go_sem, tm0, ↓reduceIte, Nat.reduceAdd, Nat.reduceMul, Nat.reduceSub, Nat.reduceLeDiff, Nat.reduceLT, Nat.reduceEqDiff, Int.reduceLT, Int.reduceLE, Int.reduceAdd, Int.reduceSub, Int.reduceMul, Int.reduceToNat, Int.reducePow, Int.reduceNe, Int.reduceMod, Int.reduceDiv, ne_eq, Int.reduceEq, not_false_eq_true, Nat.reducePow, List.length_append, List.length_replicate, List.replicate_succ, List.replicate_zero, Int.cast_ofNat_Int, not_true_eq_false, decide_true, decide_false, ite_self, beq_self_eq_true, Bool.true_beq, Bool.false_beq, Bool.not_true, Bool.not_false, Int.reduceNeg, dropK_eq, h4, h5, hb.len, d0]
    rw [bl, if_pos h0] at hK
    exact hK _
  · have hpos := List.length_pos_iff.2 h0
    have d0 : decide ((B.length : Int) = 0) = false := decide_eq_false (by omega)
    have hmod : (i : Int).tmod (B.length : Int) = ((i % B.length : Nat) : Int) := by rw [Int.tmod_eq_emod_of_nonneg (by omega)]; omega
    have hlt : i % B.length < B.length := Nat.mod_lt _ hpos
    have ia := hb.ia hlt
    simp (disch := first | omega | simp only [*, go_sem, tm0, ↓reduceIte, Nat.reduceAdd, Nat.reduceMul, Nat.reduceSub, Nat.reduceLeDiff, Nat.reduceLT, Nat.reduceEqDiff, Int.reduceLT, Int.reduceLE, Int.reduceAdd, Int.reduceSub, Int.reduceMul, Int.reduceToNat, Int.reducePow, Int.reduceNe, Int.reduceMod, Int.reduceDiv, ne_eq, Int.reduceEq, not_false_eq_true, Nat.reducePow, List.length_append, List.length_replicate, List.replicate_succ, List.replicate_zero, Int.cast_ofNat_Int, not_true_eq_false, decide_true, decide_false, ite_self, beq_self_eq_true, Bool.true_beq, Bool.false_beq, Bool.not_true, Bool.not_false, Int.reduceNeg, dropK_eq]) only [x18b, go_sem, tm0, ↓reduceIte, Nat.reduceAdd, Nat.reduceMul, Nat.reduceSub, Nat.reduceLeDiff, Nat.reduceLT, Nat.reduceEqDiff, Int.reduceLT, Int.reduceLE, Int.reduceAdd, Int.reduceSub, Int.reduceMul, Int.reduceToNat, Int.reducePow, Int.reduceNe, Int.reduceMod, Int.reduceDiv, ne_eq, Int.reduceEq, not_false_eq_true, Nat.reducePow, List.length_append, List.length_replicate, List.replicate_succ, List.replicate_zero, Int.cast_ofNat_Int, not_true_eq_false, decide_true, decide_false, ite_self, beq_self_eq_true, Bool.true_beq, Bool.false_beq, Bool.not_true, Bool.not_false, Int.reduceNeg, dropK_eq, h4, h5, hb.len, d0, hmod, ia]
    have hbl : bl B m i = if B.getD (i % B.length) 0 % 5 = 0 then [9] else if B.getD (i % B.length) 0 % 5 = 1 then [10, 13, 32] else if B.getD (i % B.length) 0 % 5 = 2 then 35 :: (m ++ [10])
      else if B.getD (i % B.length) 0 % 5 = 3 then [32, 35, 32, 123, 59, 32, 10, 10] else [32, 32] := by rw [bl, if_neg h0]
    rw [hbl] at hK
    generalize B.getD (i % B.length) 0 = k at *
    have t1 := Int.lt_tmod_of_pos k (show (0 : Int) < 5 by decide)
    have t2 := Int.tmod_lt_of_pos k (show (0 : Int) < 5 by decide)
    have hw : IntKind.i64.wrap (k.tmod 5 + 5) = k.tmod 5 + 5 := wrap_i64 (by omega) (by omega)
    have h5m : (k.tmod 5 + 5).tmod 5 = k % 5 := by
      rw [Int.tmod_eq_emod_of_nonneg (by omega)]
      have := Int.tmod_eq_emod (a := k) (b := 5)
      split at this <;> omega
    rw [hw, h5m]
    have e1 := Int.emod_nonneg k (show (5 : Int) ≠ 0 by decide)
    have e2 := Int.emod_lt_of_pos k (show (0 : Int) < 5 by decide)
    generalize k % 5 = e at *
    have hl : 1 + m.length < 9223372036854775808 := by omega
    have hl2 : 1 + m.length + 1 < 9223372036854775808 := by omega
    obtain rfl | rfl | rfl | rfl | rfl : e = 0 ∨ e = 1 ∨ e = 2 ∨ e = 3 ∨ e = 4 := by omega
    all_goals
      clear ia hmod hlt t1 t2 hw h5m hbl
      simp (disch := first | omega | simp only [*, go_sem, tm0, ↓reduceIte, Nat.reduceAdd, Nat.reduceMul, Nat.reduceSub, Nat.reduceLeDiff, Nat.reduceLT, Nat.reduceEqDiff, Int.reduceLT, Int.reduceLE, Int.reduceAdd, Int.reduceSub, Int.reduceMul, Int.reduceToNat, Int.reducePow, Int.reduceNe, Int.reduceMod, Int.reduceDiv, ne_eq, Int.reduceEq, not_false_eq_true, Nat.reducePow, List.length_append, List.length_replicate, List.replicate_succ, List.replicate_zero, Int.cast_ofNat_Int, not_true_eq_false, decide_true, decide_false, ite_self, beq_self_eq_true, Bool.true_beq, Bool.false_beq, Bool.not_true, Bool.not_false, Int.reduceNeg, dropK_eq]) only [go_sem, tm0, ↓reduceIte, Nat.reduceAdd, Nat.reduceMul, Nat.reduceSub, Nat.reduceLeDiff, Nat.reduceLT, Nat.reduceEqDiff, Int.reduceLT, Int.reduceLE, Int.reduceAdd, Int.reduceSub, Int.reduceMul, Int.reduceToNat, Int.reducePow, Int.reduceNe, Int.reduceMod, Int.reduceDiv, ne_eq, Int.reduceEq, not_false_eq_true, Nat.reducePow, List.length_append, List.length_replicate, List.replicate_succ, List.replicate_zero, Int.cast_ofNat_Int, not_true_eq_false, decide_true, decide_false, ite_self, beq_self_eq_true, Bool.true_beq, Bool.false_beq, Bool.not_true, Bool.not_false, Int.reduceNeg, dropK_eq, h5, if_pos hl, if_pos hl2]
      exact hK _
theorem one_prt {t : Tok} : prt [t] = txt t := by simp [prt, Lib.join_one]
theorem law6 (xs : List AVal) (h : WTL [tToks, .slice 1 8 (.int .i64), .str] xs) : pureF C10 2 6 xs = some (.bool true) := by
  simp only [WTL] at h
  obtain ⟨a, _, rfl, ha, b, _, rfl, hb, c, _, rfl, hc, rfl⟩ := h
  obtain ⟨l0, ha, hl0⟩ := wt_toks ha
  obtain ⟨B, hb, _, _⟩ := wt_ints hb
  simp only [WT] at hc
  obtain ⟨u, rfl, hu⟩ := hc
  obtain ⟨m0, rfl⟩ : ∃ l, u = bs l := ⟨_, bs_of u⟩
  rw [bs_size] at hu
  have e11 := F11_eq ha (by omega)
  have ap := ha.plain
  have bp := hb.plain
  have h2 : ∀ u ∈ (l0.take 400).map cut20, u.s.length ≤ 1000 := by
    intro u hu
    obtain ⟨v, _, rfl⟩ := List.mem_map.1 hu
    simp [cut20]
    omega
  generalize (l0.take 400).map cut20 = l1 at *
  have hr1 := RT_rowN l1
  have rp1 := hr1.plain
  have hcut := hr1.cut 100
  have hsl := hr1.sliceTo (n := min l1.length 100) (Nat.min_le_left _ _)
  have hm : mnxA false (.int .i64 (l1.length : Int)) [.int .i64 100] = some (.int .i64 ((min l1.length 100 : Nat) : Int)) := mnx_min2 l1.length 100
  have hln := hr1.len
  have h2' : ∀ u ∈ l1.take 100, u.s.length ≤ 1000 := fun u hu => h2 u (List.mem_of_mem_take hu)
  have h1' : (l1.take 100).length ≤ 100 := by simp; omega
  generalize l1.take 100 = l at *
  generalize rwTake (min l1.length 100) (rowN 4 (l1.map TK)) = r at *
  generalize rowN 4 (l1.map TK) = r1 at *
  have rp := hcut.plain
  have e12 := F12_eq hcut (by omega) h2'
  have hm2 : mnxA false (.int .i64 (m0.length : Int)) [.int .i64 10] = some (.int .i64 ((min m0.length 10 : Nat) : Int)) := mnx_min2 m0.length 10
  have hsl2 := str_sliceTo (l := m0) (hi := min m0.length 10) (Nat.min_le_left _ _)
  have hw : (m0.take (min m0.length 10)).length ≤ 10 := by simp; omega
  generalize m0.take (min m0.length 10) = m at *
  refine pureF_of (x := x6) rfl rfl ?_
  rw [x6_eq.1, x6_eq.2.1]
  by_cases ho : allOk l
  · by_cases h4 : (prt l).length ≤ 4000
    · rw [prtV, if_pos ho, if_pos h4] at e12
      simp (disch := first | omega | simp only [*, go_sem, tm0, ↓reduceIte, Nat.reduceAdd, Nat.reduceMul, Nat.reduceSub, Nat.reduceLeDiff, Nat.reduceLT, Nat.reduceEqDiff, Int.reduceLT, Int.reduceLE, Int.reduceAdd, Int.reduceSub, Int.reduceMul, Int.reduceToNat, Int.reducePow, Int.reduceNe, Int.reduceMod, Int.reduceDiv, ne_eq, Int.reduceEq, not_false_eq_true, Nat.reducePow, List.length_append, List.length_replicate, List.replicate_succ, List.replicate_zero, Int.cast_ofNat_Int, not_true_eq_false, decide_true, decide_false, ite_self, beq_self_eq_true, Bool.true_beq, Bool.false_beq, Bool.not_true, Bool.not_false, Int.reduceNeg, dropK_eq]) only [x6b, go_sem, tm0, ↓reduceIte, Nat.reduceAdd, Nat.reduceMul, Nat.reduceSub, Nat.reduceLeDiff, Nat.reduceLT, Nat.reduceEqDiff, Int.reduceLT, Int.reduceLE, Int.reduceAdd, Int.reduceSub, Int.reduceMul, Int.reduceToNat, Int.reducePow, Int.reduceNe, Int.reduceMod, Int.reduceDiv, ne_eq, Int.reduceEq, not_false_eq_true, Nat.reducePow, List.length_append, List.length_replicate, List.replicate_succ, List.replicate_zero, Int.cast_ofNat_Int, not_true_eq_false, decide_true, decide_false, ite_self, beq_self_eq_true, Bool.true_beq, Bool.false_beq, Bool.not_true, Bool.not_false, Int.reduceNeg, dropK_eq, callX_known (C := C10) (g := 9) rfl, ft_call (C := C10) (g := 9) rfl, callX_known (C := C10) (g := 11) rfl, ft_call (C := C10) (g := 11) rfl, callX_known (C := C10) (g := 12) rfl, ft_call (C := C10) (g := 12) rfl, e11, e12, F9_eq, hln, hm, hsl, hm2, hsl2, hb.sc, hb.cells]
      refine Ev_range (ti := 9) (len := m.length) (J := fun i tm hp nc => hp (6000000, 0) = some (.var [b]) ∧ hp (6000001, 0) = some (.var [sv m]) ∧ ∀ j, 0 ≤ j → j < i → inB (m.getD j 0) = true) (by omega) ?_ ?_ ?_
      · simp only [go_sem, tm0, ↓reduceIte, Nat.reduceAdd, Nat.reduceMul, Nat.reduceSub, Nat.reduceLeDiff, Nat.reduceLT, Nat.reduceEqDiff, Int.reduceLT, Int.reduceLE, Int.reduceAdd, Int.reduceSub, Int.reduceMul, Int.reduceToNat, Int.reducePow, Int.reduceNe, Int.reduceMod, Int.reduceDiv, ne_eq, Int.reduceEq, not_false_eq_true, Nat.reducePow, List.length_append, List.length_replicate, List.replicate_succ, List.replicate_zero, Int.cast_ofNat_Int, not_true_eq_false, decide_true, decide_false, ite_self, beq_self_eq_true, Bool.true_beq, Bool.false_beq, Bool.not_true, Bool.not_false, Int.reduceNeg, dropK_eq]
      · exact ⟨by simp only [go_sem, tm0, ↓reduceIte, Nat.reduceAdd, Nat.reduceMul, Nat.reduceSub, Nat.reduceLeDiff, Nat.reduceLT, Nat.reduceEqDiff, Int.reduceLT, Int.reduceLE, Int.reduceAdd, Int.reduceSub, Int.reduceMul, Int.reduceToNat, Int.reducePow, Int.reduceNe, Int.reduceMod, Int.reduceDiv, ne_eq, Int.reduceEq, not_false_eq_true, Nat.reducePow, List.length_append, List.length_replicate, List.replicate_succ, List.replicate_zero, Int.cast_ofNat_Int, not_true_eq_false, decide_true, decide_false, ite_self, beq_self_eq_true, Bool.true_beq, Bool.false_beq, Bool.not_true, Bool.not_false, Int.reduceNeg, dropK_eq], by simp only [go_sem, tm0, ↓reduceIte, Nat.reduceAdd, Nat.reduceMul, Nat.reduceSub, Nat.reduceLeDiff, Nat.reduceLT, Nat.reduceEqDiff, Int.reduceLT, Int.reduceLE, Int.reduceAdd, Int.reduceSub, Int.reduceMul, Int.reduceToNat, Int.reducePow, Int.reduceNe, Int.reduceMod, Int.reduceDiv, ne_eq, Int.reduceEq, not_false_eq_true, Nat.reducePow, List.length_append, List.length_replicate, List.replicate_succ, List.replicate_zero, Int.cast_ofNat_Int, not_true_eq_false, decide_true, decide_false, ite_self, beq_self_eq_true, Bool.true_beq, Bool.false_beq, Bool.not_true, Bool.not_false, Int.reduceNeg, dropK_eq], fun j _ h => by omega⟩
      intro i tm hp nc hi hc k9 hJ
      obtain ⟨q4, q5, hj⟩ := hJ
      have k0 := hc 0 rfl; have k4 := hc 4 rfl; have k5 := hc 5 rfl; simp only [go_sem, tm0, ↓reduceIte, Nat.reduceAdd, Nat.reduceMul, Nat.reduceSub, Nat.reduceLeDiff, Nat.reduceLT, Nat.reduceEqDiff, Int.reduceLT, Int.reduceLE, Int.reduceAdd, Int.reduceSub, Int.reduceMul, Int.reduceToNat, Int.reducePow, Int.reduceNe, Int.reduceMod, Int.reduceDiv, ne_eq, Int.reduceEq, not_false_eq_true, Nat.reducePow, List.length_append, List.length_replicate, List.replicate_succ, List.replicate_zero, Int.cast_ofNat_Int, not_true_eq_false, decide_true, decide_false, ite_self, beq_self_eq_true, Bool.true_beq, Bool.false_beq, Bool.not_true, Bool.not_false, Int.reduceNeg, dropK_eq] at k0 k4 k5
      rcases Nat.lt_or_ge i m.length with hlt | hge
      · have d1 : decide ((i : Int) < (m.length : Int)) = true := decide_eq_true (by omega)
        have ix := str_ixN .i64 hlt
        by_cases h10 : ((m.getD i 0).toNat : Int) = 10
        · have d2 := decide_eq_true h10
          simp (disch := first | omega | simp only [*, go_sem, tm0, ↓reduceIte, Nat.reduceAdd, Nat.reduceMul, Nat.reduceSub, Nat.reduceLeDiff, Nat.reduceLT, Nat.reduceEqDiff, Int.reduceLT, Int.reduceLE, Int.reduceAdd, Int.reduceSub, Int.reduceMul, Int.reduceToNat, Int.reducePow, Int.reduceNe, Int.reduceMod, Int.reduceDiv, ne_eq, Int.reduceEq, not_false_eq_true, Nat.reducePow, List.length_append, List.length_replicate, List.replicate_succ, List.replicate_zero, Int.cast_ofNat_Int, not_true_eq_false, decide_true, decide_false, ite_self, beq_self_eq_true, Bool.true_beq, Bool.false_beq, Bool.not_true, Bool.not_false, Int.reduceNeg, dropK_eq]) only [x6l8, go_sem, tm0, ↓reduceIte, Nat.reduceAdd, Nat.reduceMul, Nat.reduceSub, Nat.reduceLeDiff, Nat.reduceLT, Nat.reduceEqDiff, Int.reduceLT, Int.reduceLE, Int.reduceAdd, Int.reduceSub, Int.reduceMul, Int.reduceToNat, Int.reducePow, Int.reduceNe, Int.reduceMod, Int.reduceDiv, ne_eq, Int.reduceEq, not_false_eq_true, Nat.reducePow, List.length_append, List.length_replicate, List.replicate_succ, List.replicate_zero, Int.cast_ofNat_Int, not_true_eq_false, decide_true, decide_false, ite_self, beq_self_eq_true, Bool.true_beq, Bool.false_beq, Bool.not_true, Bool.not_false, Int.reduceNeg, dropK_eq, k0, k4, k5, k9, q4, q5, d1, ix, d2, callX_known (C := C10) (g := 9) rfl, ft_call (C := C10) (g := 9) rfl, F9_eq]
          exact Ends_plain rfl rfl
        · have d2 := decide_eq_false h10
          simp (disch := first | omega | simp only [*, go_sem, tm0, ↓reduceIte, Nat.reduceAdd, Nat.reduceMul, Nat.reduceSub, Nat.reduceLeDiff, Nat.reduceLT, Nat.reduceEqDiff, Int.reduceLT, Int.reduceLE, Int.reduceAdd, Int.reduceSub, Int.reduceMul, Int.reduceToNat, Int.reducePow, Int.reduceNe, Int.reduceMod, Int.reduceDiv, ne_eq, Int.reduceEq, not_false_eq_true, Nat.reducePow, List.length_append, List.length_replicate, List.replicate_succ, List.replicate_zero, Int.cast_ofNat_Int, not_true_eq_false, decide_true, decide_false, ite_self, beq_self_eq_true, Bool.true_beq, Bool.false_beq, Bool.not_true, Bool.not_false, Int.reduceNeg, dropK_eq]) only [x6l8, go_sem, tm0, ↓reduceIte, Nat.reduceAdd, Nat.reduceMul, Nat.reduceSub, Nat.reduceLeDiff, Nat.reduceLT, Nat.reduceEqDiff, Int.reduceLT, Int.reduceLE, Int.reduceAdd, Int.reduceSub, Int.reduceMul, Int.reduceToNat, Int.reducePow, Int.reduceNe, Int.reduceMod, Int.reduceDiv, ne_eq, Int.reduceEq, not_false_eq_true, Nat.reducePow, List.length_append, List.length_replicate, List.replicate_succ, List.replicate_zero, Int.cast_ofNat_Int, not_true_eq_false, decide_true, decide_false, ite_self, beq_self_eq_true, Bool.true_beq, Bool.false_beq, Bool.not_true, Bool.not_false, Int.reduceNeg, dropK_eq, k0, k4, k5, k9, q4, q5, d1, ix, d2]
          exact ⟨hlt, by simp, run_step hj (decide_eq_true h10)⟩
      · obtain rfl : i = m.length := by omega
        have d1 : decide ((m.length : Int) < (m.length : Int)) = false := decide_eq_false (by omega)
        have hno : ∀ b ∈ m, ¬ (b.toNat : Int) = 10 := all_getB fun j h => of_decide_eq_true (hj j (by omega) h)
        simp (disch := first | omega | simp only [*, go_sem, tm0, ↓reduceIte, Nat.reduceAdd, Nat.reduceMul, Nat.reduceSub, Nat.reduceLeDiff, Nat.reduceLT, Nat.reduceEqDiff, Int.reduceLT, Int.reduceLE, Int.reduceAdd, Int.reduceSub, Int.reduceMul, Int.reduceToNat, Int.reducePow, Int.reduceNe, Int.reduceMod, Int.reduceDiv, ne_eq, Int.reduceEq, not_false_eq_true, Nat.reducePow, List.length_append, List.length_replicate, List.replicate_succ, List.replicate_zero, Int.cast_ofNat_Int, not_true_eq_false, decide_true, decide_false, ite_self, beq_self_eq_true, Bool.true_beq, Bool.false_beq, Bool.not_true, Bool.not_false, Int.reduceNeg, dropK_eq]) only [x6l8, go_sem, tm0, ↓reduceIte, Nat.reduceAdd, Nat.reduceMul, Nat.reduceSub, Nat.reduceLeDiff, Nat.reduceLT, Nat.reduceEqDiff, Int.reduceLT, Int.reduceLE, Int.reduceAdd, Int.reduceSub, Int.reduceMul, Int.reduceToNat, Int.reducePow, Int.reduceNe, Int.reduceMod, Int.reduceDiv, ne_eq, Int.reduceEq, not_false_eq_true, Nat.reducePow, List.length_append, List.length_replicate, List.replicate_succ, List.replicate_zero, Int.cast_ofNat_Int, not_true_eq_false, decide_true, decide_false, ite_self, beq_self_eq_true, Bool.true_beq, Bool.false_beq, Bool.not_true, Bool.not_false, Int.reduceNeg, dropK_eq, k0, k4, k5, k9, q4, q5, d1]
        refine call18 (i := 0) (d := 0) hb hw (by decide) q4 q5 fun nc1 => ?_
        clear hc
        have ko0 := k0
        simp (disch := first | omega | simp only [*, go_sem, tm0, ↓reduceIte, Nat.reduceAdd, Nat.reduceMul, Nat.reduceSub, Nat.reduceLeDiff, Nat.reduceLT, Nat.reduceEqDiff, Int.reduceLT, Int.reduceLE, Int.reduceAdd, Int.reduceSub, Int.reduceMul, Int.reduceToNat, Int.reducePow, Int.reduceNe, Int.reduceMod, Int.reduceDiv, ne_eq, Int.reduceEq, not_false_eq_true, Nat.reducePow, List.length_append, List.length_replicate, List.replicate_succ, List.replicate_zero, Int.cast_ofNat_Int, not_true_eq_false, decide_true, decide_false, ite_self, beq_self_eq_true, Bool.true_beq, Bool.false_beq, Bool.not_true, Bool.not_false, Int.reduceNeg, dropK_eq]) only [go_sem, tm0, ↓reduceIte, Nat.reduceAdd, Nat.reduceMul, Nat.reduceSub, Nat.reduceLeDiff, Nat.reduceLT, Nat.reduceEqDiff, Int.reduceLT, Int.reduceLE, Int.reduceAdd, Int.reduceSub, Int.reduceMul, Int.reduceToNat, Int.reducePow, Int.reduceNe, Int.reduceMod, Int.reduceDiv, ne_eq, Int.reduceEq, not_false_eq_true, Nat.reducePow, List.length_append, List.length_replicate, List.replicate_succ, List.replicate_zero, Int.cast_ofNat_Int, not_true_eq_false, decide_true, decide_false, ite_self, beq_self_eq_true, Bool.true_beq, Bool.false_beq, Bool.not_true, Bool.not_false, Int.reduceNeg, dropK_eq, k0, hcut.len]
        refine Ev_range (ti := 59) (len := l.length) (J := fun i tm hp nc => hp (6000000, 0) = some (.var [b]) ∧ hp (6000001, 0) = some (.var [sv m]) ∧ tm 11 = sv (laid6 B m (l.take i))) (by omega) ?_ ?_ ?_
        · simp only [go_sem, tm0, ↓reduceIte, Nat.reduceAdd, Nat.reduceMul, Nat.reduceSub, Nat.reduceLeDiff, Nat.reduceLT, Nat.reduceEqDiff, Int.reduceLT, Int.reduceLE, Int.reduceAdd, Int.reduceSub, Int.reduceMul, Int.reduceToNat, Int.reducePow, Int.reduceNe, Int.reduceMod, Int.reduceDiv, ne_eq, Int.reduceEq, not_false_eq_true, Nat.reducePow, List.length_append, List.length_replicate, List.replicate_succ, List.replicate_zero, Int.cast_ofNat_Int, not_true_eq_false, decide_true, decide_false, ite_self, beq_self_eq_true, Bool.true_beq, Bool.false_beq, Bool.not_true, Bool.not_false, Int.reduceNeg, dropK_eq]
        · simp only [go_sem, tm0, ↓reduceIte, Nat.reduceAdd, Nat.reduceMul, Nat.reduceSub, Nat.reduceLeDiff, Nat.reduceLT, Nat.reduceEqDiff, Int.reduceLT, Int.reduceLE, Int.reduceAdd, Int.reduceSub, Int.reduceMul, Int.reduceToNat, Int.reducePow, Int.reduceNe, Int.reduceMod, Int.reduceDiv, ne_eq, Int.reduceEq, not_false_eq_true, Nat.reducePow, List.length_append, List.length_replicate, List.replicate_succ, List.replicate_zero, Int.cast_ofNat_Int, not_true_eq_false, decide_true, decide_false, ite_self, beq_self_eq_true, Bool.true_beq, Bool.false_beq, Bool.not_true, Bool.not_false, Int.reduceNeg, dropK_eq, q4, q5]
          rw [laid6_zero]
        intro i tm hp nc hi hc k59 hJ
        obtain ⟨q4, q5, k11⟩ := hJ
        have k0 := hc 0 rfl; have k4 := hc 4 rfl; have k5 := hc 5 rfl; have k10 := hc 10 rfl; have k57 := hc 57 rfl; have k58 := hc 58 rfl; simp only [go_sem, tm0, ↓reduceIte, Nat.reduceAdd, Nat.reduceMul, Nat.reduceSub, Nat.reduceLeDiff, Nat.reduceLT, Nat.reduceEqDiff, Int.reduceLT, Int.reduceLE, Int.reduceAdd, Int.reduceSub, Int.reduceMul, Int.reduceToNat, Int.reducePow, Int.reduceNe, Int.reduceMod, Int.reduceDiv, ne_eq, Int.reduceEq, not_false_eq_true, Nat.reducePow, List.length_append, List.length_replicate, List.replicate_succ, List.replicate_zero, Int.cast_ofNat_Int, not_true_eq_false, decide_true, decide_false, ite_self, beq_self_eq_true, Bool.true_beq, Bool.false_beq, Bool.not_true, Bool.not_false, Int.reduceNeg, dropK_eq] at k0 k4 k5 k10 k57 k58
        rw [ko0] at k0
        rcases Nat.lt_or_ge i l.length with hlt | hge
        · have d1 : decide ((i : Int) < (l.length : Int)) = true := decide_eq_true (by omega)
          have ia := hcut.ia hlt
          have hok := ho l[i] (List.getElem_mem _)
          have e12b := F12_eq (Rg.slc [l[i]]) (by simp) (fun u hu => by simp at hu; subst hu; exact h2' _ (List.getElem_mem _))
          have htl := txt_len hok
          rw [prtV, if_pos (by intro u hu; simp at hu; subst hu; exact hok), if_pos (by rw [one_prt]; omega), one_prt] at e12b
          simp only [List.map_cons, List.map_nil] at e12b
          simp (disch := first | omega | simp only [*, go_sem, tm0, ↓reduceIte, Nat.reduceAdd, Nat.reduceMul, Nat.reduceSub, Nat.reduceLeDiff, Nat.reduceLT, Nat.reduceEqDiff, Int.reduceLT, Int.reduceLE, Int.reduceAdd, Int.reduceSub, Int.reduceMul, Int.reduceToNat, Int.reducePow, Int.reduceNe, Int.reduceMod, Int.reduceDiv, ne_eq, Int.reduceEq, not_false_eq_true, Nat.reducePow, List.length_append, List.length_replicate, List.replicate_succ, List.replicate_zero, Int.cast_ofNat_Int, not_true_eq_false, decide_true, decide_false, ite_self, beq_self_eq_true, Bool.true_beq, Bool.false_beq, Bool.not_true, Bool.not_false, Int.reduceNeg, dropK_eq]) only [x6l16, go_sem, tm0, ↓reduceIte, Nat.reduceAdd, Nat.reduceMul, Nat.reduceSub, Nat.reduceLeDiff, Nat.reduceLT, Nat.reduceEqDiff, Int.reduceLT, Int.reduceLE, Int.reduceAdd, Int.reduceSub, Int.reduceMul, Int.reduceToNat, Int.reducePow, Int.reduceNe, Int.reduceMod, Int.reduceDiv, ne_eq, Int.reduceEq, not_false_eq_true, Nat.reducePow, List.length_append, List.length_replicate, List.replicate_succ, List.replicate_zero, Int.cast_ofNat_Int, not_true_eq_false, decide_true, decide_false, ite_self, beq_self_eq_true, Bool.true_beq, Bool.false_beq, Bool.not_true, Bool.not_false, Int.reduceNeg, dropK_eq, k0, k4, k5, k10, k57, k58, k59, k11, q4, q5, d1, ia, callX_names (C := C10) (g := 12) rfl, ftC_names (C := C10) (g := 12) rfl, e12b]
          have hbb := bl_bk (B := B) (i + 1) hw hno
          have hll := laid6_len (B := B) hw hno (l := l.take i) (fun u hu => ho u (List.mem_of_mem_take hu))
          rw [List.length_take] at hll
          have g4 : ∀ (v w z : Option Blk), upd (upd (upd hp (6016003, nc + 1) v) (6016003, nc + 1) w) (6017001, nc + 1 + 1) z (6000000, 0) = some (.var [b]) := fun v w z => by
            rw [upd_ne _ _ (by simp), upd_ne _ _ (by simp), upd_ne _ _ (by simp)]; exact q4
          have g5 : ∀ (v w z : Option Blk), upd (upd (upd hp (6016003, nc + 1) v) (6016003, nc + 1) w) (6017001, nc + 1 + 1) z (6000001, 0) = some (.var [sv m]) := fun v w z => by
            rw [upd_ne _ _ (by simp), upd_ne _ _ (by simp), upd_ne _ _ (by simp)]; exact q5
          refine call18 (i := i + 1) (d := 0) hb hw (by omega) (g4 _ _ _) (g5 _ _ _) fun nc1 => ?_
          have l3 : (txt l[i]).length + (bl B m (i + 1)).length < 9223372036854775808 := by omega
          have l4 : (laid6 B m (l.take i)).length + ((txt l[i]).length + (bl B m (i + 1)).length) < 9223372036854775808 := by omega
          simp (disch := first | omega | simp only [*, go_sem, tm0, ↓reduceIte, Nat.reduceAdd, Nat.reduceMul, Nat.reduceSub, Nat.reduceLeDiff, Nat.reduceLT, Nat.reduceEqDiff, Int.reduceLT, Int.reduceLE, Int.reduceAdd, Int.reduceSub, Int.reduceMul, Int.reduceToNat, Int.reducePow, Int.reduceNe, Int.reduceMod, Int.reduceDiv, ne_eq, Int.reduceEq, not_false_eq_true, Nat.reducePow, List.length_append, List.length_replicate, List.replicate_succ, List.replicate_zero, Int.cast_ofNat_Int, not_true_eq_false, decide_true, decide_false, ite_self, beq_self_eq_true, Bool.true_beq, Bool.false_beq, Bool.not_true, Bool.not_false, Int.reduceNeg, dropK_eq]) only [go_sem, tm0, ↓reduceIte, Nat.reduceAdd, Nat.reduceMul, Nat.reduceSub, Nat.reduceLeDiff, Nat.reduceLT, Nat.reduceEqDiff, Int.reduceLT, Int.reduceLE, Int.reduceAdd, Int.reduceSub, Int.reduceMul, Int.reduceToNat, Int.reducePow, Int.reduceNe, Int.reduceMod, Int.reduceDiv, ne_eq, Int.reduceEq, not_false_eq_true, Nat.reducePow, List.length_append, List.length_replicate, List.replicate_succ, List.replicate_zero, Int.cast_ofNat_Int, not_true_eq_false, decide_true, decide_false, ite_self, beq_self_eq_true, Bool.true_beq, Bool.false_beq, Bool.not_true, Bool.not_false, Int.reduceNeg, dropK_eq, k0, k4, k5, k10, k57, k58, k59, k11, if_pos l3, if_pos l4]
          exact ⟨hlt, by simp, q4, q5, by rw [laid6_next hlt]⟩
        · obtain rfl : i = l.length := by omega
          have d1 : decide ((l.length : Int) < (l.length : Int)) = false := decide_eq_false (by omega)
          rw [List.take_length] at k11
          by_cases h5 : (laid6 B m l).length ≤ 4000
          · have d2 : decide ((4000 : Int) < ((laid6 B m l).length : Int)) = false := decide_eq_false (by omega)
            obtain ⟨q, hq1, hq2⟩ := laid6_scan hw hno ho h5
            have e7 := F7_eq (s := laid6 B m l) (by omega)
            rw [hq1] at e7
            simp only [scanV] at e7
            have hql : q.length = l.length := by have := congrArg List.length hq2; simpa using this
            have hq := RT_rowN q
            have qp := hq.plain
            have e17 := F17_eq hq hcut (by omega) (by omega)
            rw [decide_eq_true hq2] at e17
            generalize rowN 4 (q.map TK) = qv at *
            simp (disch := first | omega | simp only [*, go_sem, tm0, ↓reduceIte, Nat.reduceAdd, Nat.reduceMul, Nat.reduceSub, Nat.reduceLeDiff, Nat.reduceLT, Nat.reduceEqDiff, Int.reduceLT, Int.reduceLE, Int.reduceAdd, Int.reduceSub, Int.reduceMul, Int.reduceToNat, Int.reducePow, Int.reduceNe, Int.reduceMod, Int.reduceDiv, ne_eq, Int.reduceEq, not_false_eq_true, Nat.reducePow, List.length_append, List.length_replicate, List.replicate_succ, List.replicate_zero, Int.cast_ofNat_Int, not_true_eq_false, decide_true, decide_false, ite_self, beq_self_eq_true, Bool.true_beq, Bool.false_beq, Bool.not_true, Bool.not_false, Int.reduceNeg, dropK_eq]) only [x6l16, go_sem, tm0, ↓reduceIte, Nat.reduceAdd, Nat.reduceMul, Nat.reduceSub, Nat.reduceLeDiff, Nat.reduceLT, Nat.reduceEqDiff, Int.reduceLT, Int.reduceLE, Int.reduceAdd, Int.reduceSub, Int.reduceMul, Int.reduceToNat, Int.reducePow, Int.reduceNe, Int.reduceMod, Int.reduceDiv, ne_eq, Int.reduceEq, not_false_eq_true, Nat.reducePow, List.length_append, List.length_replicate, List.replicate_succ, List.replicate_zero, Int.cast_ofNat_Int, not_true_eq_false, decide_true, decide_false, ite_self, beq_self_eq_true, Bool.true_beq, Bool.false_beq, Bool.not_true, Bool.not_false, Int.reduceNeg, dropK_eq, k0, k4, k5, k10, k57, k58, k59, k11, q4, q5, d1, d2, callX_known (C := C10) (g := 7) rfl, ft_call (C := C10) (g := 7) rfl, callX_known (C := C10) (g := 9) rfl, ft_call (C := C10) (g := 9) rfl, callX_known (C := C10) (g := 17) rfl, ft_call (C := C10) (g := 17) rfl, e7, e17, F9_eq]
            exact Ends_plain rfl rfl
          · have d2 : decide ((4000 : Int) < ((laid6 B m l).length : Int)) = true := decide_eq_true (by omega)
            simp (disch := first | omega | simp only [*, go_sem, tm0, ↓reduceIte, Nat.reduceAdd, Nat.reduceMul, Nat.reduceSub, Nat.reduceLeDiff, Nat.reduceLT, Nat.reduceEqDiff, Int.reduceLT, Int.reduceLE, Int.reduceAdd, Int.reduceSub, Int.reduceMul, Int.reduceToNat, Int.reducePow, Int.reduceNe, Int.reduceMod, Int.reduceDiv, ne_eq, Int.reduceEq, not_false_eq_true, Nat.reducePow, List.length_append, List.length_replicate, List.replicate_succ, List.replicate_zero, Int.cast_ofNat_Int, not_true_eq_false, decide_true, decide_false, ite_self, beq_self_eq_true, Bool.true_beq, Bool.false_beq, Bool.not_true, Bool.not_false, Int.reduceNeg, dropK_eq]) only [x6l16, go_sem, tm0, ↓reduceIte, Nat.reduceAdd, Nat.reduceMul, Nat.reduceSub, Nat.reduceLeDiff, Nat.reduceLT, Nat.reduceEqDiff, Int.reduceLT, Int.reduceLE, Int.reduceAdd, Int.reduceSub, Int.reduceMul, Int.reduceToNat, Int.reducePow, Int.reduceNe, Int.reduceMod, Int.reduceDiv, ne_eq, Int.reduceEq, not_false_eq_true, Nat.reducePow, List.length_append, List.length_replicate, List.replicate_succ, List.replicate_zero, Int.cast_ofNat_Int, not_true_eq_false, decide_true, decide_false, ite_self, beq_self_eq_true, Bool.true_beq, Bool.false_beq, Bool.not_true, Bool.not_false, Int.reduceNeg, dropK_eq, k0, k4, k5, k10, k57, k58, k59, k11, q4, q5, d1, d2, callX_known (C := C10) (g := 9) rfl, ft_call (C := C10) (g := 9) rfl, F9_eq]
            exact Ends_plain rfl rfl
    · rw [prtV, if_pos ho, if_neg h4] at e12
      simp (disch := first | omega | simp only [*, go_sem, tm0, ↓reduceIte, Nat.reduceAdd, Nat.reduceMul, Nat.reduceSub, Nat.reduceLeDiff, Nat.reduceLT, Nat.reduceEqDiff, Int.reduceLT, Int.reduceLE, Int.reduceAdd, Int.reduceSub, Int.reduceMul, Int.reduceToNat, Int.reducePow, Int.reduceNe, Int.reduceMod, Int.reduceDiv, ne_eq, Int.reduceEq, not_false_eq_true, Nat.reducePow, List.length_append, List.length_replicate, List.replicate_succ, List.replicate_zero, Int.cast_ofNat_Int, not_true_eq_false, decide_true, decide_false, ite_self, beq_self_eq_true, Bool.true_beq, Bool.false_beq, Bool.not_true, Bool.not_false, Int.reduceNeg, dropK_eq]) only [x6b, go_sem, tm0, ↓reduceIte, Nat.reduceAdd, Nat.reduceMul, Nat.reduceSub, Nat.reduceLeDiff, Nat.reduceLT, Nat.reduceEqDiff, Int.reduceLT, Int.reduceLE, Int.reduceAdd, Int.reduceSub, Int.reduceMul, Int.reduceToNat, Int.reducePow, Int.reduceNe, Int.reduceMod, Int.reduceDiv, ne_eq, Int.reduceEq, not_false_eq_true, Nat.reducePow, List.length_append, List.length_replicate, List.replicate_succ, List.replicate_zero, Int.cast_ofNat_Int, not_true_eq_false, decide_true, decide_false, ite_self, beq_self_eq_true, Bool.true_beq, Bool.false_beq, Bool.not_true, Bool.not_false, Int.reduceNeg, dropK_eq, callX_known (C := C10) (g := 9) rfl, ft_call (C := C10) (g := 9) rfl, callX_known (C := C10) (g := 11) rfl, ft_call (C := C10) (g := 11) rfl, callX_known (C := C10) (g := 12) rfl, ft_call (C := C10) (g := 12) rfl, e11, e12, F9_eq, hln, hm, hsl, hb.sc, hb.cells]
      exact Ends_plain rfl rfl
  · rw [prtV, if_neg ho] at e12
    simp (disch := first | omega | simp only [*, go_sem, tm0, ↓reduceIte, Nat.reduceAdd, Nat.reduceMul, Nat.reduceSub, Nat.reduceLeDiff, Nat.reduceLT, Nat.reduceEqDiff, Int.reduceLT, Int.reduceLE, Int.reduceAdd, Int.reduceSub, Int.reduceMul, Int.reduceToNat, Int.reducePow, Int.reduceNe, Int.reduceMod, Int.reduceDiv, ne_eq, Int.reduceEq, not_false_eq_true, Nat.reducePow, List.length_append, List.length_replicate, List.replicate_succ, List.replicate_zero, Int.cast_ofNat_Int, not_true_eq_false, decide_true, decide_false, ite_self, beq_self_eq_true, Bool.true_beq, Bool.false_beq, Bool.not_true, Bool.not_false, Int.reduceNeg, dropK_eq]) only [x6b, go_sem, tm0, ↓reduceIte, Nat.reduceAdd, Nat.reduceMul, Nat.reduceSub, Nat.reduceLeDiff, Nat.reduceLT, Nat.reduceEqDiff, Int.reduceLT, Int.reduceLE, Int.reduceAdd, Int.reduceSub, Int.reduceMul, Int.reduceToNat, Int.reducePow, Int.reduceNe, Int.reduceMod, Int.reduceDiv, ne_eq, Int.reduceEq, not_false_eq_true, Nat.reducePow, List.length_append, List.length_replicate, List.replicate_succ, List.replicate_zero, Int.cast_ofNat_Int, not_true_eq_false, decide_true, decide_false, ite_self, beq_self_eq_true, Bool.true_beq, Bool.false_beq, Bool.not_true, Bool.not_false, Int.reduceNeg, dropK_eq, callX_known (C := C10) (g := 9) rfl, ft_call (C := C10) (g := 9) rfl, callX_known (C := C10) (g := 11) rfl, ft_call (C := C10) (g := 11) rfl, callX_known (C := C10) (g := 12) rfl, ft_call (C := C10) (g := 12) rfl, e11, e12, F9_eq, hln, hm, hsl, hb.sc, hb.cells]
    exact Ends_plain rfl rfl
end Go.Proofs.YtjcjlgiigjckeaaDoor
