/-
  WideSpreads, as the interpreter sees it.
-/
import Derived.Test.YtfndobdfdhkepaaYD
set_option linter.unusedVariables false
set_option linter.unusedSimpArgs false
namespace Go.Proofs.Ytfndobdfdhkepaa
open Go Go.Xec

set_option maxRecDepth 10000
theorem spread (m n k L : Int) : (m * ((n + k) % L)) % L = ((m * n) % L + (m * k) % L) % L := by
  rw [Int.mul_emod, Int.emod_emod, ← Int.mul_emod, Int.mul_add, Int.add_emod]
theorem step4 {m n k : Int} (h1 : N128 m) (h2 : N128 n) (h3 : N128 k) : pureF C5 1 4 [enc m, enc n, enc k] = some (.bool true) := by
  have z0 : n * m = m * n := Int.mul_comm n m
  have z1 := spread m n k 340282366920938463463374607431768211456
  have q1 : F7 [enc m, W 0 1] = some (.tup [enc m, .bool false]) := by
    have := F7_enc h1 (n := 1) (by decide)
    rw [Int.mul_one] at this
    rw [show W 0 1 = enc 1 from rfl, this, Int.emod_eq_of_lt h1.1 h1.2, decide_eq_false (by omega)]
  have q0 : F7 [enc m, W 0 0] = some (.tup [W 0 0, .bool false]) := by
    have := F7_enc h1 (n := 0) (by decide)
    rw [Int.mul_zero] at this
    rw [show W 0 0 = enc 0 from rfl, this]
    rfl
  have q2 : F11 [.int .u64 (m % 18446744073709551616), .int .u64 (n % 18446744073709551616)] = some (enc ((m % 18446744073709551616) * (n % 18446744073709551616))) := F11_eq (by simp only [U]; omega) (by simp only [U]; omega)
  have pos : 0 ≤ m * n := Int.mul_nonneg h1.1 h2.1
  have c : ((decide (m / 18446744073709551616 = 0) = true ∧ decide (n / 18446744073709551616 = 0) = true) ∧ decide (340282366920938463463374607431768211456 ≤ m * n) = false ∧ m % 18446744073709551616 * (n % 18446744073709551616) = m * n % 340282366920938463463374607431768211456) ∨
      (decide (m / 18446744073709551616 = 0) = true ∧ decide (n / 18446744073709551616 = 0) = false) ∨ (decide (m / 18446744073709551616 = 0) = false ∧ decide (n / 18446744073709551616 = 0) = true) ∨
      ((decide (m / 18446744073709551616 = 0) = false ∧ decide (n / 18446744073709551616 = 0) = false) ∧ decide (340282366920938463463374607431768211456 ≤ m * n) = true) := by
    simp only [decide_eq_true_eq, decide_eq_false_iff_not]
    by_cases e1 : m / 18446744073709551616 = 0
    · by_cases e2 : n / 18446744073709551616 = 0
      · left
        have b := mul_bound (m := 18446744073709551615) h1.1 (by omega) h2.1 (by omega)
        rw [show m % 18446744073709551616 = m by omega, show n % 18446744073709551616 = n by omega]
        refine ⟨⟨e1, e2⟩, by omega, (Int.emod_eq_of_lt (by omega) (by omega)).symm⟩
      · exact .inr (.inl ⟨e1, e2⟩)
    · by_cases e2 : n / 18446744073709551616 = 0
      · exact .inr (.inr (.inl ⟨e1, e2⟩))
      · right; right; right
        refine ⟨⟨e1, e2⟩, ?_⟩
        have b : 18446744073709551616 * 18446744073709551616 ≤ m * n := Int.mul_le_mul (by omega) (by omega) (by decide) (by omega)
        omega
  refine pureF_of (x := x4) rfl rfl ?_
  rw [x4_eq.1, x4_eq.2.1]
  simp (disch := first | omega | simp only [go_sem, tm0, ↓reduceIte, Nat.reduceAdd, Nat.reduceMul, Nat.reduceSub, Nat.reduceLeDiff, Nat.reduceLT, Nat.reduceEqDiff, Int.reduceLT, Int.reduceLE, Int.reduceAdd, Int.reduceSub, Int.reduceMul, Int.reduceToNat, Int.reducePow, Int.reduceNe, Int.reduceMod, Int.reduceDiv, ne_eq, Int.reduceEq, not_false_eq_true, Nat.reducePow, List.length_append, List.length_replicate, List.replicate_succ, List.replicate_zero, Int.cast_ofNat_Int]) only [x4b, go_sem, tm0, ↓reduceIte, Nat.reduceAdd, Nat.reduceMul, Nat.reduceSub, Nat.reduceLeDiff, Nat.reduceLT, Nat.reduceEqDiff, Int.reduceLT, Int.reduceLE, Int.reduceAdd, Int.reduceSub, Int.reduceMul, Int.reduceToNat, Int.reducePow, Int.reduceNe, Int.reduceMod, Int.reduceDiv, ne_eq, Int.reduceEq, not_false_eq_true, Nat.reducePow, List.length_append, List.length_replicate, List.replicate_succ, List.replicate_zero, Int.cast_ofNat_Int, callX_known C5_12, callX_known C5_7, callX_known C5_11, callX_known C5_10, ft_call C5_12, ft_call C5_7, ft_call C5_11, ft_call C5_10,
    F12_enc, F7_enc, q1, q0, q2, F10_eq, z0, z1, beq_self_eq_true, eq_self, ne_eq, decide_not]
  rcases c with ⟨⟨c1, c2⟩, c3, c4⟩ | ⟨c1, c2⟩ | ⟨c1, c2⟩ | ⟨⟨c1, c2⟩, c3⟩
  · simp (disch := first | omega | simp only [go_sem, tm0, ↓reduceIte, Nat.reduceAdd, Nat.reduceMul, Nat.reduceSub, Nat.reduceLeDiff, Nat.reduceLT, Nat.reduceEqDiff, Int.reduceLT, Int.reduceLE, Int.reduceAdd, Int.reduceSub, Int.reduceMul, Int.reduceToNat, Int.reducePow, Int.reduceNe, Int.reduceMod, Int.reduceDiv, ne_eq, Int.reduceEq, not_false_eq_true, Nat.reducePow, List.length_append, List.length_replicate, List.replicate_succ, List.replicate_zero, Int.cast_ofNat_Int]) only [c1, c2, c3, c4, go_sem, tm0, ↓reduceIte, Nat.reduceAdd, Nat.reduceMul, Nat.reduceSub, Nat.reduceLeDiff, Nat.reduceLT, Nat.reduceEqDiff, Int.reduceLT, Int.reduceLE, Int.reduceAdd, Int.reduceSub, Int.reduceMul, Int.reduceToNat, Int.reducePow, Int.reduceNe, Int.reduceMod, Int.reduceDiv, ne_eq, Int.reduceEq, not_false_eq_true, Nat.reducePow, List.length_append, List.length_replicate, List.replicate_succ, List.replicate_zero, Int.cast_ofNat_Int, callX_known C5_12, callX_known C5_7, callX_known C5_11, callX_known C5_10, ft_call C5_12, ft_call C5_7, ft_call C5_11, ft_call C5_10,
      F12_enc, F7_enc, q1, q0, q2, F10_eq, z0, z1, beq_self_eq_true, eq_self, ne_eq, decide_not, Bool.true_beq, Bool.false_beq]
    exact Ends_plain rfl rfl
  · simp (disch := first | omega | simp only [go_sem, tm0, ↓reduceIte, Nat.reduceAdd, Nat.reduceMul, Nat.reduceSub, Nat.reduceLeDiff, Nat.reduceLT, Nat.reduceEqDiff, Int.reduceLT, Int.reduceLE, Int.reduceAdd, Int.reduceSub, Int.reduceMul, Int.reduceToNat, Int.reducePow, Int.reduceNe, Int.reduceMod, Int.reduceDiv, ne_eq, Int.reduceEq, not_false_eq_true, Nat.reducePow, List.length_append, List.length_replicate, List.replicate_succ, List.replicate_zero, Int.cast_ofNat_Int]) only [c1, c2, go_sem, tm0, ↓reduceIte, Nat.reduceAdd, Nat.reduceMul, Nat.reduceSub, Nat.reduceLeDiff, Nat.reduceLT, Nat.reduceEqDiff, Int.reduceLT, Int.reduceLE, Int.reduceAdd, Int.reduceSub, Int.reduceMul, Int.reduceToNat, Int.reducePow, Int.reduceNe, Int.reduceMod, Int.reduceDiv, ne_eq, Int.reduceEq, not_false_eq_true, Nat.reducePow, List.length_append, List.length_replicate, List.replicate_succ, List.replicate_zero, Int.cast_ofNat_Int, callX_known C5_12, callX_known C5_7, callX_known C5_11, callX_known C5_10, ft_call C5_12, ft_call C5_7, ft_call C5_11, ft_call C5_10,
      F12_enc, F7_enc, q1, q0, q2, F10_eq, z0, z1, beq_self_eq_true, eq_self, ne_eq, decide_not, Bool.true_beq, Bool.false_beq]
    exact Ends_plain rfl rfl
  · simp (disch := first | omega | simp only [go_sem, tm0, ↓reduceIte, Nat.reduceAdd, Nat.reduceMul, Nat.reduceSub, Nat.reduceLeDiff, Nat.reduceLT, Nat.reduceEqDiff, Int.reduceLT, Int.reduceLE, Int.reduceAdd, Int.reduceSub, Int.reduceMul, Int.reduceToNat, Int.reducePow, Int.reduceNe, Int.reduceMod, Int.reduceDiv, ne_eq, Int.reduceEq, not_false_eq_true, Nat.reducePow, List.length_append, List.length_replicate, List.replicate_succ, List.replicate_zero, Int.cast_ofNat_Int]) only [c1, c2, go_sem, tm0, ↓reduceIte, Nat.reduceAdd, Nat.reduceMul, Nat.reduceSub, Nat.reduceLeDiff, Nat.reduceLT, Nat.reduceEqDiff, Int.reduceLT, Int.reduceLE, Int.reduceAdd, Int.reduceSub, Int.reduceMul, Int.reduceToNat, Int.reducePow, Int.reduceNe, Int.reduceMod, Int.reduceDiv, ne_eq, Int.reduceEq, not_false_eq_true, Nat.reducePow, List.length_append, List.length_replicate, List.replicate_succ, List.replicate_zero, Int.cast_ofNat_Int, callX_known C5_12, callX_known C5_7, callX_known C5_11, callX_known C5_10, ft_call C5_12, ft_call C5_7, ft_call C5_11, ft_call C5_10,
      F12_enc, F7_enc, q1, q0, q2, F10_eq, z0, z1, beq_self_eq_true, eq_self, ne_eq, decide_not, Bool.true_beq, Bool.false_beq]
    exact Ends_plain rfl rfl
  · simp (disch := first | omega | simp only [go_sem, tm0, ↓reduceIte, Nat.reduceAdd, Nat.reduceMul, Nat.reduceSub, Nat.reduceLeDiff, Nat.reduceLT, Nat.reduceEqDiff, Int.reduceLT, Int.reduceLE, Int.reduceAdd, Int.reduceSub, Int.reduceMul, Int.reduceToNat, Int.reducePow, Int.reduceNe, Int.reduceMod, Int.reduceDiv, ne_eq, Int.reduceEq, not_false_eq_true, Nat.reducePow, List.length_append, List.length_replicate, List.replicate_succ, List.replicate_zero, Int.cast_ofNat_Int]) only [c1, c2, c3, go_sem, tm0, ↓reduceIte, Nat.reduceAdd, Nat.reduceMul, Nat.reduceSub, Nat.reduceLeDiff, Nat.reduceLT, Nat.reduceEqDiff, Int.reduceLT, Int.reduceLE, Int.reduceAdd, Int.reduceSub, Int.reduceMul, Int.reduceToNat, Int.reducePow, Int.reduceNe, Int.reduceMod, Int.reduceDiv, ne_eq, Int.reduceEq, not_false_eq_true, Nat.reducePow, List.length_append, List.length_replicate, List.replicate_succ, List.replicate_zero, Int.cast_ofNat_Int, callX_known C5_12, callX_known C5_7, callX_known C5_11, callX_known C5_10, ft_call C5_12, ft_call C5_7, ft_call C5_11, ft_call C5_10,
      F12_enc, F7_enc, q1, q0, q2, F10_eq, z0, z1, beq_self_eq_true, eq_self, ne_eq, decide_not, Bool.true_beq, Bool.false_beq]
    exact Ends_plain rfl rfl
theorem law4 : ∀ xs, WTL [tW, tW, tW] xs → pureF C5 1 4 xs = some (.bool true) := by
  intro xs h
  simp only [WTL] at h
  obtain ⟨a, _, rfl, ha, b, _, rfl, hb, c, _, rfl, hc, rfl⟩ := h
  obtain ⟨x, y, rfl, h1, h2⟩ := wt_W ha
  obtain ⟨z, t, rfl, h3, h4⟩ := wt_W hb
  obtain ⟨u, v, rfl, h5, h6⟩ := wt_W hc
  obtain ⟨m, hm, em⟩ := W_enc h1 h2
  obtain ⟨n, hn, en⟩ := W_enc h3 h4
  obtain ⟨k, hk, ek⟩ := W_enc h5 h6
  rw [em, en, ek]
  exact step4 hm hn hk
end Go.Proofs.Ytfndobdfdhkepaa
