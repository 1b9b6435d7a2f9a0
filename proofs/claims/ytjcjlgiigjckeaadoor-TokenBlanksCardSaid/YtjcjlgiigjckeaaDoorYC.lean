/-
  Numbers as texts; tokens as texts: the document's.
-/
import Derived.Test.YtjcjlgiigjckeaaDoorYT
set_option linter.unusedVariables false
set_option linter.unusedSimpArgs false
namespace Go.Proofs.YtjcjlgiigjckeaaDoor
open Go Go.Xec

set_option maxRecDepth 10000
abbrev dd (n : Nat) : List UInt8 := Lib.decDigits n
theorem dd_small {n : Nat} (h : n < 10) : dd n = [UInt8.ofNat (48 + n)] := by unfold dd; rw [Lib.decDigits, dif_pos h]
theorem dd_step {n : Nat} (h : 10 ≤ n) : dd n = dd (n / 10) ++ dd (n % 10) := by
  unfold dd
  rw [Lib.decDigits, dif_neg (by omega)]
  rw [show Lib.decDigits (n % 10) = [UInt8.ofNat (48 + n % 10)] from dd_small (by omega)]
theorem dd_len : ∀ (d n : Nat), n < 10 ^ (d + 1) → (dd n).length ≤ d + 1
  | 0, n, h => by rw [dd_small (by simpa using h)]; simp
  | d + 1, n, h => by
    by_cases h1 : n < 10
    · rw [dd_small h1]; simp
    · rw [dd_step (by omega), List.length_append, dd_small (by omega : n % 10 < 10)]
      have := dd_len d (n / 10) (by rw [Nat.div_lt_iff_lt_mul (by decide)]; rw [Nat.pow_succ] at h; exact h)
      simp; omega
theorem nat49 (d : Nat) : ∀ (n : Nat) (hp : Heap) (nc : Nat) (K : AVal × Heap × Nat → Prop), n < 10 ^ (d + 1) → n < 18446744073709551616 → d < 30 → (∀ hp' nc', K (sv (dd n), hp', nc')) → Bd (inlD C2 (d + 2) 49 [.int .u64 n] hp nc) K := by
  induction d with
  | zero =>
    intro n hp nc K hn _ _ hK
    refine inl_of (x := x49) rfl rfl ?_
    rw [x49_eq.1, x49_eq.2.1]
    have h1 : n < 10 := by simpa using hn
    have d1 : decide ((n : Int) < 10) = true := decide_eq_true (by omega)
    have e1 : ((48 : Int) + (n : Int)) % 18446744073709551616 % 256 = ((48 + n : Nat) : Int) := by omega
    simp (disch := first | omega | simp only [go_sem, tm0, ↓reduceIte, Nat.reduceAdd, Nat.reduceMul, Nat.reduceSub, Nat.reduceLeDiff, Nat.reduceLT, Nat.reduceEqDiff, Int.reduceLT, Int.reduceLE, Int.reduceAdd, Int.reduceSub, Int.reduceMul, Int.reduceToNat, Int.reducePow, Int.reduceNe, Int.reduceMod, Int.reduceDiv, ne_eq, Int.reduceEq, not_false_eq_true, Nat.reducePow, List.length_append, List.length_replicate, List.replicate_succ, List.replicate_zero, Int.cast_ofNat_Int, not_true_eq_false, decide_true, decide_false, ite_self, beq_self_eq_true, Bool.true_beq, Bool.false_beq, Bool.not_true, Bool.not_false, Int.reduceNeg, dropK_eq]) only [x49b, go_sem, tm0, ↓reduceIte, Nat.reduceAdd, Nat.reduceMul, Nat.reduceSub, Nat.reduceLeDiff, Nat.reduceLT, Nat.reduceEqDiff, Int.reduceLT, Int.reduceLE, Int.reduceAdd, Int.reduceSub, Int.reduceMul, Int.reduceToNat, Int.reducePow, Int.reduceNe, Int.reduceMod, Int.reduceDiv, ne_eq, Int.reduceEq, not_false_eq_true, Nat.reducePow, List.length_append, List.length_replicate, List.replicate_succ, List.replicate_zero, Int.cast_ofNat_Int, not_true_eq_false, decide_true, decide_false, ite_self, beq_self_eq_true, Bool.true_beq, Bool.false_beq, Bool.not_true, Bool.not_false, Int.reduceNeg, dropK_eq, d1, e1, Int.toNat_natCast]
    rw [dd_small h1] at hK
    exact hK _ _
  | succ d ih =>
    intro n hp nc K hn hb hd hK
    refine inl_of (x := x49) rfl rfl ?_
    rw [x49_eq.1, x49_eq.2.1]
    by_cases h1 : n < 10
    · have d1 : decide ((n : Int) < 10) = true := decide_eq_true (by omega)
      have e1 : ((48 : Int) + (n : Int)) % 18446744073709551616 % 256 = ((48 + n : Nat) : Int) := by omega
      simp (disch := first | omega | simp only [go_sem, tm0, ↓reduceIte, Nat.reduceAdd, Nat.reduceMul, Nat.reduceSub, Nat.reduceLeDiff, Nat.reduceLT, Nat.reduceEqDiff, Int.reduceLT, Int.reduceLE, Int.reduceAdd, Int.reduceSub, Int.reduceMul, Int.reduceToNat, Int.reducePow, Int.reduceNe, Int.reduceMod, Int.reduceDiv, ne_eq, Int.reduceEq, not_false_eq_true, Nat.reducePow, List.length_append, List.length_replicate, List.replicate_succ, List.replicate_zero, Int.cast_ofNat_Int, not_true_eq_false, decide_true, decide_false, ite_self, beq_self_eq_true, Bool.true_beq, Bool.false_beq, Bool.not_true, Bool.not_false, Int.reduceNeg, dropK_eq]) only [x49b, go_sem, tm0, ↓reduceIte, Nat.reduceAdd, Nat.reduceMul, Nat.reduceSub, Nat.reduceLeDiff, Nat.reduceLT, Nat.reduceEqDiff, Int.reduceLT, Int.reduceLE, Int.reduceAdd, Int.reduceSub, Int.reduceMul, Int.reduceToNat, Int.reducePow, Int.reduceNe, Int.reduceMod, Int.reduceDiv, ne_eq, Int.reduceEq, not_false_eq_true, Nat.reducePow, List.length_append, List.length_replicate, List.replicate_succ, List.replicate_zero, Int.cast_ofNat_Int, not_true_eq_false, decide_true, decide_false, ite_self, beq_self_eq_true, Bool.true_beq, Bool.false_beq, Bool.not_true, Bool.not_false, Int.reduceNeg, dropK_eq, d1, e1, Int.toNat_natCast]
      rw [dd_small h1] at hK
      exact hK _ _
    · have d1 : decide ((n : Int) < 10) = false := decide_eq_false (by omega)
      have e1 : (n : Int).tdiv 10 % 18446744073709551616 = ((n / 10 : Nat) : Int) := by
        rw [Int.tdiv_eq_ediv_of_nonneg (by omega)]; omega
      have e2 : (n : Int).tmod 10 = ((n % 10 : Nat) : Int) := by
        rw [Int.tmod_eq_emod_of_nonneg (by omega)]; omega
      simp (disch := first | omega | simp only [go_sem, tm0, ↓reduceIte, Nat.reduceAdd, Nat.reduceMul, Nat.reduceSub, Nat.reduceLeDiff, Nat.reduceLT, Nat.reduceEqDiff, Int.reduceLT, Int.reduceLE, Int.reduceAdd, Int.reduceSub, Int.reduceMul, Int.reduceToNat, Int.reducePow, Int.reduceNe, Int.reduceMod, Int.reduceDiv, ne_eq, Int.reduceEq, not_false_eq_true, Nat.reducePow, List.length_append, List.length_replicate, List.replicate_succ, List.replicate_zero, Int.cast_ofNat_Int, not_true_eq_false, decide_true, decide_false, ite_self, beq_self_eq_true, Bool.true_beq, Bool.false_beq, Bool.not_true, Bool.not_false, Int.reduceNeg, dropK_eq]) only [x49b, go_sem, tm0, ↓reduceIte, Nat.reduceAdd, Nat.reduceMul, Nat.reduceSub, Nat.reduceLeDiff, Nat.reduceLT, Nat.reduceEqDiff, Int.reduceLT, Int.reduceLE, Int.reduceAdd, Int.reduceSub, Int.reduceMul, Int.reduceToNat, Int.reducePow, Int.reduceNe, Int.reduceMod, Int.reduceDiv, ne_eq, Int.reduceEq, not_false_eq_true, Nat.reducePow, List.length_append, List.length_replicate, List.replicate_succ, List.replicate_zero, Int.cast_ofNat_Int, not_true_eq_false, decide_true, decide_false, ite_self, beq_self_eq_true, Bool.true_beq, Bool.false_beq, Bool.not_true, Bool.not_false, Int.reduceNeg, dropK_eq, d1, e1, e2, call_inl (C := C2) (g := 49) rfl]
      refine ih (n / 10) _ _ _ (by rw [Nat.div_lt_iff_lt_mul (by decide)]; rw [Nat.pow_succ] at hn; exact hn) (by omega) (by omega) fun hp' nc' => ?_
      simp (disch := first | omega | simp only [go_sem, tm0, ↓reduceIte, Nat.reduceAdd, Nat.reduceMul, Nat.reduceSub, Nat.reduceLeDiff, Nat.reduceLT, Nat.reduceEqDiff, Int.reduceLT, Int.reduceLE, Int.reduceAdd, Int.reduceSub, Int.reduceMul, Int.reduceToNat, Int.reducePow, Int.reduceNe, Int.reduceMod, Int.reduceDiv, ne_eq, Int.reduceEq, not_false_eq_true, Nat.reducePow, List.length_append, List.length_replicate, List.replicate_succ, List.replicate_zero, Int.cast_ofNat_Int, not_true_eq_false, decide_true, decide_false, ite_self, beq_self_eq_true, Bool.true_beq, Bool.false_beq, Bool.not_true, Bool.not_false, Int.reduceNeg, dropK_eq]) only [go_sem, tm0, ↓reduceIte, Nat.reduceAdd, Nat.reduceMul, Nat.reduceSub, Nat.reduceLeDiff, Nat.reduceLT, Nat.reduceEqDiff, Int.reduceLT, Int.reduceLE, Int.reduceAdd, Int.reduceSub, Int.reduceMul, Int.reduceToNat, Int.reducePow, Int.reduceNe, Int.reduceMod, Int.reduceDiv, ne_eq, Int.reduceEq, not_false_eq_true, Nat.reducePow, List.length_append, List.length_replicate, List.replicate_succ, List.replicate_zero, Int.cast_ofNat_Int, not_true_eq_false, decide_true, decide_false, ite_self, beq_self_eq_true, Bool.true_beq, Bool.false_beq, Bool.not_true, Bool.not_false, Int.reduceNeg, dropK_eq, e2, call_inl (C := C2) (g := 49) rfl]
      refine ih (n % 10) _ _ _ (by have : 10 ≤ 10 ^ (d + 1) := by (have := Nat.pow_le_pow_right (show 0 < 10 by decide) (show 1 ≤ d + 1 by omega)); simpa using this
                                   omega) (by omega) (by omega) fun hp'' nc'' => ?_
      have l1 := dd_len 31 (n / 10) (by have : (10 : Nat) ^ (31 + 1) = 100000000000000000000000000000000 := by decide
                                        omega)
      have l2 := dd_len 31 (n % 10) (by have : (10 : Nat) ^ (31 + 1) = 100000000000000000000000000000000 := by decide
                                        omega)
      rw [dd_step (by omega)] at hK
      have l3 : (dd (n / 10)).length + (dd (n % 10)).length < 9223372036854775808 := by omega
      simp (disch := first | omega | simp only [go_sem, tm0, ↓reduceIte, Nat.reduceAdd, Nat.reduceMul, Nat.reduceSub, Nat.reduceLeDiff, Nat.reduceLT, Nat.reduceEqDiff, Int.reduceLT, Int.reduceLE, Int.reduceAdd, Int.reduceSub, Int.reduceMul, Int.reduceToNat, Int.reducePow, Int.reduceNe, Int.reduceMod, Int.reduceDiv, ne_eq, Int.reduceEq, not_false_eq_true, Nat.reducePow, List.length_append, List.length_replicate, List.replicate_succ, List.replicate_zero, Int.cast_ofNat_Int, not_true_eq_false, decide_true, decide_false, ite_self, beq_self_eq_true, Bool.true_beq, Bool.false_beq, Bool.not_true, Bool.not_false, Int.reduceNeg, dropK_eq]) only [go_sem, tm0, ↓reduceIte, Nat.reduceAdd, Nat.reduceMul, Nat.reduceSub, Nat.reduceLeDiff, Nat.reduceLT, Nat.reduceEqDiff, Int.reduceLT, Int.reduceLE, Int.reduceAdd, Int.reduceSub, Int.reduceMul, Int.reduceToNat, Int.reducePow, Int.reduceNe, Int.reduceMod, Int.reduceDiv, ne_eq, Int.reduceEq, not_false_eq_true, Nat.reducePow, List.length_append, List.length_replicate, List.replicate_succ, List.replicate_zero, Int.cast_ofNat_Int, not_true_eq_false, decide_true, decide_false, ite_self, beq_self_eq_true, Bool.true_beq, Bool.false_beq, Bool.not_true, Bool.not_false, Int.reduceNeg, dropK_eq, if_pos l3]
      exact hK _ _
abbrev its (n : Int) : List UInt8 := Lib.itoa n
def F42 : List AVal → Option AVal := pureF C2 24 42
theorem sound42 : Sound Tryd.prog 42 F42 := sound_self ok2 24 42
theorem its_len {n : Int} (h : -9223372036854775808 ≤ n ∧ n ≤ 9223372036854775807) : (its n).length ≤ 21 := by
  have hp : (10 : Nat) ^ (19 + 1) = 100000000000000000000 := by decide
  unfold its Lib.itoa
  split
  · have := dd_len 19 n.natAbs (by omega)
    simp only [dd] at this
    simp; omega
  · have := dd_len 19 n.toNat (by omega)
    simp only [dd] at this
    omega
theorem F42_eq {n : Int} (h : -9223372036854775808 ≤ n ∧ n ≤ 9223372036854775807) : F42 [.int .i64 n] = some (sv (its n)) := by
  have hp : (10 : Nat) ^ (21 + 1) = 10000000000000000000000 := by decide
  have hl := its_len h
  unfold F42
  refine pureF_of (x := x42) rfl rfl ?_
  rw [x42_eq.1, x42_eq.2.1]
  by_cases h0 : n < 0
  · have d1 : decide (n < 0) = true := decide_eq_true h0
    have e1 : (0 - n % 18446744073709551616) % 18446744073709551616 = ((n.natAbs : Nat) : Int) := by omega
    simp (disch := first | omega | simp only [go_sem, tm0, ↓reduceIte, Nat.reduceAdd, Nat.reduceMul, Nat.reduceSub, Nat.reduceLeDiff, Nat.reduceLT, Nat.reduceEqDiff, Int.reduceLT, Int.reduceLE, Int.reduceAdd, Int.reduceSub, Int.reduceMul, Int.reduceToNat, Int.reducePow, Int.reduceNe, Int.reduceMod, Int.reduceDiv, ne_eq, Int.reduceEq, not_false_eq_true, Nat.reducePow, List.length_append, List.length_replicate, List.replicate_succ, List.replicate_zero, Int.cast_ofNat_Int, not_true_eq_false, decide_true, decide_false, ite_self, beq_self_eq_true, Bool.true_beq, Bool.false_beq, Bool.not_true, Bool.not_false, Int.reduceNeg, dropK_eq]) only [x42b, go_sem, tm0, ↓reduceIte, Nat.reduceAdd, Nat.reduceMul, Nat.reduceSub, Nat.reduceLeDiff, Nat.reduceLT, Nat.reduceEqDiff, Int.reduceLT, Int.reduceLE, Int.reduceAdd, Int.reduceSub, Int.reduceMul, Int.reduceToNat, Int.reducePow, Int.reduceNe, Int.reduceMod, Int.reduceDiv, ne_eq, Int.reduceEq, not_false_eq_true, Nat.reducePow, List.length_append, List.length_replicate, List.replicate_succ, List.replicate_zero, Int.cast_ofNat_Int, not_true_eq_false, decide_true, decide_false, ite_self, beq_self_eq_true, Bool.true_beq, Bool.false_beq, Bool.not_true, Bool.not_false, Int.reduceNeg, dropK_eq, d1, e1, call_inl (C := C2) (g := 49) rfl]
    refine nat49 21 n.natAbs _ _ _ (by omega) (by omega) (by omega) fun hp' nc' => ?_
    have e2 : its n = 45 :: dd n.natAbs := by unfold its Lib.itoa; rw [if_pos h0]
    rw [e2] at hl ⊢
    have l3 : 1 + (dd n.natAbs).length < 9223372036854775808 := by simp at hl; omega
    simp (disch := first | omega | simp only [go_sem, tm0, ↓reduceIte, Nat.reduceAdd, Nat.reduceMul, Nat.reduceSub, Nat.reduceLeDiff, Nat.reduceLT, Nat.reduceEqDiff, Int.reduceLT, Int.reduceLE, Int.reduceAdd, Int.reduceSub, Int.reduceMul, Int.reduceToNat, Int.reducePow, Int.reduceNe, Int.reduceMod, Int.reduceDiv, ne_eq, Int.reduceEq, not_false_eq_true, Nat.reducePow, List.length_append, List.length_replicate, List.replicate_succ, List.replicate_zero, Int.cast_ofNat_Int, not_true_eq_false, decide_true, decide_false, ite_self, beq_self_eq_true, Bool.true_beq, Bool.false_beq, Bool.not_true, Bool.not_false, Int.reduceNeg, dropK_eq]) only [go_sem, tm0, ↓reduceIte, Nat.reduceAdd, Nat.reduceMul, Nat.reduceSub, Nat.reduceLeDiff, Nat.reduceLT, Nat.reduceEqDiff, Int.reduceLT, Int.reduceLE, Int.reduceAdd, Int.reduceSub, Int.reduceMul, Int.reduceToNat, Int.reducePow, Int.reduceNe, Int.reduceMod, Int.reduceDiv, ne_eq, Int.reduceEq, not_false_eq_true, Nat.reducePow, List.length_append, List.length_replicate, List.replicate_succ, List.replicate_zero, Int.cast_ofNat_Int, not_true_eq_false, decide_true, decide_false, ite_self, beq_self_eq_true, Bool.true_beq, Bool.false_beq, Bool.not_true, Bool.not_false, Int.reduceNeg, dropK_eq, if_pos l3]
    exact Ends_plain rfl rfl
  · have d1 : decide (n < 0) = false := decide_eq_false h0
    have e1 : n % 18446744073709551616 = ((n.toNat : Nat) : Int) := by omega
    simp (disch := first | omega | simp only [go_sem, tm0, ↓reduceIte, Nat.reduceAdd, Nat.reduceMul, Nat.reduceSub, Nat.reduceLeDiff, Nat.reduceLT, Nat.reduceEqDiff, Int.reduceLT, Int.reduceLE, Int.reduceAdd, Int.reduceSub, Int.reduceMul, Int.reduceToNat, Int.reducePow, Int.reduceNe, Int.reduceMod, Int.reduceDiv, ne_eq, Int.reduceEq, not_false_eq_true, Nat.reducePow, List.length_append, List.length_replicate, List.replicate_succ, List.replicate_zero, Int.cast_ofNat_Int, not_true_eq_false, decide_true, decide_false, ite_self, beq_self_eq_true, Bool.true_beq, Bool.false_beq, Bool.not_true, Bool.not_false, Int.reduceNeg, dropK_eq]) only [x42b, go_sem, tm0, ↓reduceIte, Nat.reduceAdd, Nat.reduceMul, Nat.reduceSub, Nat.reduceLeDiff, Nat.reduceLT, Nat.reduceEqDiff, Int.reduceLT, Int.reduceLE, Int.reduceAdd, Int.reduceSub, Int.reduceMul, Int.reduceToNat, Int.reducePow, Int.reduceNe, Int.reduceMod, Int.reduceDiv, ne_eq, Int.reduceEq, not_false_eq_true, Nat.reducePow, List.length_append, List.length_replicate, List.replicate_succ, List.replicate_zero, Int.cast_ofNat_Int, not_true_eq_false, decide_true, decide_false, ite_self, beq_self_eq_true, Bool.true_beq, Bool.false_beq, Bool.not_true, Bool.not_false, Int.reduceNeg, dropK_eq, d1, e1, call_inl (C := C2) (g := 49) rfl]
    refine nat49 21 n.toNat _ _ _ (by omega) (by omega) (by omega) fun hp' nc' => ?_
    have e2 : its n = dd n.toNat := by unfold its Lib.itoa; rw [if_neg h0]
    simp (disch := first | omega | simp only [go_sem, tm0, ↓reduceIte, Nat.reduceAdd, Nat.reduceMul, Nat.reduceSub, Nat.reduceLeDiff, Nat.reduceLT, Nat.reduceEqDiff, Int.reduceLT, Int.reduceLE, Int.reduceAdd, Int.reduceSub, Int.reduceMul, Int.reduceToNat, Int.reducePow, Int.reduceNe, Int.reduceMod, Int.reduceDiv, ne_eq, Int.reduceEq, not_false_eq_true, Nat.reducePow, List.length_append, List.length_replicate, List.replicate_succ, List.replicate_zero, Int.cast_ofNat_Int, not_true_eq_false, decide_true, decide_false, ite_self, beq_self_eq_true, Bool.true_beq, Bool.false_beq, Bool.not_true, Bool.not_false, Int.reduceNeg, dropK_eq]) only [go_sem, tm0, ↓reduceIte, Nat.reduceAdd, Nat.reduceMul, Nat.reduceSub, Nat.reduceLeDiff, Nat.reduceLT, Nat.reduceEqDiff, Int.reduceLT, Int.reduceLE, Int.reduceAdd, Int.reduceSub, Int.reduceMul, Int.reduceToNat, Int.reducePow, Int.reduceNe, Int.reduceMod, Int.reduceDiv, ne_eq, Int.reduceEq, not_false_eq_true, Nat.reducePow, List.length_append, List.length_replicate, List.replicate_succ, List.replicate_zero, Int.cast_ofNat_Int, not_true_eq_false, decide_true, decide_false, ite_self, beq_self_eq_true, Bool.true_beq, Bool.false_beq, Bool.not_true, Bool.not_false, Int.reduceNeg, dropK_eq]
    rw [e2]
    exact Ends_plain rfl rfl
end Go.Proofs.YtjcjlgiigjckeaaDoor
