/-
  The law of sums and lines.
-/
import Derived.Test.YtaddodioccobmaaDoorYF
set_option linter.unusedVariables false
set_option linter.unusedSimpArgs false
namespace Go.Proofs.YtaddodioccobmaaDoor
open Go Go.Xec

set_option maxRecDepth 10000
noncomputable def C10 : Cfg := C9.add 11 F11
theorem ok10 : CfgOk Tryd.prog C10 := ok9.add sound11
theorem wt_str {a : AVal} (h : WT .str a) : ∃ l, a = sv l ∧ l.length ≤ 140737488351232 := by
  simp only [WT] at h
  obtain ⟨u, rfl, hu⟩ := h
  obtain ⟨l, rfl⟩ : ∃ l, u = bs l := ⟨_, bs_of u⟩
  rw [bs_size] at hu
  exact ⟨l, rfl, hu⟩
theorem law3 (xs : List AVal) (h : WTL [.str] xs) : pureF C10 1 3 xs = some (.bool true) := by
  simp only [WTL] at h
  obtain ⟨a, _, rfl, ha, rfl⟩ := h
  obtain ⟨l0, rfl, hl0⟩ := wt_str ha
  have e7 := F7_eq (l := l0) (by omega)
  have hl : (l0.take 230).length ≤ 100000 := by simp; omega
  generalize l0.take 230 = l at *
  have e8 := F8_eq hl
  have e9 := F9_eq hl
  have e10 := F10_eq hl
  have e12 := F12_eq hl
  have e13 := F13_eq hl
  refine pureF_of (x := x3) rfl rfl ?_
  rw [x3_eq.1, x3_eq.2.1]
  by_cases h : lineOk l
  · rw [decide_eq_true h] at e12
    rw [tellV, if_pos h] at e8
    simp (disch := first | omega | simp only [go_sem, tm0, ↓reduceIte, Nat.reduceAdd, Nat.reduceMul, Nat.reduceSub, Nat.reduceLeDiff, Nat.reduceLT, Nat.reduceEqDiff, Int.reduceLT, Int.reduceLE, Int.reduceAdd, Int.reduceSub, Int.reduceMul, Int.reduceToNat, Int.reducePow, Int.reduceNe, Int.reduceMod, Int.reduceDiv, ne_eq, Int.reduceEq, not_false_eq_true, Nat.reducePow, List.length_append, List.length_replicate, List.replicate_succ, List.replicate_zero, Int.cast_ofNat_Int, not_true_eq_false, decide_true, decide_false, ite_self, beq_self_eq_true, Bool.true_beq, Bool.false_beq, Bool.not_true, Bool.not_false, Int.reduceNeg, dropK_eq]) only [x3b, go_sem, tm0, ↓reduceIte, Nat.reduceAdd, Nat.reduceMul, Nat.reduceSub, Nat.reduceLeDiff, Nat.reduceLT, Nat.reduceEqDiff, Int.reduceLT, Int.reduceLE, Int.reduceAdd, Int.reduceSub, Int.reduceMul, Int.reduceToNat, Int.reducePow, Int.reduceNe, Int.reduceMod, Int.reduceDiv, ne_eq, Int.reduceEq, not_false_eq_true, Nat.reducePow, List.length_append, List.length_replicate, List.replicate_succ, List.replicate_zero, Int.cast_ofNat_Int, not_true_eq_false, decide_true, decide_false, ite_self, beq_self_eq_true, Bool.true_beq, Bool.false_beq, Bool.not_true, Bool.not_false, Int.reduceNeg, dropK_eq, callX_known (C := C10) (g := 7) rfl, ft_call (C := C10) (g := 7) rfl, callX_known (C := C10) (g := 8) rfl, ft_call (C := C10) (g := 8) rfl, callX_known (C := C10) (g := 9) rfl, ft_call (C := C10) (g := 9) rfl, callX_known (C := C10) (g := 10) rfl, ft_call (C := C10) (g := 10) rfl, callX_known (C := C10) (g := 11) rfl, ft_call (C := C10) (g := 11) rfl, callX_known (C := C10) (g := 12) rfl, ft_call (C := C10) (g := 12) rfl, callX_known (C := C10) (g := 13) rfl, ft_call (C := C10) (g := 13) rfl, e7, e8, e9, e10, F11_eq, e12, e13]
    exact Ends_plain rfl rfl
  · rw [decide_eq_false h] at e12
    rw [tellV, if_neg h] at e8
    simp (disch := first | omega | simp only [go_sem, tm0, ↓reduceIte, Nat.reduceAdd, Nat.reduceMul, Nat.reduceSub, Nat.reduceLeDiff, Nat.reduceLT, Nat.reduceEqDiff, Int.reduceLT, Int.reduceLE, Int.reduceAdd, Int.reduceSub, Int.reduceMul, Int.reduceToNat, Int.reducePow, Int.reduceNe, Int.reduceMod, Int.reduceDiv, ne_eq, Int.reduceEq, not_false_eq_true, Nat.reducePow, List.length_append, List.length_replicate, List.replicate_succ, List.replicate_zero, Int.cast_ofNat_Int, not_true_eq_false, decide_true, decide_false, ite_self, beq_self_eq_true, Bool.true_beq, Bool.false_beq, Bool.not_true, Bool.not_false, Int.reduceNeg, dropK_eq]) only [x3b, go_sem, tm0, ↓reduceIte, Nat.reduceAdd, Nat.reduceMul, Nat.reduceSub, Nat.reduceLeDiff, Nat.reduceLT, Nat.reduceEqDiff, Int.reduceLT, Int.reduceLE, Int.reduceAdd, Int.reduceSub, Int.reduceMul, Int.reduceToNat, Int.reducePow, Int.reduceNe, Int.reduceMod, Int.reduceDiv, ne_eq, Int.reduceEq, not_false_eq_true, Nat.reducePow, List.length_append, List.length_replicate, List.replicate_succ, List.replicate_zero, Int.cast_ofNat_Int, not_true_eq_false, decide_true, decide_false, ite_self, beq_self_eq_true, Bool.true_beq, Bool.false_beq, Bool.not_true, Bool.not_false, Int.reduceNeg, dropK_eq, callX_known (C := C10) (g := 7) rfl, ft_call (C := C10) (g := 7) rfl, callX_known (C := C10) (g := 8) rfl, ft_call (C := C10) (g := 8) rfl, callX_known (C := C10) (g := 9) rfl, ft_call (C := C10) (g := 9) rfl, callX_known (C := C10) (g := 10) rfl, ft_call (C := C10) (g := 10) rfl, callX_known (C := C10) (g := 11) rfl, ft_call (C := C10) (g := 11) rfl, callX_known (C := C10) (g := 12) rfl, ft_call (C := C10) (g := 12) rfl, callX_known (C := C10) (g := 13) rfl, ft_call (C := C10) (g := 13) rfl, e7, e8, e9, e10, F11_eq, e12, e13]
    exact Ends_plain rfl rfl
end Go.Proofs.YtaddodioccobmaaDoor
