/-
  CollectAdds, as the interpreter sees it.
-/
import Derived.Test.YtplmnikmdcnebaaYK
set_option linter.unusedVariables false
set_option linter.unusedSimpArgs false
namespace Go.Proofs.Ytplmnikmdcnebaa
open Go Go.Xec

set_option maxRecDepth 10000
theorem law6 : ∀ xs, WTL [tI, tI, tI, tG, tI] xs → pureF C7 1 6 xs = some (.bool true) := by
  intro xs h
  simp only [WTL, WT] at h
  obtain ⟨_, _, rfl, ⟨s', rfl, _⟩, _, _, rfl, ⟨lo', rfl, _⟩, _, _, rfl, ⟨hi', rfl, _⟩, g, _, rfl, hg, _, _, rfl, ⟨x, rfl, _⟩, rfl⟩ := h
  obtain ⟨s, lo, hi, a, h0, rfl, ha, hl0⟩ := wt_G (g := g) (by simpa only [WT, WTL] using hg)
  clear hg
  have e7 := F7_eq (s := s) (lo := lo) (hi := hi) ha (show Lg h0 by simp only [Lg]; omega)
  have hb := ha.cut 12
  have n1 : (h0.take 12).length ≤ 1000 := by simp; omega
  have ap := ha.plain
  have bp := hb.plain
  generalize h0.take 12 = l at *
  generalize rwTake (min h0.length 12) a = b at *
  have hl : Lg l := by simp only [Lg]; omega
  have e18 := F18_eq (s := s) (lo := lo) (hi := hi) hb hl
  have e19 := F19_eq (s := s') (lo := lo') (hi := hi')
  have e20 := F23_eq (s := s) (lo := lo) (hi := hi) (x := x) hb
  have e21 := F24_eq (s := s) (lo := lo) (hi := hi) (x := x) hb (by omega)
  have s1 := same0 (s := s') (lo := lo') (hi := hi') Rw.nils (show Lg [] by decide)
  have s2 := same0 (s := s) (lo := lo) (hi := hi) Rw.nils (show Lg [] by decide)
  have hr := Rw.slc (l ++ [x])
  have hrl : Lg (l ++ [x]) := by simp only [Lg, List.length_append, List.length_cons, List.length_nil]; omega
  have s3 := same0 (s := s) (lo := lo) (hi := hi) hr hrl
  have e14n := F14_eq Rw.nils Rw.nils (show Lg [] by decide) (show Lg [] by decide)
  have e14r := F14_eq hr hr hrl hrl
  rw [decide_eq_true rfl] at e14n e14r
  refine pureF_of (x := x6) rfl rfl ?_
  rw [x6_eq.1, x6_eq.2.1]
  by_cases hz : szOk s' lo' hi'
  · have e16 := F16_ok hz
    rw [decide_eq_true hz] at e19
    by_cases hgo : grpOk s lo hi l
    · have e15 := F15_ok hb hl hgo
      rw [decide_eq_true hgo] at e18
      by_cases hx : lo ≤ x ∧ x ≤ hi
      · rw [decide_eq_true hx] at e20
        by_cases hs : (l.length : Int) + 1 = s
        · have e17 := F17_row hb (by omega) hgo hx hs
          have e14 := e14r
          rw [if_pos hs] at e21
          simp (disch := first | omega | simp only [*, go_sem, tm0, ↓reduceIte, Nat.reduceAdd, Nat.reduceMul, Nat.reduceSub, Nat.reduceLeDiff, Nat.reduceLT, Nat.reduceEqDiff, Int.reduceLT, Int.reduceLE, Int.reduceAdd, Int.reduceSub, Int.reduceMul, Int.reduceToNat, Int.reducePow, Int.reduceNe, Int.reduceMod, Int.reduceDiv, ne_eq, Int.reduceEq, not_false_eq_true, Nat.reducePow, List.length_append, List.length_replicate, List.replicate_succ, List.replicate_zero, Int.cast_ofNat_Int, not_true_eq_false, decide_true, decide_false]) only [x6b, go_sem, tm0, ↓reduceIte, Nat.reduceAdd, Nat.reduceMul, Nat.reduceSub, Nat.reduceLeDiff, Nat.reduceLT, Nat.reduceEqDiff, Int.reduceLT, Int.reduceLE, Int.reduceAdd, Int.reduceSub, Int.reduceMul, Int.reduceToNat, Int.reducePow, Int.reduceNe, Int.reduceMod, Int.reduceDiv, ne_eq, Int.reduceEq, not_false_eq_true, Nat.reducePow, List.length_append, List.length_replicate, List.replicate_succ, List.replicate_zero, Int.cast_ofNat_Int, not_true_eq_false, decide_true, decide_false, ha.sc, ha.cells, hb.sc, hb.cells, hb.len, callX_known (C := C7) (g := 7) rfl, ft_call (C := C7) (g := 7) rfl, callX_known (C := C7) (g := 16) rfl, ft_call (C := C7) (g := 16) rfl, callX_known (C := C7) (g := 17) rfl, ft_call (C := C7) (g := 17) rfl, callX_known (C := C7) (g := 15) rfl, ft_call (C := C7) (g := 15) rfl, callX_known (C := C7) (g := 18) rfl, ft_call (C := C7) (g := 18) rfl, callX_known (C := C7) (g := 9) rfl, ft_call (C := C7) (g := 9) rfl, callX_known (C := C7) (g := 19) rfl, ft_call (C := C7) (g := 19) rfl, callX_known (C := C7) (g := 11) rfl, ft_call (C := C7) (g := 11) rfl, callX_known (C := C7) (g := 20) rfl, ft_call (C := C7) (g := 20) rfl, callX_known (C := C7) (g := 21) rfl, ft_call (C := C7) (g := 21) rfl, callX_known (C := C7) (g := 14) rfl, ft_call (C := C7) (g := 14) rfl, callX_known (C := C7) (g := 10) rfl, ft_call (C := C7) (g := 10) rfl, e7, e16, e17, e15, e18, e19, F10_eq, same00, s1, s2, s3, e20, e21, e14, beq_self_eq_true]
          exact Ends_plain rfl rfl
        · have e17 := F17_more hb (by omega) hgo hx hs
          have e14 := e14n
          rw [if_neg hs] at e21
          simp (disch := first | omega | simp only [*, go_sem, tm0, ↓reduceIte, Nat.reduceAdd, Nat.reduceMul, Nat.reduceSub, Nat.reduceLeDiff, Nat.reduceLT, Nat.reduceEqDiff, Int.reduceLT, Int.reduceLE, Int.reduceAdd, Int.reduceSub, Int.reduceMul, Int.reduceToNat, Int.reducePow, Int.reduceNe, Int.reduceMod, Int.reduceDiv, ne_eq, Int.reduceEq, not_false_eq_true, Nat.reducePow, List.length_append, List.length_replicate, List.replicate_succ, List.replicate_zero, Int.cast_ofNat_Int, not_true_eq_false, decide_true, decide_false]) only [x6b, go_sem, tm0, ↓reduceIte, Nat.reduceAdd, Nat.reduceMul, Nat.reduceSub, Nat.reduceLeDiff, Nat.reduceLT, Nat.reduceEqDiff, Int.reduceLT, Int.reduceLE, Int.reduceAdd, Int.reduceSub, Int.reduceMul, Int.reduceToNat, Int.reducePow, Int.reduceNe, Int.reduceMod, Int.reduceDiv, ne_eq, Int.reduceEq, not_false_eq_true, Nat.reducePow, List.length_append, List.length_replicate, List.replicate_succ, List.replicate_zero, Int.cast_ofNat_Int, not_true_eq_false, decide_true, decide_false, ha.sc, ha.cells, hb.sc, hb.cells, hb.len, callX_known (C := C7) (g := 7) rfl, ft_call (C := C7) (g := 7) rfl, callX_known (C := C7) (g := 16) rfl, ft_call (C := C7) (g := 16) rfl, callX_known (C := C7) (g := 17) rfl, ft_call (C := C7) (g := 17) rfl, callX_known (C := C7) (g := 15) rfl, ft_call (C := C7) (g := 15) rfl, callX_known (C := C7) (g := 18) rfl, ft_call (C := C7) (g := 18) rfl, callX_known (C := C7) (g := 9) rfl, ft_call (C := C7) (g := 9) rfl, callX_known (C := C7) (g := 19) rfl, ft_call (C := C7) (g := 19) rfl, callX_known (C := C7) (g := 11) rfl, ft_call (C := C7) (g := 11) rfl, callX_known (C := C7) (g := 20) rfl, ft_call (C := C7) (g := 20) rfl, callX_known (C := C7) (g := 21) rfl, ft_call (C := C7) (g := 21) rfl, callX_known (C := C7) (g := 14) rfl, ft_call (C := C7) (g := 14) rfl, callX_known (C := C7) (g := 10) rfl, ft_call (C := C7) (g := 10) rfl, e7, e16, e17, e15, e18, e19, F10_eq, same00, s1, s2, s3, e20, e21, e14, beq_self_eq_true]
          exact Ends_plain rfl rfl
      · have e17 := F17_range hb (by omega) hgo hx
        have e14 := e14n
        rw [decide_eq_false hx] at e20
        simp (disch := first | omega | simp only [*, go_sem, tm0, ↓reduceIte, Nat.reduceAdd, Nat.reduceMul, Nat.reduceSub, Nat.reduceLeDiff, Nat.reduceLT, Nat.reduceEqDiff, Int.reduceLT, Int.reduceLE, Int.reduceAdd, Int.reduceSub, Int.reduceMul, Int.reduceToNat, Int.reducePow, Int.reduceNe, Int.reduceMod, Int.reduceDiv, ne_eq, Int.reduceEq, not_false_eq_true, Nat.reducePow, List.length_append, List.length_replicate, List.replicate_succ, List.replicate_zero, Int.cast_ofNat_Int, not_true_eq_false, decide_true, decide_false]) only [x6b, go_sem, tm0, ↓reduceIte, Nat.reduceAdd, Nat.reduceMul, Nat.reduceSub, Nat.reduceLeDiff, Nat.reduceLT, Nat.reduceEqDiff, Int.reduceLT, Int.reduceLE, Int.reduceAdd, Int.reduceSub, Int.reduceMul, Int.reduceToNat, Int.reducePow, Int.reduceNe, Int.reduceMod, Int.reduceDiv, ne_eq, Int.reduceEq, not_false_eq_true, Nat.reducePow, List.length_append, List.length_replicate, List.replicate_succ, List.replicate_zero, Int.cast_ofNat_Int, not_true_eq_false, decide_true, decide_false, ha.sc, ha.cells, hb.sc, hb.cells, hb.len, callX_known (C := C7) (g := 7) rfl, ft_call (C := C7) (g := 7) rfl, callX_known (C := C7) (g := 16) rfl, ft_call (C := C7) (g := 16) rfl, callX_known (C := C7) (g := 17) rfl, ft_call (C := C7) (g := 17) rfl, callX_known (C := C7) (g := 15) rfl, ft_call (C := C7) (g := 15) rfl, callX_known (C := C7) (g := 18) rfl, ft_call (C := C7) (g := 18) rfl, callX_known (C := C7) (g := 9) rfl, ft_call (C := C7) (g := 9) rfl, callX_known (C := C7) (g := 19) rfl, ft_call (C := C7) (g := 19) rfl, callX_known (C := C7) (g := 11) rfl, ft_call (C := C7) (g := 11) rfl, callX_known (C := C7) (g := 20) rfl, ft_call (C := C7) (g := 20) rfl, callX_known (C := C7) (g := 21) rfl, ft_call (C := C7) (g := 21) rfl, callX_known (C := C7) (g := 14) rfl, ft_call (C := C7) (g := 14) rfl, callX_known (C := C7) (g := 10) rfl, ft_call (C := C7) (g := 10) rfl, e7, e16, e17, e15, e18, e19, F10_eq, same00, s1, s2, s3, e20, e21, e14, beq_self_eq_true]
        exact Ends_plain rfl rfl
    · have e15 := F15_no hb hl hgo
      have e17 := F17_arg (x := x) hb (by omega) hgo
      have e14 := e14n
      rw [decide_eq_false hgo] at e18
      simp (disch := first | omega | simp only [*, go_sem, tm0, ↓reduceIte, Nat.reduceAdd, Nat.reduceMul, Nat.reduceSub, Nat.reduceLeDiff, Nat.reduceLT, Nat.reduceEqDiff, Int.reduceLT, Int.reduceLE, Int.reduceAdd, Int.reduceSub, Int.reduceMul, Int.reduceToNat, Int.reducePow, Int.reduceNe, Int.reduceMod, Int.reduceDiv, ne_eq, Int.reduceEq, not_false_eq_true, Nat.reducePow, List.length_append, List.length_replicate, List.replicate_succ, List.replicate_zero, Int.cast_ofNat_Int, not_true_eq_false, decide_true, decide_false]) only [x6b, go_sem, tm0, ↓reduceIte, Nat.reduceAdd, Nat.reduceMul, Nat.reduceSub, Nat.reduceLeDiff, Nat.reduceLT, Nat.reduceEqDiff, Int.reduceLT, Int.reduceLE, Int.reduceAdd, Int.reduceSub, Int.reduceMul, Int.reduceToNat, Int.reducePow, Int.reduceNe, Int.reduceMod, Int.reduceDiv, ne_eq, Int.reduceEq, not_false_eq_true, Nat.reducePow, List.length_append, List.length_replicate, List.replicate_succ, List.replicate_zero, Int.cast_ofNat_Int, not_true_eq_false, decide_true, decide_false, ha.sc, ha.cells, hb.sc, hb.cells, hb.len, callX_known (C := C7) (g := 7) rfl, ft_call (C := C7) (g := 7) rfl, callX_known (C := C7) (g := 16) rfl, ft_call (C := C7) (g := 16) rfl, callX_known (C := C7) (g := 17) rfl, ft_call (C := C7) (g := 17) rfl, callX_known (C := C7) (g := 15) rfl, ft_call (C := C7) (g := 15) rfl, callX_known (C := C7) (g := 18) rfl, ft_call (C := C7) (g := 18) rfl, callX_known (C := C7) (g := 9) rfl, ft_call (C := C7) (g := 9) rfl, callX_known (C := C7) (g := 19) rfl, ft_call (C := C7) (g := 19) rfl, callX_known (C := C7) (g := 11) rfl, ft_call (C := C7) (g := 11) rfl, callX_known (C := C7) (g := 20) rfl, ft_call (C := C7) (g := 20) rfl, callX_known (C := C7) (g := 21) rfl, ft_call (C := C7) (g := 21) rfl, callX_known (C := C7) (g := 14) rfl, ft_call (C := C7) (g := 14) rfl, callX_known (C := C7) (g := 10) rfl, ft_call (C := C7) (g := 10) rfl, e7, e16, e17, e15, e18, e19, F10_eq, same00, s1, s2, s3, e20, e21, e14, beq_self_eq_true]
      exact Ends_plain rfl rfl
  · have e16 := F16_no hz
    rw [decide_eq_false hz] at e19
    by_cases hgo : grpOk s lo hi l
    · have e15 := F15_ok hb hl hgo
      rw [decide_eq_true hgo] at e18
      by_cases hx : lo ≤ x ∧ x ≤ hi
      · rw [decide_eq_true hx] at e20
        by_cases hs : (l.length : Int) + 1 = s
        · have e17 := F17_row hb (by omega) hgo hx hs
          have e14 := e14r
          rw [if_pos hs] at e21
          simp (disch := first | omega | simp only [*, go_sem, tm0, ↓reduceIte, Nat.reduceAdd, Nat.reduceMul, Nat.reduceSub, Nat.reduceLeDiff, Nat.reduceLT, Nat.reduceEqDiff, Int.reduceLT, Int.reduceLE, Int.reduceAdd, Int.reduceSub, Int.reduceMul, Int.reduceToNat, Int.reducePow, Int.reduceNe, Int.reduceMod, Int.reduceDiv, ne_eq, Int.reduceEq, not_false_eq_true, Nat.reducePow, List.length_append, List.length_replicate, List.replicate_succ, List.replicate_zero, Int.cast_ofNat_Int, not_true_eq_false, decide_true, decide_false]) only [x6b, go_sem, tm0, ↓reduceIte, Nat.reduceAdd, Nat.reduceMul, Nat.reduceSub, Nat.reduceLeDiff, Nat.reduceLT, Nat.reduceEqDiff, Int.reduceLT, Int.reduceLE, Int.reduceAdd, Int.reduceSub, Int.reduceMul, Int.reduceToNat, Int.reducePow, Int.reduceNe, Int.reduceMod, Int.reduceDiv, ne_eq, Int.reduceEq, not_false_eq_true, Nat.reducePow, List.length_append, List.length_replicate, List.replicate_succ, List.replicate_zero, Int.cast_ofNat_Int, not_true_eq_false, decide_true, decide_false, ha.sc, ha.cells, hb.sc, hb.cells, hb.len, callX_known (C := C7) (g := 7) rfl, ft_call (C := C7) (g := 7) rfl, callX_known (C := C7) (g := 16) rfl, ft_call (C := C7) (g := 16) rfl, callX_known (C := C7) (g := 17) rfl, ft_call (C := C7) (g := 17) rfl, callX_known (C := C7) (g := 15) rfl, ft_call (C := C7) (g := 15) rfl, callX_known (C := C7) (g := 18) rfl, ft_call (C := C7) (g := 18) rfl, callX_known (C := C7) (g := 9) rfl, ft_call (C := C7) (g := 9) rfl, callX_known (C := C7) (g := 19) rfl, ft_call (C := C7) (g := 19) rfl, callX_known (C := C7) (g := 11) rfl, ft_call (C := C7) (g := 11) rfl, callX_known (C := C7) (g := 20) rfl, ft_call (C := C7) (g := 20) rfl, callX_known (C := C7) (g := 21) rfl, ft_call (C := C7) (g := 21) rfl, callX_known (C := C7) (g := 14) rfl, ft_call (C := C7) (g := 14) rfl, callX_known (C := C7) (g := 10) rfl, ft_call (C := C7) (g := 10) rfl, e7, e16, e17, e15, e18, e19, F10_eq, same00, s1, s2, s3, e20, e21, e14, beq_self_eq_true]
          exact Ends_plain rfl rfl
        · have e17 := F17_more hb (by omega) hgo hx hs
          have e14 := e14n
          rw [if_neg hs] at e21
          simp (disch := first | omega | simp only [*, go_sem, tm0, ↓reduceIte, Nat.reduceAdd, Nat.reduceMul, Nat.reduceSub, Nat.reduceLeDiff, Nat.reduceLT, Nat.reduceEqDiff, Int.reduceLT, Int.reduceLE, Int.reduceAdd, Int.reduceSub, Int.reduceMul, Int.reduceToNat, Int.reducePow, Int.reduceNe, Int.reduceMod, Int.reduceDiv, ne_eq, Int.reduceEq, not_false_eq_true, Nat.reducePow, List.length_append, List.length_replicate, List.replicate_succ, List.replicate_zero, Int.cast_ofNat_Int, not_true_eq_false, decide_true, decide_false]) only [x6b, go_sem, tm0, ↓reduceIte, Nat.reduceAdd, Nat.reduceMul, Nat.reduceSub, Nat.reduceLeDiff, Nat.reduceLT, Nat.reduceEqDiff, Int.reduceLT, Int.reduceLE, Int.reduceAdd, Int.reduceSub, Int.reduceMul, Int.reduceToNat, Int.reducePow, Int.reduceNe, Int.reduceMod, Int.reduceDiv, ne_eq, Int.reduceEq, not_false_eq_true, Nat.reducePow, List.length_append, List.length_replicate, List.replicate_succ, List.replicate_zero, Int.cast_ofNat_Int, not_true_eq_false, decide_true, decide_false, ha.sc, ha.cells, hb.sc, hb.cells, hb.len, callX_known (C := C7) (g := 7) rfl, ft_call (C := C7) (g := 7) rfl, callX_known (C := C7) (g := 16) rfl, ft_call (C := C7) (g := 16) rfl, callX_known (C := C7) (g := 17) rfl, ft_call (C := C7) (g := 17) rfl, callX_known (C := C7) (g := 15) rfl, ft_call (C := C7) (g := 15) rfl, callX_known (C := C7) (g := 18) rfl, ft_call (C := C7) (g := 18) rfl, callX_known (C := C7) (g := 9) rfl, ft_call (C := C7) (g := 9) rfl, callX_known (C := C7) (g := 19) rfl, ft_call (C := C7) (g := 19) rfl, callX_known (C := C7) (g := 11) rfl, ft_call (C := C7) (g := 11) rfl, callX_known (C := C7) (g := 20) rfl, ft_call (C := C7) (g := 20) rfl, callX_known (C := C7) (g := 21) rfl, ft_call (C := C7) (g := 21) rfl, callX_known (C := C7) (g := 14) rfl, ft_call (C := C7) (g := 14) rfl, callX_known (C := C7) (g := 10) rfl, ft_call (C := C7) (g := 10) rfl, e7, e16, e17, e15, e18, e19, F10_eq, same00, s1, s2, s3, e20, e21, e14, beq_self_eq_true]
          exact Ends_plain rfl rfl
      · have e17 := F17_range hb (by omega) hgo hx
        have e14 := e14n
        rw [decide_eq_false hx] at e20
        simp (disch := first | omega | simp only [*, go_sem, tm0, ↓reduceIte, Nat.reduceAdd, Nat.reduceMul, Nat.reduceSub, Nat.reduceLeDiff, Nat.reduceLT, Nat.reduceEqDiff, Int.reduceLT, Int.reduceLE, Int.reduceAdd, Int.reduceSub, Int.reduceMul, Int.reduceToNat, Int.reducePow, Int.reduceNe, Int.reduceMod, Int.reduceDiv, ne_eq, Int.reduceEq, not_false_eq_true, Nat.reducePow, List.length_append, List.length_replicate, List.replicate_succ, List.replicate_zero, Int.cast_ofNat_Int, not_true_eq_false, decide_true, decide_false]) only [x6b, go_sem, tm0, ↓reduceIte, Nat.reduceAdd, Nat.reduceMul, Nat.reduceSub, Nat.reduceLeDiff, Nat.reduceLT, Nat.reduceEqDiff, Int.reduceLT, Int.reduceLE, Int.reduceAdd, Int.reduceSub, Int.reduceMul, Int.reduceToNat, Int.reducePow, Int.reduceNe, Int.reduceMod, Int.reduceDiv, ne_eq, Int.reduceEq, not_false_eq_true, Nat.reducePow, List.length_append, List.length_replicate, List.replicate_succ, List.replicate_zero, Int.cast_ofNat_Int, not_true_eq_false, decide_true, decide_false, ha.sc, ha.cells, hb.sc, hb.cells, hb.len, callX_known (C := C7) (g := 7) rfl, ft_call (C := C7) (g := 7) rfl, callX_known (C := C7) (g := 16) rfl, ft_call (C := C7) (g := 16) rfl, callX_known (C := C7) (g := 17) rfl, ft_call (C := C7) (g := 17) rfl, callX_known (C := C7) (g := 15) rfl, ft_call (C := C7) (g := 15) rfl, callX_known (C := C7) (g := 18) rfl, ft_call (C := C7) (g := 18) rfl, callX_known (C := C7) (g := 9) rfl, ft_call (C := C7) (g := 9) rfl, callX_known (C := C7) (g := 19) rfl, ft_call (C := C7) (g := 19) rfl, callX_known (C := C7) (g := 11) rfl, ft_call (C := C7) (g := 11) rfl, callX_known (C := C7) (g := 20) rfl, ft_call (C := C7) (g := 20) rfl, callX_known (C := C7) (g := 21) rfl, ft_call (C := C7) (g := 21) rfl, callX_known (C := C7) (g := 14) rfl, ft_call (C := C7) (g := 14) rfl, callX_known (C := C7) (g := 10) rfl, ft_call (C := C7) (g := 10) rfl, e7, e16, e17, e15, e18, e19, F10_eq, same00, s1, s2, s3, e20, e21, e14, beq_self_eq_true]
        exact Ends_plain rfl rfl
    · have e15 := F15_no hb hl hgo
      have e17 := F17_arg (x := x) hb (by omega) hgo
      have e14 := e14n
      rw [decide_eq_false hgo] at e18
      simp (disch := first | omega | simp only [*, go_sem, tm0, ↓reduceIte, Nat.reduceAdd, Nat.reduceMul, Nat.reduceSub, Nat.reduceLeDiff, Nat.reduceLT, Nat.reduceEqDiff, Int.reduceLT, Int.reduceLE, Int.reduceAdd, Int.reduceSub, Int.reduceMul, Int.reduceToNat, Int.reducePow, Int.reduceNe, Int.reduceMod, Int.reduceDiv, ne_eq, Int.reduceEq, not_false_eq_true, Nat.reducePow, List.length_append, List.length_replicate, List.replicate_succ, List.replicate_zero, Int.cast_ofNat_Int, not_true_eq_false, decide_true, decide_false]) only [x6b, go_sem, tm0, ↓reduceIte, Nat.reduceAdd, Nat.reduceMul, Nat.reduceSub, Nat.reduceLeDiff, Nat.reduceLT, Nat.reduceEqDiff, Int.reduceLT, Int.reduceLE, Int.reduceAdd, Int.reduceSub, Int.reduceMul, Int.reduceToNat, Int.reducePow, Int.reduceNe, Int.reduceMod, Int.reduceDiv, ne_eq, Int.reduceEq, not_false_eq_true, Nat.reducePow, List.length_append, List.length_replicate, List.replicate_succ, List.replicate_zero, Int.cast_ofNat_Int, not_true_eq_false, decide_true, decide_false, ha.sc, ha.cells, hb.sc, hb.cells, hb.len, callX_known (C := C7) (g := 7) rfl, ft_call (C := C7) (g := 7) rfl, callX_known (C := C7) (g := 16) rfl, ft_call (C := C7) (g := 16) rfl, callX_known (C := C7) (g := 17) rfl, ft_call (C := C7) (g := 17) rfl, callX_known (C := C7) (g := 15) rfl, ft_call (C := C7) (g := 15) rfl, callX_known (C := C7) (g := 18) rfl, ft_call (C := C7) (g := 18) rfl, callX_known (C := C7) (g := 9) rfl, ft_call (C := C7) (g := 9) rfl, callX_known (C := C7) (g := 19) rfl, ft_call (C := C7) (g := 19) rfl, callX_known (C := C7) (g := 11) rfl, ft_call (C := C7) (g := 11) rfl, callX_known (C := C7) (g := 20) rfl, ft_call (C := C7) (g := 20) rfl, callX_known (C := C7) (g := 21) rfl, ft_call (C := C7) (g := 21) rfl, callX_known (C := C7) (g := 14) rfl, ft_call (C := C7) (g := 14) rfl, callX_known (C := C7) (g := 10) rfl, ft_call (C := C7) (g := 10) rfl, e7, e16, e17, e15, e18, e19, F10_eq, same00, s1, s2, s3, e20, e21, e14, beq_self_eq_true]
      exact Ends_plain rfl rfl
end Go.Proofs.Ytplmnikmdcnebaa
