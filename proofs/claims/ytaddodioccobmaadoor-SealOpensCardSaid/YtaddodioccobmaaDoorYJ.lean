/-
  The laws of what is opened, and of what comes back.
-/
import Derived.Test.YtaddodioccobmaaDoorYI
set_option linter.unusedVariables false
set_option linter.unusedSimpArgs false
namespace Go.Proofs.YtaddodioccobmaaDoor
open Go Go.Xec

set_option maxRecDepth 10000
noncomputable def C11 : Cfg := (C10.add 14 F14).add 15 F15
theorem ok11 : CfgOk Tryd.prog C11 := (ok10.add sound14).add sound15
/-- What is opened, as a pair. -/
theorem openV_tup (s : List UInt8) : ∃ (o : List UInt8) (e : Int), openV s = .tup [sv o, .int .i64 e] ∧ ((e = 0 ∧ lineOk o ∧ sealV o = s) ∨ (¬ e = 0 ∧ o = [])) := by
  unfold openV openN
  by_cases h9 : s.length < 9
  · rw [if_pos h9]; exact ⟨_, _, rfl, .inr ⟨by decide, rfl⟩⟩
  · rw [if_neg h9]
    by_cases h1 : formed s (s.length - 9)
    · rw [if_neg (fun h => h h1)]
      by_cases h2 : sealV (s.take (s.length - 9)) = s
      · rw [if_neg (fun h => h h2)]; exact ⟨_, _, rfl, .inl ⟨rfl, h1.2.1, h2⟩⟩
      · rw [if_pos h2]; exact ⟨_, _, rfl, .inr ⟨by decide, rfl⟩⟩
    · rw [if_pos h1]; exact ⟨_, _, rfl, .inr ⟨by decide, rfl⟩⟩
theorem law4 (xs : List AVal) (h : WTL [.str] xs) : pureF C11 1 4 xs = some (.bool true) := by
  simp only [WTL] at h
  obtain ⟨a, _, rfl, ha, rfl⟩ := h
  obtain ⟨l0, rfl, hl0⟩ := wt_str ha
  have e7 := F7_eq (l := l0) (by omega)
  have hl : (l0.take 230).length ≤ 100000 := by simp; omega
  generalize l0.take 230 = l at *
  have e14 := F14_eq hl
  have e15 := F15_eq hl
  obtain ⟨o, e, ho, _⟩ := openV_tup l
  rw [ho] at e14 e15
  refine pureF_of (x := x4) rfl rfl ?_
  rw [x4_eq.1, x4_eq.2.1]
  simp (disch := first | omega | simp only [go_sem, tm0, ↓reduceIte, Nat.reduceAdd, Nat.reduceMul, Nat.reduceSub, Nat.reduceLeDiff, Nat.reduceLT, Nat.reduceEqDiff, Int.reduceLT, Int.reduceLE, Int.reduceAdd, Int.reduceSub, Int.reduceMul, Int.reduceToNat, Int.reducePow, Int.reduceNe, Int.reduceMod, Int.reduceDiv, ne_eq, Int.reduceEq, not_false_eq_true, Nat.reducePow, List.length_append, List.length_replicate, List.replicate_succ, List.replicate_zero, Int.cast_ofNat_Int, not_true_eq_false, decide_true, decide_false, ite_self, beq_self_eq_true, Bool.true_beq, Bool.false_beq, Bool.not_true, Bool.not_false, Int.reduceNeg, dropK_eq]) only [x4b, go_sem, tm0, ↓reduceIte, Nat.reduceAdd, Nat.reduceMul, Nat.reduceSub, Nat.reduceLeDiff, Nat.reduceLT, Nat.reduceEqDiff, Int.reduceLT, Int.reduceLE, Int.reduceAdd, Int.reduceSub, Int.reduceMul, Int.reduceToNat, Int.reducePow, Int.reduceNe, Int.reduceMod, Int.reduceDiv, ne_eq, Int.reduceEq, not_false_eq_true, Nat.reducePow, List.length_append, List.length_replicate, List.replicate_succ, List.replicate_zero, Int.cast_ofNat_Int, not_true_eq_false, decide_true, decide_false, ite_self, beq_self_eq_true, Bool.true_beq, Bool.false_beq, Bool.not_true, Bool.not_false, Int.reduceNeg, dropK_eq, callX_known (C := C11) (g := 7) rfl, ft_call (C := C11) (g := 7) rfl, callX_known (C := C11) (g := 11) rfl, ft_call (C := C11) (g := 11) rfl, callX_known (C := C11) (g := 14) rfl, ft_call (C := C11) (g := 14) rfl, callX_known (C := C11) (g := 15) rfl, ft_call (C := C11) (g := 15) rfl, e7, e14, e15, F11_eq]
  exact Ends_plain rfl rfl
theorem hd_hex : ∀ d < 16, hexB (hd d) := by decide
theorem lowd_hexB (n : Nat) : ∀ i, ∀ b ∈ lowd n i, hexB b
  | 0, b, h => by simp [lowd] at h
  | i + 1, b, h => by
    rw [lowd] at h
    rcases List.mem_cons.1 h with rfl | h
    · exact hd_hex _ (Nat.mod_lt _ (by decide))
    · exact lowd_hexB n i b h
theorem open_back {l : List UInt8} (h : lineOk l) : openV (sealV l) = .tup [sv l, .int .i64 0] := by
  have hlen := sealV_len l
  have hn : (sealV l).length - 9 = l.length := by omega
  have ht : (sealV l).take l.length = l := by unfold sealV; exact List.take_left
  have hg : (sealV l).getD l.length 0 = 32 := by unfold sealV; simp [List.getD_eq_getElem?_getD]
  have hd' : (sealV l).drop (l.length + 1) = lowd (sumN l) 8 := by
    unfold sealV
    rw [← List.drop_drop, List.drop_left]
    rfl
  unfold openV openN
  rw [if_neg (by omega), hn, if_neg, ht, if_neg (fun h => h rfl)]
  intro hf
  refine hf ⟨by rw [hg]; rfl, by rw [ht]; exact h, ?_⟩
  rw [hd']
  exact lowd_hexB _ _
theorem law5 (xs : List AVal) (h : WTL [.str, .str] xs) : pureF C11 1 5 xs = some (.bool true) := by
  simp only [WTL] at h
  obtain ⟨a, _, rfl, ha, b, _, rfl, hb, rfl⟩ := h
  obtain ⟨l0, rfl, hl0⟩ := wt_str ha
  obtain ⟨m0, rfl, hm0⟩ := wt_str hb
  have e7 := F7_eq (l := l0) (by omega)
  have e7b := F7_eq (l := m0) (by omega)
  have hl : (l0.take 230).length ≤ 230 := by simp; omega
  have hm : (m0.take 230).length ≤ 230 := by simp; omega
  generalize l0.take 230 = l at *
  generalize m0.take 230 = m at *
  have e8 := F8_eq (l := l) (by omega)
  have e14 := F14_eq (s := m) (by omega)
  have hsl := sealV_len l
  have e14b := F14_eq (s := sealV l) (by omega)
  obtain ⟨o, e, ho, hoe⟩ := openV_tup m
  rw [ho] at e14
  refine pureF_of (x := x5) rfl rfl ?_
  rw [x5_eq.1, x5_eq.2.1]
  by_cases h : lineOk l
  · rw [tellV, if_pos h] at e8
    rw [open_back h] at e14b
    have d9 : decide (¬ ((sealV l).length : Int) = (l.length : Int) + 9) = false := decide_eq_false (by omega)
    rcases hoe with ⟨rfl, h1, h2⟩ | ⟨h1, rfl⟩
    · have hol : o.length ≤ 100000 := by have := h1.2; omega
      have e8b := F8_eq (l := o) hol
      rw [tellV, if_pos h1, h2] at e8b
      simp (disch := first | omega | simp only [go_sem, tm0, ↓reduceIte, Nat.reduceAdd, Nat.reduceMul, Nat.reduceSub, Nat.reduceLeDiff, Nat.reduceLT, Nat.reduceEqDiff, Int.reduceLT, Int.reduceLE, Int.reduceAdd, Int.reduceSub, Int.reduceMul, Int.reduceToNat, Int.reducePow, Int.reduceNe, Int.reduceMod, Int.reduceDiv, ne_eq, Int.reduceEq, not_false_eq_true, Nat.reducePow, List.length_append, List.length_replicate, List.replicate_succ, List.replicate_zero, Int.cast_ofNat_Int, not_true_eq_false, decide_true, decide_false, ite_self, beq_self_eq_true, Bool.true_beq, Bool.false_beq, Bool.not_true, Bool.not_false, Int.reduceNeg, dropK_eq]) only [x5b, go_sem, tm0, ↓reduceIte, Nat.reduceAdd, Nat.reduceMul, Nat.reduceSub, Nat.reduceLeDiff, Nat.reduceLT, Nat.reduceEqDiff, Int.reduceLT, Int.reduceLE, Int.reduceAdd, Int.reduceSub, Int.reduceMul, Int.reduceToNat, Int.reducePow, Int.reduceNe, Int.reduceMod, Int.reduceDiv, ne_eq, Int.reduceEq, not_false_eq_true, Nat.reducePow, List.length_append, List.length_replicate, List.replicate_succ, List.replicate_zero, Int.cast_ofNat_Int, not_true_eq_false, decide_true, decide_false, ite_self, beq_self_eq_true, Bool.true_beq, Bool.false_beq, Bool.not_true, Bool.not_false, Int.reduceNeg, dropK_eq, callX_known (C := C11) (g := 7) rfl, ft_call (C := C11) (g := 7) rfl, callX_known (C := C11) (g := 8) rfl, ft_call (C := C11) (g := 8) rfl, callX_known (C := C11) (g := 11) rfl, ft_call (C := C11) (g := 11) rfl, callX_known (C := C11) (g := 14) rfl, ft_call (C := C11) (g := 14) rfl, e7, e7b, e8, e14, e14b, e8b, F11_eq, d9]
      exact Ends_plain rfl rfl
    · have d1 := decide_eq_true h1
      simp (disch := first | omega | simp only [go_sem, tm0, ↓reduceIte, Nat.reduceAdd, Nat.reduceMul, Nat.reduceSub, Nat.reduceLeDiff, Nat.reduceLT, Nat.reduceEqDiff, Int.reduceLT, Int.reduceLE, Int.reduceAdd, Int.reduceSub, Int.reduceMul, Int.reduceToNat, Int.reducePow, Int.reduceNe, Int.reduceMod, Int.reduceDiv, ne_eq, Int.reduceEq, not_false_eq_true, Nat.reducePow, List.length_append, List.length_replicate, List.replicate_succ, List.replicate_zero, Int.cast_ofNat_Int, not_true_eq_false, decide_true, decide_false, ite_self, beq_self_eq_true, Bool.true_beq, Bool.false_beq, Bool.not_true, Bool.not_false, Int.reduceNeg, dropK_eq]) only [x5b, go_sem, tm0, ↓reduceIte, Nat.reduceAdd, Nat.reduceMul, Nat.reduceSub, Nat.reduceLeDiff, Nat.reduceLT, Nat.reduceEqDiff, Int.reduceLT, Int.reduceLE, Int.reduceAdd, Int.reduceSub, Int.reduceMul, Int.reduceToNat, Int.reducePow, Int.reduceNe, Int.reduceMod, Int.reduceDiv, ne_eq, Int.reduceEq, not_false_eq_true, Nat.reducePow, List.length_append, List.length_replicate, List.replicate_succ, List.replicate_zero, Int.cast_ofNat_Int, not_true_eq_false, decide_true, decide_false, ite_self, beq_self_eq_true, Bool.true_beq, Bool.false_beq, Bool.not_true, Bool.not_false, Int.reduceNeg, dropK_eq, callX_known (C := C11) (g := 7) rfl, ft_call (C := C11) (g := 7) rfl, callX_known (C := C11) (g := 8) rfl, ft_call (C := C11) (g := 8) rfl, callX_known (C := C11) (g := 11) rfl, ft_call (C := C11) (g := 11) rfl, callX_known (C := C11) (g := 14) rfl, ft_call (C := C11) (g := 14) rfl, e7, e7b, e8, e14, e14b, F11_eq, d9, d1]
      exact Ends_plain rfl rfl
  · rw [tellV, if_neg h] at e8
    rcases hoe with ⟨rfl, h1, h2⟩ | ⟨h1, rfl⟩
    · have hol : o.length ≤ 100000 := by have := h1.2; omega
      have e8b := F8_eq (l := o) hol
      rw [tellV, if_pos h1, h2] at e8b
      simp (disch := first | omega | simp only [go_sem, tm0, ↓reduceIte, Nat.reduceAdd, Nat.reduceMul, Nat.reduceSub, Nat.reduceLeDiff, Nat.reduceLT, Nat.reduceEqDiff, Int.reduceLT, Int.reduceLE, Int.reduceAdd, Int.reduceSub, Int.reduceMul, Int.reduceToNat, Int.reducePow, Int.reduceNe, Int.reduceMod, Int.reduceDiv, ne_eq, Int.reduceEq, not_false_eq_true, Nat.reducePow, List.length_append, List.length_replicate, List.replicate_succ, List.replicate_zero, Int.cast_ofNat_Int, not_true_eq_false, decide_true, decide_false, ite_self, beq_self_eq_true, Bool.true_beq, Bool.false_beq, Bool.not_true, Bool.not_false, Int.reduceNeg, dropK_eq]) only [x5b, go_sem, tm0, ↓reduceIte, Nat.reduceAdd, Nat.reduceMul, Nat.reduceSub, Nat.reduceLeDiff, Nat.reduceLT, Nat.reduceEqDiff, Int.reduceLT, Int.reduceLE, Int.reduceAdd, Int.reduceSub, Int.reduceMul, Int.reduceToNat, Int.reducePow, Int.reduceNe, Int.reduceMod, Int.reduceDiv, ne_eq, Int.reduceEq, not_false_eq_true, Nat.reducePow, List.length_append, List.length_replicate, List.replicate_succ, List.replicate_zero, Int.cast_ofNat_Int, not_true_eq_false, decide_true, decide_false, ite_self, beq_self_eq_true, Bool.true_beq, Bool.false_beq, Bool.not_true, Bool.not_false, Int.reduceNeg, dropK_eq, callX_known (C := C11) (g := 7) rfl, ft_call (C := C11) (g := 7) rfl, callX_known (C := C11) (g := 8) rfl, ft_call (C := C11) (g := 8) rfl, callX_known (C := C11) (g := 11) rfl, ft_call (C := C11) (g := 11) rfl, callX_known (C := C11) (g := 14) rfl, ft_call (C := C11) (g := 14) rfl, e7, e7b, e8, e14, e8b, F11_eq]
      exact Ends_plain rfl rfl
    · have d1 := decide_eq_true h1
      simp (disch := first | omega | simp only [go_sem, tm0, ↓reduceIte, Nat.reduceAdd, Nat.reduceMul, Nat.reduceSub, Nat.reduceLeDiff, Nat.reduceLT, Nat.reduceEqDiff, Int.reduceLT, Int.reduceLE, Int.reduceAdd, Int.reduceSub, Int.reduceMul, Int.reduceToNat, Int.reducePow, Int.reduceNe, Int.reduceMod, Int.reduceDiv, ne_eq, Int.reduceEq, not_false_eq_true, Nat.reducePow, List.length_append, List.length_replicate, List.replicate_succ, List.replicate_zero, Int.cast_ofNat_Int, not_true_eq_false, decide_true, decide_false, ite_self, beq_self_eq_true, Bool.true_beq, Bool.false_beq, Bool.not_true, Bool.not_false, Int.reduceNeg, dropK_eq]) only [x5b, go_sem, tm0, ↓reduceIte, Nat.reduceAdd, Nat.reduceMul, Nat.reduceSub, Nat.reduceLeDiff, Nat.reduceLT, Nat.reduceEqDiff, Int.reduceLT, Int.reduceLE, Int.reduceAdd, Int.reduceSub, Int.reduceMul, Int.reduceToNat, Int.reducePow, Int.reduceNe, Int.reduceMod, Int.reduceDiv, ne_eq, Int.reduceEq, not_false_eq_true, Nat.reducePow, List.length_append, List.length_replicate, List.replicate_succ, List.replicate_zero, Int.cast_ofNat_Int, not_true_eq_false, decide_true, decide_false, ite_self, beq_self_eq_true, Bool.true_beq, Bool.false_beq, Bool.not_true, Bool.not_false, Int.reduceNeg, dropK_eq, callX_known (C := C11) (g := 7) rfl, ft_call (C := C11) (g := 7) rfl, callX_known (C := C11) (g := 8) rfl, ft_call (C := C11) (g := 8) rfl, callX_known (C := C11) (g := 11) rfl, ft_call (C := C11) (g := 11) rfl, callX_known (C := C11) (g := 14) rfl, ft_call (C := C11) (g := 14) rfl, e7, e7b, e8, e14, F11_eq, d1]
      exact Ends_plain rfl rfl
end Go.Proofs.YtaddodioccobmaaDoor
