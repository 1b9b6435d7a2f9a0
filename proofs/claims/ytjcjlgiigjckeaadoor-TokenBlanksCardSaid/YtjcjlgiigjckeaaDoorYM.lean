/-
  The law of prints.
-/
import Derived.Test.YtjcjlgiigjckeaaDoorYL
set_option linter.unusedVariables false
set_option linter.unusedSimpArgs false
namespace Go.Proofs.YtjcjlgiigjckeaaDoor
open Go Go.Xec

set_option maxRecDepth 10000
abbrev tTok : ATy := .struct [.int .i64, .str, .int .i64, .int .i64]
abbrev tToks : ATy := .slice 4 40 tTok
theorem wt_tok {a : AVal} (h : WT tTok a) : ∃ t : Tok, a = TK t ∧ t.s.length ≤ 140737488351232 := by
  simp only [WT, WTL] at h
  obtain ⟨ps, rfl, a1, r1, rfl, ⟨k, rfl, _⟩, a2, r2, rfl, ⟨s, rfl, hs⟩, a3, r3, rfl, ⟨n, rfl, _⟩, a4, r4, rfl, ⟨p, rfl, _⟩, rfl⟩ := h
  obtain ⟨l, rfl⟩ : ∃ l, s = bs l := ⟨_, bs_of s⟩
  rw [bs_size] at hs
  exact ⟨⟨k, l, n, p⟩, rfl, hs⟩
theorem wt_toks {a : AVal} (h : WT tToks a) : ∃ l : List Tok, RT a l ∧ l.length ≤ 4000000000000 := by
  rw [WT] at h
  rcases h with rfl | rfl | ⟨xs, rfl, hx, hb⟩
  · exact ⟨[], Rg.nils, by simp⟩
  · exact ⟨[], .inr (.inl ⟨rfl, rfl⟩), by simp⟩
  · have : ∃ l : List Tok, xs = l.map TK := by
      clear hb
      induction xs with
      | nil => exact ⟨[], rfl⟩
      | cons x xs ih =>
        obtain ⟨l, rfl⟩ := ih fun y hy => hx y (by simp [hy])
        obtain ⟨t, rfl, _⟩ := wt_tok (hx x (by simp))
        exact ⟨t :: l, rfl⟩
    obtain ⟨l, rfl⟩ := this
    refine ⟨l, Rg.slc l, ?_⟩
    simp at hb; omega
theorem law4 (xs : List AVal) (h : WTL [tToks, tTok] xs) : pureF C10 1 4 xs = some (.bool true) := by
  simp only [WTL] at h
  obtain ⟨a, _, rfl, ha, b, _, rfl, hb, rfl⟩ := h
  obtain ⟨l0, ha, hl0⟩ := wt_toks ha
  obtain ⟨t, rfl, ht⟩ := wt_tok hb
  clear hb
  obtain ⟨k, s, n, p⟩ := t
  simp only at ht
  have e11 := F11_eq ha (by omega)
  have ap := ha.plain
  have h1 : ((l0.take 400).map cut20).length ≤ 400 := by simp; omega
  have h2 : ∀ u ∈ (l0.take 400).map cut20, u.s.length ≤ 1000 := by
    intro u hu
    obtain ⟨v, _, rfl⟩ := List.mem_map.1 hu
    simp [cut20]
    omega
  generalize (l0.take 400).map cut20 = l at *
  have hr := RT_rowN l
  have rp := hr.plain
  have e12 := F12_eq hr (by omega) h2
  have e15 := F15_eq hr (by omega) h2
  have e16 := fun ho => F16_eq hr (by omega) ho
  generalize rowN 4 (l.map TK) = r at *
  have hm : mnxA false (.int .i64 (s.length : Int)) [.int .i64 20] = some (.int .i64 ((min s.length 20 : Nat) : Int)) := mnx_min2 s.length 20
  have hsl := str_sliceTo (l := s) (hi := min s.length 20) (Nat.min_le_left _ _)
  have hw : (s.take (min s.length 20)).length ≤ 1000000 := by simp; omega
  generalize s.take (min s.length 20) = w at *
  have e13 := F13_eq (t := ⟨k, w, n, p⟩) hw
  have e14 := F14_eq (t := ⟨k, w, n, p⟩) hw
  generalize decide (tokOk ⟨k, w, n, p⟩) = q at *
  refine pureF_of (x := x4) rfl rfl ?_
  rw [x4_eq.1, x4_eq.2.1]
  by_cases ho : allOk l
  · have e16 := e16 ho
    rw [decide_eq_true ho] at e15
    by_cases h4 : (prt l).length ≤ 4000
    · have d4 : decide (((prt l).length : Int) ≤ 4000) = true := decide_eq_true (by omega)
      rw [prtV, if_pos ho, if_pos h4] at e12
      cases q <;>
      · simp (disch := first | omega | simp only [*, go_sem, tm0, ↓reduceIte, Nat.reduceAdd, Nat.reduceMul, Nat.reduceSub, Nat.reduceLeDiff, Nat.reduceLT, Nat.reduceEqDiff, Int.reduceLT, Int.reduceLE, Int.reduceAdd, Int.reduceSub, Int.reduceMul, Int.reduceToNat, Int.reducePow, Int.reduceNe, Int.reduceMod, Int.reduceDiv, ne_eq, Int.reduceEq, not_false_eq_true, Nat.reducePow, List.length_append, List.length_replicate, List.replicate_succ, List.replicate_zero, Int.cast_ofNat_Int, not_true_eq_false, decide_true, decide_false, ite_self, beq_self_eq_true, Bool.true_beq, Bool.false_beq, Bool.not_true, Bool.not_false, Int.reduceNeg, dropK_eq]) only [x4b, go_sem, tm0, ↓reduceIte, Nat.reduceAdd, Nat.reduceMul, Nat.reduceSub, Nat.reduceLeDiff, Nat.reduceLT, Nat.reduceEqDiff, Int.reduceLT, Int.reduceLE, Int.reduceAdd, Int.reduceSub, Int.reduceMul, Int.reduceToNat, Int.reducePow, Int.reduceNe, Int.reduceMod, Int.reduceDiv, ne_eq, Int.reduceEq, not_false_eq_true, Nat.reducePow, List.length_append, List.length_replicate, List.replicate_succ, List.replicate_zero, Int.cast_ofNat_Int, not_true_eq_false, decide_true, decide_false, ite_self, beq_self_eq_true, Bool.true_beq, Bool.false_beq, Bool.not_true, Bool.not_false, Int.reduceNeg, dropK_eq, callX_known (C := C10) (g := 9) rfl, ft_call (C := C10) (g := 9) rfl, callX_known (C := C10) (g := 11) rfl, ft_call (C := C10) (g := 11) rfl, callX_known (C := C10) (g := 12) rfl, ft_call (C := C10) (g := 12) rfl, callX_known (C := C10) (g := 13) rfl, ft_call (C := C10) (g := 13) rfl, callX_known (C := C10) (g := 14) rfl, ft_call (C := C10) (g := 14) rfl, callX_known (C := C10) (g := 15) rfl, ft_call (C := C10) (g := 15) rfl, callX_known (C := C10) (g := 16) rfl, ft_call (C := C10) (g := 16) rfl, e11, e12, e13, e14, e15, e16, F9_eq, hm, hsl, d4]
        exact Ends_plain rfl rfl
    · have d4 : decide (((prt l).length : Int) ≤ 4000) = false := decide_eq_false (by omega)
      rw [prtV, if_pos ho, if_neg h4] at e12
      cases q <;>
      · simp (disch := first | omega | simp only [*, go_sem, tm0, ↓reduceIte, Nat.reduceAdd, Nat.reduceMul, Nat.reduceSub, Nat.reduceLeDiff, Nat.reduceLT, Nat.reduceEqDiff, Int.reduceLT, Int.reduceLE, Int.reduceAdd, Int.reduceSub, Int.reduceMul, Int.reduceToNat, Int.reducePow, Int.reduceNe, Int.reduceMod, Int.reduceDiv, ne_eq, Int.reduceEq, not_false_eq_true, Nat.reducePow, List.length_append, List.length_replicate, List.replicate_succ, List.replicate_zero, Int.cast_ofNat_Int, not_true_eq_false, decide_true, decide_false, ite_self, beq_self_eq_true, Bool.true_beq, Bool.false_beq, Bool.not_true, Bool.not_false, Int.reduceNeg, dropK_eq]) only [x4b, go_sem, tm0, ↓reduceIte, Nat.reduceAdd, Nat.reduceMul, Nat.reduceSub, Nat.reduceLeDiff, Nat.reduceLT, Nat.reduceEqDiff, Int.reduceLT, Int.reduceLE, Int.reduceAdd, Int.reduceSub, Int.reduceMul, Int.reduceToNat, Int.reducePow, Int.reduceNe, Int.reduceMod, Int.reduceDiv, ne_eq, Int.reduceEq, not_false_eq_true, Nat.reducePow, List.length_append, List.length_replicate, List.replicate_succ, List.replicate_zero, Int.cast_ofNat_Int, not_true_eq_false, decide_true, decide_false, ite_self, beq_self_eq_true, Bool.true_beq, Bool.false_beq, Bool.not_true, Bool.not_false, Int.reduceNeg, dropK_eq, callX_known (C := C10) (g := 9) rfl, ft_call (C := C10) (g := 9) rfl, callX_known (C := C10) (g := 11) rfl, ft_call (C := C10) (g := 11) rfl, callX_known (C := C10) (g := 12) rfl, ft_call (C := C10) (g := 12) rfl, callX_known (C := C10) (g := 13) rfl, ft_call (C := C10) (g := 13) rfl, callX_known (C := C10) (g := 14) rfl, ft_call (C := C10) (g := 14) rfl, callX_known (C := C10) (g := 15) rfl, ft_call (C := C10) (g := 15) rfl, callX_known (C := C10) (g := 16) rfl, ft_call (C := C10) (g := 16) rfl, e11, e12, e13, e14, e15, e16, F9_eq, hm, hsl, d4]
        exact Ends_plain rfl rfl
  · rw [decide_eq_false ho] at e15
    rw [prtV, if_neg ho] at e12
    cases q <;>
    · simp (disch := first | omega | simp only [*, go_sem, tm0, ↓reduceIte, Nat.reduceAdd, Nat.reduceMul, Nat.reduceSub, Nat.reduceLeDiff, Nat.reduceLT, Nat.reduceEqDiff, Int.reduceLT, Int.reduceLE, Int.reduceAdd, Int.reduceSub, Int.reduceMul, Int.reduceToNat, Int.reducePow, Int.reduceNe, Int.reduceMod, Int.reduceDiv, ne_eq, Int.reduceEq, not_false_eq_true, Nat.reducePow, List.length_append, List.length_replicate, List.replicate_succ, List.replicate_zero, Int.cast_ofNat_Int, not_true_eq_false, decide_true, decide_false, ite_self, beq_self_eq_true, Bool.true_beq, Bool.false_beq, Bool.not_true, Bool.not_false, Int.reduceNeg, dropK_eq]) only [x4b, go_sem, tm0, ↓reduceIte, Nat.reduceAdd, Nat.reduceMul, Nat.reduceSub, Nat.reduceLeDiff, Nat.reduceLT, Nat.reduceEqDiff, Int.reduceLT, Int.reduceLE, Int.reduceAdd, Int.reduceSub, Int.reduceMul, Int.reduceToNat, Int.reducePow, Int.reduceNe, Int.reduceMod, Int.reduceDiv, ne_eq, Int.reduceEq, not_false_eq_true, Nat.reducePow, List.length_append, List.length_replicate, List.replicate_succ, List.replicate_zero, Int.cast_ofNat_Int, not_true_eq_false, decide_true, decide_false, ite_self, beq_self_eq_true, Bool.true_beq, Bool.false_beq, Bool.not_true, Bool.not_false, Int.reduceNeg, dropK_eq, callX_known (C := C10) (g := 9) rfl, ft_call (C := C10) (g := 9) rfl, callX_known (C := C10) (g := 11) rfl, ft_call (C := C10) (g := 11) rfl, callX_known (C := C10) (g := 12) rfl, ft_call (C := C10) (g := 12) rfl, callX_known (C := C10) (g := 13) rfl, ft_call (C := C10) (g := 13) rfl, callX_known (C := C10) (g := 14) rfl, ft_call (C := C10) (g := 14) rfl, callX_known (C := C10) (g := 15) rfl, ft_call (C := C10) (g := 15) rfl, callX_known (C := C10) (g := 16) rfl, ft_call (C := C10) (g := 16) rfl, e11, e12, e13, e14, e15, F9_eq, hm, hsl]
      exact Ends_plain rfl rfl
end Go.Proofs.YtjcjlgiigjckeaaDoor
