/-
  The law of what is printed and scanned.
-/
import Derived.Test.YtjcjlgiigjckeaaDoorYM
import Derived.Test.YtjcjlgiigjckeaaDoorYN
set_option linter.unusedVariables false
set_option linter.unusedSimpArgs false
namespace Go.Proofs.YtjcjlgiigjckeaaDoor
open Go Go.Xec

set_option maxRecDepth 10000
theorem at0_s {l m : List Tok} {n : Nat} (h : m.map at0 = l.map at0) (hs : ∀ u ∈ l, u.s.length ≤ n) : ∀ u ∈ m, u.s.length ≤ n := by
  intro u hu
  have : at0 u ∈ l.map at0 := by rw [← h]; exact List.mem_map_of_mem hu
  obtain ⟨v, hv, he⟩ := List.mem_map.1 this
  have e : v.s = u.s := by have h5 := congrArg Tok.s he; exact h5
  rw [← e]
  exact hs v hv
theorem law5 (xs : List AVal) (h : WTL [tToks] xs) : pureF C10 1 5 xs = some (.bool true) := by
  simp only [WTL] at h
  obtain ⟨a, _, rfl, ha, rfl⟩ := h
  obtain ⟨l0, ha, hl0⟩ := wt_toks ha
  have e11 := F11_eq ha (by omega)
  have ap := ha.plain
  have h1 : ((l0.take 400).map cut20).length ≤ 400 := by simp; omega
  have h2 : ∀ u ∈ (l0.take 400).map cut20, u.s.length ≤ 1000 := by
    intro u hu
    obtain ⟨v, _, rfl⟩ := List.mem_map.1 hu
    simp [cut20]
    omega
  generalize (l0.take 400).map cut20 = l at *
  have hr := RT_rowN l
  have rp := hr.plain
  have e12 := F12_eq hr (by omega) h2
  have hr2 := hr
  generalize rowN 4 (l.map TK) = r at *
  refine pureF_of (x := x5) rfl rfl ?_
  rw [x5_eq.1, x5_eq.2.1]
  by_cases ho : allOk l
  · by_cases h4 : (prt l).length ≤ 4000
    · rw [prtV, if_pos ho, if_pos h4] at e12
      obtain ⟨m, hm1, hm2, hm3, hm4⟩ := back_scan ho h4
      have hml : m.length = l.length := by have := congrArg List.length hm2; simpa using this
      have e7 := F7_eq (s := prt l) (by omega)
      rw [hm1] at e7
      simp only [scanV] at e7
      have hq := RT_rowN m
      have qp := hq.plain
      have e17 := F17_eq hq hr2 (by omega) (by omega)
      rw [decide_eq_true hm2] at e17
      obtain ⟨ho1, ho2⟩ := at0_ok hm2
      have e12b := F12_eq hq (by omega) (at0_s hm2 h2)
      rw [prtV, if_pos (ho1.2 ho), ho2, if_pos h4] at e12b
      generalize rowN 4 (m.map TK) = q at *
      simp (disch := first | omega | simp only [*, go_sem, tm0, ↓reduceIte, Nat.reduceAdd, Nat.reduceMul, Nat.reduceSub, Nat.reduceLeDiff, Nat.reduceLT, Nat.reduceEqDiff, Int.reduceLT, Int.reduceLE, Int.reduceAdd, Int.reduceSub, Int.reduceMul, Int.reduceToNat, Int.reducePow, Int.reduceNe, Int.reduceMod, Int.reduceDiv, ne_eq, Int.reduceEq, not_false_eq_true, Nat.reducePow, List.length_append, List.length_replicate, List.replicate_succ, List.replicate_zero, Int.cast_ofNat_Int, not_true_eq_false, decide_true, decide_false, ite_self, beq_self_eq_true, Bool.true_beq, Bool.false_beq, Bool.not_true, Bool.not_false, Int.reduceNeg, dropK_eq]) only [x5b, go_sem, tm0, ↓reduceIte, Nat.reduceAdd, Nat.reduceMul, Nat.reduceSub, Nat.reduceLeDiff, Nat.reduceLT, Nat.reduceEqDiff, Int.reduceLT, Int.reduceLE, Int.reduceAdd, Int.reduceSub, Int.reduceMul, Int.reduceToNat, Int.reducePow, Int.reduceNe, Int.reduceMod, Int.reduceDiv, ne_eq, Int.reduceEq, not_false_eq_true, Nat.reducePow, List.length_append, List.length_replicate, List.replicate_succ, List.replicate_zero, Int.cast_ofNat_Int, not_true_eq_false, decide_true, decide_false, ite_self, beq_self_eq_true, Bool.true_beq, Bool.false_beq, Bool.not_true, Bool.not_false, Int.reduceNeg, dropK_eq, callX_known (C := C10) (g := 7) rfl, ft_call (C := C10) (g := 7) rfl, callX_known (C := C10) (g := 9) rfl, ft_call (C := C10) (g := 9) rfl, callX_known (C := C10) (g := 11) rfl, ft_call (C := C10) (g := 11) rfl, callX_known (C := C10) (g := 12) rfl, ft_call (C := C10) (g := 12) rfl, callX_known (C := C10) (g := 17) rfl, ft_call (C := C10) (g := 17) rfl, e11, e12, e7, e17, F9_eq, hq.len]
      refine Ev_range (ti := 50) (len := m.length) (J := fun i tm hp nc => True) (by omega) ?_ trivial ?_
      · simp only [go_sem, tm0, ↓reduceIte, Nat.reduceAdd, Nat.reduceMul, Nat.reduceSub, Nat.reduceLeDiff, Nat.reduceLT, Nat.reduceEqDiff, Int.reduceLT, Int.reduceLE, Int.reduceAdd, Int.reduceSub, Int.reduceMul, Int.reduceToNat, Int.reducePow, Int.reduceNe, Int.reduceMod, Int.reduceDiv, ne_eq, Int.reduceEq, not_false_eq_true, Nat.reducePow, List.length_append, List.length_replicate, List.replicate_succ, List.replicate_zero, Int.cast_ofNat_Int, not_true_eq_false, decide_true, decide_false, ite_self, beq_self_eq_true, Bool.true_beq, Bool.false_beq, Bool.not_true, Bool.not_false, Int.reduceNeg, dropK_eq]
      intro i tm hp nc hi hc k50 _
      have k3 := hc 3 rfl; have k5 := hc 5 rfl; have k48 := hc 48 rfl; have k49 := hc 49 rfl; simp only [go_sem, tm0, ↓reduceIte, Nat.reduceAdd, Nat.reduceMul, Nat.reduceSub, Nat.reduceLeDiff, Nat.reduceLT, Nat.reduceEqDiff, Int.reduceLT, Int.reduceLE, Int.reduceAdd, Int.reduceSub, Int.reduceMul, Int.reduceToNat, Int.reducePow, Int.reduceNe, Int.reduceMod, Int.reduceDiv, ne_eq, Int.reduceEq, not_false_eq_true, Nat.reducePow, List.length_append, List.length_replicate, List.replicate_succ, List.replicate_zero, Int.cast_ofNat_Int, not_true_eq_false, decide_true, decide_false, ite_self, beq_self_eq_true, Bool.true_beq, Bool.false_beq, Bool.not_true, Bool.not_false, Int.reduceNeg, dropK_eq] at k3 k5 k48 k49
      rcases Nat.lt_or_ge i m.length with hlt | hge
      · have d1 : decide ((i : Int) < (m.length : Int)) = true := decide_eq_true (by omega)
        have ia := hq.ia hlt
        obtain ⟨b1, b2⟩ := hm3 m[i] (List.getElem_mem _)
        have d2 : decide (m[i].at' < 0) = false := decide_eq_false (by omega)
        have d3 : decide (((prt l).length : Int) ≤ m[i].at') = false := decide_eq_false (by omega)
        by_cases h0 : i = 0
        · have d4 : decide ((0 : Int) < (i : Int)) = false := decide_eq_false (by omega)
          simp (disch := first | omega | simp only [*, go_sem, tm0, ↓reduceIte, Nat.reduceAdd, Nat.reduceMul, Nat.reduceSub, Nat.reduceLeDiff, Nat.reduceLT, Nat.reduceEqDiff, Int.reduceLT, Int.reduceLE, Int.reduceAdd, Int.reduceSub, Int.reduceMul, Int.reduceToNat, Int.reducePow, Int.reduceNe, Int.reduceMod, Int.reduceDiv, ne_eq, Int.reduceEq, not_false_eq_true, Nat.reducePow, List.length_append, List.length_replicate, List.replicate_succ, List.replicate_zero, Int.cast_ofNat_Int, not_true_eq_false, decide_true, decide_false, ite_self, beq_self_eq_true, Bool.true_beq, Bool.false_beq, Bool.not_true, Bool.not_false, Int.reduceNeg, dropK_eq]) only [x5l9, go_sem, tm0, ↓reduceIte, Nat.reduceAdd, Nat.reduceMul, Nat.reduceSub, Nat.reduceLeDiff, Nat.reduceLT, Nat.reduceEqDiff, Int.reduceLT, Int.reduceLE, Int.reduceAdd, Int.reduceSub, Int.reduceMul, Int.reduceToNat, Int.reducePow, Int.reduceNe, Int.reduceMod, Int.reduceDiv, ne_eq, Int.reduceEq, not_false_eq_true, Nat.reducePow, List.length_append, List.length_replicate, List.replicate_succ, List.replicate_zero, Int.cast_ofNat_Int, not_true_eq_false, decide_true, decide_false, ite_self, beq_self_eq_true, Bool.true_beq, Bool.false_beq, Bool.not_true, Bool.not_false, Int.reduceNeg, dropK_eq, k3, k5, k48, k49, k50, d1, ia, d2, d3, d4]
          exact ⟨hlt, by simp⟩
        · have d4 : decide ((0 : Int) < (i : Int)) = true := decide_eq_true (by omega)
          have hlt1 : i - 1 < m.length := by omega
          have ia1 := hq.ia hlt1
          have hi1 : ((i - 1 : Nat) : Int) = (i : Int) - 1 := by omega
          rw [hi1] at ia1
          have hrise := hm4 (i - 1) (by omega)
          have hii : m[i - 1 + 1]'(by omega) = m[i] := by congr 1; omega
          rw [hii] at hrise
          have d5 : decide (m[i].at' < m[i - 1].at' + 2) = false := decide_eq_false (by omega)
          have hsmall : m[i - 1].at' + 2 < 9223372036854775808 := by omega
          have hb3 := hm3 m[i - 1] (List.getElem_mem _)
          simp (disch := first | omega | simp only [*, go_sem, tm0, ↓reduceIte, Nat.reduceAdd, Nat.reduceMul, Nat.reduceSub, Nat.reduceLeDiff, Nat.reduceLT, Nat.reduceEqDiff, Int.reduceLT, Int.reduceLE, Int.reduceAdd, Int.reduceSub, Int.reduceMul, Int.reduceToNat, Int.reducePow, Int.reduceNe, Int.reduceMod, Int.reduceDiv, ne_eq, Int.reduceEq, not_false_eq_true, Nat.reducePow, List.length_append, List.length_replicate, List.replicate_succ, List.replicate_zero, Int.cast_ofNat_Int, not_true_eq_false, decide_true, decide_false, ite_self, beq_self_eq_true, Bool.true_beq, Bool.false_beq, Bool.not_true, Bool.not_false, Int.reduceNeg, dropK_eq]) only [x5l9, go_sem, tm0, ↓reduceIte, Nat.reduceAdd, Nat.reduceMul, Nat.reduceSub, Nat.reduceLeDiff, Nat.reduceLT, Nat.reduceEqDiff, Int.reduceLT, Int.reduceLE, Int.reduceAdd, Int.reduceSub, Int.reduceMul, Int.reduceToNat, Int.reducePow, Int.reduceNe, Int.reduceMod, Int.reduceDiv, ne_eq, Int.reduceEq, not_false_eq_true, Nat.reducePow, List.length_append, List.length_replicate, List.replicate_succ, List.replicate_zero, Int.cast_ofNat_Int, not_true_eq_false, decide_true, decide_false, ite_self, beq_self_eq_true, Bool.true_beq, Bool.false_beq, Bool.not_true, Bool.not_false, Int.reduceNeg, dropK_eq, k3, k5, k48, k49, k50, d1, ia, d2, d3, d4, ia1, d5]
          exact ⟨hlt, by simp⟩
      · obtain rfl : i = m.length := by omega
        have d1 : decide ((m.length : Int) < (m.length : Int)) = false := decide_eq_false (by omega)
        simp (disch := first | omega | simp only [*, go_sem, tm0, ↓reduceIte, Nat.reduceAdd, Nat.reduceMul, Nat.reduceSub, Nat.reduceLeDiff, Nat.reduceLT, Nat.reduceEqDiff, Int.reduceLT, Int.reduceLE, Int.reduceAdd, Int.reduceSub, Int.reduceMul, Int.reduceToNat, Int.reducePow, Int.reduceNe, Int.reduceMod, Int.reduceDiv, ne_eq, Int.reduceEq, not_false_eq_true, Nat.reducePow, List.length_append, List.length_replicate, List.replicate_succ, List.replicate_zero, Int.cast_ofNat_Int, not_true_eq_false, decide_true, decide_false, ite_self, beq_self_eq_true, Bool.true_beq, Bool.false_beq, Bool.not_true, Bool.not_false, Int.reduceNeg, dropK_eq]) only [x5l9, go_sem, tm0, ↓reduceIte, Nat.reduceAdd, Nat.reduceMul, Nat.reduceSub, Nat.reduceLeDiff, Nat.reduceLT, Nat.reduceEqDiff, Int.reduceLT, Int.reduceLE, Int.reduceAdd, Int.reduceSub, Int.reduceMul, Int.reduceToNat, Int.reducePow, Int.reduceNe, Int.reduceMod, Int.reduceDiv, ne_eq, Int.reduceEq, not_false_eq_true, Nat.reducePow, List.length_append, List.length_replicate, List.replicate_succ, List.replicate_zero, Int.cast_ofNat_Int, not_true_eq_false, decide_true, decide_false, ite_self, beq_self_eq_true, Bool.true_beq, Bool.false_beq, Bool.not_true, Bool.not_false, Int.reduceNeg, dropK_eq, k3, k5, k48, k49, k50, d1, callX_known (C := C10) (g := 12) rfl, ft_call (C := C10) (g := 12) rfl, e12b]
        exact Ends_plain rfl rfl
    · rw [prtV, if_pos ho, if_neg h4] at e12
      simp (disch := first | omega | simp only [*, go_sem, tm0, ↓reduceIte, Nat.reduceAdd, Nat.reduceMul, Nat.reduceSub, Nat.reduceLeDiff, Nat.reduceLT, Nat.reduceEqDiff, Int.reduceLT, Int.reduceLE, Int.reduceAdd, Int.reduceSub, Int.reduceMul, Int.reduceToNat, Int.reducePow, Int.reduceNe, Int.reduceMod, Int.reduceDiv, ne_eq, Int.reduceEq, not_false_eq_true, Nat.reducePow, List.length_append, List.length_replicate, List.replicate_succ, List.replicate_zero, Int.cast_ofNat_Int, not_true_eq_false, decide_true, decide_false, ite_self, beq_self_eq_true, Bool.true_beq, Bool.false_beq, Bool.not_true, Bool.not_false, Int.reduceNeg, dropK_eq]) only [x5b, go_sem, tm0, ↓reduceIte, Nat.reduceAdd, Nat.reduceMul, Nat.reduceSub, Nat.reduceLeDiff, Nat.reduceLT, Nat.reduceEqDiff, Int.reduceLT, Int.reduceLE, Int.reduceAdd, Int.reduceSub, Int.reduceMul, Int.reduceToNat, Int.reducePow, Int.reduceNe, Int.reduceMod, Int.reduceDiv, ne_eq, Int.reduceEq, not_false_eq_true, Nat.reducePow, List.length_append, List.length_replicate, List.replicate_succ, List.replicate_zero, Int.cast_ofNat_Int, not_true_eq_false, decide_true, decide_false, ite_self, beq_self_eq_true, Bool.true_beq, Bool.false_beq, Bool.not_true, Bool.not_false, Int.reduceNeg, dropK_eq, callX_known (C := C10) (g := 9) rfl, ft_call (C := C10) (g := 9) rfl, callX_known (C := C10) (g := 11) rfl, ft_call (C := C10) (g := 11) rfl, callX_known (C := C10) (g := 12) rfl, ft_call (C := C10) (g := 12) rfl, e11, e12, F9_eq]
      exact Ends_plain rfl rfl
  · rw [prtV, if_neg ho] at e12
    simp (disch := first | omega | simp only [*, go_sem, tm0, ↓reduceIte, Nat.reduceAdd, Nat.reduceMul, Nat.reduceSub, Nat.reduceLeDiff, Nat.reduceLT, Nat.reduceEqDiff, Int.reduceLT, Int.reduceLE, Int.reduceAdd, Int.reduceSub, Int.reduceMul, Int.reduceToNat, Int.reducePow, Int.reduceNe, Int.reduceMod, Int.reduceDiv, ne_eq, Int.reduceEq, not_false_eq_true, Nat.reducePow, List.length_append, List.length_replicate, List.replicate_succ, List.replicate_zero, Int.cast_ofNat_Int, not_true_eq_false, decide_true, decide_false, ite_self, beq_self_eq_true, Bool.true_beq, Bool.false_beq, Bool.not_true, Bool.not_false, Int.reduceNeg, dropK_eq]) only [x5b, go_sem, tm0, ↓reduceIte, Nat.reduceAdd, Nat.reduceMul, Nat.reduceSub, Nat.reduceLeDiff, Nat.reduceLT, Nat.reduceEqDiff, Int.reduceLT, Int.reduceLE, Int.reduceAdd, Int.reduceSub, Int.reduceMul, Int.reduceToNat, Int.reducePow, Int.reduceNe, Int.reduceMod, Int.reduceDiv, ne_eq, Int.reduceEq, not_false_eq_true, Nat.reducePow, List.length_append, List.length_replicate, List.replicate_succ, List.replicate_zero, Int.cast_ofNat_Int, not_true_eq_false, decide_true, decide_false, ite_self, beq_self_eq_true, Bool.true_beq, Bool.false_beq, Bool.not_true, Bool.not_false, Int.reduceNeg, dropK_eq, callX_known (C := C10) (g := 9) rfl, ft_call (C := C10) (g := 9) rfl, callX_known (C := C10) (g := 11) rfl, ft_call (C := C10) (g := 11) rfl, callX_known (C := C10) (g := 12) rfl, ft_call (C := C10) (g := 12) rfl, e11, e12, F9_eq]
    exact Ends_plain rfl rfl
end Go.Proofs.YtjcjlgiigjckeaaDoor
