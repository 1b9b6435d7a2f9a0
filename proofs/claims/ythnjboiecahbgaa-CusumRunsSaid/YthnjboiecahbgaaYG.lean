/-
  CusumRuns, as the interpreter sees it.
-/
import Derived.Test.YthnjboiecahbgaaYF
set_option linter.unusedVariables false
set_option linter.unusedSimpArgs false
namespace Go.Proofs.Ythnjboiecahbgaa
open Go Go.Xec

set_option maxRecDepth 10000
noncomputable def C6 : Cfg := C5.add 12 F12
theorem ok6 : CfgOk Try.prog C6 := ok5.add sound12
theorem C6_11 : C6.Γ 11 = some (pureF C0 1 11) := rfl
abbrev tI : ATy := .int .i64
abbrev tS : ATy := .slice 1 8 (.int .i64)
abbrev tK : ATy := .struct [tI, tI, tI, tI, tI, tI]
theorem wt_K {g : AVal} (h : WT tK g) : ∃ t s b q, g = KQ t s b q ∧ q.n ≤ 9223372036854775807 := by
  simp only [WT, WTL] at h
  obtain ⟨ps, rfl, _, _, rfl, ⟨t, rfl, _⟩, _, _, rfl, ⟨s, rfl, _⟩, _, _, rfl, ⟨b, rfl, _⟩, _, _, rfl, ⟨n, rfl, hn⟩, _, _, rfl, ⟨h, rfl, _⟩, _, _, rfl, ⟨l, rfl, _⟩, rfl⟩ := h
  exact ⟨t, s, b, ⟨n, h, l⟩, rfl, hn.2⟩
theorem rowV_len (l : List Int) : lenVA (rowV l) = some (.int .i64 l.length) := (rowV_rw l).len
theorem law3 : ∀ xs, WTL [tK, tS] xs → pureF C6 1 3 xs = some (.bool true) := by
  intro xs h
  simp only [WTL] at h
  obtain ⟨g, _, rfl, hg, b0, _, rfl, hb, rfl⟩ := h
  obtain ⟨t, s, b, q, rfl, hq⟩ := wt_K hg
  obtain ⟨l0, hb, hb8, _⟩ := wt_ints hb
  clear hg
  have bt := hb.cut 200
  have hsl := hb.sliceTo (n := min l0.length 200) (Nat.min_le_left _ _)
  have hmn : mnxA false (.int .i64 l0.length) [.int .i64 200] = some (.int .i64 ((min l0.length 200 : Nat) : Int)) := mnx_min2 l0.length 200
  have bp := hb.plain
  have btp := bt.plain
  have n2 : (l0.take 200).length ≤ 200 := by simp; omega
  generalize l0.take 200 = l at *
  generalize rwTake (min l0.length 200) b0 = bv at *
  have hl : Lg l := by simp only [Lg]; omega
  have e7 := F7_eq (t := t) (s := s) (b := b) (n := q.n) (h := q.h) (l := q.l)
  have e9 := F9_eq bt hl
  have ha : Rw bv l := bt
  refine pureF_of (x := x3) rfl rfl ?_
  rw [x3_eq.1, x3_eq.2.1]
  by_cases hc : cuOk t s b q.n q.h q.l
  · rw [decide_eq_true hc] at e7
    by_cases hi : inAll l
    · rw [decide_eq_true hi] at e9
      have hc' := hc
      simp only [cuOk] at hc'
      by_cases hf : 1000000000 - q.n < (l.length : Int)
      · have e6 := F6_full bt hl hc hi hf
        have d1 : decide (1000000000 < q.n + (l.length : Int)) = true := decide_eq_true (by omega)
        simp (disch := first | omega | simp only [*, go_sem, tm0, ↓reduceIte, Nat.reduceAdd, Nat.reduceMul, Nat.reduceSub, Nat.reduceLeDiff, Nat.reduceLT, Nat.reduceEqDiff, Int.reduceLT, Int.reduceLE, Int.reduceAdd, Int.reduceSub, Int.reduceMul, Int.reduceToNat, Int.reducePow, Int.reduceNe, Int.reduceMod, Int.reduceDiv, ne_eq, Int.reduceEq, not_false_eq_true, Nat.reducePow, List.length_append, List.length_replicate, List.replicate_succ, List.replicate_zero, Int.cast_ofNat_Int, not_true_eq_false, decide_true, decide_false, ite_self, dropK_eq]) only [go_sem, tm0, ↓reduceIte, Nat.reduceAdd, Nat.reduceMul, Nat.reduceSub, Nat.reduceLeDiff, Nat.reduceLT, Nat.reduceEqDiff, Int.reduceLT, Int.reduceLE, Int.reduceAdd, Int.reduceSub, Int.reduceMul, Int.reduceToNat, Int.reducePow, Int.reduceNe, Int.reduceMod, Int.reduceDiv, ne_eq, Int.reduceEq, not_false_eq_true, Nat.reducePow, List.length_append, List.length_replicate, List.replicate_succ, List.replicate_zero, Int.cast_ofNat_Int, not_true_eq_false, decide_true, decide_false, ite_self, dropK_eq, callX_known (C := C6) (g := 6) rfl, ft_call (C := C6) (g := 6) rfl, callX_known (C := C6) (g := 7) rfl, ft_call (C := C6) (g := 7) rfl, callX_known (C := C6) (g := 8) rfl, ft_call (C := C6) (g := 8) rfl, callX_known (C := C6) (g := 9) rfl, ft_call (C := C6) (g := 9) rfl, callX_known (C := C6) (g := 10) rfl, ft_call (C := C6) (g := 10) rfl, callX_known (C := C6) (g := 11) rfl, ft_call (C := C6) (g := 11) rfl, F8_eq, e6, e7, e9, ha.sc, ha.cells, hb.len, hmn, hsl, Option.map_some, Option.map_none, bt.len, bt.sc, bt.cells, x3b, d1]
        exact Ends_plain rfl rfl
      · have e6 := F6_ok bt (by omega) hc hi (by omega)
        have d1 : decide (1000000000 < q.n + (l.length : Int)) = false := decide_eq_false (by omega)
        have e10 := F10_eq (t := t) (s := s) (b := b) (q := q) bt (by omega) ⟨⟨by omega, by omega⟩, ⟨by omega, by omega⟩, by omega, by omega⟩ ⟨by omega, by omega, by omega, by omega, by omega⟩ (by omega) hi
        have e11 := F11_eq (rowV_rw (csig t s b q l)) (Rw.slc (csig t s b q l)) (by simp only [Lg, csig_len]; omega) (by simp only [Lg, csig_len]; omega)
        rw [decide_eq_true rfl] at e11
        unfold F11 at e11
        have rp := (rowV_rw (csig t s b q l)).plain
        simp (disch := first | omega | simp only [*, go_sem, tm0, ↓reduceIte, Nat.reduceAdd, Nat.reduceMul, Nat.reduceSub, Nat.reduceLeDiff, Nat.reduceLT, Nat.reduceEqDiff, Int.reduceLT, Int.reduceLE, Int.reduceAdd, Int.reduceSub, Int.reduceMul, Int.reduceToNat, Int.reducePow, Int.reduceNe, Int.reduceMod, Int.reduceDiv, ne_eq, Int.reduceEq, not_false_eq_true, Nat.reducePow, List.length_append, List.length_replicate, List.replicate_succ, List.replicate_zero, Int.cast_ofNat_Int, not_true_eq_false, decide_true, decide_false, ite_self, dropK_eq]) only [go_sem, tm0, ↓reduceIte, Nat.reduceAdd, Nat.reduceMul, Nat.reduceSub, Nat.reduceLeDiff, Nat.reduceLT, Nat.reduceEqDiff, Int.reduceLT, Int.reduceLE, Int.reduceAdd, Int.reduceSub, Int.reduceMul, Int.reduceToNat, Int.reducePow, Int.reduceNe, Int.reduceMod, Int.reduceDiv, ne_eq, Int.reduceEq, not_false_eq_true, Nat.reducePow, List.length_append, List.length_replicate, List.replicate_succ, List.replicate_zero, Int.cast_ofNat_Int, not_true_eq_false, decide_true, decide_false, ite_self, dropK_eq, callX_known (C := C6) (g := 6) rfl, ft_call (C := C6) (g := 6) rfl, callX_known (C := C6) (g := 7) rfl, ft_call (C := C6) (g := 7) rfl, callX_known (C := C6) (g := 8) rfl, ft_call (C := C6) (g := 8) rfl, callX_known (C := C6) (g := 9) rfl, ft_call (C := C6) (g := 9) rfl, callX_known (C := C6) (g := 10) rfl, ft_call (C := C6) (g := 10) rfl, callX_known (C := C6) (g := 11) rfl, ft_call (C := C6) (g := 11) rfl, F8_eq, e6, e7, e9, ha.sc, ha.cells, hb.len, hmn, hsl, Option.map_some, Option.map_none, bt.len, bt.sc, bt.cells, x3b, d1, e10, e11]
        exact Ends_plain rfl rfl
    · have e6 := F6_range bt hl hc hi
      rw [decide_eq_false hi] at e9
      simp (disch := first | omega | simp only [*, go_sem, tm0, ↓reduceIte, Nat.reduceAdd, Nat.reduceMul, Nat.reduceSub, Nat.reduceLeDiff, Nat.reduceLT, Nat.reduceEqDiff, Int.reduceLT, Int.reduceLE, Int.reduceAdd, Int.reduceSub, Int.reduceMul, Int.reduceToNat, Int.reducePow, Int.reduceNe, Int.reduceMod, Int.reduceDiv, ne_eq, Int.reduceEq, not_false_eq_true, Nat.reducePow, List.length_append, List.length_replicate, List.replicate_succ, List.replicate_zero, Int.cast_ofNat_Int, not_true_eq_false, decide_true, decide_false, ite_self, dropK_eq]) only [go_sem, tm0, ↓reduceIte, Nat.reduceAdd, Nat.reduceMul, Nat.reduceSub, Nat.reduceLeDiff, Nat.reduceLT, Nat.reduceEqDiff, Int.reduceLT, Int.reduceLE, Int.reduceAdd, Int.reduceSub, Int.reduceMul, Int.reduceToNat, Int.reducePow, Int.reduceNe, Int.reduceMod, Int.reduceDiv, ne_eq, Int.reduceEq, not_false_eq_true, Nat.reducePow, List.length_append, List.length_replicate, List.replicate_succ, List.replicate_zero, Int.cast_ofNat_Int, not_true_eq_false, decide_true, decide_false, ite_self, dropK_eq, callX_known (C := C6) (g := 6) rfl, ft_call (C := C6) (g := 6) rfl, callX_known (C := C6) (g := 7) rfl, ft_call (C := C6) (g := 7) rfl, callX_known (C := C6) (g := 8) rfl, ft_call (C := C6) (g := 8) rfl, callX_known (C := C6) (g := 9) rfl, ft_call (C := C6) (g := 9) rfl, callX_known (C := C6) (g := 10) rfl, ft_call (C := C6) (g := 10) rfl, callX_known (C := C6) (g := 11) rfl, ft_call (C := C6) (g := 11) rfl, F8_eq, e6, e7, e9, ha.sc, ha.cells, hb.len, hmn, hsl, Option.map_some, Option.map_none, bt.len, bt.sc, bt.cells, x3b]
      exact Ends_plain rfl rfl
  · have e6 := F6_arg bt hl hc
    rw [decide_eq_false hc] at e7
    simp (disch := first | omega | simp only [*, go_sem, tm0, ↓reduceIte, Nat.reduceAdd, Nat.reduceMul, Nat.reduceSub, Nat.reduceLeDiff, Nat.reduceLT, Nat.reduceEqDiff, Int.reduceLT, Int.reduceLE, Int.reduceAdd, Int.reduceSub, Int.reduceMul, Int.reduceToNat, Int.reducePow, Int.reduceNe, Int.reduceMod, Int.reduceDiv, ne_eq, Int.reduceEq, not_false_eq_true, Nat.reducePow, List.length_append, List.length_replicate, List.replicate_succ, List.replicate_zero, Int.cast_ofNat_Int, not_true_eq_false, decide_true, decide_false, ite_self, dropK_eq]) only [go_sem, tm0, ↓reduceIte, Nat.reduceAdd, Nat.reduceMul, Nat.reduceSub, Nat.reduceLeDiff, Nat.reduceLT, Nat.reduceEqDiff, Int.reduceLT, Int.reduceLE, Int.reduceAdd, Int.reduceSub, Int.reduceMul, Int.reduceToNat, Int.reducePow, Int.reduceNe, Int.reduceMod, Int.reduceDiv, ne_eq, Int.reduceEq, not_false_eq_true, Nat.reducePow, List.length_append, List.length_replicate, List.replicate_succ, List.replicate_zero, Int.cast_ofNat_Int, not_true_eq_false, decide_true, decide_false, ite_self, dropK_eq, callX_known (C := C6) (g := 6) rfl, ft_call (C := C6) (g := 6) rfl, callX_known (C := C6) (g := 7) rfl, ft_call (C := C6) (g := 7) rfl, callX_known (C := C6) (g := 8) rfl, ft_call (C := C6) (g := 8) rfl, callX_known (C := C6) (g := 9) rfl, ft_call (C := C6) (g := 9) rfl, callX_known (C := C6) (g := 10) rfl, ft_call (C := C6) (g := 10) rfl, callX_known (C := C6) (g := 11) rfl, ft_call (C := C6) (g := 11) rfl, F8_eq, e6, e7, e9, ha.sc, ha.cells, hb.len, hmn, hsl, Option.map_some, Option.map_none, bt.len, bt.sc, bt.cells, x3b]
    exact Ends_plain rfl rfl
end Go.Proofs.Ythnjboiecahbgaa
