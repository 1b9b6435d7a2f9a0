/-
  Add, as a function of values; the sample that lives.
-/
import Derived.Test.YtplmnikmdcnebaaYI
import Derived.Test.YtplmnikmdcnebaaXY
set_option linter.unusedVariables false
set_option linter.unusedSimpArgs false
namespace Go.Proofs.Ytplmnikmdcnebaa
open Go Go.Xec

set_option maxRecDepth 10000
noncomputable def C6 : Cfg := C5.add 8 F8
theorem ok6 : CfgOk Try.prog C6 := ok5.add sound8

theorem alive10 : pureF C6 1 10 [] = some (.bool true) := by
  have e1 : F16 [.int .i64 2, .int .i64 0, .int .i64 9] = some (.tup [G 2 0 9 .nils, .int .i64 0]) := F16_ok (by decide)
  have e3 : feed 2 0 9 ⟨.nils, [], [], 0⟩ [1, 10, 2, 3] = ⟨rowOf [3], [3], [[1, 2]], 1⟩ := by
    simp [feed, fstep]
  have e2 : F8 [G 2 0 9 .nils, .slc 1 [.int .i64 1, .int .i64 10, .int .i64 2, .int .i64 3]] = some (.tup [G 2 0 9 (rowOf [3]), .slc 1 [rowOf [1, 2]], .int .i64 1, .int .i64 0]) := by
    have := F8_ok (s := 2) (lo := 0) (hi := 9) Rw.nils (Rw.slc [1, 10, 2, 3]) (by decide) (by decide) (by decide)
    rw [qv, e3] at this
    exact this
  refine pureF_of (x := x10) rfl rfl ?_
  rw [x10_eq.1, x10_eq.2.1]
  simp (disch := first | omega | simp only [go_sem, tm0, ↓reduceIte, Nat.reduceAdd, Nat.reduceMul, Nat.reduceSub, Nat.reduceLeDiff, Nat.reduceLT, Nat.reduceEqDiff, Int.reduceLT, Int.reduceLE, Int.reduceAdd, Int.reduceSub, Int.reduceMul, Int.reduceToNat, Int.reducePow, Int.reduceNe, Int.reduceMod, Int.reduceDiv, ne_eq, Int.reduceEq, not_false_eq_true, Nat.reducePow, List.length_append, List.length_replicate, List.replicate_succ, List.replicate_zero, Int.cast_ofNat_Int, not_true_eq_false, decide_true, decide_false]) only [x10b, go_sem, tm0, ↓reduceIte, Nat.reduceAdd, Nat.reduceMul, Nat.reduceSub, Nat.reduceLeDiff, Nat.reduceLT, Nat.reduceEqDiff, Int.reduceLT, Int.reduceLE, Int.reduceAdd, Int.reduceSub, Int.reduceMul, Int.reduceToNat, Int.reducePow, Int.reduceNe, Int.reduceMod, Int.reduceDiv, ne_eq, Int.reduceEq, not_false_eq_true, Nat.reducePow, List.length_append, List.length_replicate, List.replicate_succ, List.replicate_zero, Int.cast_ofNat_Int, not_true_eq_false, decide_true, decide_false, callX_names (C := C6) (g := 16) rfl, ftC_names (C := C6) (g := 16) rfl, callX_names (C := C6) (g := 8) rfl, ftC_names (C := C6) (g := 8) rfl, e1, e2]
  exact Ends_plain rfl rfl
noncomputable def F10 : List AVal → Option AVal := pureF C6 1 10
theorem F10_eq : F10 [] = some (.bool true) := alive10
theorem sound10 : Sound Try.prog 10 F10 := sound_self ok6 1 10

/-- Add. -/
noncomputable def F17 : List AVal → Option AVal := pureF C6 1 17
theorem sound17 : Sound Try.prog 17 F17 := sound_self ok6 1 17
section
variable {s lo hi x : Int} {a : AVal} {l : List Int}
theorem F17_arg (ha : Rw a l) (hl : l.length ≤ 1000000) (hg : ¬ grpOk s lo hi l) : F17 [G s lo hi a, .int .i64 x] = some (.tup [G0, .nils, .int .i64 1]) := by
  have e := F18_eq (s := s) (lo := lo) (hi := hi) ha (show Lg l by simp only [Lg]; omega)
  rw [decide_eq_false hg] at e
  have ap := ha.plain
  unfold F17
  refine pureF_of (x := x17) rfl rfl ?_
  rw [x17_eq.1, x17_eq.2.1]
  simp (disch := first | omega | simp only [*, go_sem, tm0, ↓reduceIte, Nat.reduceAdd, Nat.reduceMul, Nat.reduceSub, Nat.reduceLeDiff, Nat.reduceLT, Nat.reduceEqDiff, Int.reduceLT, Int.reduceLE, Int.reduceAdd, Int.reduceSub, Int.reduceMul, Int.reduceToNat, Int.reducePow, Int.reduceNe, Int.reduceMod, Int.reduceDiv, ne_eq, Int.reduceEq, not_false_eq_true, Nat.reducePow, List.length_append, List.length_replicate, List.replicate_succ, List.replicate_zero, Int.cast_ofNat_Int, not_true_eq_false, decide_true, decide_false]) only [x17b, go_sem, tm0, ↓reduceIte, Nat.reduceAdd, Nat.reduceMul, Nat.reduceSub, Nat.reduceLeDiff, Nat.reduceLT, Nat.reduceEqDiff, Int.reduceLT, Int.reduceLE, Int.reduceAdd, Int.reduceSub, Int.reduceMul, Int.reduceToNat, Int.reducePow, Int.reduceNe, Int.reduceMod, Int.reduceDiv, ne_eq, Int.reduceEq, not_false_eq_true, Nat.reducePow, List.length_append, List.length_replicate, List.replicate_succ, List.replicate_zero, Int.cast_ofNat_Int, not_true_eq_false, decide_true, decide_false, ha.sc, ha.cells, callX_known (C := C6) (g := 18) rfl, e]
  exact Ends_plain rfl rfl
theorem F17_range (ha : Rw a l) (hl : l.length ≤ 1000000) (hg : grpOk s lo hi l) (hx : ¬ (lo ≤ x ∧ x ≤ hi)) : F17 [G s lo hi a, .int .i64 x] = some (.tup [G0, .nils, .int .i64 3]) := by
  have e := F18_eq (s := s) (lo := lo) (hi := hi) ha (show Lg l by simp only [Lg]; omega)
  rw [decide_eq_true hg] at e
  have e23 := F23_eq (s := s) (lo := lo) (hi := hi) (x := x) ha
  rw [decide_eq_false hx] at e23
  have ap := ha.plain
  unfold F17
  refine pureF_of (x := x17) rfl rfl ?_
  rw [x17_eq.1, x17_eq.2.1]
  simp (disch := first | omega | simp only [*, go_sem, tm0, ↓reduceIte, Nat.reduceAdd, Nat.reduceMul, Nat.reduceSub, Nat.reduceLeDiff, Nat.reduceLT, Nat.reduceEqDiff, Int.reduceLT, Int.reduceLE, Int.reduceAdd, Int.reduceSub, Int.reduceMul, Int.reduceToNat, Int.reducePow, Int.reduceNe, Int.reduceMod, Int.reduceDiv, ne_eq, Int.reduceEq, not_false_eq_true, Nat.reducePow, List.length_append, List.length_replicate, List.replicate_succ, List.replicate_zero, Int.cast_ofNat_Int, not_true_eq_false, decide_true, decide_false]) only [x17b, go_sem, tm0, ↓reduceIte, Nat.reduceAdd, Nat.reduceMul, Nat.reduceSub, Nat.reduceLeDiff, Nat.reduceLT, Nat.reduceEqDiff, Int.reduceLT, Int.reduceLE, Int.reduceAdd, Int.reduceSub, Int.reduceMul, Int.reduceToNat, Int.reducePow, Int.reduceNe, Int.reduceMod, Int.reduceDiv, ne_eq, Int.reduceEq, not_false_eq_true, Nat.reducePow, List.length_append, List.length_replicate, List.replicate_succ, List.replicate_zero, Int.cast_ofNat_Int, not_true_eq_false, decide_true, decide_false, ha.sc, ha.cells, callX_known (C := C6) (g := 18) rfl, e, callX_known (C := C6) (g := 23) rfl, e23]
  exact Ends_plain rfl rfl
theorem F17_row (ha : Rw a l) (hl : l.length ≤ 1000000) (hg : grpOk s lo hi l) (hx : lo ≤ x ∧ x ≤ hi) (hs : (l.length : Int) + 1 = s) : F17 [G s lo hi a, .int .i64 x] = some (.tup [G s lo hi .nils, rowOf (l ++ [x]), .int .i64 0]) := by
  have e := F18_eq (s := s) (lo := lo) (hi := hi) ha (show Lg l by simp only [Lg]; omega)
  rw [decide_eq_true hg] at e
  have e23 := F23_eq (s := s) (lo := lo) (hi := hi) (x := x) ha
  rw [decide_eq_true hx] at e23
  have e24 := F24_eq (s := s) (lo := lo) (hi := hi) (x := x) ha hl
  rw [if_pos hs] at e24
  have ap := ha.plain
  unfold F17
  refine pureF_of (x := x17) rfl rfl ?_
  rw [x17_eq.1, x17_eq.2.1]
  simp (disch := first | omega | simp only [*, go_sem, tm0, ↓reduceIte, Nat.reduceAdd, Nat.reduceMul, Nat.reduceSub, Nat.reduceLeDiff, Nat.reduceLT, Nat.reduceEqDiff, Int.reduceLT, Int.reduceLE, Int.reduceAdd, Int.reduceSub, Int.reduceMul, Int.reduceToNat, Int.reducePow, Int.reduceNe, Int.reduceMod, Int.reduceDiv, ne_eq, Int.reduceEq, not_false_eq_true, Nat.reducePow, List.length_append, List.length_replicate, List.replicate_succ, List.replicate_zero, Int.cast_ofNat_Int, not_true_eq_false, decide_true, decide_false]) only [x17b, go_sem, tm0, ↓reduceIte, Nat.reduceAdd, Nat.reduceMul, Nat.reduceSub, Nat.reduceLeDiff, Nat.reduceLT, Nat.reduceEqDiff, Int.reduceLT, Int.reduceLE, Int.reduceAdd, Int.reduceSub, Int.reduceMul, Int.reduceToNat, Int.reducePow, Int.reduceNe, Int.reduceMod, Int.reduceDiv, ne_eq, Int.reduceEq, not_false_eq_true, Nat.reducePow, List.length_append, List.length_replicate, List.replicate_succ, List.replicate_zero, Int.cast_ofNat_Int, not_true_eq_false, decide_true, decide_false, ha.sc, ha.cells, callX_known (C := C6) (g := 18) rfl, e, callX_known (C := C6) (g := 23) rfl, e23, callX_known (C := C6) (g := 24) rfl, e24]
  exact Ends_plain rfl rfl
theorem F17_more (ha : Rw a l) (hl : l.length ≤ 1000000) (hg : grpOk s lo hi l) (hx : lo ≤ x ∧ x ≤ hi) (hs : ¬ (l.length : Int) + 1 = s) : F17 [G s lo hi a, .int .i64 x] = some (.tup [G s lo hi (rowOf (l ++ [x])), .nils, .int .i64 0]) := by
  have e := F18_eq (s := s) (lo := lo) (hi := hi) ha (show Lg l by simp only [Lg]; omega)
  rw [decide_eq_true hg] at e
  have e23 := F23_eq (s := s) (lo := lo) (hi := hi) (x := x) ha
  rw [decide_eq_true hx] at e23
  have e24 := F24_eq (s := s) (lo := lo) (hi := hi) (x := x) ha hl
  rw [if_neg hs] at e24
  have ap := ha.plain
  unfold F17
  refine pureF_of (x := x17) rfl rfl ?_
  rw [x17_eq.1, x17_eq.2.1]
  simp (disch := first | omega | simp only [*, go_sem, tm0, ↓reduceIte, Nat.reduceAdd, Nat.reduceMul, Nat.reduceSub, Nat.reduceLeDiff, Nat.reduceLT, Nat.reduceEqDiff, Int.reduceLT, Int.reduceLE, Int.reduceAdd, Int.reduceSub, Int.reduceMul, Int.reduceToNat, Int.reducePow, Int.reduceNe, Int.reduceMod, Int.reduceDiv, ne_eq, Int.reduceEq, not_false_eq_true, Nat.reducePow, List.length_append, List.length_replicate, List.replicate_succ, List.replicate_zero, Int.cast_ofNat_Int, not_true_eq_false, decide_true, decide_false]) only [x17b, go_sem, tm0, ↓reduceIte, Nat.reduceAdd, Nat.reduceMul, Nat.reduceSub, Nat.reduceLeDiff, Nat.reduceLT, Nat.reduceEqDiff, Int.reduceLT, Int.reduceLE, Int.reduceAdd, Int.reduceSub, Int.reduceMul, Int.reduceToNat, Int.reducePow, Int.reduceNe, Int.reduceMod, Int.reduceDiv, ne_eq, Int.reduceEq, not_false_eq_true, Nat.reducePow, List.length_append, List.length_replicate, List.replicate_succ, List.replicate_zero, Int.cast_ofNat_Int, not_true_eq_false, decide_true, decide_false, ha.sc, ha.cells, callX_known (C := C6) (g := 18) rfl, e, callX_known (C := C6) (g := 23) rfl, e23, callX_known (C := C6) (g := 24) rfl, e24]
  exact Ends_plain rfl rfl
end
noncomputable def C7 : Cfg := (C6.add 10 F10).add 17 F17
theorem ok7 : CfgOk Try.prog C7 := (ok6.add sound10).add sound17

/-! ### arguments -/
abbrev tI : ATy := .int .i64
abbrev tS : ATy := .slice 1 8 (.int .i64)
abbrev tG : ATy := .struct [tI, tI, tI, tS]
theorem wt_G {g : AVal} (h : WT tG g) : ∃ s lo hi a l, g = G s lo hi a ∧ Rw a l ∧ l.length ≤ 17592186043904 := by
  simp only [WT, WTL] at h
  obtain ⟨ps, rfl, _, _, rfl, ⟨s, rfl, _⟩, _, _, rfl, ⟨lo, rfl, _⟩, _, _, rfl, ⟨hi, rfl, _⟩, v, _, rfl, hv, rfl⟩ := h
  obtain ⟨l, hl, h1, _⟩ := wt_ints (b := 8) (by simpa only [WT] using hv)
  refine ⟨s, lo, hi, v, l, ?_, hl, by omega⟩
  have := hl.cells
  simp [List.flatMap_cons, this]
  simp [cellsOf]
end Go.Proofs.Ytplmnikmdcnebaa
