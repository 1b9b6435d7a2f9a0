/-
  The law of digits.
-/
import Derived.Test.YtfndobdfdhkepaaDoorYE
set_option linter.unusedVariables false
set_option linter.unusedSimpArgs false
namespace Go.Proofs.YtfndobdfdhkepaaDoor
open Go Go.Xec

set_option maxRecDepth 10000
theorem sound24 : Sound Tryd.prog 24 F_add64 := sound_add64 Tryd.func24 (by kernel_rfl) (by kernel_rfl) (by kernel_rfl) (by kernel_rfl)
noncomputable def F22 : List AVal → Option AVal := pureF C4 1 22
theorem sound22 : Sound Tryd.prog 22 F22 := sound_self ok4 1 22
theorem F22_eq : F22 [.int .u64 9223372036854775808, .int .u64 4] = some (.tup [.int .u64 2, .int .u64 0]) := by
  unfold F22
  refine pureF_of (x := x22) rfl rfl ?_
  rw [x22_eq.1, x22_eq.2.1]
  simp (disch := first | omega | simp only [go_sem, tm0, ↓reduceIte, Nat.reduceAdd, Nat.reduceMul, Nat.reduceSub, Nat.reduceLeDiff, Nat.reduceLT, Nat.reduceEqDiff, Int.reduceLT, Int.reduceLE, Int.reduceAdd, Int.reduceSub, Int.reduceMul, Int.reduceToNat, Int.reducePow, Int.reduceNe, Int.reduceMod, Int.reduceDiv, ne_eq, Int.reduceEq, not_false_eq_true, Nat.reducePow, List.length_append, List.length_replicate, List.replicate_succ, List.replicate_zero, Int.cast_ofNat_Int, not_true_eq_false, decide_true, decide_false, ite_self, beq_self_eq_true, Bool.true_beq, Bool.false_beq, Bool.not_true, Bool.not_false, Int.reduceNeg, dropK_eq]) only [x22b, go_sem, tm0, ↓reduceIte, Nat.reduceAdd, Nat.reduceMul, Nat.reduceSub, Nat.reduceLeDiff, Nat.reduceLT, Nat.reduceEqDiff, Int.reduceLT, Int.reduceLE, Int.reduceAdd, Int.reduceSub, Int.reduceMul, Int.reduceToNat, Int.reducePow, Int.reduceNe, Int.reduceMod, Int.reduceDiv, ne_eq, Int.reduceEq, not_false_eq_true, Nat.reducePow, List.length_append, List.length_replicate, List.replicate_succ, List.replicate_zero, Int.cast_ofNat_Int, not_true_eq_false, decide_true, decide_false, ite_self, beq_self_eq_true, Bool.true_beq, Bool.false_beq, Bool.not_true, Bool.not_false, Int.reduceNeg, dropK_eq, binA_and32, binA_shr]
  exact Ends_plain rfl rfl
noncomputable def F23 : List AVal → Option AVal := pureF C4 1 23
theorem sound23 : Sound Tryd.prog 23 F23 := sound_self ok4 1 23
theorem F23_eq (h l : Int) : F23 [W h l] = some (.agg [.int .u64 l, .int .u64 h]) := by
  unfold F23
  refine pureF_of (x := x23) rfl rfl ?_
  rw [x23_eq.1, x23_eq.2.1]
  simp (disch := first | omega | simp only [go_sem, tm0, ↓reduceIte, Nat.reduceAdd, Nat.reduceMul, Nat.reduceSub, Nat.reduceLeDiff, Nat.reduceLT, Nat.reduceEqDiff, Int.reduceLT, Int.reduceLE, Int.reduceAdd, Int.reduceSub, Int.reduceMul, Int.reduceToNat, Int.reducePow, Int.reduceNe, Int.reduceMod, Int.reduceDiv, ne_eq, Int.reduceEq, not_false_eq_true, Nat.reducePow, List.length_append, List.length_replicate, List.replicate_succ, List.replicate_zero, Int.cast_ofNat_Int, not_true_eq_false, decide_true, decide_false, ite_self, beq_self_eq_true, Bool.true_beq, Bool.false_beq, Bool.not_true, Bool.not_false, Int.reduceNeg, dropK_eq]) only [x23b, go_sem, tm0, ↓reduceIte, Nat.reduceAdd, Nat.reduceMul, Nat.reduceSub, Nat.reduceLeDiff, Nat.reduceLT, Nat.reduceEqDiff, Int.reduceLT, Int.reduceLE, Int.reduceAdd, Int.reduceSub, Int.reduceMul, Int.reduceToNat, Int.reducePow, Int.reduceNe, Int.reduceMod, Int.reduceDiv, ne_eq, Int.reduceEq, not_false_eq_true, Nat.reducePow, List.length_append, List.length_replicate, List.replicate_succ, List.replicate_zero, Int.cast_ofNat_Int, not_true_eq_false, decide_true, decide_false, ite_self, beq_self_eq_true, Bool.true_beq, Bool.false_beq, Bool.not_true, Bool.not_false, Int.reduceNeg, dropK_eq]
  exact Ends_plain rfl rfl
noncomputable def C5 : Cfg := (((C4.add 22 F22).add 23 F23).add 24 F_add64).add 6 F6
theorem ok5 : CfgOk Tryd.prog C5 := (((ok4.add sound22).add sound23).add sound24).add sound6
noncomputable def F10 : List AVal → Option AVal := pureF C5 1 10
theorem sound10 : Sound Tryd.prog 10 F10 := sound_self ok5 1 10
theorem F10_eq : F10 [.int .u64 9223372036854775808, .int .u64 4] = some (W 2 0) := by
  unfold F10
  refine pureF_of (x := x10) rfl rfl ?_
  rw [x10_eq.1, x10_eq.2.1]
  simp (disch := first | omega | simp only [go_sem, tm0, ↓reduceIte, Nat.reduceAdd, Nat.reduceMul, Nat.reduceSub, Nat.reduceLeDiff, Nat.reduceLT, Nat.reduceEqDiff, Int.reduceLT, Int.reduceLE, Int.reduceAdd, Int.reduceSub, Int.reduceMul, Int.reduceToNat, Int.reducePow, Int.reduceNe, Int.reduceMod, Int.reduceDiv, ne_eq, Int.reduceEq, not_false_eq_true, Nat.reducePow, List.length_append, List.length_replicate, List.replicate_succ, List.replicate_zero, Int.cast_ofNat_Int, not_true_eq_false, decide_true, decide_false, ite_self, beq_self_eq_true, Bool.true_beq, Bool.false_beq, Bool.not_true, Bool.not_false, Int.reduceNeg, dropK_eq]) only [x10b, go_sem, tm0, ↓reduceIte, Nat.reduceAdd, Nat.reduceMul, Nat.reduceSub, Nat.reduceLeDiff, Nat.reduceLT, Nat.reduceEqDiff, Int.reduceLT, Int.reduceLE, Int.reduceAdd, Int.reduceSub, Int.reduceMul, Int.reduceToNat, Int.reducePow, Int.reduceNe, Int.reduceMod, Int.reduceDiv, ne_eq, Int.reduceEq, not_false_eq_true, Nat.reducePow, List.length_append, List.length_replicate, List.replicate_succ, List.replicate_zero, Int.cast_ofNat_Int, not_true_eq_false, decide_true, decide_false, ite_self, beq_self_eq_true, Bool.true_beq, Bool.false_beq, Bool.not_true, Bool.not_false, Int.reduceNeg, dropK_eq, callX_known (C := C5) (g := 22) rfl, ft_call (C := C5) (g := 22) rfl, F22_eq]
  exact Ends_plain rfl rfl
noncomputable def F11 : List AVal → Option AVal := pureF C5 1 11
theorem sound11 : Sound Tryd.prog 11 F11 := sound_self ok5 1 11
theorem F11_eq : F11 [W 2 0, W 0 3] = some (.tup [W 2 3, .bool false]) := by
  unfold F11
  refine pureF_of (x := x11) rfl rfl ?_
  rw [x11_eq.1, x11_eq.2.1]
  simp (disch := first | omega | simp only [go_sem, tm0, ↓reduceIte, Nat.reduceAdd, Nat.reduceMul, Nat.reduceSub, Nat.reduceLeDiff, Nat.reduceLT, Nat.reduceEqDiff, Int.reduceLT, Int.reduceLE, Int.reduceAdd, Int.reduceSub, Int.reduceMul, Int.reduceToNat, Int.reducePow, Int.reduceNe, Int.reduceMod, Int.reduceDiv, ne_eq, Int.reduceEq, not_false_eq_true, Nat.reducePow, List.length_append, List.length_replicate, List.replicate_succ, List.replicate_zero, Int.cast_ofNat_Int, not_true_eq_false, decide_true, decide_false, ite_self, beq_self_eq_true, Bool.true_beq, Bool.false_beq, Bool.not_true, Bool.not_false, Int.reduceNeg, dropK_eq]) only [x11b, x11l5, go_sem, tm0, ↓reduceIte, Nat.reduceAdd, Nat.reduceMul, Nat.reduceSub, Nat.reduceLeDiff, Nat.reduceLT, Nat.reduceEqDiff, Int.reduceLT, Int.reduceLE, Int.reduceAdd, Int.reduceSub, Int.reduceMul, Int.reduceToNat, Int.reducePow, Int.reduceNe, Int.reduceMod, Int.reduceDiv, ne_eq, Int.reduceEq, not_false_eq_true, Nat.reducePow, List.length_append, List.length_replicate, List.replicate_succ, List.replicate_zero, Int.cast_ofNat_Int, not_true_eq_false, decide_true, decide_false, ite_self, beq_self_eq_true, Bool.true_beq, Bool.false_beq, Bool.not_true, Bool.not_false, Int.reduceNeg, dropK_eq, callX_known (C := C5) (g := 23) rfl, ft_call (C := C5) (g := 23) rfl, callX_known (C := C5) (g := 24) rfl, ft_call (C := C5) (g := 24) rfl, F23_eq, F_add64_eq, ↓Ev_loop, ↓EvN_step]
  exact Ends_plain rfl rfl
noncomputable def F12 : List AVal → Option AVal := pureF C5 1 12
theorem sound12 : Sound Tryd.prog 12 F12 := sound_self ok5 1 12
theorem F12_eq : F12 [W 2 0, W 2 3] = some (.bool true) := by
  unfold F12
  refine pureF_of (x := x12) rfl rfl ?_
  rw [x12_eq.1, x12_eq.2.1]
  simp (disch := first | omega | simp only [go_sem, tm0, ↓reduceIte, Nat.reduceAdd, Nat.reduceMul, Nat.reduceSub, Nat.reduceLeDiff, Nat.reduceLT, Nat.reduceEqDiff, Int.reduceLT, Int.reduceLE, Int.reduceAdd, Int.reduceSub, Int.reduceMul, Int.reduceToNat, Int.reducePow, Int.reduceNe, Int.reduceMod, Int.reduceDiv, ne_eq, Int.reduceEq, not_false_eq_true, Nat.reducePow, List.length_append, List.length_replicate, List.replicate_succ, List.replicate_zero, Int.cast_ofNat_Int, not_true_eq_false, decide_true, decide_false, ite_self, beq_self_eq_true, Bool.true_beq, Bool.false_beq, Bool.not_true, Bool.not_false, Int.reduceNeg, dropK_eq]) only [x12b, go_sem, tm0, ↓reduceIte, Nat.reduceAdd, Nat.reduceMul, Nat.reduceSub, Nat.reduceLeDiff, Nat.reduceLT, Nat.reduceEqDiff, Int.reduceLT, Int.reduceLE, Int.reduceAdd, Int.reduceSub, Int.reduceMul, Int.reduceToNat, Int.reducePow, Int.reduceNe, Int.reduceMod, Int.reduceDiv, ne_eq, Int.reduceEq, not_false_eq_true, Nat.reducePow, List.length_append, List.length_replicate, List.replicate_succ, List.replicate_zero, Int.cast_ofNat_Int, not_true_eq_false, decide_true, decide_false, ite_self, beq_self_eq_true, Bool.true_beq, Bool.false_beq, Bool.not_true, Bool.not_false, Int.reduceNeg, dropK_eq]
  exact Ends_plain rfl rfl
noncomputable def C6 : Cfg := ((C5.add 10 F10).add 11 F11).add 12 F12
theorem ok6 : CfgOk Tryd.prog C6 := ((ok5.add sound10).add sound11).add sound12
noncomputable def F5 : List AVal → Option AVal := pureF C6 1 5
theorem sound5 : Sound Tryd.prog 5 F5 := sound_self ok6 1 5
theorem F5_eq : F5 [] = some (.bool true) := by
  unfold F5
  refine pureF_of (x := x5) rfl rfl ?_
  rw [x5_eq.1, x5_eq.2.1]
  simp (disch := first | omega | simp only [go_sem, tm0, ↓reduceIte, Nat.reduceAdd, Nat.reduceMul, Nat.reduceSub, Nat.reduceLeDiff, Nat.reduceLT, Nat.reduceEqDiff, Int.reduceLT, Int.reduceLE, Int.reduceAdd, Int.reduceSub, Int.reduceMul, Int.reduceToNat, Int.reducePow, Int.reduceNe, Int.reduceMod, Int.reduceDiv, ne_eq, Int.reduceEq, not_false_eq_true, Nat.reducePow, List.length_append, List.length_replicate, List.replicate_succ, List.replicate_zero, Int.cast_ofNat_Int, not_true_eq_false, decide_true, decide_false, ite_self, beq_self_eq_true, Bool.true_beq, Bool.false_beq, Bool.not_true, Bool.not_false, Int.reduceNeg, dropK_eq]) only [x5b, go_sem, tm0, ↓reduceIte, Nat.reduceAdd, Nat.reduceMul, Nat.reduceSub, Nat.reduceLeDiff, Nat.reduceLT, Nat.reduceEqDiff, Int.reduceLT, Int.reduceLE, Int.reduceAdd, Int.reduceSub, Int.reduceMul, Int.reduceToNat, Int.reducePow, Int.reduceNe, Int.reduceMod, Int.reduceDiv, ne_eq, Int.reduceEq, not_false_eq_true, Nat.reducePow, List.length_append, List.length_replicate, List.replicate_succ, List.replicate_zero, Int.cast_ofNat_Int, not_true_eq_false, decide_true, decide_false, ite_self, beq_self_eq_true, Bool.true_beq, Bool.false_beq, Bool.not_true, Bool.not_false, Int.reduceNeg, dropK_eq, callX_known (C := C6) (g := 10) rfl, ft_call (C := C6) (g := 10) rfl, callX_known (C := C6) (g := 11) rfl, ft_call (C := C6) (g := 11) rfl, callX_known (C := C6) (g := 12) rfl, ft_call (C := C6) (g := 12) rfl, F10_eq, F11_eq, F12_eq]
  exact Ends_plain rfl rfl
noncomputable def F4 : List AVal → Option AVal := pureF C4 4 4
theorem sound4 : Sound Tryd.prog 4 F4 := sound_self ok4 4 4
theorem pureF_bd {C : Cfg} {d f : Nat} {ys : List AVal} {r : AVal} (hr : plain Xec.freeze r = true) (h : Bd (inlD C d f ys (fun _ => none) 0) fun q => q.1 = r) : pureF C d f ys = some r := by
  unfold Bd at h
  obtain ⟨⟨v, hp, nc⟩, e, rfl⟩ := h
  unfold pureF
  rw [e]
  simp only [lend_plain hp v Xec.freeze hr]
  rfl
theorem F4_eq {h l : Nat} (h1 : h < 18446744073709551616) (h2 : l < 18446744073709551616) : F4 [W h l] = some (sv (dd (h * 18446744073709551616 + l))) := by
  refine pureF_bd rfl ?_
  exact text2 (d := 1) h2 h1 rfl fun _ _ => rfl
noncomputable def C7 : Cfg := (C6.add 5 F5).add 4 F4
theorem ok7 : CfgOk Tryd.prog C7 := (ok6.add sound5).add sound4
abbrev tW : ATy := .struct [.int .u64, .int .u64]
theorem wt_W {a : AVal} (h : WT tW a) : ∃ x y : Nat, a = W x y ∧ x < 18446744073709551616 ∧ y < 18446744073709551616 := by
  simp only [WT, WTL] at h
  obtain ⟨ps, rfl, _, _, rfl, ⟨x, rfl, hx⟩, _, _, rfl, ⟨y, rfl, hy⟩, rfl⟩ := h
  have e1 : IntKind.u64.min = 0 := rfl
  have e2 : IntKind.u64.max = 18446744073709551615 := rfl
  obtain ⟨m, rfl⟩ : ∃ m : Nat, x = m := ⟨x.toNat, by omega⟩
  obtain ⟨n, rfl⟩ : ∃ n : Nat, y = n := ⟨y.toNat, by omega⟩
  exact ⟨m, n, rfl, by omega, by omega⟩
theorem law3 (xs : List AVal) (h : WTL [tW] xs) : pureF C7 1 3 xs = some (.bool true) := by
  simp only [WTL] at h
  obtain ⟨a, _, rfl, ha, rfl⟩ := h
  obtain ⟨x, y, rfl, h1, h2⟩ := wt_W ha
  have e4 := F4_eq h1 h2
  have e6 := F6_eq h1 h2
  have hl := dd_len 38 (x * 18446744073709551616 + y) (by simp only [Nat.reduceAdd, Nat.reducePow]; omega)
  generalize dd (x * 18446744073709551616 + y) = t at *
  have d1 : decide ((1 : Int) ≤ (t.length : Int)) = true := decide_eq_true (by omega)
  have d2 : decide ((t.length : Int) ≤ 39) = true := decide_eq_true (by omega)
  refine pureF_of (x := x3) rfl rfl ?_
  rw [x3_eq.1, x3_eq.2.1]
  simp (disch := first | omega | simp only [go_sem, tm0, ↓reduceIte, Nat.reduceAdd, Nat.reduceMul, Nat.reduceSub, Nat.reduceLeDiff, Nat.reduceLT, Nat.reduceEqDiff, Int.reduceLT, Int.reduceLE, Int.reduceAdd, Int.reduceSub, Int.reduceMul, Int.reduceToNat, Int.reducePow, Int.reduceNe, Int.reduceMod, Int.reduceDiv, ne_eq, Int.reduceEq, not_false_eq_true, Nat.reducePow, List.length_append, List.length_replicate, List.replicate_succ, List.replicate_zero, Int.cast_ofNat_Int, not_true_eq_false, decide_true, decide_false, ite_self, beq_self_eq_true, Bool.true_beq, Bool.false_beq, Bool.not_true, Bool.not_false, Int.reduceNeg, dropK_eq]) only [x3b, go_sem, tm0, ↓reduceIte, Nat.reduceAdd, Nat.reduceMul, Nat.reduceSub, Nat.reduceLeDiff, Nat.reduceLT, Nat.reduceEqDiff, Int.reduceLT, Int.reduceLE, Int.reduceAdd, Int.reduceSub, Int.reduceMul, Int.reduceToNat, Int.reducePow, Int.reduceNe, Int.reduceMod, Int.reduceDiv, ne_eq, Int.reduceEq, not_false_eq_true, Nat.reducePow, List.length_append, List.length_replicate, List.replicate_succ, List.replicate_zero, Int.cast_ofNat_Int, not_true_eq_false, decide_true, decide_false, ite_self, beq_self_eq_true, Bool.true_beq, Bool.false_beq, Bool.not_true, Bool.not_false, Int.reduceNeg, dropK_eq, callX_known (C := C7) (g := 4) rfl, ft_call (C := C7) (g := 4) rfl, callX_known (C := C7) (g := 5) rfl, ft_call (C := C7) (g := 5) rfl, callX_known (C := C7) (g := 6) rfl, ft_call (C := C7) (g := 6) rfl, e4, e6, F5_eq, d1, d2]
  exact Ends_plain rfl rfl
end Go.Proofs.YtfndobdfdhkepaaDoor
