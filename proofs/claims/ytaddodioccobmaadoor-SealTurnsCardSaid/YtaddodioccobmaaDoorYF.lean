/-
  Lines with their sums behind them.
-/
import Derived.Test.YtaddodioccobmaaDoorYE
set_option linter.unusedVariables false
set_option linter.unusedSimpArgs false
namespace Go.Proofs.YtaddodioccobmaaDoor
open Go Go.Xec

set_option maxRecDepth 10000
noncomputable def F9 : List AVal → Option AVal := pureF C6 5 9
theorem sound9 : Sound Tryd.prog 9 F9 := sound_self ok6 5 9
theorem F9_eq {l : List UInt8} (hl : l.length ≤ 100000) : F9 [sv l] = some (.int .i64 (sumN l : Nat)) := by
  unfold F9
  refine pureF_of (x := x9) rfl rfl ?_
  rw [x9_eq.1, x9_eq.2.1]
  simp (disch := first | omega | simp only [go_sem, tm0, ↓reduceIte, Nat.reduceAdd, Nat.reduceMul, Nat.reduceSub, Nat.reduceLeDiff, Nat.reduceLT, Nat.reduceEqDiff, Int.reduceLT, Int.reduceLE, Int.reduceAdd, Int.reduceSub, Int.reduceMul, Int.reduceToNat, Int.reducePow, Int.reduceNe, Int.reduceMod, Int.reduceDiv, ne_eq, Int.reduceEq, not_false_eq_true, Nat.reducePow, List.length_append, List.length_replicate, List.replicate_succ, List.replicate_zero, Int.cast_ofNat_Int, not_true_eq_false, decide_true, decide_false, ite_self, beq_self_eq_true, Bool.true_beq, Bool.false_beq, Bool.not_true, Bool.not_false, Int.reduceNeg, dropK_eq]) only [x9b, go_sem, tm0, ↓reduceIte, Nat.reduceAdd, Nat.reduceMul, Nat.reduceSub, Nat.reduceLeDiff, Nat.reduceLT, Nat.reduceEqDiff, Int.reduceLT, Int.reduceLE, Int.reduceAdd, Int.reduceSub, Int.reduceMul, Int.reduceToNat, Int.reducePow, Int.reduceNe, Int.reduceMod, Int.reduceDiv, ne_eq, Int.reduceEq, not_false_eq_true, Nat.reducePow, List.length_append, List.length_replicate, List.replicate_succ, List.replicate_zero, Int.cast_ofNat_Int, not_true_eq_false, decide_true, decide_false, ite_self, beq_self_eq_true, Bool.true_beq, Bool.false_beq, Bool.not_true, Bool.not_false, Int.reduceNeg, dropK_eq, call_inl (C := C6) (g := 18) rfl]
  refine all18 (by decide) hl (upd_same _ _ _) fun hp' nc' => ?_
  simp (disch := first | omega | simp only [go_sem, tm0, ↓reduceIte, Nat.reduceAdd, Nat.reduceMul, Nat.reduceSub, Nat.reduceLeDiff, Nat.reduceLT, Nat.reduceEqDiff, Int.reduceLT, Int.reduceLE, Int.reduceAdd, Int.reduceSub, Int.reduceMul, Int.reduceToNat, Int.reducePow, Int.reduceNe, Int.reduceMod, Int.reduceDiv, ne_eq, Int.reduceEq, not_false_eq_true, Nat.reducePow, List.length_append, List.length_replicate, List.replicate_succ, List.replicate_zero, Int.cast_ofNat_Int, not_true_eq_false, decide_true, decide_false, ite_self, beq_self_eq_true, Bool.true_beq, Bool.false_beq, Bool.not_true, Bool.not_false, Int.reduceNeg, dropK_eq]) only [go_sem, tm0, ↓reduceIte, Nat.reduceAdd, Nat.reduceMul, Nat.reduceSub, Nat.reduceLeDiff, Nat.reduceLT, Nat.reduceEqDiff, Int.reduceLT, Int.reduceLE, Int.reduceAdd, Int.reduceSub, Int.reduceMul, Int.reduceToNat, Int.reducePow, Int.reduceNe, Int.reduceMod, Int.reduceDiv, ne_eq, Int.reduceEq, not_false_eq_true, Nat.reducePow, List.length_append, List.length_replicate, List.replicate_succ, List.replicate_zero, Int.cast_ofNat_Int, not_true_eq_false, decide_true, decide_false, ite_self, beq_self_eq_true, Bool.true_beq, Bool.false_beq, Bool.not_true, Bool.not_false, Int.reduceNeg, dropK_eq]
  exact Ends_plain rfl rfl
theorem sumN_lt (l : List UInt8) : sumN l < 4294967296 := by
  have := s10_lt l
  simp only [sumN]
  omega
/-- A line with its sum. -/
def sealV (l : List UInt8) : List UInt8 := l ++ 32 :: lowd (sumN l) 8
theorem sealV_len (l : List UInt8) : (sealV l).length = l.length + 9 := by simp [sealV, lowd_len]
noncomputable def C7 : Cfg := C6.add 9 F9
theorem ok7 : CfgOk Tryd.prog C7 := ok6.add sound9
noncomputable def F13 : List AVal → Option AVal := pureF C7 1 13
theorem sound13 : Sound Tryd.prog 13 F13 := sound_self ok7 1 13
theorem F13_eq {l : List UInt8} (hl : l.length ≤ 100000) : F13 [sv l] = some (sv (sealV l)) := by
  have e10 := F10_eq hl
  have e19 := F19_eq (n := sumN l) (by have := sumN_lt l; omega)
  have hd8 := lowd_len (sumN l) 8
  have e : sealV l = l ++ [32] ++ lowd (sumN l) 8 := by simp [sealV]
  rw [e]
  generalize lowd (sumN l) 8 = w at *
  have l1 : l.length + 1 < 9223372036854775808 := by omega
  have l2 : l.length + 1 + w.length < 9223372036854775808 := by omega
  unfold F13
  refine pureF_of (x := x13) rfl rfl ?_
  rw [x13_eq.1, x13_eq.2.1]
  simp (disch := first | omega | simp only [go_sem, tm0, ↓reduceIte, Nat.reduceAdd, Nat.reduceMul, Nat.reduceSub, Nat.reduceLeDiff, Nat.reduceLT, Nat.reduceEqDiff, Int.reduceLT, Int.reduceLE, Int.reduceAdd, Int.reduceSub, Int.reduceMul, Int.reduceToNat, Int.reducePow, Int.reduceNe, Int.reduceMod, Int.reduceDiv, ne_eq, Int.reduceEq, not_false_eq_true, Nat.reducePow, List.length_append, List.length_replicate, List.replicate_succ, List.replicate_zero, Int.cast_ofNat_Int, not_true_eq_false, decide_true, decide_false, ite_self, beq_self_eq_true, Bool.true_beq, Bool.false_beq, Bool.not_true, Bool.not_false, Int.reduceNeg, dropK_eq]) only [x13b, go_sem, tm0, ↓reduceIte, Nat.reduceAdd, Nat.reduceMul, Nat.reduceSub, Nat.reduceLeDiff, Nat.reduceLT, Nat.reduceEqDiff, Int.reduceLT, Int.reduceLE, Int.reduceAdd, Int.reduceSub, Int.reduceMul, Int.reduceToNat, Int.reducePow, Int.reduceNe, Int.reduceMod, Int.reduceDiv, ne_eq, Int.reduceEq, not_false_eq_true, Nat.reducePow, List.length_append, List.length_replicate, List.replicate_succ, List.replicate_zero, Int.cast_ofNat_Int, not_true_eq_false, decide_true, decide_false, ite_self, beq_self_eq_true, Bool.true_beq, Bool.false_beq, Bool.not_true, Bool.not_false, Int.reduceNeg, dropK_eq, callX_known (C := C7) (g := 10) rfl, ft_call (C := C7) (g := 10) rfl, callX_known (C := C7) (g := 19) rfl, ft_call (C := C7) (g := 19) rfl, e10, e19, if_pos l1, if_pos l2]
  exact Ends_plain rfl rfl
theorem repeat48 : ∀ k, Lib.repeatL [48] k = List.replicate k 48
  | 0 => rfl
  | k + 1 => by rw [Lib.repeatL, repeat48 k]; rfl
noncomputable def F17 : List AVal → Option AVal := pureF C7 1 17
theorem sound17 : Sound Tryd.prog 17 F17 := sound_self ok7 1 17
theorem F17_eq {l : List UInt8} (hl : l.length ≤ 100000) : F17 [sv l] = some (sv (sealV l)) := by
  have hs := sumN_lt l
  have e9 := F9_eq hl
  have e22 := F22_eq hs
  have hxl := hexT_len 7 (sumN l) (by simpa using hs)
  have hlow := lowd_hex 7 (sumN l) (by simpa using hs)
  have e : sealV l = l ++ [32] ++ List.replicate (8 - (hexT (sumN l)).length) 48 ++ hexT (sumN l) := by
    rw [sealV, show (8 : Nat) = 7 + 1 by rfl, hlow]; simp
  rw [e]
  generalize hexT (sumN l) = h at *
  have er : F_repeat [sv [48], .int .i64 (8 - (h.length : Int))] = some (sv (List.replicate (8 - h.length) 48)) := by
    have ek : (8 - (h.length : Int)).toNat = 8 - h.length := by omega
    have hsz : (bs [48]).size ≤ 1000000 := by rw [bs_size]; simp
    have hc : 0 ≤ 8 - (h.length : Int) ∧ 8 - (h.length : Int) ≤ 1000000 ∧ (bs [48]).size ≤ 1000000 := ⟨by omega, by omega, hsz⟩
    have e0 : F_repeat [sv [48], .int .i64 (8 - (h.length : Int))] = if 0 ≤ 8 - (h.length : Int) ∧ 8 - (h.length : Int) ≤ 1000000 ∧ (bs [48]).size ≤ 1000000 then some (sv (Lib.repeatL (bs [48]).data.toList (8 - (h.length : Int)).toNat)) else none := rfl
    rw [e0, if_pos hc, bs_data, ek, repeat48]
  have l1 : l.length + 1 < 9223372036854775808 := by omega
  have l2 : l.length + 1 + (List.replicate (8 - h.length) (48 : UInt8)).length < 9223372036854775808 := by simp; omega
  have l3 : l.length + 1 + (List.replicate (8 - h.length) (48 : UInt8)).length + h.length < 9223372036854775808 := by simp; omega
  generalize List.replicate (8 - h.length) (48 : UInt8) = z at *
  unfold F17
  refine pureF_of (x := x17) rfl rfl ?_
  rw [x17_eq.1, x17_eq.2.1]
  simp (disch := first | omega | simp only [go_sem, tm0, ↓reduceIte, Nat.reduceAdd, Nat.reduceMul, Nat.reduceSub, Nat.reduceLeDiff, Nat.reduceLT, Nat.reduceEqDiff, Int.reduceLT, Int.reduceLE, Int.reduceAdd, Int.reduceSub, Int.reduceMul, Int.reduceToNat, Int.reducePow, Int.reduceNe, Int.reduceMod, Int.reduceDiv, ne_eq, Int.reduceEq, not_false_eq_true, Nat.reducePow, List.length_append, List.length_replicate, List.replicate_succ, List.replicate_zero, Int.cast_ofNat_Int, not_true_eq_false, decide_true, decide_false, ite_self, beq_self_eq_true, Bool.true_beq, Bool.false_beq, Bool.not_true, Bool.not_false, Int.reduceNeg, dropK_eq]) only [x17b, go_sem, tm0, ↓reduceIte, Nat.reduceAdd, Nat.reduceMul, Nat.reduceSub, Nat.reduceLeDiff, Nat.reduceLT, Nat.reduceEqDiff, Int.reduceLT, Int.reduceLE, Int.reduceAdd, Int.reduceSub, Int.reduceMul, Int.reduceToNat, Int.reducePow, Int.reduceNe, Int.reduceMod, Int.reduceDiv, ne_eq, Int.reduceEq, not_false_eq_true, Nat.reducePow, List.length_append, List.length_replicate, List.replicate_succ, List.replicate_zero, Int.cast_ofNat_Int, not_true_eq_false, decide_true, decide_false, ite_self, beq_self_eq_true, Bool.true_beq, Bool.false_beq, Bool.not_true, Bool.not_false, Int.reduceNeg, dropK_eq, callX_known (C := C7) (g := 9) rfl, ft_call (C := C7) (g := 9) rfl, callX_known (C := C7) (g := 22) rfl, ft_call (C := C7) (g := 22) rfl, callX_known (C := C7) (g := 23) rfl, ft_call (C := C7) (g := 23) rfl, e9, e22, er, if_pos l1, if_pos l2, if_pos l3]
  exact Ends_plain rfl rfl
noncomputable def C8 : Cfg := (C7.add 13 F13).add 17 F17
theorem ok8 : CfgOk Tryd.prog C8 := (ok7.add sound13).add sound17
noncomputable def F8 : List AVal → Option AVal := pureF C8 1 8
theorem sound8 : Sound Tryd.prog 8 F8 := sound_self ok8 1 8
/-- What comes of a line. -/
def tellV (l : List UInt8) : AVal := if lineOk l then .tup [sv (sealV l), .int .i64 0] else .tup [sv [], .int .i64 1]
theorem F8_eq {l : List UInt8} (hl : l.length ≤ 100000) : F8 [sv l] = some (tellV l) := by
  have e16 := F16_eq hl
  have e17 := F17_eq hl
  unfold F8
  refine pureF_of (x := x8) rfl rfl ?_
  rw [x8_eq.1, x8_eq.2.1]
  unfold tellV
  by_cases h : lineOk l
  · rw [decide_eq_true h] at e16
    rw [if_pos h]
    simp (disch := first | omega | simp only [go_sem, tm0, ↓reduceIte, Nat.reduceAdd, Nat.reduceMul, Nat.reduceSub, Nat.reduceLeDiff, Nat.reduceLT, Nat.reduceEqDiff, Int.reduceLT, Int.reduceLE, Int.reduceAdd, Int.reduceSub, Int.reduceMul, Int.reduceToNat, Int.reducePow, Int.reduceNe, Int.reduceMod, Int.reduceDiv, ne_eq, Int.reduceEq, not_false_eq_true, Nat.reducePow, List.length_append, List.length_replicate, List.replicate_succ, List.replicate_zero, Int.cast_ofNat_Int, not_true_eq_false, decide_true, decide_false, ite_self, beq_self_eq_true, Bool.true_beq, Bool.false_beq, Bool.not_true, Bool.not_false, Int.reduceNeg, dropK_eq]) only [x8b, go_sem, tm0, ↓reduceIte, Nat.reduceAdd, Nat.reduceMul, Nat.reduceSub, Nat.reduceLeDiff, Nat.reduceLT, Nat.reduceEqDiff, Int.reduceLT, Int.reduceLE, Int.reduceAdd, Int.reduceSub, Int.reduceMul, Int.reduceToNat, Int.reducePow, Int.reduceNe, Int.reduceMod, Int.reduceDiv, ne_eq, Int.reduceEq, not_false_eq_true, Nat.reducePow, List.length_append, List.length_replicate, List.replicate_succ, List.replicate_zero, Int.cast_ofNat_Int, not_true_eq_false, decide_true, decide_false, ite_self, beq_self_eq_true, Bool.true_beq, Bool.false_beq, Bool.not_true, Bool.not_false, Int.reduceNeg, dropK_eq, callX_known (C := C8) (g := 16) rfl, ft_call (C := C8) (g := 16) rfl, callX_known (C := C8) (g := 17) rfl, ft_call (C := C8) (g := 17) rfl, e16, e17]
    exact Ends_plain rfl rfl
  · rw [decide_eq_false h] at e16
    rw [if_neg h]
    simp (disch := first | omega | simp only [go_sem, tm0, ↓reduceIte, Nat.reduceAdd, Nat.reduceMul, Nat.reduceSub, Nat.reduceLeDiff, Nat.reduceLT, Nat.reduceEqDiff, Int.reduceLT, Int.reduceLE, Int.reduceAdd, Int.reduceSub, Int.reduceMul, Int.reduceToNat, Int.reducePow, Int.reduceNe, Int.reduceMod, Int.reduceDiv, ne_eq, Int.reduceEq, not_false_eq_true, Nat.reducePow, List.length_append, List.length_replicate, List.replicate_succ, List.replicate_zero, Int.cast_ofNat_Int, not_true_eq_false, decide_true, decide_false, ite_self, beq_self_eq_true, Bool.true_beq, Bool.false_beq, Bool.not_true, Bool.not_false, Int.reduceNeg, dropK_eq]) only [x8b, go_sem, tm0, ↓reduceIte, Nat.reduceAdd, Nat.reduceMul, Nat.reduceSub, Nat.reduceLeDiff, Nat.reduceLT, Nat.reduceEqDiff, Int.reduceLT, Int.reduceLE, Int.reduceAdd, Int.reduceSub, Int.reduceMul, Int.reduceToNat, Int.reducePow, Int.reduceNe, Int.reduceMod, Int.reduceDiv, ne_eq, Int.reduceEq, not_false_eq_true, Nat.reducePow, List.length_append, List.length_replicate, List.replicate_succ, List.replicate_zero, Int.cast_ofNat_Int, not_true_eq_false, decide_true, decide_false, ite_self, beq_self_eq_true, Bool.true_beq, Bool.false_beq, Bool.not_true, Bool.not_false, Int.reduceNeg, dropK_eq, callX_known (C := C8) (g := 16) rfl, ft_call (C := C8) (g := 16) rfl, callX_known (C := C8) (g := 17) rfl, ft_call (C := C8) (g := 17) rfl, e16, e17]
    exact Ends_plain rfl rfl
noncomputable def C9 : Cfg := C8.add 8 F8
theorem ok9 : CfgOk Tryd.prog C9 := ok8.add sound8
noncomputable def F11 : List AVal → Option AVal := pureF C9 1 11
theorem sound11 : Sound Tryd.prog 11 F11 := sound_self ok9 1 11
theorem F11_eq : F11 [] = some (.bool true) := by
  have e8 := F8_eq (l := [97, 98, 99]) (by decide)
  have e9 := F9_eq (l := [97, 98, 99]) (by decide)
  have h1 : sumN [97, 98, 99] = 38600999 := by decide
  have h2 : sealV [97, 98, 99] = [97, 98, 99, 32, 48, 50, 52, 100, 48, 49, 50, 55] := by unfold sealV; rw [h1]; decide
  rw [tellV, if_pos (by decide), h2] at e8
  rw [h1] at e9
  unfold F11
  refine pureF_of (x := x11) rfl rfl ?_
  rw [x11_eq.1, x11_eq.2.1]
  simp (disch := first | omega | simp only [go_sem, tm0, ↓reduceIte, Nat.reduceAdd, Nat.reduceMul, Nat.reduceSub, Nat.reduceLeDiff, Nat.reduceLT, Nat.reduceEqDiff, Int.reduceLT, Int.reduceLE, Int.reduceAdd, Int.reduceSub, Int.reduceMul, Int.reduceToNat, Int.reducePow, Int.reduceNe, Int.reduceMod, Int.reduceDiv, ne_eq, Int.reduceEq, not_false_eq_true, Nat.reducePow, List.length_append, List.length_replicate, List.replicate_succ, List.replicate_zero, Int.cast_ofNat_Int, not_true_eq_false, decide_true, decide_false, ite_self, beq_self_eq_true, Bool.true_beq, Bool.false_beq, Bool.not_true, Bool.not_false, Int.reduceNeg, dropK_eq]) only [x11b, go_sem, tm0, ↓reduceIte, Nat.reduceAdd, Nat.reduceMul, Nat.reduceSub, Nat.reduceLeDiff, Nat.reduceLT, Nat.reduceEqDiff, Int.reduceLT, Int.reduceLE, Int.reduceAdd, Int.reduceSub, Int.reduceMul, Int.reduceToNat, Int.reducePow, Int.reduceNe, Int.reduceMod, Int.reduceDiv, ne_eq, Int.reduceEq, not_false_eq_true, Nat.reducePow, List.length_append, List.length_replicate, List.replicate_succ, List.replicate_zero, Int.cast_ofNat_Int, not_true_eq_false, decide_true, decide_false, ite_self, beq_self_eq_true, Bool.true_beq, Bool.false_beq, Bool.not_true, Bool.not_false, Int.reduceNeg, dropK_eq, callX_known (C := C9) (g := 8) rfl, ft_call (C := C9) (g := 8) rfl, callX_known (C := C9) (g := 9) rfl, ft_call (C := C9) (g := 9) rfl, e8, e9]
  exact Ends_plain rfl rfl
end Go.Proofs.YtaddodioccobmaaDoor
