/-
  The laws of scans and of prints.
-/
import Derived.Test.YtjcjlgiigjckeaaDoorYK
set_option linter.unusedVariables false
set_option linter.unusedSimpArgs false
namespace Go.Proofs.YtjcjlgiigjckeaaDoor
open Go Go.Xec

set_option maxRecDepth 10000
theorem alive_text : text [108, 111, 119, 45, 53, 59, 35, 32, 120] = .ok [⟨1, [108, 111, 119], 0, 0⟩, ⟨2, [], -5, 3⟩, ⟨5, [], 0, 5⟩] := by
  unfold text
  rw [if_pos (by decide)]
  rw [scan_one (t := ⟨1, [108, 111, 119], 0, 0⟩) (k := 3) (by simp) (by rfl) (by rfl) (by decide)]
  have h2 : (List.drop 3 [108, 111, 119, 45, 53, 59, 35, 32, 120] : List UInt8) = [45, 53, 59, 35, 32, 120] := rfl
  rw [h2, scan_one (t := ⟨2, [], -5, 0⟩) (k := 2) (by simp) (by rfl) (by rfl) (by decide)]
  have h3 : (List.drop 2 [45, 53, 59, 35, 32, 120] : List UInt8) = [59, 35, 32, 120] := rfl
  rw [h3, scan_one (t := ⟨5, [], 0, 0⟩) (k := 1) (by simp) (by rfl) (by rfl) (by decide)]
  have h4 : (List.drop 1 [59, 35, 32, 120] : List UInt8) = [35, 32, 120] := rfl
  have h5 : blk [35, 32, 120] = 3 := by rfl
  rw [h4, scan_blk (by rw [h5]; decide), h5]
  have h6 : (List.drop 3 [35, 32, 120] : List UInt8) = [] := rfl
  rw [h6, scan_nil]
  rfl
noncomputable def C9 : Cfg := (((((C8.add 7 F7).add 8 F8).add 10 F10).add 11 F11).add 12 F12).add 17 F17
theorem ok9 : CfgOk Tryd.prog C9 := (((((ok8.add sound7).add sound8).add sound10).add sound11).add sound12).add sound17
noncomputable def F9 : List AVal → Option AVal := pureF C9 1 9
theorem sound9 : Sound Tryd.prog 9 F9 := sound_self ok9 1 9
theorem F9_eq : F9 [] = some (.bool true) := by
  have e7 := F7_eq (s := [108, 111, 119, 45, 53, 59, 35, 32, 120]) (by decide)
  rw [alive_text] at e7
  simp only [scanV, rowN, List.map_cons, List.map_nil] at e7
  unfold F9
  refine pureF_of (x := x9) rfl rfl ?_
  rw [x9_eq.1, x9_eq.2.1]
  simp (disch := first | omega | simp only [go_sem, tm0, ↓reduceIte, Nat.reduceAdd, Nat.reduceMul, Nat.reduceSub, Nat.reduceLeDiff, Nat.reduceLT, Nat.reduceEqDiff, Int.reduceLT, Int.reduceLE, Int.reduceAdd, Int.reduceSub, Int.reduceMul, Int.reduceToNat, Int.reducePow, Int.reduceNe, Int.reduceMod, Int.reduceDiv, ne_eq, Int.reduceEq, not_false_eq_true, Nat.reducePow, List.length_append, List.length_replicate, List.replicate_succ, List.replicate_zero, Int.cast_ofNat_Int, not_true_eq_false, decide_true, decide_false, ite_self, beq_self_eq_true, Bool.true_beq, Bool.false_beq, Bool.not_true, Bool.not_false, Int.reduceNeg, dropK_eq]) only [x9b, go_sem, tm0, ↓reduceIte, Nat.reduceAdd, Nat.reduceMul, Nat.reduceSub, Nat.reduceLeDiff, Nat.reduceLT, Nat.reduceEqDiff, Int.reduceLT, Int.reduceLE, Int.reduceAdd, Int.reduceSub, Int.reduceMul, Int.reduceToNat, Int.reducePow, Int.reduceNe, Int.reduceMod, Int.reduceDiv, ne_eq, Int.reduceEq, not_false_eq_true, Nat.reducePow, List.length_append, List.length_replicate, List.replicate_succ, List.replicate_zero, Int.cast_ofNat_Int, not_true_eq_false, decide_true, decide_false, ite_self, beq_self_eq_true, Bool.true_beq, Bool.false_beq, Bool.not_true, Bool.not_false, Int.reduceNeg, dropK_eq, callX_known (C := C9) (g := 7) rfl, ft_call (C := C9) (g := 7) rfl, e7]

  exact Ends_plain rfl rfl
noncomputable def C10 : Cfg := ((C9.add 9 F9).add 15 F15).add 16 F16
theorem ok10 : CfgOk Tryd.prog C10 := ((ok9.add sound9).add sound15).add sound16
def tStr : ATy := .str
theorem RT_rowN (l : List Tok) : RT (rowN 4 (l.map TK)) l := rowN_rg l
theorem RT_slc (l : List Tok) : RT (.slc 4 (l.map TK)) l := Rg.slc l
theorem scan_len : ∀ (n : Nat) (r : List UInt8) (i : Nat) (l : List Tok), r.length ≤ n → scan r i = .ok l → l.length ≤ n := by
  intro n
  induction n with
  | zero =>
    intro r i l hr h
    have : r = [] := List.length_eq_zero_iff.1 (by omega)
    subst this
    rw [scan_nil] at h
    cases h
    simp
  | succ n ih =>
    intro r i l hr h
    by_cases h0 : r = []
    · subst h0
      rw [scan_nil] at h
      cases h
      simp
    · by_cases hb : 0 < blk r
      · rw [scan_blk hb] at h
        exact Nat.le_succ_of_le (ih _ _ _ (by rw [List.length_drop]; omega) h)
      · cases hr2 : oneR r with
        | error e => rw [scan_bad h0 (by omega) hr2] at h; cases h
        | ok x =>
          obtain ⟨t, k⟩ := x
          have hk := oneR_len hr2
          rw [scan_one h0 (by omega) hr2 hk.1] at h
          cases hs : scan (r.drop k) (i + k) with
          | error e => rw [hs] at h; cases h
          | ok m =>
            rw [hs] at h
            cases h
            have := ih _ _ _ (by rw [List.length_drop]; omega) hs
            simp; omega
theorem text_len {s : List UInt8} {l : List Tok} (h : text s = .ok l) : l.length ≤ 4000 := by
  unfold text at h
  split at h
  · exact scan_len _ _ _ _ (by assumption) h
  · cases h
theorem law3 (xs : List AVal) (h : WTL [.str] xs) : pureF C10 1 3 xs = some (.bool true) := by
  simp only [WTL, WT] at h
  obtain ⟨a, _, rfl, ⟨u, rfl, hu⟩, rfl⟩ := h
  obtain ⟨l, rfl⟩ : ∃ l, u = bs l := ⟨_, bs_of u⟩
  rw [bs_size] at hu
  have hm : mnxA false (.int .i64 (l.length : Int)) [.int .i64 4100] = some (.int .i64 ((min l.length 4100 : Nat) : Int)) := mnx_min2 l.length 4100
  have hsl := str_sliceTo (l := l) (hi := min l.length 4100) (Nat.min_le_left _ _)
  have hw : (l.take (min l.length 4100)).length ≤ 100000 := by simp; omega
  generalize l.take (min l.length 4100) = w at *
  have e7 := F7_eq hw
  have e8 := F8_eq hw
  refine pureF_of (x := x3) rfl rfl ?_
  rw [x3_eq.1, x3_eq.2.1]
  cases ht : text w with
  | error x =>
    obtain ⟨i, e⟩ := x
    rw [ht] at e7 e8
    simp only [scanV] at e7 e8
    have e10 := F10_eq (a := .nils) (b := .nils) (l := []) (m := []) Rg.nils Rg.nils (by decide) (by decide)
    simp (disch := first | omega | simp only [go_sem, tm0, ↓reduceIte, Nat.reduceAdd, Nat.reduceMul, Nat.reduceSub, Nat.reduceLeDiff, Nat.reduceLT, Nat.reduceEqDiff, Int.reduceLT, Int.reduceLE, Int.reduceAdd, Int.reduceSub, Int.reduceMul, Int.reduceToNat, Int.reducePow, Int.reduceNe, Int.reduceMod, Int.reduceDiv, ne_eq, Int.reduceEq, not_false_eq_true, Nat.reducePow, List.length_append, List.length_replicate, List.replicate_succ, List.replicate_zero, Int.cast_ofNat_Int, not_true_eq_false, decide_true, decide_false, ite_self, beq_self_eq_true, Bool.true_beq, Bool.false_beq, Bool.not_true, Bool.not_false, Int.reduceNeg, dropK_eq]) only [x3b, go_sem, tm0, ↓reduceIte, Nat.reduceAdd, Nat.reduceMul, Nat.reduceSub, Nat.reduceLeDiff, Nat.reduceLT, Nat.reduceEqDiff, Int.reduceLT, Int.reduceLE, Int.reduceAdd, Int.reduceSub, Int.reduceMul, Int.reduceToNat, Int.reducePow, Int.reduceNe, Int.reduceMod, Int.reduceDiv, ne_eq, Int.reduceEq, not_false_eq_true, Nat.reducePow, List.length_append, List.length_replicate, List.replicate_succ, List.replicate_zero, Int.cast_ofNat_Int, not_true_eq_false, decide_true, decide_false, ite_self, beq_self_eq_true, Bool.true_beq, Bool.false_beq, Bool.not_true, Bool.not_false, Int.reduceNeg, dropK_eq, hm, hsl, callX_known (C := C10) (g := 7) rfl, ft_call (C := C10) (g := 7) rfl, callX_known (C := C10) (g := 8) rfl, ft_call (C := C10) (g := 8) rfl, callX_known (C := C10) (g := 9) rfl, ft_call (C := C10) (g := 9) rfl, callX_known (C := C10) (g := 10) rfl, ft_call (C := C10) (g := 10) rfl, e7, e8, F9_eq, e10]
    exact Ends_plain rfl rfl
  | ok m =>
    rw [ht] at e7 e8
    simp only [scanV] at e7 e8
    have hl := text_len ht
    have e10 := F10_eq (RT_rowN m) (RT_slc m) (by omega) (by omega)
    rw [decide_eq_true rfl] at e10
    have p1 : ∀ d, plain d (rowN 4 (m.map TK)) = true := (RT_rowN m).plain
    have p2 : ∀ d, plain d (.slc 4 (m.map TK)) = true := (RT_slc m).plain
    generalize rowN 4 (m.map TK) = a at *
    generalize AVal.slc 4 (m.map TK) = b at *
    simp (disch := first | omega | simp only [*, go_sem, tm0, ↓reduceIte, Nat.reduceAdd, Nat.reduceMul, Nat.reduceSub, Nat.reduceLeDiff, Nat.reduceLT, Nat.reduceEqDiff, Int.reduceLT, Int.reduceLE, Int.reduceAdd, Int.reduceSub, Int.reduceMul, Int.reduceToNat, Int.reducePow, Int.reduceNe, Int.reduceMod, Int.reduceDiv, ne_eq, Int.reduceEq, not_false_eq_true, Nat.reducePow, List.length_append, List.length_replicate, List.replicate_succ, List.replicate_zero, Int.cast_ofNat_Int, not_true_eq_false, decide_true, decide_false, ite_self, beq_self_eq_true, Bool.true_beq, Bool.false_beq, Bool.not_true, Bool.not_false, Int.reduceNeg, dropK_eq]) only [x3b, go_sem, tm0, ↓reduceIte, Nat.reduceAdd, Nat.reduceMul, Nat.reduceSub, Nat.reduceLeDiff, Nat.reduceLT, Nat.reduceEqDiff, Int.reduceLT, Int.reduceLE, Int.reduceAdd, Int.reduceSub, Int.reduceMul, Int.reduceToNat, Int.reducePow, Int.reduceNe, Int.reduceMod, Int.reduceDiv, ne_eq, Int.reduceEq, not_false_eq_true, Nat.reducePow, List.length_append, List.length_replicate, List.replicate_succ, List.replicate_zero, Int.cast_ofNat_Int, not_true_eq_false, decide_true, decide_false, ite_self, beq_self_eq_true, Bool.true_beq, Bool.false_beq, Bool.not_true, Bool.not_false, Int.reduceNeg, dropK_eq, hm, hsl, callX_known (C := C10) (g := 7) rfl, ft_call (C := C10) (g := 7) rfl, callX_known (C := C10) (g := 8) rfl, ft_call (C := C10) (g := 8) rfl, callX_known (C := C10) (g := 9) rfl, ft_call (C := C10) (g := 9) rfl, callX_known (C := C10) (g := 10) rfl, ft_call (C := C10) (g := 10) rfl, e7, e8, F9_eq, e10]
    exact Ends_plain rfl rfl
end Go.Proofs.YtjcjlgiigjckeaaDoor
