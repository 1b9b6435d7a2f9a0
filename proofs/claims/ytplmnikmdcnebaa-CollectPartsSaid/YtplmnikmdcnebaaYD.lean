/-
  New groups, groups behind one sample, and behind a flush.
-/
import Derived.Test.YtplmnikmdcnebaaYC
set_option linter.unusedVariables false
set_option linter.unusedSimpArgs false
namespace Go.Proofs.Ytplmnikmdcnebaa
open Go Go.Xec

set_option maxRecDepth 10000
theorem step9 {s lo hi : Int} {a : AVal} {l : List Int} (ha : Rw a l) (hl : Lg l) : pureF C1 1 9 [G s lo hi a] = some (.bool (decide (grpOk s lo hi l))) := by
  refine pureF_of (x := x9) rfl rfl ?_
  rw [x9_eq.1, x9_eq.2.1]
  simp (disch := first | omega | simp only [go_sem, tm0, ↓reduceIte, Nat.reduceAdd, Nat.reduceMul, Nat.reduceSub, Nat.reduceLeDiff, Nat.reduceLT, Nat.reduceEqDiff, Int.reduceLT, Int.reduceLE, Int.reduceAdd, Int.reduceSub, Int.reduceMul, Int.reduceToNat, Int.reducePow, Int.reduceNe, Int.reduceMod, Int.reduceDiv, ne_eq, Int.reduceEq, not_false_eq_true, Nat.reducePow, List.length_append, List.length_replicate, List.replicate_succ, List.replicate_zero, Int.cast_ofNat_Int]) only [x9b, go_sem, tm0, ↓reduceIte, Nat.reduceAdd, Nat.reduceMul, Nat.reduceSub, Nat.reduceLeDiff, Nat.reduceLT, Nat.reduceEqDiff, Int.reduceLT, Int.reduceLE, Int.reduceAdd, Int.reduceSub, Int.reduceMul, Int.reduceToNat, Int.reducePow, Int.reduceNe, Int.reduceMod, Int.reduceDiv, ne_eq, Int.reduceEq, not_false_eq_true, Nat.reducePow, List.length_append, List.length_replicate, List.replicate_succ, List.replicate_zero, Int.cast_ofNat_Int, ha.sc, ha.cells, ha.len]
  refine Ev_loop_inv (I := fun n st => ∃ (i : Nat) (tm : Nat → AVal) (hp : Heap) (nc : Nat), st = ⟨tm, hp, nc⟩ ∧ i ≤ l.length ∧ n = l.length - i ∧ tm 1 = .ptr (9000000, 0) 0 0 0 0 ∧ hp (9000000, 0) = some (.var [.int .i64 s, .int .i64 lo, .int .i64 hi, a]) ∧ tm 6 = a ∧ tm 7 = .int .i64 l.length ∧ tm 8 = .int .i64 i ∧
      ∀ j, j < i → (lo ≤ l.getD j 0 ∧ l.getD j 0 ≤ hi)) (n := l.length) ?_ (by omega) ?_
  · refine ⟨0, _, _, _, rfl, by omega, rfl, ?_⟩
    simp only [go_sem, tm0, ↓reduceIte, Nat.reduceAdd, Nat.reduceMul, Nat.reduceSub, Nat.reduceLeDiff, Nat.reduceLT, Nat.reduceEqDiff, Int.reduceLT, Int.reduceLE, Int.reduceAdd, Int.reduceSub, Int.reduceMul, Int.reduceToNat, Int.reducePow, Int.reduceNe, Int.reduceMod, Int.reduceDiv, ne_eq, Int.reduceEq, not_false_eq_true, Nat.reducePow, List.length_append, List.length_replicate, List.replicate_succ, List.replicate_zero, Int.cast_ofNat_Int, List.getD_cons_zero]
    exact fun j hj => absurd hj (Nat.not_lt_zero j)
  · rintro n st ⟨i, tm, hp, nc, rfl, hi', rfl, k1, kh, k6, k7, k8, hj⟩
    rcases Nat.lt_or_ge i l.length with hlt | hge
    · have d1 : decide ((i : Int) < (l.length : Int)) = true := decide_eq_true (by omega)
      have ia := ha.ia hlt
      have hm : l.getD i 0 ∈ l := by
        rw [List.getD_eq_getElem?_getD, List.getElem?_eq_getElem hlt]
        exact List.getElem_mem hlt
      simp (disch := first | omega | simp only [go_sem, tm0, ↓reduceIte, Nat.reduceAdd, Nat.reduceMul, Nat.reduceSub, Nat.reduceLeDiff, Nat.reduceLT, Nat.reduceEqDiff, Int.reduceLT, Int.reduceLE, Int.reduceAdd, Int.reduceSub, Int.reduceMul, Int.reduceToNat, Int.reducePow, Int.reduceNe, Int.reduceMod, Int.reduceDiv, ne_eq, Int.reduceEq, not_false_eq_true, Nat.reducePow, List.length_append, List.length_replicate, List.replicate_succ, List.replicate_zero, Int.cast_ofNat_Int]) only [x9l2, go_sem, tm0, ↓reduceIte, Nat.reduceAdd, Nat.reduceMul, Nat.reduceSub, Nat.reduceLeDiff, Nat.reduceLT, Nat.reduceEqDiff, Int.reduceLT, Int.reduceLE, Int.reduceAdd, Int.reduceSub, Int.reduceMul, Int.reduceToNat, Int.reducePow, Int.reduceNe, Int.reduceMod, Int.reduceDiv, ne_eq, Int.reduceEq, not_false_eq_true, Nat.reducePow, List.length_append, List.length_replicate, List.replicate_succ, List.replicate_zero, Int.cast_ofNat_Int, k1, kh, k6, k7, k8, d1, ia]
      refine Gd_split_f (fun h => ?_) (fun h => ?_)
      · simp (disch := first | omega | simp only [go_sem, tm0, ↓reduceIte, Nat.reduceAdd, Nat.reduceMul, Nat.reduceSub, Nat.reduceLeDiff, Nat.reduceLT, Nat.reduceEqDiff, Int.reduceLT, Int.reduceLE, Int.reduceAdd, Int.reduceSub, Int.reduceMul, Int.reduceToNat, Int.reducePow, Int.reduceNe, Int.reduceMod, Int.reduceDiv, ne_eq, Int.reduceEq, not_false_eq_true, Nat.reducePow, List.length_append, List.length_replicate, List.replicate_succ, List.replicate_zero, Int.cast_ofNat_Int]) only [h, go_sem, tm0, ↓reduceIte, Nat.reduceAdd, Nat.reduceMul, Nat.reduceSub, Nat.reduceLeDiff, Nat.reduceLT, Nat.reduceEqDiff, Int.reduceLT, Int.reduceLE, Int.reduceAdd, Int.reduceSub, Int.reduceMul, Int.reduceToNat, Int.reducePow, Int.reduceNe, Int.reduceMod, Int.reduceDiv, ne_eq, Int.reduceEq, not_false_eq_true, Nat.reducePow, List.length_append, List.length_replicate, List.replicate_succ, List.replicate_zero, Int.cast_ofNat_Int]
        refine Ends_plain rfl ?_
        congr 1
        simp only [decide_eq_true_eq] at h
        exact (decide_eq_false fun e => by have := e.2.2 _ hm; omega).symm
      · simp (disch := first | omega | simp only [go_sem, tm0, ↓reduceIte, Nat.reduceAdd, Nat.reduceMul, Nat.reduceSub, Nat.reduceLeDiff, Nat.reduceLT, Nat.reduceEqDiff, Int.reduceLT, Int.reduceLE, Int.reduceAdd, Int.reduceSub, Int.reduceMul, Int.reduceToNat, Int.reducePow, Int.reduceNe, Int.reduceMod, Int.reduceDiv, ne_eq, Int.reduceEq, not_false_eq_true, Nat.reducePow, List.length_append, List.length_replicate, List.replicate_succ, List.replicate_zero, Int.cast_ofNat_Int]) only [h, go_sem, tm0, ↓reduceIte, Nat.reduceAdd, Nat.reduceMul, Nat.reduceSub, Nat.reduceLeDiff, Nat.reduceLT, Nat.reduceEqDiff, Int.reduceLT, Int.reduceLE, Int.reduceAdd, Int.reduceSub, Int.reduceMul, Int.reduceToNat, Int.reducePow, Int.reduceNe, Int.reduceMod, Int.reduceDiv, ne_eq, Int.reduceEq, not_false_eq_true, Nat.reducePow, List.length_append, List.length_replicate, List.replicate_succ, List.replicate_zero, Int.cast_ofNat_Int, k1, kh, k6, k7, k8]
        refine Cd_split (fun h' => ?_) (fun h' => ?_)
        · simp (disch := first | omega | simp only [go_sem, tm0, ↓reduceIte, Nat.reduceAdd, Nat.reduceMul, Nat.reduceSub, Nat.reduceLeDiff, Nat.reduceLT, Nat.reduceEqDiff, Int.reduceLT, Int.reduceLE, Int.reduceAdd, Int.reduceSub, Int.reduceMul, Int.reduceToNat, Int.reducePow, Int.reduceNe, Int.reduceMod, Int.reduceDiv, ne_eq, Int.reduceEq, not_false_eq_true, Nat.reducePow, List.length_append, List.length_replicate, List.replicate_succ, List.replicate_zero, Int.cast_ofNat_Int]) only [h', go_sem, tm0, ↓reduceIte, Nat.reduceAdd, Nat.reduceMul, Nat.reduceSub, Nat.reduceLeDiff, Nat.reduceLT, Nat.reduceEqDiff, Int.reduceLT, Int.reduceLE, Int.reduceAdd, Int.reduceSub, Int.reduceMul, Int.reduceToNat, Int.reducePow, Int.reduceNe, Int.reduceMod, Int.reduceDiv, ne_eq, Int.reduceEq, not_false_eq_true, Nat.reducePow, List.length_append, List.length_replicate, List.replicate_succ, List.replicate_zero, Int.cast_ofNat_Int]
          refine Ends_plain rfl ?_
          congr 1
          simp only [decide_eq_true_eq] at h'
          exact (decide_eq_false fun e => by have := e.2.2 _ hm; omega).symm
        · simp (disch := first | omega | simp only [go_sem, tm0, ↓reduceIte, Nat.reduceAdd, Nat.reduceMul, Nat.reduceSub, Nat.reduceLeDiff, Nat.reduceLT, Nat.reduceEqDiff, Int.reduceLT, Int.reduceLE, Int.reduceAdd, Int.reduceSub, Int.reduceMul, Int.reduceToNat, Int.reducePow, Int.reduceNe, Int.reduceMod, Int.reduceDiv, ne_eq, Int.reduceEq, not_false_eq_true, Nat.reducePow, List.length_append, List.length_replicate, List.replicate_succ, List.replicate_zero, Int.cast_ofNat_Int]) only [h', go_sem, tm0, ↓reduceIte, Nat.reduceAdd, Nat.reduceMul, Nat.reduceSub, Nat.reduceLeDiff, Nat.reduceLT, Nat.reduceEqDiff, Int.reduceLT, Int.reduceLE, Int.reduceAdd, Int.reduceSub, Int.reduceMul, Int.reduceToNat, Int.reducePow, Int.reduceNe, Int.reduceMod, Int.reduceDiv, ne_eq, Int.reduceEq, not_false_eq_true, Nat.reducePow, List.length_append, List.length_replicate, List.replicate_succ, List.replicate_zero, Int.cast_ofNat_Int, k1, kh, k6, k7, k8]
          simp only [decide_eq_false_iff_not] at h h'
          refine ⟨l.length - (i + 1), by omega, i + 1, _, _, _, rfl, by omega, rfl, ?_⟩
          simp (disch := first | omega | simp only [go_sem, tm0, ↓reduceIte, Nat.reduceAdd, Nat.reduceMul, Nat.reduceSub, Nat.reduceLeDiff, Nat.reduceLT, Nat.reduceEqDiff, Int.reduceLT, Int.reduceLE, Int.reduceAdd, Int.reduceSub, Int.reduceMul, Int.reduceToNat, Int.reducePow, Int.reduceNe, Int.reduceMod, Int.reduceDiv, ne_eq, Int.reduceEq, not_false_eq_true, Nat.reducePow, List.length_append, List.length_replicate, List.replicate_succ, List.replicate_zero, Int.cast_ofNat_Int]) only [go_sem, tm0, ↓reduceIte, Nat.reduceAdd, Nat.reduceMul, Nat.reduceSub, Nat.reduceLeDiff, Nat.reduceLT, Nat.reduceEqDiff, Int.reduceLT, Int.reduceLE, Int.reduceAdd, Int.reduceSub, Int.reduceMul, Int.reduceToNat, Int.reducePow, Int.reduceNe, Int.reduceMod, Int.reduceDiv, ne_eq, Int.reduceEq, not_false_eq_true, Nat.reducePow, List.length_append, List.length_replicate, List.replicate_succ, List.replicate_zero, Int.cast_ofNat_Int, k1, kh, k6, k7, k8]
          refine ⟨by simp, fun j hj' => ?_⟩
          by_cases e : j = i
          · subst e; omega
          · exact hj j (by omega)
    · obtain rfl : i = l.length := by omega
      have d1 : decide ((l.length : Int) < (l.length : Int)) = false := decide_eq_false (by omega)
      have hall : ∀ x ∈ l, lo ≤ x ∧ x ≤ hi := by
        intro x hx
        obtain ⟨i, hi, rfl⟩ := List.getElem_of_mem hx
        have := hj i hi
        simpa [List.getD_eq_getElem?_getD, List.getElem?_eq_getElem hi] using this
      simp (disch := first | omega | simp only [go_sem, tm0, ↓reduceIte, Nat.reduceAdd, Nat.reduceMul, Nat.reduceSub, Nat.reduceLeDiff, Nat.reduceLT, Nat.reduceEqDiff, Int.reduceLT, Int.reduceLE, Int.reduceAdd, Int.reduceSub, Int.reduceMul, Int.reduceToNat, Int.reducePow, Int.reduceNe, Int.reduceMod, Int.reduceDiv, ne_eq, Int.reduceEq, not_false_eq_true, Nat.reducePow, List.length_append, List.length_replicate, List.replicate_succ, List.replicate_zero, Int.cast_ofNat_Int]) only [x9l2, go_sem, tm0, ↓reduceIte, Nat.reduceAdd, Nat.reduceMul, Nat.reduceSub, Nat.reduceLeDiff, Nat.reduceLT, Nat.reduceEqDiff, Int.reduceLT, Int.reduceLE, Int.reduceAdd, Int.reduceSub, Int.reduceMul, Int.reduceToNat, Int.reducePow, Int.reduceNe, Int.reduceMod, Int.reduceDiv, ne_eq, Int.reduceEq, not_false_eq_true, Nat.reducePow, List.length_append, List.length_replicate, List.replicate_succ, List.replicate_zero, Int.cast_ofNat_Int, k1, kh, k6, k7, k8, d1, ha.len, callX_known (C := C1) (g := 19) rfl, F19_eq]
      refine Gd_split_t (fun h => ?_) (fun h => ?_)
      · simp (disch := first | omega | simp only [go_sem, tm0, ↓reduceIte, Nat.reduceAdd, Nat.reduceMul, Nat.reduceSub, Nat.reduceLeDiff, Nat.reduceLT, Nat.reduceEqDiff, Int.reduceLT, Int.reduceLE, Int.reduceAdd, Int.reduceSub, Int.reduceMul, Int.reduceToNat, Int.reducePow, Int.reduceNe, Int.reduceMod, Int.reduceDiv, ne_eq, Int.reduceEq, not_false_eq_true, Nat.reducePow, List.length_append, List.length_replicate, List.replicate_succ, List.replicate_zero, Int.cast_ofNat_Int]) only [h, go_sem, tm0, ↓reduceIte, Nat.reduceAdd, Nat.reduceMul, Nat.reduceSub, Nat.reduceLeDiff, Nat.reduceLT, Nat.reduceEqDiff, Int.reduceLT, Int.reduceLE, Int.reduceAdd, Int.reduceSub, Int.reduceMul, Int.reduceToNat, Int.reducePow, Int.reduceNe, Int.reduceMod, Int.reduceDiv, ne_eq, Int.reduceEq, not_false_eq_true, Nat.reducePow, List.length_append, List.length_replicate, List.replicate_succ, List.replicate_zero, Int.cast_ofNat_Int, k1, kh, k6, k7, k8, d1, ha.len]
        refine Ends_plain rfl ?_
        congr 1
        simp only [decide_eq_true_eq] at h
        exact decide_eq_decide.2 ⟨fun h' => ⟨h, h', hall⟩, fun h' => h'.2.1⟩
      · simp (disch := first | omega | simp only [go_sem, tm0, ↓reduceIte, Nat.reduceAdd, Nat.reduceMul, Nat.reduceSub, Nat.reduceLeDiff, Nat.reduceLT, Nat.reduceEqDiff, Int.reduceLT, Int.reduceLE, Int.reduceAdd, Int.reduceSub, Int.reduceMul, Int.reduceToNat, Int.reducePow, Int.reduceNe, Int.reduceMod, Int.reduceDiv, ne_eq, Int.reduceEq, not_false_eq_true, Nat.reducePow, List.length_append, List.length_replicate, List.replicate_succ, List.replicate_zero, Int.cast_ofNat_Int]) only [h, go_sem, tm0, ↓reduceIte, Nat.reduceAdd, Nat.reduceMul, Nat.reduceSub, Nat.reduceLeDiff, Nat.reduceLT, Nat.reduceEqDiff, Int.reduceLT, Int.reduceLE, Int.reduceAdd, Int.reduceSub, Int.reduceMul, Int.reduceToNat, Int.reducePow, Int.reduceNe, Int.reduceMod, Int.reduceDiv, ne_eq, Int.reduceEq, not_false_eq_true, Nat.reducePow, List.length_append, List.length_replicate, List.replicate_succ, List.replicate_zero, Int.cast_ofNat_Int, k1, kh, k6, k7, k8, d1, ha.len]
        refine Ends_plain rfl ?_
        congr 1
        simp only [decide_eq_false_iff_not] at h
        exact (decide_eq_false fun e => h e.1).symm
theorem sound9 : Sound Try.prog 9 F18 := sound_at ok1 0 fun xs r h => by
  unfold F18 at h
  split at h
  · split at h
    · rename_i hi
      split at h
      · rename_i hc
        cases h
        exact step9 (rowI_inv hi) hc
      · cases h
    · cases h
  · cases h

/-! ### New, Flush -/
def C2 : Cfg := (C1.add 18 F18).add 9 F18
theorem ok2 : CfgOk Try.prog C2 := (ok1.add sound18).add sound9
abbrev G0 : AVal := G 0 0 0 .nils
open Classical in
def F16 : List AVal → Option AVal
  | [.int .i64 s, .int .i64 lo, .int .i64 hi] => some (if szOk s lo hi then .tup [G s lo hi .nils, .int .i64 0] else .tup [G0, .int .i64 1])
  | _ => none
theorem F16_ok {s lo hi : Int} (h : szOk s lo hi) : F16 [.int .i64 s, .int .i64 lo, .int .i64 hi] = some (.tup [G s lo hi .nils, .int .i64 0]) := by
  simp only [F16, if_pos h]
theorem F16_no {s lo hi : Int} (h : ¬ szOk s lo hi) : F16 [.int .i64 s, .int .i64 lo, .int .i64 hi] = some (.tup [G0, .int .i64 1]) := by
  simp only [F16, if_neg h]
theorem step16 {s lo hi : Int} : pureF C2 1 16 [.int .i64 s, .int .i64 lo, .int .i64 hi] = F16 [.int .i64 s, .int .i64 lo, .int .i64 hi] := by
  have e := F18_eq (s := s) (lo := lo) (hi := hi) Rw.nils (show Lg [] by decide)
  by_cases hs : szOk s lo hi
  · have hd : decide (grpOk s lo hi []) = true := decide_eq_true ⟨hs, by simp only [szOk] at hs; simp; omega, by simp⟩
    rw [hd] at e
    rw [F16_ok hs]
    refine pureF_of (x := x16) rfl rfl ?_
    rw [x16_eq.1, x16_eq.2.1]
    simp (disch := first | omega | simp only [go_sem, tm0, ↓reduceIte, Nat.reduceAdd, Nat.reduceMul, Nat.reduceSub, Nat.reduceLeDiff, Nat.reduceLT, Nat.reduceEqDiff, Int.reduceLT, Int.reduceLE, Int.reduceAdd, Int.reduceSub, Int.reduceMul, Int.reduceToNat, Int.reducePow, Int.reduceNe, Int.reduceMod, Int.reduceDiv, ne_eq, Int.reduceEq, not_false_eq_true, Nat.reducePow, List.length_append, List.length_replicate, List.replicate_succ, List.replicate_zero, Int.cast_ofNat_Int]) only [x16b, go_sem, tm0, ↓reduceIte, Nat.reduceAdd, Nat.reduceMul, Nat.reduceSub, Nat.reduceLeDiff, Nat.reduceLT, Nat.reduceEqDiff, Int.reduceLT, Int.reduceLE, Int.reduceAdd, Int.reduceSub, Int.reduceMul, Int.reduceToNat, Int.reducePow, Int.reduceNe, Int.reduceMod, Int.reduceDiv, ne_eq, Int.reduceEq, not_false_eq_true, Nat.reducePow, List.length_append, List.length_replicate, List.replicate_succ, List.replicate_zero, Int.cast_ofNat_Int, callX_known (C := C2) (g := 18) rfl, e]
    exact Ends_plain rfl rfl
  · have hd : decide (grpOk s lo hi []) = false := decide_eq_false fun h => hs h.1
    rw [hd] at e
    rw [F16_no hs]
    refine pureF_of (x := x16) rfl rfl ?_
    rw [x16_eq.1, x16_eq.2.1]
    simp (disch := first | omega | simp only [go_sem, tm0, ↓reduceIte, Nat.reduceAdd, Nat.reduceMul, Nat.reduceSub, Nat.reduceLeDiff, Nat.reduceLT, Nat.reduceEqDiff, Int.reduceLT, Int.reduceLE, Int.reduceAdd, Int.reduceSub, Int.reduceMul, Int.reduceToNat, Int.reducePow, Int.reduceNe, Int.reduceMod, Int.reduceDiv, ne_eq, Int.reduceEq, not_false_eq_true, Nat.reducePow, List.length_append, List.length_replicate, List.replicate_succ, List.replicate_zero, Int.cast_ofNat_Int]) only [x16b, go_sem, tm0, ↓reduceIte, Nat.reduceAdd, Nat.reduceMul, Nat.reduceSub, Nat.reduceLeDiff, Nat.reduceLT, Nat.reduceEqDiff, Int.reduceLT, Int.reduceLE, Int.reduceAdd, Int.reduceSub, Int.reduceMul, Int.reduceToNat, Int.reducePow, Int.reduceNe, Int.reduceMod, Int.reduceDiv, ne_eq, Int.reduceEq, not_false_eq_true, Nat.reducePow, List.length_append, List.length_replicate, List.replicate_succ, List.replicate_zero, Int.cast_ofNat_Int, callX_known (C := C2) (g := 18) rfl, e]
    exact Ends_plain rfl rfl
theorem sound16 : Sound Try.prog 16 F16 := sound_at ok2 0 fun xs r h => by
  unfold F16 at h
  split at h
  · rw [step16]; exact h
  · cases h
open Classical in
def F15 : List AVal → Option AVal
  | [.agg [.int .i64 s, .int .i64 lo, .int .i64 hi, a]] => match rowI a with
    | some l => if Lg l then some (if grpOk s lo hi l then .tup [G s lo hi .nils, .int .i64 l.length, .int .i64 0] else .tup [G0, .int .i64 0, .int .i64 1]) else none
    | none => none
  | _ => none
theorem F15_ok {s lo hi : Int} {a : AVal} {l : List Int} (h : Rw a l) (hl : Lg l) (hg : grpOk s lo hi l) : F15 [G s lo hi a] = some (.tup [G s lo hi .nils, .int .i64 l.length, .int .i64 0]) := by
  simp only [F15, rowI_eq h, if_pos hl, if_pos hg]
theorem F15_no {s lo hi : Int} {a : AVal} {l : List Int} (h : Rw a l) (hl : Lg l) (hg : ¬ grpOk s lo hi l) : F15 [G s lo hi a] = some (.tup [G0, .int .i64 0, .int .i64 1]) := by
  simp only [F15, rowI_eq h, if_pos hl, if_neg hg]
theorem step15 {s lo hi : Int} {a : AVal} {l : List Int} (ha : Rw a l) (hl : Lg l) : pureF C2 1 15 [G s lo hi a] = F15 [G s lo hi a] := by
  have e := F18_eq (s := s) (lo := lo) (hi := hi) ha hl
  have ap := ha.plain
  by_cases hg : grpOk s lo hi l
  · rw [decide_eq_true hg] at e
    rw [F15_ok ha hl hg]
    refine pureF_of (x := x15) rfl rfl ?_
    rw [x15_eq.1, x15_eq.2.1]
    simp (disch := first | omega | simp only [*, go_sem, tm0, ↓reduceIte, Nat.reduceAdd, Nat.reduceMul, Nat.reduceSub, Nat.reduceLeDiff, Nat.reduceLT, Nat.reduceEqDiff, Int.reduceLT, Int.reduceLE, Int.reduceAdd, Int.reduceSub, Int.reduceMul, Int.reduceToNat, Int.reducePow, Int.reduceNe, Int.reduceMod, Int.reduceDiv, ne_eq, Int.reduceEq, not_false_eq_true, Nat.reducePow, List.length_append, List.length_replicate, List.replicate_succ, List.replicate_zero, Int.cast_ofNat_Int]) only [x15b, go_sem, tm0, ↓reduceIte, Nat.reduceAdd, Nat.reduceMul, Nat.reduceSub, Nat.reduceLeDiff, Nat.reduceLT, Nat.reduceEqDiff, Int.reduceLT, Int.reduceLE, Int.reduceAdd, Int.reduceSub, Int.reduceMul, Int.reduceToNat, Int.reducePow, Int.reduceNe, Int.reduceMod, Int.reduceDiv, ne_eq, Int.reduceEq, not_false_eq_true, Nat.reducePow, List.length_append, List.length_replicate, List.replicate_succ, List.replicate_zero, Int.cast_ofNat_Int, callX_known (C := C2) (g := 18) rfl, e, ha.sc, ha.cells, ha.len]
    exact Ends_plain rfl rfl
  · rw [decide_eq_false hg] at e
    rw [F15_no ha hl hg]
    refine pureF_of (x := x15) rfl rfl ?_
    rw [x15_eq.1, x15_eq.2.1]
    simp (disch := first | omega | simp only [*, go_sem, tm0, ↓reduceIte, Nat.reduceAdd, Nat.reduceMul, Nat.reduceSub, Nat.reduceLeDiff, Nat.reduceLT, Nat.reduceEqDiff, Int.reduceLT, Int.reduceLE, Int.reduceAdd, Int.reduceSub, Int.reduceMul, Int.reduceToNat, Int.reducePow, Int.reduceNe, Int.reduceMod, Int.reduceDiv, ne_eq, Int.reduceEq, not_false_eq_true, Nat.reducePow, List.length_append, List.length_replicate, List.replicate_succ, List.replicate_zero, Int.cast_ofNat_Int]) only [x15b, go_sem, tm0, ↓reduceIte, Nat.reduceAdd, Nat.reduceMul, Nat.reduceSub, Nat.reduceLeDiff, Nat.reduceLT, Nat.reduceEqDiff, Int.reduceLT, Int.reduceLE, Int.reduceAdd, Int.reduceSub, Int.reduceMul, Int.reduceToNat, Int.reducePow, Int.reduceNe, Int.reduceMod, Int.reduceDiv, ne_eq, Int.reduceEq, not_false_eq_true, Nat.reducePow, List.length_append, List.length_replicate, List.replicate_succ, List.replicate_zero, Int.cast_ofNat_Int, callX_known (C := C2) (g := 18) rfl, e, ha.sc, ha.cells, ha.len]
    exact Ends_plain rfl rfl
theorem sound15 : Sound Try.prog 15 F15 := sound_at ok2 0 fun xs r h => by
  unfold F15 at h
  split at h
  · split at h
    · rename_i hi
      split at h
      · rename_i hc
        rw [step15 (rowI_inv hi) hc]
        simp only [F15, hi, if_pos hc]
        exact h
      · cases h
    · cases h
  · cases h

/-! ### add -/
open Classical in
def F24 : List AVal → Option AVal
  | [.agg [.int .i64 s, .int .i64 lo, .int .i64 hi, a], .int .i64 x] => match rowI a with
    | some l => if l.length ≤ 1000000 then some (if (l.length : Int) + 1 = s then .tup [G s lo hi .nils, rowOf (l ++ [x])] else .tup [G s lo hi (rowOf (l ++ [x])), .nils]) else none
    | none => none
  | _ => none
theorem step24 {s lo hi x : Int} {a : AVal} {l : List Int} (ha : Rw a l) (hl : l.length ≤ 1000000) : pureF C2 1 24 [G s lo hi a, .int .i64 x] = F24 [G s lo hi a, .int .i64 x] := by
  have ap := ha.plain
  have ht : ((l.length : Int) + 1).toNat = l.length + 1 := by omega
  have ht2 : (i64s l).take (l.length + 1) = i64s l := List.take_of_length_le (by simp)
  have e : F24 [G s lo hi a, .int .i64 x] = some (if (l.length : Int) + 1 = s then .tup [G s lo hi .nils, rowOf (l ++ [x])] else .tup [G s lo hi (rowOf (l ++ [x])), .nils]) := by
    simp only [F24, rowI_eq ha]
    exact if_pos hl
  rw [e]
  refine pureF_of (x := x24) rfl rfl ?_
  rw [x24_eq.1, x24_eq.2.1]
  have hd : List.drop l.length (AVal.int .i64 0 :: List.replicate l.length (AVal.int .i64 0)) = [.int .i64 0] := by
    rw [← List.replicate_succ, List.drop_replicate]
    simp
  have hk : List.take (l.length + 1) (i64s (l ++ [x])) = i64s (l ++ [x]) := List.take_of_length_le (by simp)
  have hv : ∀ d h, lendVL d (i64s (l ++ [x])) h = some (i64s (l ++ [x])) := fun d h => lendVL_plain (plainL_ints d _ _)
  have hc : ((i64s l).all fun e => (cellsOf e).length == 1 && (cellsOf e).all isSc) = true := by simp [cellsOf, isSc]
  have hg : (i64s l ++ [AVal.int .i64 0])[l.length]? = some (.int .i64 0) := by simp
  have hs : (i64s l ++ [AVal.int .i64 0]).set l.length (.int .i64 x) = i64s (l ++ [x]) := by simp
  simp (disch := first | omega | simp only [*, go_sem, tm0, ↓reduceIte, Nat.reduceAdd, Nat.reduceMul, Nat.reduceSub, Nat.reduceLeDiff, Nat.reduceLT, Nat.reduceEqDiff, Int.reduceLT, Int.reduceLE, Int.reduceAdd, Int.reduceSub, Int.reduceMul, Int.reduceToNat, Int.reducePow, Int.reduceNe, Int.reduceMod, Int.reduceDiv, ne_eq, Int.reduceEq, not_false_eq_true, Nat.reducePow, List.length_append, List.length_replicate, List.replicate_succ, List.replicate_zero, Int.cast_ofNat_Int]) only [x24b, go_sem, tm0, ↓reduceIte, Nat.reduceAdd, Nat.reduceMul, Nat.reduceSub, Nat.reduceLeDiff, Nat.reduceLT, Nat.reduceEqDiff, Int.reduceLT, Int.reduceLE, Int.reduceAdd, Int.reduceSub, Int.reduceMul, Int.reduceToNat, Int.reducePow, Int.reduceNe, Int.reduceMod, Int.reduceDiv, ne_eq, Int.reduceEq, not_false_eq_true, Nat.reducePow, List.length_append, List.length_replicate, List.replicate_succ, List.replicate_zero, Int.cast_ofNat_Int, ha.sc, ha.cells, ha.len, ha.elems, ht, ht2, List.length_map, hd, hc, hg, hs, Int.toNat_natCast, Nat.zero_add]
  refine Cd_split (fun h => ?_) (fun h => ?_)
  · simp (disch := first | omega | simp only [*, go_sem, tm0, ↓reduceIte, Nat.reduceAdd, Nat.reduceMul, Nat.reduceSub, Nat.reduceLeDiff, Nat.reduceLT, Nat.reduceEqDiff, Int.reduceLT, Int.reduceLE, Int.reduceAdd, Int.reduceSub, Int.reduceMul, Int.reduceToNat, Int.reducePow, Int.reduceNe, Int.reduceMod, Int.reduceDiv, ne_eq, Int.reduceEq, not_false_eq_true, Nat.reducePow, List.length_append, List.length_replicate, List.replicate_succ, List.replicate_zero, Int.cast_ofNat_Int]) only [h, go_sem, tm0, ↓reduceIte, Nat.reduceAdd, Nat.reduceMul, Nat.reduceSub, Nat.reduceLeDiff, Nat.reduceLT, Nat.reduceEqDiff, Int.reduceLT, Int.reduceLE, Int.reduceAdd, Int.reduceSub, Int.reduceMul, Int.reduceToNat, Int.reducePow, Int.reduceNe, Int.reduceMod, Int.reduceDiv, ne_eq, Int.reduceEq, not_false_eq_true, Nat.reducePow, List.length_append, List.length_replicate, List.replicate_succ, List.replicate_zero, Int.cast_ofNat_Int, ha.sc, ha.cells]
    simp only [decide_eq_true_eq] at h
    rw [Ends_eq, if_pos (by omega)]
    simp (disch := first | omega | simp only [*, go_sem, tm0, ↓reduceIte, Nat.reduceAdd, Nat.reduceMul, Nat.reduceSub, Nat.reduceLeDiff, Nat.reduceLT, Nat.reduceEqDiff, Int.reduceLT, Int.reduceLE, Int.reduceAdd, Int.reduceSub, Int.reduceMul, Int.reduceToNat, Int.reducePow, Int.reduceNe, Int.reduceMod, Int.reduceDiv, ne_eq, Int.reduceEq, not_false_eq_true, Nat.reducePow, List.length_append, List.length_replicate, List.replicate_succ, List.replicate_zero, Int.cast_ofNat_Int]) only [go_sem, tm0, ↓reduceIte, Nat.reduceAdd, Nat.reduceMul, Nat.reduceSub, Nat.reduceLeDiff, Nat.reduceLT, Nat.reduceEqDiff, Int.reduceLT, Int.reduceLE, Int.reduceAdd, Int.reduceSub, Int.reduceMul, Int.reduceToNat, Int.reducePow, Int.reduceNe, Int.reduceMod, Int.reduceDiv, ne_eq, Int.reduceEq, not_false_eq_true, Nat.reducePow, List.length_append, List.length_replicate, List.replicate_succ, List.replicate_zero, Int.cast_ofNat_Int, List.length_map, Nat.zero_add, Nat.le_refl, hk, hv]
  · simp (disch := first | omega | simp only [*, go_sem, tm0, ↓reduceIte, Nat.reduceAdd, Nat.reduceMul, Nat.reduceSub, Nat.reduceLeDiff, Nat.reduceLT, Nat.reduceEqDiff, Int.reduceLT, Int.reduceLE, Int.reduceAdd, Int.reduceSub, Int.reduceMul, Int.reduceToNat, Int.reducePow, Int.reduceNe, Int.reduceMod, Int.reduceDiv, ne_eq, Int.reduceEq, not_false_eq_true, Nat.reducePow, List.length_append, List.length_replicate, List.replicate_succ, List.replicate_zero, Int.cast_ofNat_Int]) only [h, go_sem, tm0, ↓reduceIte, Nat.reduceAdd, Nat.reduceMul, Nat.reduceSub, Nat.reduceLeDiff, Nat.reduceLT, Nat.reduceEqDiff, Int.reduceLT, Int.reduceLE, Int.reduceAdd, Int.reduceSub, Int.reduceMul, Int.reduceToNat, Int.reducePow, Int.reduceNe, Int.reduceMod, Int.reduceDiv, ne_eq, Int.reduceEq, not_false_eq_true, Nat.reducePow, List.length_append, List.length_replicate, List.replicate_succ, List.replicate_zero, Int.cast_ofNat_Int, ha.sc, ha.cells]
    simp only [decide_eq_false_iff_not] at h
    rw [Ends_eq, if_neg (by omega)]
    simp (disch := first | omega | simp only [*, go_sem, tm0, ↓reduceIte, Nat.reduceAdd, Nat.reduceMul, Nat.reduceSub, Nat.reduceLeDiff, Nat.reduceLT, Nat.reduceEqDiff, Int.reduceLT, Int.reduceLE, Int.reduceAdd, Int.reduceSub, Int.reduceMul, Int.reduceToNat, Int.reducePow, Int.reduceNe, Int.reduceMod, Int.reduceDiv, ne_eq, Int.reduceEq, not_false_eq_true, Nat.reducePow, List.length_append, List.length_replicate, List.replicate_succ, List.replicate_zero, Int.cast_ofNat_Int]) only [go_sem, tm0, ↓reduceIte, Nat.reduceAdd, Nat.reduceMul, Nat.reduceSub, Nat.reduceLeDiff, Nat.reduceLT, Nat.reduceEqDiff, Int.reduceLT, Int.reduceLE, Int.reduceAdd, Int.reduceSub, Int.reduceMul, Int.reduceToNat, Int.reducePow, Int.reduceNe, Int.reduceMod, Int.reduceDiv, ne_eq, Int.reduceEq, not_false_eq_true, Nat.reducePow, List.length_append, List.length_replicate, List.replicate_succ, List.replicate_zero, Int.cast_ofNat_Int, List.length_map, Nat.zero_add, Nat.le_refl, hk, hv]
theorem sound24 : Sound Try.prog 24 F24 := sound_at ok2 0 fun xs r h => by
  unfold F24 at h
  split at h
  · split at h
    · rename_i hi
      split at h
      · rename_i hc
        rw [step24 (rowI_inv hi) hc]
        simp only [F24, hi, if_pos hc]
        exact h
      · cases h
    · cases h
  · cases h
theorem step21 {s lo hi x : Int} {a : AVal} {l : List Int} (ha : Rw a l) (hl : l.length ≤ 1000000) : pureF C2 1 21 [G s lo hi a, .int .i64 x] = F24 [G s lo hi a, .int .i64 x] := by
  have ap := ha.plain
  have e : F24 [G s lo hi a, .int .i64 x] = some (if (l.length : Int) + 1 = s then .tup [G s lo hi .nils, rowOf (l ++ [x])] else .tup [G s lo hi (rowOf (l ++ [x])), .nils]) := by
    simp only [F24, rowI_eq ha]
    exact if_pos hl
  rw [e]
  refine pureF_of (x := x21) rfl rfl ?_
  rw [x21_eq.1, x21_eq.2.1]
  have hk : List.take (l.length + 1) (i64s l ++ [.int .i64 x]) = i64s (l ++ [x]) := by rw [List.take_of_length_le (by simp)]; simp
  have hv : ∀ d h, lendVL d (i64s (l ++ [x])) h = some (i64s (l ++ [x])) := fun d h => lendVL_plain (plainL_ints d _ _)
  have hc2 : ((i64s l).all fun e => (cellsOf e).all isSc) = true := by simp [cellsOf, isSc]
  have hla : lendA (i64s l) = fun h => some (i64s l, []) := funext fun h => lendA_plain (plainL_ints _ _ _)
  simp (disch := first | omega | simp only [*, go_sem, tm0, ↓reduceIte, Nat.reduceAdd, Nat.reduceMul, Nat.reduceSub, Nat.reduceLeDiff, Nat.reduceLT, Nat.reduceEqDiff, Int.reduceLT, Int.reduceLE, Int.reduceAdd, Int.reduceSub, Int.reduceMul, Int.reduceToNat, Int.reducePow, Int.reduceNe, Int.reduceMod, Int.reduceDiv, ne_eq, Int.reduceEq, not_false_eq_true, Nat.reducePow, List.length_append, List.length_replicate, List.replicate_succ, List.replicate_zero, Int.cast_ofNat_Int]) only [x21b, go_sem, tm0, ↓reduceIte, Nat.reduceAdd, Nat.reduceMul, Nat.reduceSub, Nat.reduceLeDiff, Nat.reduceLT, Nat.reduceEqDiff, Int.reduceLT, Int.reduceLE, Int.reduceAdd, Int.reduceSub, Int.reduceMul, Int.reduceToNat, Int.reducePow, Int.reduceNe, Int.reduceMod, Int.reduceDiv, ne_eq, Int.reduceEq, not_false_eq_true, Nat.reducePow, List.length_append, List.length_replicate, List.replicate_succ, List.replicate_zero, Int.cast_ofNat_Int, ha.sc, ha.cells, ha.len, ha.elems, hla, hc2, List.length_map, Int.toNat_natCast, Nat.zero_add]
  refine Cd_split (fun h => ?_) (fun h => ?_)
  · simp (disch := first | omega | simp only [*, go_sem, tm0, ↓reduceIte, Nat.reduceAdd, Nat.reduceMul, Nat.reduceSub, Nat.reduceLeDiff, Nat.reduceLT, Nat.reduceEqDiff, Int.reduceLT, Int.reduceLE, Int.reduceAdd, Int.reduceSub, Int.reduceMul, Int.reduceToNat, Int.reducePow, Int.reduceNe, Int.reduceMod, Int.reduceDiv, ne_eq, Int.reduceEq, not_false_eq_true, Nat.reducePow, List.length_append, List.length_replicate, List.replicate_succ, List.replicate_zero, Int.cast_ofNat_Int]) only [h, go_sem, tm0, ↓reduceIte, Nat.reduceAdd, Nat.reduceMul, Nat.reduceSub, Nat.reduceLeDiff, Nat.reduceLT, Nat.reduceEqDiff, Int.reduceLT, Int.reduceLE, Int.reduceAdd, Int.reduceSub, Int.reduceMul, Int.reduceToNat, Int.reducePow, Int.reduceNe, Int.reduceMod, Int.reduceDiv, ne_eq, Int.reduceEq, not_false_eq_true, Nat.reducePow, List.length_append, List.length_replicate, List.replicate_succ, List.replicate_zero, Int.cast_ofNat_Int, ha.sc, ha.cells]
    simp only [decide_eq_true_eq] at h
    rw [Ends_eq, if_pos (by omega)]
    simp (disch := first | omega | simp only [*, go_sem, tm0, ↓reduceIte, Nat.reduceAdd, Nat.reduceMul, Nat.reduceSub, Nat.reduceLeDiff, Nat.reduceLT, Nat.reduceEqDiff, Int.reduceLT, Int.reduceLE, Int.reduceAdd, Int.reduceSub, Int.reduceMul, Int.reduceToNat, Int.reducePow, Int.reduceNe, Int.reduceMod, Int.reduceDiv, ne_eq, Int.reduceEq, not_false_eq_true, Nat.reducePow, List.length_append, List.length_replicate, List.replicate_succ, List.replicate_zero, Int.cast_ofNat_Int]) only [go_sem, tm0, ↓reduceIte, Nat.reduceAdd, Nat.reduceMul, Nat.reduceSub, Nat.reduceLeDiff, Nat.reduceLT, Nat.reduceEqDiff, Int.reduceLT, Int.reduceLE, Int.reduceAdd, Int.reduceSub, Int.reduceMul, Int.reduceToNat, Int.reducePow, Int.reduceNe, Int.reduceMod, Int.reduceDiv, ne_eq, Int.reduceEq, not_false_eq_true, Nat.reducePow, List.length_append, List.length_replicate, List.replicate_succ, List.replicate_zero, Int.cast_ofNat_Int, List.length_map, Nat.zero_add, Nat.le_refl, hk, hv]
  · simp (disch := first | omega | simp only [*, go_sem, tm0, ↓reduceIte, Nat.reduceAdd, Nat.reduceMul, Nat.reduceSub, Nat.reduceLeDiff, Nat.reduceLT, Nat.reduceEqDiff, Int.reduceLT, Int.reduceLE, Int.reduceAdd, Int.reduceSub, Int.reduceMul, Int.reduceToNat, Int.reducePow, Int.reduceNe, Int.reduceMod, Int.reduceDiv, ne_eq, Int.reduceEq, not_false_eq_true, Nat.reducePow, List.length_append, List.length_replicate, List.replicate_succ, List.replicate_zero, Int.cast_ofNat_Int]) only [h, go_sem, tm0, ↓reduceIte, Nat.reduceAdd, Nat.reduceMul, Nat.reduceSub, Nat.reduceLeDiff, Nat.reduceLT, Nat.reduceEqDiff, Int.reduceLT, Int.reduceLE, Int.reduceAdd, Int.reduceSub, Int.reduceMul, Int.reduceToNat, Int.reducePow, Int.reduceNe, Int.reduceMod, Int.reduceDiv, ne_eq, Int.reduceEq, not_false_eq_true, Nat.reducePow, List.length_append, List.length_replicate, List.replicate_succ, List.replicate_zero, Int.cast_ofNat_Int, ha.sc, ha.cells]
    simp only [decide_eq_false_iff_not] at h
    rw [Ends_eq, if_neg (by omega)]
    simp (disch := first | omega | simp only [*, go_sem, tm0, ↓reduceIte, Nat.reduceAdd, Nat.reduceMul, Nat.reduceSub, Nat.reduceLeDiff, Nat.reduceLT, Nat.reduceEqDiff, Int.reduceLT, Int.reduceLE, Int.reduceAdd, Int.reduceSub, Int.reduceMul, Int.reduceToNat, Int.reducePow, Int.reduceNe, Int.reduceMod, Int.reduceDiv, ne_eq, Int.reduceEq, not_false_eq_true, Nat.reducePow, List.length_append, List.length_replicate, List.replicate_succ, List.replicate_zero, Int.cast_ofNat_Int]) only [go_sem, tm0, ↓reduceIte, Nat.reduceAdd, Nat.reduceMul, Nat.reduceSub, Nat.reduceLeDiff, Nat.reduceLT, Nat.reduceEqDiff, Int.reduceLT, Int.reduceLE, Int.reduceAdd, Int.reduceSub, Int.reduceMul, Int.reduceToNat, Int.reducePow, Int.reduceNe, Int.reduceMod, Int.reduceDiv, ne_eq, Int.reduceEq, not_false_eq_true, Nat.reducePow, List.length_append, List.length_replicate, List.replicate_succ, List.replicate_zero, Int.cast_ofNat_Int, List.length_map, Nat.zero_add, Nat.le_refl, hk, hv]
theorem sound21 : Sound Try.prog 21 F24 := sound_at ok2 0 fun xs r h => by
  unfold F24 at h
  split at h
  · split at h
    · rename_i hi
      split at h
      · rename_i hc
        rw [step21 (rowI_inv hi) hc]
        simp only [F24, hi, if_pos hc]
        exact h
      · cases h
    · cases h
  · cases h
end Go.Proofs.Ytplmnikmdcnebaa
