/-
  Groups that are the same; few samples at the start.
-/
import Derived.Test.YtplmnikmdcnebaaYD
set_option linter.unusedVariables false
set_option linter.unusedSimpArgs false
namespace Go.Proofs.Ytplmnikmdcnebaa
open Go Go.Xec

set_option maxRecDepth 10000
def C3 : Cfg := (((C2.add 16 F16).add 15 F15).add 24 F24).add 21 F24
theorem ok3 : CfgOk Try.prog C3 := (((ok2.add sound16).add sound15).add sound24).add sound21

/-- few. -/
def F7 : List AVal → Option AVal
  | [.agg [.int .i64 s, .int .i64 lo, .int .i64 hi, a]] => match rowI a with
    | some l => if Lg l then some (G s lo hi (rwTake (min l.length 12) a)) else none
    | none => none
  | _ => none
theorem F7_eq {s lo hi : Int} {a : AVal} {l : List Int} (h : Rw a l) (hl : Lg l) : F7 [G s lo hi a] = some (G s lo hi (rwTake (min l.length 12) a)) := by
  simp only [F7, rowI_eq h]
  exact if_pos hl
theorem mnx_min (n : Nat) : mnxA false (.int .i64 n) [.int .i64 12] = some (.int .i64 ((min n 12 : Nat) : Int)) := by
  simp only [mnxA, Bool.false_eq_true, if_false]
  congr 2
  split <;> omega
theorem step7 {s lo hi : Int} {a : AVal} {l : List Int} (ha : Rw a l) (hl : Lg l) : pureF C3 1 7 [G s lo hi a] = some (G s lo hi (rwTake (min l.length 12) a)) := by
  have ht := ha.take (min l.length 12)
  have ap := ha.plain
  have tp := ht.plain
  have hs := ha.sliceTo (n := min l.length 12) (Nat.min_le_left _ _)
  refine pureF_of (x := x7) rfl rfl ?_
  rw [x7_eq.1, x7_eq.2.1]
  simp (disch := first | omega | simp only [*, go_sem, tm0, ↓reduceIte, Nat.reduceAdd, Nat.reduceMul, Nat.reduceSub, Nat.reduceLeDiff, Nat.reduceLT, Nat.reduceEqDiff, Int.reduceLT, Int.reduceLE, Int.reduceAdd, Int.reduceSub, Int.reduceMul, Int.reduceToNat, Int.reducePow, Int.reduceNe, Int.reduceMod, Int.reduceDiv, ne_eq, Int.reduceEq, not_false_eq_true, Nat.reducePow, List.length_append, List.length_replicate, List.replicate_succ, List.replicate_zero, Int.cast_ofNat_Int]) only [x7b, go_sem, tm0, ↓reduceIte, Nat.reduceAdd, Nat.reduceMul, Nat.reduceSub, Nat.reduceLeDiff, Nat.reduceLT, Nat.reduceEqDiff, Int.reduceLT, Int.reduceLE, Int.reduceAdd, Int.reduceSub, Int.reduceMul, Int.reduceToNat, Int.reducePow, Int.reduceNe, Int.reduceMod, Int.reduceDiv, ne_eq, Int.reduceEq, not_false_eq_true, Nat.reducePow, List.length_append, List.length_replicate, List.replicate_succ, List.replicate_zero, Int.cast_ofNat_Int, ha.sc, ha.cells, ha.len, ht.sc, ht.cells, mnx_min, hs, Option.map_some, Option.map_none]
  rw [Ends_eq]
  simp (disch := first | omega | simp only [*, go_sem, tm0, ↓reduceIte, Nat.reduceAdd, Nat.reduceMul, Nat.reduceSub, Nat.reduceLeDiff, Nat.reduceLT, Nat.reduceEqDiff, Int.reduceLT, Int.reduceLE, Int.reduceAdd, Int.reduceSub, Int.reduceMul, Int.reduceToNat, Int.reducePow, Int.reduceNe, Int.reduceMod, Int.reduceDiv, ne_eq, Int.reduceEq, not_false_eq_true, Nat.reducePow, List.length_append, List.length_replicate, List.replicate_succ, List.replicate_zero, Int.cast_ofNat_Int]) only [go_sem, tm0, ↓reduceIte, Nat.reduceAdd, Nat.reduceMul, Nat.reduceSub, Nat.reduceLeDiff, Nat.reduceLT, Nat.reduceEqDiff, Int.reduceLT, Int.reduceLE, Int.reduceAdd, Int.reduceSub, Int.reduceMul, Int.reduceToNat, Int.reducePow, Int.reduceNe, Int.reduceMod, Int.reduceDiv, ne_eq, Int.reduceEq, not_false_eq_true, Nat.reducePow, List.length_append, List.length_replicate, List.replicate_succ, List.replicate_zero, Int.cast_ofNat_Int]
theorem sound7 : Sound Try.prog 7 F7 := sound_at ok3 0 fun xs r h => by
  unfold F7 at h
  split at h
  · split at h
    · rename_i hi
      split at h
      · rename_i hc
        cases h
        exact step7 (rowI_inv hi) hc
      · cases h
    · cases h
  · cases h

/-- Same. -/
def F11 : List AVal → Option AVal
  | [.agg [.int .i64 s, .int .i64 lo, .int .i64 hi, a], .agg [.int .i64 s', .int .i64 lo', .int .i64 hi', b]] => match rowI a, rowI b with
    | some l, some m => if Lg l ∧ Lg m then some (.bool (decide (s = s' ∧ lo = lo' ∧ hi = hi' ∧ l = m))) else none
    | _, _ => none
  | _ => none
theorem F11_eq {s lo hi s' lo' hi' : Int} {a b : AVal} {l m : List Int} (ha : Rw a l) (hb : Rw b m) (h1 : Lg l) (h2 : Lg m) : F11 [G s lo hi a, G s' lo' hi' b] = some (.bool (decide (s = s' ∧ lo = lo' ∧ hi = hi' ∧ l = m))) := by
  simp only [F11, rowI_eq ha, rowI_eq hb]
  exact if_pos ⟨h1, h2⟩
theorem step11 {s lo hi s' lo' hi' : Int} {a b : AVal} {l m : List Int} (ha : Rw a l) (hb : Rw b m) (h1 : Lg l) (h2 : Lg m) : pureF C3 1 11 [G s lo hi a, G s' lo' hi' b] = some (.bool (decide (s = s' ∧ lo = lo' ∧ hi = hi' ∧ l = m))) := by
  have ap := ha.plain
  have bp := hb.plain
  have e := F14_eq ha hb h1 h2
  refine pureF_of (x := x11) rfl rfl ?_
  rw [x11_eq.1, x11_eq.2.1]
  simp (disch := first | omega | simp only [*, go_sem, tm0, ↓reduceIte, Nat.reduceAdd, Nat.reduceMul, Nat.reduceSub, Nat.reduceLeDiff, Nat.reduceLT, Nat.reduceEqDiff, Int.reduceLT, Int.reduceLE, Int.reduceAdd, Int.reduceSub, Int.reduceMul, Int.reduceToNat, Int.reducePow, Int.reduceNe, Int.reduceMod, Int.reduceDiv, ne_eq, Int.reduceEq, not_false_eq_true, Nat.reducePow, List.length_append, List.length_replicate, List.replicate_succ, List.replicate_zero, Int.cast_ofNat_Int]) only [x11b, go_sem, tm0, ↓reduceIte, Nat.reduceAdd, Nat.reduceMul, Nat.reduceSub, Nat.reduceLeDiff, Nat.reduceLT, Nat.reduceEqDiff, Int.reduceLT, Int.reduceLE, Int.reduceAdd, Int.reduceSub, Int.reduceMul, Int.reduceToNat, Int.reducePow, Int.reduceNe, Int.reduceMod, Int.reduceDiv, ne_eq, Int.reduceEq, not_false_eq_true, Nat.reducePow, List.length_append, List.length_replicate, List.replicate_succ, List.replicate_zero, Int.cast_ofNat_Int, ha.sc, ha.cells, hb.sc, hb.cells, callX_known (C := C3) (g := 14) rfl, ft_call (C := C3) (g := 14) rfl, e]
  repeat' (first | refine Ends_plain rfl ?_ | (first | refine Gd_split_t (fun h => ?_) (fun h => ?_) | refine Gd_split_f (fun h => ?_) (fun h => ?_) | refine Cd_split (fun h => ?_) (fun h => ?_)) <;> simp (disch := first | omega | simp only [*, go_sem, tm0, ↓reduceIte, Nat.reduceAdd, Nat.reduceMul, Nat.reduceSub, Nat.reduceLeDiff, Nat.reduceLT, Nat.reduceEqDiff, Int.reduceLT, Int.reduceLE, Int.reduceAdd, Int.reduceSub, Int.reduceMul, Int.reduceToNat, Int.reducePow, Int.reduceNe, Int.reduceMod, Int.reduceDiv, ne_eq, Int.reduceEq, not_false_eq_true, Nat.reducePow, List.length_append, List.length_replicate, List.replicate_succ, List.replicate_zero, Int.cast_ofNat_Int]) only [h, go_sem, tm0, ↓reduceIte, Nat.reduceAdd, Nat.reduceMul, Nat.reduceSub, Nat.reduceLeDiff, Nat.reduceLT, Nat.reduceEqDiff, Int.reduceLT, Int.reduceLE, Int.reduceAdd, Int.reduceSub, Int.reduceMul, Int.reduceToNat, Int.reducePow, Int.reduceNe, Int.reduceMod, Int.reduceDiv, ne_eq, Int.reduceEq, not_false_eq_true, Nat.reducePow, List.length_append, List.length_replicate, List.replicate_succ, List.replicate_zero, Int.cast_ofNat_Int, ha.sc, ha.cells, hb.sc, hb.cells, callX_known (C := C3) (g := 14) rfl, ft_call (C := C3) (g := 14) rfl, e])
  all_goals
    congr 1
    simp only [decide_eq_true_eq, decide_eq_false_iff_not] at *
    first
      | exact decide_eq_decide.2 (by simp_all)
      | exact (decide_eq_false (by simp_all)).symm
theorem sound11 : Sound Try.prog 11 F11 := sound_at ok3 0 fun xs r h => by
  unfold F11 at h
  split at h
  · split at h
    · rename_i h1 h2
      split at h
      · rename_i hc
        cases h
        exact step11 (rowI_inv h1) (rowI_inv h2) hc.1 hc.2
      · cases h
    · cases h
  · cases h

/-- Rows. -/
abbrev Lgs (ls : List (List Int)) : Prop := ls.length ≤ 140737488355328 ∧ ∀ l ∈ ls, Lg l
open Classical in
def F13 : List AVal → Option AVal
  | [a, b] => match rowsI a, rowsI b with
    | some l, some m => if Lgs l ∧ Lgs m then some (.bool (decide (l = m))) else none
    | _, _ => none
  | _ => none
theorem F13_eq {a b : AVal} {l m : List (List Int)} (ha : Rws a l) (hb : Rws b m) (h1 : Lgs l) (h2 : Lgs m) : F13 [a, b] = some (.bool (decide (l = m))) := by
  simp only [F13, rowsI_eq ha, rowsI_eq hb]
  rw [if_pos ⟨h1, h2⟩]
theorem getD_exts {l m : List (List Int)} (hlen : l.length = m.length) (h : ∀ i, i < l.length → l.getD i [] = m.getD i []) : l = m := by
  refine List.ext_getElem hlen fun i hi hi' => ?_
  have := h i hi
  simpa [List.getD_eq_getElem?_getD, List.getElem?_eq_getElem hi, List.getElem?_eq_getElem hi'] using this
theorem getD_mem {l : List (List Int)} {i : Nat} (hi : i < l.length) : l.getD i [] ∈ l := by
  rw [List.getD_eq_getElem?_getD, List.getElem?_eq_getElem hi]
  exact List.getElem_mem hi
theorem step13 {a b : AVal} {l m : List (List Int)} (ha : Rws a l) (hb : Rws b m) (h1 : Lgs l) (h2 : Lgs m) : pureF C3 1 13 [a, b] = some (.bool (decide (l = m))) := by
  refine pureF_of (x := x13) rfl rfl ?_
  rw [x13_eq.1, x13_eq.2.1]
  simp (disch := first | omega | simp only [go_sem, tm0, ↓reduceIte, Nat.reduceAdd, Nat.reduceMul, Nat.reduceSub, Nat.reduceLeDiff, Nat.reduceLT, Nat.reduceEqDiff, Int.reduceLT, Int.reduceLE, Int.reduceAdd, Int.reduceSub, Int.reduceMul, Int.reduceToNat, Int.reducePow, Int.reduceNe, Int.reduceMod, Int.reduceDiv, ne_eq, Int.reduceEq, not_false_eq_true, Nat.reducePow, List.length_append, List.length_replicate, List.replicate_succ, List.replicate_zero, Int.cast_ofNat_Int]) only [x13b, go_sem, tm0, ↓reduceIte, Nat.reduceAdd, Nat.reduceMul, Nat.reduceSub, Nat.reduceLeDiff, Nat.reduceLT, Nat.reduceEqDiff, Int.reduceLT, Int.reduceLE, Int.reduceAdd, Int.reduceSub, Int.reduceMul, Int.reduceToNat, Int.reducePow, Int.reduceNe, Int.reduceMod, Int.reduceDiv, ne_eq, Int.reduceEq, not_false_eq_true, Nat.reducePow, List.length_append, List.length_replicate, List.replicate_succ, List.replicate_zero, Int.cast_ofNat_Int, ha.len, hb.len]
  have g1 := h1.1
  have g2 := h2.1
  refine Cd_split (fun h => ?_) (fun h => ?_)
  · simp (disch := first | omega | simp only [go_sem, tm0, ↓reduceIte, Nat.reduceAdd, Nat.reduceMul, Nat.reduceSub, Nat.reduceLeDiff, Nat.reduceLT, Nat.reduceEqDiff, Int.reduceLT, Int.reduceLE, Int.reduceAdd, Int.reduceSub, Int.reduceMul, Int.reduceToNat, Int.reducePow, Int.reduceNe, Int.reduceMod, Int.reduceDiv, ne_eq, Int.reduceEq, not_false_eq_true, Nat.reducePow, List.length_append, List.length_replicate, List.replicate_succ, List.replicate_zero, Int.cast_ofNat_Int]) only [go_sem, tm0, ↓reduceIte, Nat.reduceAdd, Nat.reduceMul, Nat.reduceSub, Nat.reduceLeDiff, Nat.reduceLT, Nat.reduceEqDiff, Int.reduceLT, Int.reduceLE, Int.reduceAdd, Int.reduceSub, Int.reduceMul, Int.reduceToNat, Int.reducePow, Int.reduceNe, Int.reduceMod, Int.reduceDiv, ne_eq, Int.reduceEq, not_false_eq_true, Nat.reducePow, List.length_append, List.length_replicate, List.replicate_succ, List.replicate_zero, Int.cast_ofNat_Int]
    refine Ends_plain rfl ?_
    congr 1
    simp only [decide_eq_true_eq] at h
    refine (decide_eq_false fun e => h ?_).symm
    rw [e]
  · have hl : l.length = m.length := by
      simp only [decide_eq_false_iff_not] at h
      omega
    simp (disch := first | omega | simp only [go_sem, tm0, ↓reduceIte, Nat.reduceAdd, Nat.reduceMul, Nat.reduceSub, Nat.reduceLeDiff, Nat.reduceLT, Nat.reduceEqDiff, Int.reduceLT, Int.reduceLE, Int.reduceAdd, Int.reduceSub, Int.reduceMul, Int.reduceToNat, Int.reducePow, Int.reduceNe, Int.reduceMod, Int.reduceDiv, ne_eq, Int.reduceEq, not_false_eq_true, Nat.reducePow, List.length_append, List.length_replicate, List.replicate_succ, List.replicate_zero, Int.cast_ofNat_Int]) only [go_sem, tm0, ↓reduceIte, Nat.reduceAdd, Nat.reduceMul, Nat.reduceSub, Nat.reduceLeDiff, Nat.reduceLT, Nat.reduceEqDiff, Int.reduceLT, Int.reduceLE, Int.reduceAdd, Int.reduceSub, Int.reduceMul, Int.reduceToNat, Int.reducePow, Int.reduceNe, Int.reduceMod, Int.reduceDiv, ne_eq, Int.reduceEq, not_false_eq_true, Nat.reducePow, List.length_append, List.length_replicate, List.replicate_succ, List.replicate_zero, Int.cast_ofNat_Int, ha.len, hb.len]
    refine Ev_loop_inv (I := fun n st => ∃ (i : Nat) (tm : Nat → AVal) (hp : Heap) (nc : Nat), st = ⟨tm, hp, nc⟩ ∧ i ≤ l.length ∧ n = l.length - i ∧ tm 0 = a ∧ tm 1 = b ∧ tm 12 = .int .i64 l.length ∧ tm 13 = .int .i64 i ∧
      ∀ j, j < i → l.getD j [] = m.getD j []) (n := l.length) ?_ (by omega) ?_
    · refine ⟨0, _, _, _, rfl, by omega, rfl, ?_⟩
      simp only [go_sem, tm0, ↓reduceIte, Nat.reduceAdd, Nat.reduceMul, Nat.reduceSub, Nat.reduceLeDiff, Nat.reduceLT, Nat.reduceEqDiff, Int.reduceLT, Int.reduceLE, Int.reduceAdd, Int.reduceSub, Int.reduceMul, Int.reduceToNat, Int.reducePow, Int.reduceNe, Int.reduceMod, Int.reduceDiv, ne_eq, Int.reduceEq, not_false_eq_true, Nat.reducePow, List.length_append, List.length_replicate, List.replicate_succ, List.replicate_zero, Int.cast_ofNat_Int, List.getD_cons_zero]
      exact fun j hj => absurd hj (Nat.not_lt_zero j)
    · rintro n st ⟨i, tm, hp, nc, rfl, hi, rfl, k0, k1, k12, k13, hj⟩
      rcases Nat.lt_or_ge i l.length with hlt | hge
      · have d1 : decide ((i : Int) < (l.length : Int)) = true := decide_eq_true (by omega)
        obtain ⟨x, ia, hx⟩ := ha.ia hlt
        obtain ⟨y, ib, hy⟩ := hb.ia (hl ▸ hlt)
        have e14 := F14_eq hx hy (h1.2 _ (getD_mem hlt)) (h2.2 _ (getD_mem (hl ▸ hlt)))
        have xp := hx.plain
        have yp := hy.plain
        simp (disch := first | omega | simp only [*, go_sem, tm0, ↓reduceIte, Nat.reduceAdd, Nat.reduceMul, Nat.reduceSub, Nat.reduceLeDiff, Nat.reduceLT, Nat.reduceEqDiff, Int.reduceLT, Int.reduceLE, Int.reduceAdd, Int.reduceSub, Int.reduceMul, Int.reduceToNat, Int.reducePow, Int.reduceNe, Int.reduceMod, Int.reduceDiv, ne_eq, Int.reduceEq, not_false_eq_true, Nat.reducePow, List.length_append, List.length_replicate, List.replicate_succ, List.replicate_zero, Int.cast_ofNat_Int]) only [x13l4, go_sem, tm0, ↓reduceIte, Nat.reduceAdd, Nat.reduceMul, Nat.reduceSub, Nat.reduceLeDiff, Nat.reduceLT, Nat.reduceEqDiff, Int.reduceLT, Int.reduceLE, Int.reduceAdd, Int.reduceSub, Int.reduceMul, Int.reduceToNat, Int.reducePow, Int.reduceNe, Int.reduceMod, Int.reduceDiv, ne_eq, Int.reduceEq, not_false_eq_true, Nat.reducePow, List.length_append, List.length_replicate, List.replicate_succ, List.replicate_zero, Int.cast_ofNat_Int, k0, k1, k12, k13, d1, ia, ib, callX_known (C := C3) (g := 14) rfl, e14]
        by_cases e : l.getD i [] = m.getD i []
        · rw [decide_eq_true e]
          simp (disch := first | omega | simp only [go_sem, tm0, ↓reduceIte, Nat.reduceAdd, Nat.reduceMul, Nat.reduceSub, Nat.reduceLeDiff, Nat.reduceLT, Nat.reduceEqDiff, Int.reduceLT, Int.reduceLE, Int.reduceAdd, Int.reduceSub, Int.reduceMul, Int.reduceToNat, Int.reducePow, Int.reduceNe, Int.reduceMod, Int.reduceDiv, ne_eq, Int.reduceEq, not_false_eq_true, Nat.reducePow, List.length_append, List.length_replicate, List.replicate_succ, List.replicate_zero, Int.cast_ofNat_Int]) only [go_sem, tm0, ↓reduceIte, Nat.reduceAdd, Nat.reduceMul, Nat.reduceSub, Nat.reduceLeDiff, Nat.reduceLT, Nat.reduceEqDiff, Int.reduceLT, Int.reduceLE, Int.reduceAdd, Int.reduceSub, Int.reduceMul, Int.reduceToNat, Int.reducePow, Int.reduceNe, Int.reduceMod, Int.reduceDiv, ne_eq, Int.reduceEq, not_false_eq_true, Nat.reducePow, List.length_append, List.length_replicate, List.replicate_succ, List.replicate_zero, Int.cast_ofNat_Int, k0, k1, k12, k13]
          refine ⟨l.length - (i + 1), by omega, i + 1, _, _, _, rfl, by omega, rfl, ?_⟩
          simp (disch := first | omega | simp only [go_sem, tm0, ↓reduceIte, Nat.reduceAdd, Nat.reduceMul, Nat.reduceSub, Nat.reduceLeDiff, Nat.reduceLT, Nat.reduceEqDiff, Int.reduceLT, Int.reduceLE, Int.reduceAdd, Int.reduceSub, Int.reduceMul, Int.reduceToNat, Int.reducePow, Int.reduceNe, Int.reduceMod, Int.reduceDiv, ne_eq, Int.reduceEq, not_false_eq_true, Nat.reducePow, List.length_append, List.length_replicate, List.replicate_succ, List.replicate_zero, Int.cast_ofNat_Int]) only [go_sem, tm0, ↓reduceIte, Nat.reduceAdd, Nat.reduceMul, Nat.reduceSub, Nat.reduceLeDiff, Nat.reduceLT, Nat.reduceEqDiff, Int.reduceLT, Int.reduceLE, Int.reduceAdd, Int.reduceSub, Int.reduceMul, Int.reduceToNat, Int.reducePow, Int.reduceNe, Int.reduceMod, Int.reduceDiv, ne_eq, Int.reduceEq, not_false_eq_true, Nat.reducePow, List.length_append, List.length_replicate, List.replicate_succ, List.replicate_zero, Int.cast_ofNat_Int, k0, k1, k12, k13]
          refine ⟨by simp, fun j hj' => ?_⟩
          by_cases e' : j = i
          · subst e'; exact e
          · exact hj j (by omega)
        · rw [decide_eq_false e]
          simp (disch := first | omega | simp only [go_sem, tm0, ↓reduceIte, Nat.reduceAdd, Nat.reduceMul, Nat.reduceSub, Nat.reduceLeDiff, Nat.reduceLT, Nat.reduceEqDiff, Int.reduceLT, Int.reduceLE, Int.reduceAdd, Int.reduceSub, Int.reduceMul, Int.reduceToNat, Int.reducePow, Int.reduceNe, Int.reduceMod, Int.reduceDiv, ne_eq, Int.reduceEq, not_false_eq_true, Nat.reducePow, List.length_append, List.length_replicate, List.replicate_succ, List.replicate_zero, Int.cast_ofNat_Int]) only [go_sem, tm0, ↓reduceIte, Nat.reduceAdd, Nat.reduceMul, Nat.reduceSub, Nat.reduceLeDiff, Nat.reduceLT, Nat.reduceEqDiff, Int.reduceLT, Int.reduceLE, Int.reduceAdd, Int.reduceSub, Int.reduceMul, Int.reduceToNat, Int.reducePow, Int.reduceNe, Int.reduceMod, Int.reduceDiv, ne_eq, Int.reduceEq, not_false_eq_true, Nat.reducePow, List.length_append, List.length_replicate, List.replicate_succ, List.replicate_zero, Int.cast_ofNat_Int, k0, k1, k12, k13]
          refine Ends_plain rfl ?_
          congr 1
          exact (decide_eq_false fun e' => e (by rw [e'])).symm
      · obtain rfl : i = l.length := by omega
        have d1 : decide ((l.length : Int) < (l.length : Int)) = false := decide_eq_false (by omega)
        simp (disch := first | omega | simp only [go_sem, tm0, ↓reduceIte, Nat.reduceAdd, Nat.reduceMul, Nat.reduceSub, Nat.reduceLeDiff, Nat.reduceLT, Nat.reduceEqDiff, Int.reduceLT, Int.reduceLE, Int.reduceAdd, Int.reduceSub, Int.reduceMul, Int.reduceToNat, Int.reducePow, Int.reduceNe, Int.reduceMod, Int.reduceDiv, ne_eq, Int.reduceEq, not_false_eq_true, Nat.reducePow, List.length_append, List.length_replicate, List.replicate_succ, List.replicate_zero, Int.cast_ofNat_Int]) only [x13l4, go_sem, tm0, ↓reduceIte, Nat.reduceAdd, Nat.reduceMul, Nat.reduceSub, Nat.reduceLeDiff, Nat.reduceLT, Nat.reduceEqDiff, Int.reduceLT, Int.reduceLE, Int.reduceAdd, Int.reduceSub, Int.reduceMul, Int.reduceToNat, Int.reducePow, Int.reduceNe, Int.reduceMod, Int.reduceDiv, ne_eq, Int.reduceEq, not_false_eq_true, Nat.reducePow, List.length_append, List.length_replicate, List.replicate_succ, List.replicate_zero, Int.cast_ofNat_Int, k0, k1, k12, k13, d1]
        refine Ends_plain rfl ?_
        congr 1
        exact (decide_eq_true (getD_exts hl hj)).symm
theorem sound13 : Sound Try.prog 13 F13 := sound_at ok3 0 fun xs r h => by
  unfold F13 at h
  split at h
  · split at h
    · rename_i h1 h2
      split at h
      · rename_i hc
        cases h
        exact step13 (rowsI_inv h1) (rowsI_inv h2) hc.1 hc.2
      · cases h
    · cases h
  · cases h
end Go.Proofs.Ytplmnikmdcnebaa
