/-
  A scan: the document's.
-/
import Derived.Test.YtjcjlgiigjckeaaDoorYF
set_option linter.unusedVariables false
set_option linter.unusedSimpArgs false
namespace Go.Proofs.YtjcjlgiigjckeaaDoor
open Go Go.Xec

set_option maxRecDepth 10000
noncomputable def F21 : List AVal → Option AVal := pureF C2 1 21
theorem sound21 : Sound Tryd.prog 21 F21 := sound_self ok2 1 21
theorem F21_eq {s : List UInt8} {i : Nat} (hi : i < s.length) (hs : s.length ≤ 100000) : F21 [sv s, .int .i64 i] = some (.int .i64 (blk (s.drop i) : Nat)) := by
  have ix := str_ixN .i64 hi
  rw [drop_cons hi]
  unfold F21
  refine pureF_of (x := x21) rfl rfl ?_
  rw [x21_eq.1, x21_eq.2.1]
  by_cases hb : spB (s.getD i 0)
  · have : blk (s.getD i 0 :: s.drop (i + 1)) = 1 := by rw [blk, if_pos hb]
    rw [this]
    rcases hb with e | e | e | e <;>
    · simp (disch := first | omega | simp only [go_sem, tm0, ↓reduceIte, Nat.reduceAdd, Nat.reduceMul, Nat.reduceSub, Nat.reduceLeDiff, Nat.reduceLT, Nat.reduceEqDiff, Int.reduceLT, Int.reduceLE, Int.reduceAdd, Int.reduceSub, Int.reduceMul, Int.reduceToNat, Int.reducePow, Int.reduceNe, Int.reduceMod, Int.reduceDiv, ne_eq, Int.reduceEq, not_false_eq_true, Nat.reducePow, List.length_append, List.length_replicate, List.replicate_succ, List.replicate_zero, Int.cast_ofNat_Int, not_true_eq_false, decide_true, decide_false, ite_self, beq_self_eq_true, Bool.true_beq, Bool.false_beq, Bool.not_true, Bool.not_false, Int.reduceNeg, dropK_eq]) only [x21b, go_sem, tm0, ↓reduceIte, Nat.reduceAdd, Nat.reduceMul, Nat.reduceSub, Nat.reduceLeDiff, Nat.reduceLT, Nat.reduceEqDiff, Int.reduceLT, Int.reduceLE, Int.reduceAdd, Int.reduceSub, Int.reduceMul, Int.reduceToNat, Int.reducePow, Int.reduceNe, Int.reduceMod, Int.reduceDiv, ne_eq, Int.reduceEq, not_false_eq_true, Nat.reducePow, List.length_append, List.length_replicate, List.replicate_succ, List.replicate_zero, Int.cast_ofNat_Int, not_true_eq_false, decide_true, decide_false, ite_self, beq_self_eq_true, Bool.true_beq, Bool.false_beq, Bool.not_true, Bool.not_false, Int.reduceNeg, dropK_eq, ix, e]
      exact Ends_plain rfl rfl
  · have hb1 := hb
    simp only [spB, not_or] at hb1
    have d1 := decide_eq_false hb1.1
    have d2 := decide_eq_false hb1.2.1
    have d3 := decide_eq_false hb1.2.2.1
    have d4 := decide_eq_false hb1.2.2.2
    by_cases h35 : ((s.getD i 0).toNat : Int) = 35
    · have d5 : decide (¬ ((s.getD i 0).toNat : Int) = 35) = false := decide_eq_false (by simpa using h35)
      simp (disch := first | omega | simp only [go_sem, tm0, ↓reduceIte, Nat.reduceAdd, Nat.reduceMul, Nat.reduceSub, Nat.reduceLeDiff, Nat.reduceLT, Nat.reduceEqDiff, Int.reduceLT, Int.reduceLE, Int.reduceAdd, Int.reduceSub, Int.reduceMul, Int.reduceToNat, Int.reducePow, Int.reduceNe, Int.reduceMod, Int.reduceDiv, ne_eq, Int.reduceEq, not_false_eq_true, Nat.reducePow, List.length_append, List.length_replicate, List.replicate_succ, List.replicate_zero, Int.cast_ofNat_Int, not_true_eq_false, decide_true, decide_false, ite_self, beq_self_eq_true, Bool.true_beq, Bool.false_beq, Bool.not_true, Bool.not_false, Int.reduceNeg, dropK_eq]) only [x21b, go_sem, tm0, ↓reduceIte, Nat.reduceAdd, Nat.reduceMul, Nat.reduceSub, Nat.reduceLeDiff, Nat.reduceLT, Nat.reduceEqDiff, Int.reduceLT, Int.reduceLE, Int.reduceAdd, Int.reduceSub, Int.reduceMul, Int.reduceToNat, Int.reducePow, Int.reduceNe, Int.reduceMod, Int.reduceDiv, ne_eq, Int.reduceEq, not_false_eq_true, Nat.reducePow, List.length_append, List.length_replicate, List.replicate_succ, List.replicate_zero, Int.cast_ofNat_Int, not_true_eq_false, decide_true, decide_false, ite_self, beq_self_eq_true, Bool.true_beq, Bool.false_beq, Bool.not_true, Bool.not_false, Int.reduceNeg, dropK_eq, ix, d1, d2, d3, d4, d5]
      refine Ev_range (ti := 6) (len := s.length - i) (J := fun k tm hp nc => ∀ j, i ≤ j → j < i + k → inB (s.getD j 0) = true) (by omega) (by simp only [go_sem, tm0, ↓reduceIte, Nat.reduceAdd, Nat.reduceMul, Nat.reduceSub, Nat.reduceLeDiff, Nat.reduceLT, Nat.reduceEqDiff, Int.reduceLT, Int.reduceLE, Int.reduceAdd, Int.reduceSub, Int.reduceMul, Int.reduceToNat, Int.reducePow, Int.reduceNe, Int.reduceMod, Int.reduceDiv, ne_eq, Int.reduceEq, not_false_eq_true, Nat.reducePow, List.length_append, List.length_replicate, List.replicate_succ, List.replicate_zero, Int.cast_ofNat_Int, not_true_eq_false, decide_true, decide_false, ite_self, beq_self_eq_true, Bool.true_beq, Bool.false_beq, Bool.not_true, Bool.not_false, Int.reduceNeg, dropK_eq]) (fun j h1 h2 => by omega) ?_
      intro k tm hp nc hkl hc k6 hj
      have k0 := hc 0 rfl; have k1 := hc 1 rfl; simp only [go_sem, tm0, ↓reduceIte, Nat.reduceAdd, Nat.reduceMul, Nat.reduceSub, Nat.reduceLeDiff, Nat.reduceLT, Nat.reduceEqDiff, Int.reduceLT, Int.reduceLE, Int.reduceAdd, Int.reduceSub, Int.reduceMul, Int.reduceToNat, Int.reducePow, Int.reduceNe, Int.reduceMod, Int.reduceDiv, ne_eq, Int.reduceEq, not_false_eq_true, Nat.reducePow, List.length_append, List.length_replicate, List.replicate_succ, List.replicate_zero, Int.cast_ofNat_Int, not_true_eq_false, decide_true, decide_false, ite_self, beq_self_eq_true, Bool.true_beq, Bool.false_beq, Bool.not_true, Bool.not_false, Int.reduceNeg, dropK_eq] at k0 k1
      rcases Nat.lt_or_ge (i + k) s.length with hlt | hge
      · have e1 : decide ((i : Int) + (k : Int) < (s.length : Int)) = true := decide_eq_true (by omega)
        have ix2 := str_ixN .i64 hlt
        rw [Int.natCast_add] at ix2
        cases hin : inB (s.getD (i + k) 0) with
        | true =>
          have e2 := hin
          simp only [inB] at e2
          simp (disch := first | omega | simp only [go_sem, tm0, ↓reduceIte, Nat.reduceAdd, Nat.reduceMul, Nat.reduceSub, Nat.reduceLeDiff, Nat.reduceLT, Nat.reduceEqDiff, Int.reduceLT, Int.reduceLE, Int.reduceAdd, Int.reduceSub, Int.reduceMul, Int.reduceToNat, Int.reducePow, Int.reduceNe, Int.reduceMod, Int.reduceDiv, ne_eq, Int.reduceEq, not_false_eq_true, Nat.reducePow, List.length_append, List.length_replicate, List.replicate_succ, List.replicate_zero, Int.cast_ofNat_Int, not_true_eq_false, decide_true, decide_false, ite_self, beq_self_eq_true, Bool.true_beq, Bool.false_beq, Bool.not_true, Bool.not_false, Int.reduceNeg, dropK_eq]) only [x21l7, go_sem, tm0, ↓reduceIte, Nat.reduceAdd, Nat.reduceMul, Nat.reduceSub, Nat.reduceLeDiff, Nat.reduceLT, Nat.reduceEqDiff, Int.reduceLT, Int.reduceLE, Int.reduceAdd, Int.reduceSub, Int.reduceMul, Int.reduceToNat, Int.reducePow, Int.reduceNe, Int.reduceMod, Int.reduceDiv, ne_eq, Int.reduceEq, not_false_eq_true, Nat.reducePow, List.length_append, List.length_replicate, List.replicate_succ, List.replicate_zero, Int.cast_ofNat_Int, not_true_eq_false, decide_true, decide_false, ite_self, beq_self_eq_true, Bool.true_beq, Bool.false_beq, Bool.not_true, Bool.not_false, Int.reduceNeg, dropK_eq, k0, k1, k6, e1, ix2, e2]
          exact ⟨by omega, by simp, run_step hj hin⟩
        | false =>
          have e2 := hin
          simp only [inB] at e2
          have hrun := run_eq (p := inB) (l := s) (a := i) (e := i + k) (by omega) (by omega) hj (fun _ => hin)
          have hbl : blk (s.getD i 0 :: s.drop (i + 1)) = k := by rw [blk, if_neg hb, if_pos h35, ← drop_cons hi, hrun, run_len (by omega)]; omega
          rw [hbl]
          simp (disch := first | omega | simp only [go_sem, tm0, ↓reduceIte, Nat.reduceAdd, Nat.reduceMul, Nat.reduceSub, Nat.reduceLeDiff, Nat.reduceLT, Nat.reduceEqDiff, Int.reduceLT, Int.reduceLE, Int.reduceAdd, Int.reduceSub, Int.reduceMul, Int.reduceToNat, Int.reducePow, Int.reduceNe, Int.reduceMod, Int.reduceDiv, ne_eq, Int.reduceEq, not_false_eq_true, Nat.reducePow, List.length_append, List.length_replicate, List.replicate_succ, List.replicate_zero, Int.cast_ofNat_Int, not_true_eq_false, decide_true, decide_false, ite_self, beq_self_eq_true, Bool.true_beq, Bool.false_beq, Bool.not_true, Bool.not_false, Int.reduceNeg, dropK_eq]) only [x21l7, go_sem, tm0, ↓reduceIte, Nat.reduceAdd, Nat.reduceMul, Nat.reduceSub, Nat.reduceLeDiff, Nat.reduceLT, Nat.reduceEqDiff, Int.reduceLT, Int.reduceLE, Int.reduceAdd, Int.reduceSub, Int.reduceMul, Int.reduceToNat, Int.reducePow, Int.reduceNe, Int.reduceMod, Int.reduceDiv, ne_eq, Int.reduceEq, not_false_eq_true, Nat.reducePow, List.length_append, List.length_replicate, List.replicate_succ, List.replicate_zero, Int.cast_ofNat_Int, not_true_eq_false, decide_true, decide_false, ite_self, beq_self_eq_true, Bool.true_beq, Bool.false_beq, Bool.not_true, Bool.not_false, Int.reduceNeg, dropK_eq, k0, k1, k6, e1, ix2, e2]
          exact Ends_plain rfl rfl
      · have e1 : decide ((i : Int) + (k : Int) < (s.length : Int)) = false := decide_eq_false (by omega)
        have hrun := run_eq (p := inB) (l := s) (a := i) (e := i + k) (by omega) (by omega) hj (fun h => by omega)
        have hbl : blk (s.getD i 0 :: s.drop (i + 1)) = k := by rw [blk, if_neg hb, if_pos h35, ← drop_cons hi, hrun, run_len (by omega)]; omega
        rw [hbl]
        simp (disch := first | omega | simp only [go_sem, tm0, ↓reduceIte, Nat.reduceAdd, Nat.reduceMul, Nat.reduceSub, Nat.reduceLeDiff, Nat.reduceLT, Nat.reduceEqDiff, Int.reduceLT, Int.reduceLE, Int.reduceAdd, Int.reduceSub, Int.reduceMul, Int.reduceToNat, Int.reducePow, Int.reduceNe, Int.reduceMod, Int.reduceDiv, ne_eq, Int.reduceEq, not_false_eq_true, Nat.reducePow, List.length_append, List.length_replicate, List.replicate_succ, List.replicate_zero, Int.cast_ofNat_Int, not_true_eq_false, decide_true, decide_false, ite_self, beq_self_eq_true, Bool.true_beq, Bool.false_beq, Bool.not_true, Bool.not_false, Int.reduceNeg, dropK_eq]) only [x21l7, go_sem, tm0, ↓reduceIte, Nat.reduceAdd, Nat.reduceMul, Nat.reduceSub, Nat.reduceLeDiff, Nat.reduceLT, Nat.reduceEqDiff, Int.reduceLT, Int.reduceLE, Int.reduceAdd, Int.reduceSub, Int.reduceMul, Int.reduceToNat, Int.reducePow, Int.reduceNe, Int.reduceMod, Int.reduceDiv, ne_eq, Int.reduceEq, not_false_eq_true, Nat.reducePow, List.length_append, List.length_replicate, List.replicate_succ, List.replicate_zero, Int.cast_ofNat_Int, not_true_eq_false, decide_true, decide_false, ite_self, beq_self_eq_true, Bool.true_beq, Bool.false_beq, Bool.not_true, Bool.not_false, Int.reduceNeg, dropK_eq, k0, k1, k6, e1]
        exact Ends_plain rfl rfl
    · have d5 : decide (¬ ((s.getD i 0).toNat : Int) = 35) = true := decide_eq_true h35
      have : blk (s.getD i 0 :: s.drop (i + 1)) = 0 := by rw [blk, if_neg hb, if_neg h35]
      rw [this]
      simp (disch := first | omega | simp only [go_sem, tm0, ↓reduceIte, Nat.reduceAdd, Nat.reduceMul, Nat.reduceSub, Nat.reduceLeDiff, Nat.reduceLT, Nat.reduceEqDiff, Int.reduceLT, Int.reduceLE, Int.reduceAdd, Int.reduceSub, Int.reduceMul, Int.reduceToNat, Int.reducePow, Int.reduceNe, Int.reduceMod, Int.reduceDiv, ne_eq, Int.reduceEq, not_false_eq_true, Nat.reducePow, List.length_append, List.length_replicate, List.replicate_succ, List.replicate_zero, Int.cast_ofNat_Int, not_true_eq_false, decide_true, decide_false, ite_self, beq_self_eq_true, Bool.true_beq, Bool.false_beq, Bool.not_true, Bool.not_false, Int.reduceNeg, dropK_eq]) only [x21b, go_sem, tm0, ↓reduceIte, Nat.reduceAdd, Nat.reduceMul, Nat.reduceSub, Nat.reduceLeDiff, Nat.reduceLT, Nat.reduceEqDiff, Int.reduceLT, Int.reduceLE, Int.reduceAdd, Int.reduceSub, Int.reduceMul, Int.reduceToNat, Int.reducePow, Int.reduceNe, Int.reduceMod, Int.reduceDiv, ne_eq, Int.reduceEq, not_false_eq_true, Nat.reducePow, List.length_append, List.length_replicate, List.replicate_succ, List.replicate_zero, Int.cast_ofNat_Int, not_true_eq_false, decide_true, decide_false, ite_self, beq_self_eq_true, Bool.true_beq, Bool.false_beq, Bool.not_true, Bool.not_false, Int.reduceNeg, dropK_eq, ix, d1, d2, d3, d4, d5]
      exact Ends_plain rfl rfl
def numV : Except Int (Int × Nat) → AVal
  | .error e => .tup [.int .i64 0, .int .i64 0, .int .i64 e]
  | .ok (n, k) => .tup [.int .i64 n, .int .i64 k, .int .i64 0]
theorem loop36 {d : Nat} {s : List UInt8} {fr : Nat} {tm : Nat → AVal} {hp : Heap} {nc : Nat} {Q : Out → St → Prop} (hs : s.length ≤ 100000) (hfr : fr ≤ s.length) (h0 : tm 0 = sv s) (h9 : tm 9 = .int .i64 fr) (h10 : tm 10 = .int .i64 0)
    (hQ : ∀ tm' nc', tm' 0 = tm 0 → tm' 1 = tm 1 → tm' 7 = tm 7 → tm' 8 = tm 8 → tm' 9 = .int .i64 ((fr + ((s.drop fr).takeWhile dgB).length : Nat) : Int) → tm' 10 = .int .i64 ((min (vl ((s.drop fr).takeWhile dgB)) 10000000000 : Nat) : Int) → Q (.ext 0) ⟨tm', hp, nc'⟩) :
    Ev (C := C2) (inl := inlD C2 d) 36 (.loop x36l7) ⟨tm, hp, nc⟩ Q := by
  refine Ev_loopW (I := fun n tm hp' nc => ∃ e : Nat, fr ≤ e ∧ e ≤ s.length ∧ n = s.length - e ∧ hp' = hp ∧ tm 9 = .int .i64 e ∧ tm 10 = .int .i64 ((min (vl ((s.drop fr).take (e - fr))) 10000000000 : Nat) : Int) ∧ ∀ j, fr ≤ j → j < e → dgB (s.getD j 0) = true) (n := s.length - fr) ?_ (by omega) ?_
  · exact ⟨fr, by omega, hfr, rfl, rfl, h9, by rw [h10, Nat.sub_self]; rfl, fun j h1 h2 => by omega⟩
  · rintro n tm' hp' nc' hc ⟨e, h1, h2, rfl, rfl, k9, k10, hj⟩
    have k0 := hc 0 rfl
    have k1 := hc 1 rfl
    have k7 := hc 7 rfl
    have k8 := hc 8 rfl
    have q0 := k0
    rw [h0] at k0
    have ee : fr + (e - fr) = e := by omega
    rcases Nat.lt_or_ge e s.length with hlt | hge
    · have e1 : decide ((e : Int) < (s.length : Int)) = true := decide_eq_true (by omega)
      have ix := str_ixN .i64 hlt
      have e35 := F35_eq (n := ((s.getD e 0).toNat : Int))
      cases hin : dgB (s.getD e 0) with
      | true =>
        rw [show decide (digi ((s.getD e 0).toNat : Int)) = true from hin] at e35
        have hd := of_decide_eq_true hin
        simp only [digB, digi] at hd
        have hv : min (10 * (min (vl ((s.drop fr).take (e - fr))) 10000000000) + ((s.getD e 0).toNat - 48)) 10000000000 = min (vl ((s.drop fr).take (e + 1 - fr))) 10000000000 := by
          rw [run_snoc h1 hlt, vl_snoc]; omega
        have hm : mnxA false (.int .i64 (10 * ((min (vl ((s.drop fr).take (e - fr))) 10000000000 : Nat) : Int) + (((s.getD e 0).toNat : Int) - 48))) [.int .i64 10000000000] = some (.int .i64 ((min (vl ((s.drop fr).take (e + 1 - fr))) 10000000000 : Nat) : Int)) := by
          have := mnx_min2 (10 * (min (vl ((s.drop fr).take (e - fr))) 10000000000) + ((s.getD e 0).toNat - 48)) 10000000000
          rw [hv] at this
          rw [← this]
          congr 2
          omega
        have w1 : (((s.getD e 0).toNat : Int) - 48) % 256 = ((s.getD e 0).toNat : Int) - 48 := by omega
        simp (disch := first | omega | simp only [go_sem, tm0, ↓reduceIte, Nat.reduceAdd, Nat.reduceMul, Nat.reduceSub, Nat.reduceLeDiff, Nat.reduceLT, Nat.reduceEqDiff, Int.reduceLT, Int.reduceLE, Int.reduceAdd, Int.reduceSub, Int.reduceMul, Int.reduceToNat, Int.reducePow, Int.reduceNe, Int.reduceMod, Int.reduceDiv, ne_eq, Int.reduceEq, not_false_eq_true, Nat.reducePow, List.length_append, List.length_replicate, List.replicate_succ, List.replicate_zero, Int.cast_ofNat_Int, not_true_eq_false, decide_true, decide_false, ite_self, beq_self_eq_true, Bool.true_beq, Bool.false_beq, Bool.not_true, Bool.not_false, Int.reduceNeg, dropK_eq]) only [x36l7, go_sem, tm0, ↓reduceIte, Nat.reduceAdd, Nat.reduceMul, Nat.reduceSub, Nat.reduceLeDiff, Nat.reduceLT, Nat.reduceEqDiff, Int.reduceLT, Int.reduceLE, Int.reduceAdd, Int.reduceSub, Int.reduceMul, Int.reduceToNat, Int.reducePow, Int.reduceNe, Int.reduceMod, Int.reduceDiv, ne_eq, Int.reduceEq, not_false_eq_true, Nat.reducePow, List.length_append, List.length_replicate, List.replicate_succ, List.replicate_zero, Int.cast_ofNat_Int, not_true_eq_false, decide_true, decide_false, ite_self, beq_self_eq_true, Bool.true_beq, Bool.false_beq, Bool.not_true, Bool.not_false, Int.reduceNeg, dropK_eq, k0, k9, k10, e1, ix, callX_known (C := C2) (g := 35) rfl, ft_call (C := C2) (g := 35) rfl, e35, w1, hm]
        exact ⟨s.length - (e + 1), by omega, e + 1, by omega, by omega, rfl, by simp, rfl, run_step hj hin⟩
      | false =>
        rw [show decide (digi ((s.getD e 0).toNat : Int)) = false from hin] at e35
        have hrun := run_eq (p := dgB) (l := s) (a := fr) (e := e) h1 h2 hj (fun _ => hin)
        rw [hrun, run_len h2, ee] at hQ
        simp (disch := first | omega | simp only [go_sem, tm0, ↓reduceIte, Nat.reduceAdd, Nat.reduceMul, Nat.reduceSub, Nat.reduceLeDiff, Nat.reduceLT, Nat.reduceEqDiff, Int.reduceLT, Int.reduceLE, Int.reduceAdd, Int.reduceSub, Int.reduceMul, Int.reduceToNat, Int.reducePow, Int.reduceNe, Int.reduceMod, Int.reduceDiv, ne_eq, Int.reduceEq, not_false_eq_true, Nat.reducePow, List.length_append, List.length_replicate, List.replicate_succ, List.replicate_zero, Int.cast_ofNat_Int, not_true_eq_false, decide_true, decide_false, ite_self, beq_self_eq_true, Bool.true_beq, Bool.false_beq, Bool.not_true, Bool.not_false, Int.reduceNeg, dropK_eq]) only [x36l7, go_sem, tm0, ↓reduceIte, Nat.reduceAdd, Nat.reduceMul, Nat.reduceSub, Nat.reduceLeDiff, Nat.reduceLT, Nat.reduceEqDiff, Int.reduceLT, Int.reduceLE, Int.reduceAdd, Int.reduceSub, Int.reduceMul, Int.reduceToNat, Int.reducePow, Int.reduceNe, Int.reduceMod, Int.reduceDiv, ne_eq, Int.reduceEq, not_false_eq_true, Nat.reducePow, List.length_append, List.length_replicate, List.replicate_succ, List.replicate_zero, Int.cast_ofNat_Int, not_true_eq_false, decide_true, decide_false, ite_self, beq_self_eq_true, Bool.true_beq, Bool.false_beq, Bool.not_true, Bool.not_false, Int.reduceNeg, dropK_eq, k0, k9, k10, e1, ix, callX_known (C := C2) (g := 35) rfl, ft_call (C := C2) (g := 35) rfl, e35]
        refine hQ _ _ ?_ ?_ ?_ ?_ ?_ ?_ <;> simp only [go_sem, tm0, ↓reduceIte, Nat.reduceAdd, Nat.reduceMul, Nat.reduceSub, Nat.reduceLeDiff, Nat.reduceLT, Nat.reduceEqDiff, Int.reduceLT, Int.reduceLE, Int.reduceAdd, Int.reduceSub, Int.reduceMul, Int.reduceToNat, Int.reducePow, Int.reduceNe, Int.reduceMod, Int.reduceDiv, ne_eq, Int.reduceEq, not_false_eq_true, Nat.reducePow, List.length_append, List.length_replicate, List.replicate_succ, List.replicate_zero, Int.cast_ofNat_Int, not_true_eq_false, decide_true, decide_false, ite_self, beq_self_eq_true, Bool.true_beq, Bool.false_beq, Bool.not_true, Bool.not_false, Int.reduceNeg, dropK_eq, q0, k1, k7, k8, k9, k10]
    · obtain rfl : e = s.length := by omega
      have e1 : decide ((s.length : Int) < (s.length : Int)) = false := decide_eq_false (by omega)
      have hrun := run_eq (p := dgB) (l := s) (a := fr) (e := s.length) h1 h2 hj (fun h => by omega)
      rw [hrun, run_len h2, ee] at hQ
      simp (disch := first | omega | simp only [go_sem, tm0, ↓reduceIte, Nat.reduceAdd, Nat.reduceMul, Nat.reduceSub, Nat.reduceLeDiff, Nat.reduceLT, Nat.reduceEqDiff, Int.reduceLT, Int.reduceLE, Int.reduceAdd, Int.reduceSub, Int.reduceMul, Int.reduceToNat, Int.reducePow, Int.reduceNe, Int.reduceMod, Int.reduceDiv, ne_eq, Int.reduceEq, not_false_eq_true, Nat.reducePow, List.length_append, List.length_replicate, List.replicate_succ, List.replicate_zero, Int.cast_ofNat_Int, not_true_eq_false, decide_true, decide_false, ite_self, beq_self_eq_true, Bool.true_beq, Bool.false_beq, Bool.not_true, Bool.not_false, Int.reduceNeg, dropK_eq]) only [x36l7, go_sem, tm0, ↓reduceIte, Nat.reduceAdd, Nat.reduceMul, Nat.reduceSub, Nat.reduceLeDiff, Nat.reduceLT, Nat.reduceEqDiff, Int.reduceLT, Int.reduceLE, Int.reduceAdd, Int.reduceSub, Int.reduceMul, Int.reduceToNat, Int.reducePow, Int.reduceNe, Int.reduceMod, Int.reduceDiv, ne_eq, Int.reduceEq, not_false_eq_true, Nat.reducePow, List.length_append, List.length_replicate, List.replicate_succ, List.replicate_zero, Int.cast_ofNat_Int, not_true_eq_false, decide_true, decide_false, ite_self, beq_self_eq_true, Bool.true_beq, Bool.false_beq, Bool.not_true, Bool.not_false, Int.reduceNeg, dropK_eq, k0, k9, k10, e1]
      refine hQ _ _ ?_ ?_ ?_ ?_ ?_ ?_ <;> simp only [go_sem, tm0, ↓reduceIte, Nat.reduceAdd, Nat.reduceMul, Nat.reduceSub, Nat.reduceLeDiff, Nat.reduceLT, Nat.reduceEqDiff, Int.reduceLT, Int.reduceLE, Int.reduceAdd, Int.reduceSub, Int.reduceMul, Int.reduceToNat, Int.reducePow, Int.reduceNe, Int.reduceMod, Int.reduceDiv, ne_eq, Int.reduceEq, not_false_eq_true, Nat.reducePow, List.length_append, List.length_replicate, List.replicate_succ, List.replicate_zero, Int.cast_ofNat_Int, not_true_eq_false, decide_true, decide_false, ite_self, beq_self_eq_true, Bool.true_beq, Bool.false_beq, Bool.not_true, Bool.not_false, Int.reduceNeg, dropK_eq, q0, k1, k7, k8, k9, k10]
noncomputable def F36 : List AVal → Option AVal := pureF C2 1 36
theorem sound36 : Sound Tryd.prog 36 F36 := sound_self ok2 1 36
theorem head48 {s : List UInt8} {fr : Nat} (h : (s.drop fr).takeWhile dgB ≠ []) : fr < s.length ∧ (((s.drop fr).takeWhile dgB).head? = some 48 ↔ ((s.getD fr 0).toNat : Int) = 48) := by
  have hlt : fr < s.length := by
    rcases Nat.lt_or_ge fr s.length with h1 | h1
    · exact h1
    · rw [List.drop_of_length_le h1] at h; simp at h
  refine ⟨hlt, ?_⟩
  rw [drop_cons hlt] at h ⊢
  rw [List.takeWhile_cons] at h ⊢
  split at h
  · rename_i hc
    rw [if_pos hc]
    simp only [List.head?_cons, Option.some.injEq]
    constructor
    · intro e; rw [e]; rfl
    · intro e; exact UInt8.toNat_inj.1 (by have : (48 : UInt8).toNat = 48 := rfl; omega)
  · exact absurd rfl h
theorem F36_eq {s : List UInt8} {i : Nat} (hi : i < s.length) (hs : s.length ≤ 100000) : F36 [sv s, .int .i64 i] = some (numV (numR (s.drop i))) := by
  have ix := str_ixN .i64 hi
  have hnr : numR (s.drop i) = if ((s.getD i 0).toNat : Int) = 45 then numN true ((s.drop (i + 1)).takeWhile dgB) else numN false ((s.drop i).takeWhile dgB) := by
    rw [drop_cons hi, numR]
  rw [hnr]
  unfold F36
  refine pureF_of (x := x36) rfl rfl ?_
  rw [x36_eq.1, x36_eq.2.1]
  by_cases h45 : ((s.getD i 0).toNat : Int) = 45
  · rw [if_pos h45]
    simp (disch := first | omega | simp only [go_sem, tm0, ↓reduceIte, Nat.reduceAdd, Nat.reduceMul, Nat.reduceSub, Nat.reduceLeDiff, Nat.reduceLT, Nat.reduceEqDiff, Int.reduceLT, Int.reduceLE, Int.reduceAdd, Int.reduceSub, Int.reduceMul, Int.reduceToNat, Int.reducePow, Int.reduceNe, Int.reduceMod, Int.reduceDiv, ne_eq, Int.reduceEq, not_false_eq_true, Nat.reducePow, List.length_append, List.length_replicate, List.replicate_succ, List.replicate_zero, Int.cast_ofNat_Int, not_true_eq_false, decide_true, decide_false, ite_self, beq_self_eq_true, Bool.true_beq, Bool.false_beq, Bool.not_true, Bool.not_false, Int.reduceNeg, dropK_eq]) only [x36b, go_sem, tm0, ↓reduceIte, Nat.reduceAdd, Nat.reduceMul, Nat.reduceSub, Nat.reduceLeDiff, Nat.reduceLT, Nat.reduceEqDiff, Int.reduceLT, Int.reduceLE, Int.reduceAdd, Int.reduceSub, Int.reduceMul, Int.reduceToNat, Int.reducePow, Int.reduceNe, Int.reduceMod, Int.reduceDiv, ne_eq, Int.reduceEq, not_false_eq_true, Nat.reducePow, List.length_append, List.length_replicate, List.replicate_succ, List.replicate_zero, Int.cast_ofNat_Int, not_true_eq_false, decide_true, decide_false, ite_self, beq_self_eq_true, Bool.true_beq, Bool.false_beq, Bool.not_true, Bool.not_false, Int.reduceNeg, dropK_eq, ix, h45]
    refine loop36 (fr := i + 1) hs (by omega) ?_ ?_ ?_ ?_
    · simp only [go_sem, tm0, ↓reduceIte, Nat.reduceAdd, Nat.reduceMul, Nat.reduceSub, Nat.reduceLeDiff, Nat.reduceLT, Nat.reduceEqDiff, Int.reduceLT, Int.reduceLE, Int.reduceAdd, Int.reduceSub, Int.reduceMul, Int.reduceToNat, Int.reducePow, Int.reduceNe, Int.reduceMod, Int.reduceDiv, ne_eq, Int.reduceEq, not_false_eq_true, Nat.reducePow, List.length_append, List.length_replicate, List.replicate_succ, List.replicate_zero, Int.cast_ofNat_Int, not_true_eq_false, decide_true, decide_false, ite_self, beq_self_eq_true, Bool.true_beq, Bool.false_beq, Bool.not_true, Bool.not_false, Int.reduceNeg, dropK_eq]
    · simp only [go_sem, tm0, ↓reduceIte, Nat.reduceAdd, Nat.reduceMul, Nat.reduceSub, Nat.reduceLeDiff, Nat.reduceLT, Nat.reduceEqDiff, Int.reduceLT, Int.reduceLE, Int.reduceAdd, Int.reduceSub, Int.reduceMul, Int.reduceToNat, Int.reducePow, Int.reduceNe, Int.reduceMod, Int.reduceDiv, ne_eq, Int.reduceEq, not_false_eq_true, Nat.reducePow, List.length_append, List.length_replicate, List.replicate_succ, List.replicate_zero, Int.cast_ofNat_Int, not_true_eq_false, decide_true, decide_false, ite_self, beq_self_eq_true, Bool.true_beq, Bool.false_beq, Bool.not_true, Bool.not_false, Int.reduceNeg, dropK_eq, Int.natCast_add, Int.natCast_one]
    · simp only [go_sem, tm0, ↓reduceIte, Nat.reduceAdd, Nat.reduceMul, Nat.reduceSub, Nat.reduceLeDiff, Nat.reduceLT, Nat.reduceEqDiff, Int.reduceLT, Int.reduceLE, Int.reduceAdd, Int.reduceSub, Int.reduceMul, Int.reduceToNat, Int.reducePow, Int.reduceNe, Int.reduceMod, Int.reduceDiv, ne_eq, Int.reduceEq, not_false_eq_true, Nat.reducePow, List.length_append, List.length_replicate, List.replicate_succ, List.replicate_zero, Int.cast_ofNat_Int, not_true_eq_false, decide_true, decide_false, ite_self, beq_self_eq_true, Bool.true_beq, Bool.false_beq, Bool.not_true, Bool.not_false, Int.reduceNeg, dropK_eq]
    intro tm nc q0 q1 q7 q8 k9 k10
    simp only [go_sem, tm0, ↓reduceIte, Nat.reduceAdd, Nat.reduceMul, Nat.reduceSub, Nat.reduceLeDiff, Nat.reduceLT, Nat.reduceEqDiff, Int.reduceLT, Int.reduceLE, Int.reduceAdd, Int.reduceSub, Int.reduceMul, Int.reduceToNat, Int.reducePow, Int.reduceNe, Int.reduceMod, Int.reduceDiv, ne_eq, Int.reduceEq, not_false_eq_true, Nat.reducePow, List.length_append, List.length_replicate, List.replicate_succ, List.replicate_zero, Int.cast_ofNat_Int, not_true_eq_false, decide_true, decide_false, ite_self, beq_self_eq_true, Bool.true_beq, Bool.false_beq, Bool.not_true, Bool.not_false, Int.reduceNeg, dropK_eq] at q0 q1 q7 q8
    generalize hds : (s.drop (i + 1)).takeWhile dgB = ds at *
    have hdl : ds.length ≤ s.length := by rw [← hds]; exact Nat.le_trans (List.takeWhile_prefix _).length_le (by simp)
    by_cases h0 : ds = []
    · have d1 : decide (((i + 1 + ds.length : Nat) : Int) = (i : Int) + 1) = true := decide_eq_true (by rw [h0]; simp)
      simp (disch := first | omega | simp only [go_sem, tm0, ↓reduceIte, Nat.reduceAdd, Nat.reduceMul, Nat.reduceSub, Nat.reduceLeDiff, Nat.reduceLT, Nat.reduceEqDiff, Int.reduceLT, Int.reduceLE, Int.reduceAdd, Int.reduceSub, Int.reduceMul, Int.reduceToNat, Int.reducePow, Int.reduceNe, Int.reduceMod, Int.reduceDiv, ne_eq, Int.reduceEq, not_false_eq_true, Nat.reducePow, List.length_append, List.length_replicate, List.replicate_succ, List.replicate_zero, Int.cast_ofNat_Int, not_true_eq_false, decide_true, decide_false, ite_self, beq_self_eq_true, Bool.true_beq, Bool.false_beq, Bool.not_true, Bool.not_false, Int.reduceNeg, dropK_eq]) only [go_sem, tm0, ↓reduceIte, Nat.reduceAdd, Nat.reduceMul, Nat.reduceSub, Nat.reduceLeDiff, Nat.reduceLT, Nat.reduceEqDiff, Int.reduceLT, Int.reduceLE, Int.reduceAdd, Int.reduceSub, Int.reduceMul, Int.reduceToNat, Int.reducePow, Int.reduceNe, Int.reduceMod, Int.reduceDiv, ne_eq, Int.reduceEq, not_false_eq_true, Nat.reducePow, List.length_append, List.length_replicate, List.replicate_succ, List.replicate_zero, Int.cast_ofNat_Int, not_true_eq_false, decide_true, decide_false, ite_self, beq_self_eq_true, Bool.true_beq, Bool.false_beq, Bool.not_true, Bool.not_false, Int.reduceNeg, dropK_eq, q0, q1, q7, q8, k9, k10, d1]
      rw [numN, if_pos h0]
      exact Ends_plain rfl rfl
    · have d1 : decide (((i + 1 + ds.length : Nat) : Int) = (i : Int) + 1) = false := decide_eq_false (by have := List.length_pos_iff.2 h0; omega)
      obtain ⟨hlt, hh⟩ := head48 (by rw [hds]; exact h0)
      rw [hds] at hh
      have ix2 := str_ixN .i64 hlt
      rw [Int.natCast_add, Int.natCast_one] at ix2
      by_cases hbad : numBad true ds
      · rw [numN, if_neg h0, if_pos hbad]
        by_cases h48 : ((s.getD (i + 1) 0).toNat : Int) = 48
        · have d2 := decide_eq_true h48
          by_cases hg : (i : Int) + 1 + 1 < ((i + 1 + ds.length : Nat) : Int)
          · have d3 := decide_eq_true hg
            simp (disch := first | omega | simp only [go_sem, tm0, ↓reduceIte, Nat.reduceAdd, Nat.reduceMul, Nat.reduceSub, Nat.reduceLeDiff, Nat.reduceLT, Nat.reduceEqDiff, Int.reduceLT, Int.reduceLE, Int.reduceAdd, Int.reduceSub, Int.reduceMul, Int.reduceToNat, Int.reducePow, Int.reduceNe, Int.reduceMod, Int.reduceDiv, ne_eq, Int.reduceEq, not_false_eq_true, Nat.reducePow, List.length_append, List.length_replicate, List.replicate_succ, List.replicate_zero, Int.cast_ofNat_Int, not_true_eq_false, decide_true, decide_false, ite_self, beq_self_eq_true, Bool.true_beq, Bool.false_beq, Bool.not_true, Bool.not_false, Int.reduceNeg, dropK_eq]) only [go_sem, tm0, ↓reduceIte, Nat.reduceAdd, Nat.reduceMul, Nat.reduceSub, Nat.reduceLeDiff, Nat.reduceLT, Nat.reduceEqDiff, Int.reduceLT, Int.reduceLE, Int.reduceAdd, Int.reduceSub, Int.reduceMul, Int.reduceToNat, Int.reducePow, Int.reduceNe, Int.reduceMod, Int.reduceDiv, ne_eq, Int.reduceEq, not_false_eq_true, Nat.reducePow, List.length_append, List.length_replicate, List.replicate_succ, List.replicate_zero, Int.cast_ofNat_Int, not_true_eq_false, decide_true, decide_false, ite_self, beq_self_eq_true, Bool.true_beq, Bool.false_beq, Bool.not_true, Bool.not_false, Int.reduceNeg, dropK_eq, q0, q1, q7, q8, k9, k10, d1, ix2, d2, d3]
            exact Ends_plain rfl rfl
          · have d3 := decide_eq_false hg
            simp (disch := first | omega | simp only [go_sem, tm0, ↓reduceIte, Nat.reduceAdd, Nat.reduceMul, Nat.reduceSub, Nat.reduceLeDiff, Nat.reduceLT, Nat.reduceEqDiff, Int.reduceLT, Int.reduceLE, Int.reduceAdd, Int.reduceSub, Int.reduceMul, Int.reduceToNat, Int.reducePow, Int.reduceNe, Int.reduceMod, Int.reduceDiv, ne_eq, Int.reduceEq, not_false_eq_true, Nat.reducePow, List.length_append, List.length_replicate, List.replicate_succ, List.replicate_zero, Int.cast_ofNat_Int, not_true_eq_false, decide_true, decide_false, ite_self, beq_self_eq_true, Bool.true_beq, Bool.false_beq, Bool.not_true, Bool.not_false, Int.reduceNeg, dropK_eq]) only [go_sem, tm0, ↓reduceIte, Nat.reduceAdd, Nat.reduceMul, Nat.reduceSub, Nat.reduceLeDiff, Nat.reduceLT, Nat.reduceEqDiff, Int.reduceLT, Int.reduceLE, Int.reduceAdd, Int.reduceSub, Int.reduceMul, Int.reduceToNat, Int.reducePow, Int.reduceNe, Int.reduceMod, Int.reduceDiv, ne_eq, Int.reduceEq, not_false_eq_true, Nat.reducePow, List.length_append, List.length_replicate, List.replicate_succ, List.replicate_zero, Int.cast_ofNat_Int, not_true_eq_false, decide_true, decide_false, ite_self, beq_self_eq_true, Bool.true_beq, Bool.false_beq, Bool.not_true, Bool.not_false, Int.reduceNeg, dropK_eq, q0, q1, q7, q8, k9, k10, d1, ix2, d2, d3]
            exact Ends_plain rfl rfl
        · have d2 := decide_eq_false h48
          have d4 : decide ((1000000000 : Int) < ((min (vl ds) 10000000000 : Nat) : Int)) = true := decide_eq_true (by rcases hbad with h | h; exact absurd (hh.1 h.1) h48; omega)
          simp (disch := first | omega | simp only [go_sem, tm0, ↓reduceIte, Nat.reduceAdd, Nat.reduceMul, Nat.reduceSub, Nat.reduceLeDiff, Nat.reduceLT, Nat.reduceEqDiff, Int.reduceLT, Int.reduceLE, Int.reduceAdd, Int.reduceSub, Int.reduceMul, Int.reduceToNat, Int.reducePow, Int.reduceNe, Int.reduceMod, Int.reduceDiv, ne_eq, Int.reduceEq, not_false_eq_true, Nat.reducePow, List.length_append, List.length_replicate, List.replicate_succ, List.replicate_zero, Int.cast_ofNat_Int, not_true_eq_false, decide_true, decide_false, ite_self, beq_self_eq_true, Bool.true_beq, Bool.false_beq, Bool.not_true, Bool.not_false, Int.reduceNeg, dropK_eq]) only [go_sem, tm0, ↓reduceIte, Nat.reduceAdd, Nat.reduceMul, Nat.reduceSub, Nat.reduceLeDiff, Nat.reduceLT, Nat.reduceEqDiff, Int.reduceLT, Int.reduceLE, Int.reduceAdd, Int.reduceSub, Int.reduceMul, Int.reduceToNat, Int.reducePow, Int.reduceNe, Int.reduceMod, Int.reduceDiv, ne_eq, Int.reduceEq, not_false_eq_true, Nat.reducePow, List.length_append, List.length_replicate, List.replicate_succ, List.replicate_zero, Int.cast_ofNat_Int, not_true_eq_false, decide_true, decide_false, ite_self, beq_self_eq_true, Bool.true_beq, Bool.false_beq, Bool.not_true, Bool.not_false, Int.reduceNeg, dropK_eq, q0, q1, q7, q8, k9, k10, d1, ix2, d2, d4]
          exact Ends_plain rfl rfl
      · rw [numN, if_neg h0, if_neg hbad]
        have h48 : ¬ ((s.getD (i + 1) 0).toNat : Int) = 48 := fun h => hbad (.inl ⟨hh.2 h, .inr rfl⟩)
        have hv : vl ds ≤ 1000000000 := by
          rcases Nat.lt_or_ge 1000000000 (vl ds) with h | h
          · exact absurd (.inr h) hbad
          · exact h
        have d2 := decide_eq_false h48
        have em : min (vl ds) 10000000000 = vl ds := by omega
        rw [em] at k10
        have d4 : decide ((1000000000 : Int) < ((vl ds : Nat) : Int)) = false := decide_eq_false (by omega)
        simp (disch := first | omega | simp only [go_sem, tm0, ↓reduceIte, Nat.reduceAdd, Nat.reduceMul, Nat.reduceSub, Nat.reduceLeDiff, Nat.reduceLT, Nat.reduceEqDiff, Int.reduceLT, Int.reduceLE, Int.reduceAdd, Int.reduceSub, Int.reduceMul, Int.reduceToNat, Int.reducePow, Int.reduceNe, Int.reduceMod, Int.reduceDiv, ne_eq, Int.reduceEq, not_false_eq_true, Nat.reducePow, List.length_append, List.length_replicate, List.replicate_succ, List.replicate_zero, Int.cast_ofNat_Int, not_true_eq_false, decide_true, decide_false, ite_self, beq_self_eq_true, Bool.true_beq, Bool.false_beq, Bool.not_true, Bool.not_false, Int.reduceNeg, dropK_eq]) only [go_sem, tm0, ↓reduceIte, Nat.reduceAdd, Nat.reduceMul, Nat.reduceSub, Nat.reduceLeDiff, Nat.reduceLT, Nat.reduceEqDiff, Int.reduceLT, Int.reduceLE, Int.reduceAdd, Int.reduceSub, Int.reduceMul, Int.reduceToNat, Int.reducePow, Int.reduceNe, Int.reduceMod, Int.reduceDiv, ne_eq, Int.reduceEq, not_false_eq_true, Nat.reducePow, List.length_append, List.length_replicate, List.replicate_succ, List.replicate_zero, Int.cast_ofNat_Int, not_true_eq_false, decide_true, decide_false, ite_self, beq_self_eq_true, Bool.true_beq, Bool.false_beq, Bool.not_true, Bool.not_false, Int.reduceNeg, dropK_eq, q0, q1, q7, q8, k9, k10, d1, ix2, d2, d4]
        refine Ends_plain rfl ?_
        simp only [numV, if_true]
        congr 3
        · congr 1; omega
        · congr 2; omega
  · rw [if_neg h45]
    have d0 := decide_eq_false h45
    simp (disch := first | omega | simp only [go_sem, tm0, ↓reduceIte, Nat.reduceAdd, Nat.reduceMul, Nat.reduceSub, Nat.reduceLeDiff, Nat.reduceLT, Nat.reduceEqDiff, Int.reduceLT, Int.reduceLE, Int.reduceAdd, Int.reduceSub, Int.reduceMul, Int.reduceToNat, Int.reducePow, Int.reduceNe, Int.reduceMod, Int.reduceDiv, ne_eq, Int.reduceEq, not_false_eq_true, Nat.reducePow, List.length_append, List.length_replicate, List.replicate_succ, List.replicate_zero, Int.cast_ofNat_Int, not_true_eq_false, decide_true, decide_false, ite_self, beq_self_eq_true, Bool.true_beq, Bool.false_beq, Bool.not_true, Bool.not_false, Int.reduceNeg, dropK_eq]) only [x36b, go_sem, tm0, ↓reduceIte, Nat.reduceAdd, Nat.reduceMul, Nat.reduceSub, Nat.reduceLeDiff, Nat.reduceLT, Nat.reduceEqDiff, Int.reduceLT, Int.reduceLE, Int.reduceAdd, Int.reduceSub, Int.reduceMul, Int.reduceToNat, Int.reducePow, Int.reduceNe, Int.reduceMod, Int.reduceDiv, ne_eq, Int.reduceEq, not_false_eq_true, Nat.reducePow, List.length_append, List.length_replicate, List.replicate_succ, List.replicate_zero, Int.cast_ofNat_Int, not_true_eq_false, decide_true, decide_false, ite_self, beq_self_eq_true, Bool.true_beq, Bool.false_beq, Bool.not_true, Bool.not_false, Int.reduceNeg, dropK_eq, ix, d0]
    refine loop36 (fr := i) hs (by omega) ?_ ?_ ?_ ?_
    · simp only [go_sem, tm0, ↓reduceIte, Nat.reduceAdd, Nat.reduceMul, Nat.reduceSub, Nat.reduceLeDiff, Nat.reduceLT, Nat.reduceEqDiff, Int.reduceLT, Int.reduceLE, Int.reduceAdd, Int.reduceSub, Int.reduceMul, Int.reduceToNat, Int.reducePow, Int.reduceNe, Int.reduceMod, Int.reduceDiv, ne_eq, Int.reduceEq, not_false_eq_true, Nat.reducePow, List.length_append, List.length_replicate, List.replicate_succ, List.replicate_zero, Int.cast_ofNat_Int, not_true_eq_false, decide_true, decide_false, ite_self, beq_self_eq_true, Bool.true_beq, Bool.false_beq, Bool.not_true, Bool.not_false, Int.reduceNeg, dropK_eq]
    · simp only [go_sem, tm0, ↓reduceIte, Nat.reduceAdd, Nat.reduceMul, Nat.reduceSub, Nat.reduceLeDiff, Nat.reduceLT, Nat.reduceEqDiff, Int.reduceLT, Int.reduceLE, Int.reduceAdd, Int.reduceSub, Int.reduceMul, Int.reduceToNat, Int.reducePow, Int.reduceNe, Int.reduceMod, Int.reduceDiv, ne_eq, Int.reduceEq, not_false_eq_true, Nat.reducePow, List.length_append, List.length_replicate, List.replicate_succ, List.replicate_zero, Int.cast_ofNat_Int, not_true_eq_false, decide_true, decide_false, ite_self, beq_self_eq_true, Bool.true_beq, Bool.false_beq, Bool.not_true, Bool.not_false, Int.reduceNeg, dropK_eq]
    · simp only [go_sem, tm0, ↓reduceIte, Nat.reduceAdd, Nat.reduceMul, Nat.reduceSub, Nat.reduceLeDiff, Nat.reduceLT, Nat.reduceEqDiff, Int.reduceLT, Int.reduceLE, Int.reduceAdd, Int.reduceSub, Int.reduceMul, Int.reduceToNat, Int.reducePow, Int.reduceNe, Int.reduceMod, Int.reduceDiv, ne_eq, Int.reduceEq, not_false_eq_true, Nat.reducePow, List.length_append, List.length_replicate, List.replicate_succ, List.replicate_zero, Int.cast_ofNat_Int, not_true_eq_false, decide_true, decide_false, ite_self, beq_self_eq_true, Bool.true_beq, Bool.false_beq, Bool.not_true, Bool.not_false, Int.reduceNeg, dropK_eq]
    intro tm nc q0 q1 q7 q8 k9 k10
    simp only [go_sem, tm0, ↓reduceIte, Nat.reduceAdd, Nat.reduceMul, Nat.reduceSub, Nat.reduceLeDiff, Nat.reduceLT, Nat.reduceEqDiff, Int.reduceLT, Int.reduceLE, Int.reduceAdd, Int.reduceSub, Int.reduceMul, Int.reduceToNat, Int.reducePow, Int.reduceNe, Int.reduceMod, Int.reduceDiv, ne_eq, Int.reduceEq, not_false_eq_true, Nat.reducePow, List.length_append, List.length_replicate, List.replicate_succ, List.replicate_zero, Int.cast_ofNat_Int, not_true_eq_false, decide_true, decide_false, ite_self, beq_self_eq_true, Bool.true_beq, Bool.false_beq, Bool.not_true, Bool.not_false, Int.reduceNeg, dropK_eq] at q0 q1 q7 q8
    generalize hds : (s.drop i).takeWhile dgB = ds at *
    have hdl : ds.length ≤ s.length := by rw [← hds]; exact Nat.le_trans (List.takeWhile_prefix _).length_le (by simp)
    by_cases h0 : ds = []
    · have d1 : decide (((i + ds.length : Nat) : Int) = (i : Int)) = true := decide_eq_true (by rw [h0]; simp)
      simp (disch := first | omega | simp only [go_sem, tm0, ↓reduceIte, Nat.reduceAdd, Nat.reduceMul, Nat.reduceSub, Nat.reduceLeDiff, Nat.reduceLT, Nat.reduceEqDiff, Int.reduceLT, Int.reduceLE, Int.reduceAdd, Int.reduceSub, Int.reduceMul, Int.reduceToNat, Int.reducePow, Int.reduceNe, Int.reduceMod, Int.reduceDiv, ne_eq, Int.reduceEq, not_false_eq_true, Nat.reducePow, List.length_append, List.length_replicate, List.replicate_succ, List.replicate_zero, Int.cast_ofNat_Int, not_true_eq_false, decide_true, decide_false, ite_self, beq_self_eq_true, Bool.true_beq, Bool.false_beq, Bool.not_true, Bool.not_false, Int.reduceNeg, dropK_eq]) only [go_sem, tm0, ↓reduceIte, Nat.reduceAdd, Nat.reduceMul, Nat.reduceSub, Nat.reduceLeDiff, Nat.reduceLT, Nat.reduceEqDiff, Int.reduceLT, Int.reduceLE, Int.reduceAdd, Int.reduceSub, Int.reduceMul, Int.reduceToNat, Int.reducePow, Int.reduceNe, Int.reduceMod, Int.reduceDiv, ne_eq, Int.reduceEq, not_false_eq_true, Nat.reducePow, List.length_append, List.length_replicate, List.replicate_succ, List.replicate_zero, Int.cast_ofNat_Int, not_true_eq_false, decide_true, decide_false, ite_self, beq_self_eq_true, Bool.true_beq, Bool.false_beq, Bool.not_true, Bool.not_false, Int.reduceNeg, dropK_eq, q0, q1, q7, q8, k9, k10, d1]
      rw [numN, if_pos h0]
      exact Ends_plain rfl rfl
    · have d1 : decide (((i + ds.length : Nat) : Int) = (i : Int)) = false := decide_eq_false (by have := List.length_pos_iff.2 h0; omega)
      obtain ⟨hlt, hh⟩ := head48 (by rw [hds]; exact h0)
      rw [hds] at hh
      by_cases hbad : numBad false ds
      · rw [numN, if_neg h0, if_pos hbad]
        by_cases h48 : ((s.getD i 0).toNat : Int) = 48
        · have d2 := decide_eq_true h48
          by_cases hg : (i : Int) + 1 < ((i + ds.length : Nat) : Int)
          · have d3 := decide_eq_true hg
            simp (disch := first | omega | simp only [go_sem, tm0, ↓reduceIte, Nat.reduceAdd, Nat.reduceMul, Nat.reduceSub, Nat.reduceLeDiff, Nat.reduceLT, Nat.reduceEqDiff, Int.reduceLT, Int.reduceLE, Int.reduceAdd, Int.reduceSub, Int.reduceMul, Int.reduceToNat, Int.reducePow, Int.reduceNe, Int.reduceMod, Int.reduceDiv, ne_eq, Int.reduceEq, not_false_eq_true, Nat.reducePow, List.length_append, List.length_replicate, List.replicate_succ, List.replicate_zero, Int.cast_ofNat_Int, not_true_eq_false, decide_true, decide_false, ite_self, beq_self_eq_true, Bool.true_beq, Bool.false_beq, Bool.not_true, Bool.not_false, Int.reduceNeg, dropK_eq]) only [go_sem, tm0, ↓reduceIte, Nat.reduceAdd, Nat.reduceMul, Nat.reduceSub, Nat.reduceLeDiff, Nat.reduceLT, Nat.reduceEqDiff, Int.reduceLT, Int.reduceLE, Int.reduceAdd, Int.reduceSub, Int.reduceMul, Int.reduceToNat, Int.reducePow, Int.reduceNe, Int.reduceMod, Int.reduceDiv, ne_eq, Int.reduceEq, not_false_eq_true, Nat.reducePow, List.length_append, List.length_replicate, List.replicate_succ, List.replicate_zero, Int.cast_ofNat_Int, not_true_eq_false, decide_true, decide_false, ite_self, beq_self_eq_true, Bool.true_beq, Bool.false_beq, Bool.not_true, Bool.not_false, Int.reduceNeg, dropK_eq, q0, q1, q7, q8, k9, k10, d1, ix, d2, d3]
            exact Ends_plain rfl rfl
          · have d3 := decide_eq_false hg
            have d4 : decide ((1000000000 : Int) < ((min (vl ds) 10000000000 : Nat) : Int)) = true := decide_eq_true (by
              rcases hbad with h | h
              · rcases h.2 with h2 | h2
                · omega
                · cases h2
              · omega)
            simp (disch := first | omega | simp only [go_sem, tm0, ↓reduceIte, Nat.reduceAdd, Nat.reduceMul, Nat.reduceSub, Nat.reduceLeDiff, Nat.reduceLT, Nat.reduceEqDiff, Int.reduceLT, Int.reduceLE, Int.reduceAdd, Int.reduceSub, Int.reduceMul, Int.reduceToNat, Int.reducePow, Int.reduceNe, Int.reduceMod, Int.reduceDiv, ne_eq, Int.reduceEq, not_false_eq_true, Nat.reducePow, List.length_append, List.length_replicate, List.replicate_succ, List.replicate_zero, Int.cast_ofNat_Int, not_true_eq_false, decide_true, decide_false, ite_self, beq_self_eq_true, Bool.true_beq, Bool.false_beq, Bool.not_true, Bool.not_false, Int.reduceNeg, dropK_eq]) only [go_sem, tm0, ↓reduceIte, Nat.reduceAdd, Nat.reduceMul, Nat.reduceSub, Nat.reduceLeDiff, Nat.reduceLT, Nat.reduceEqDiff, Int.reduceLT, Int.reduceLE, Int.reduceAdd, Int.reduceSub, Int.reduceMul, Int.reduceToNat, Int.reducePow, Int.reduceNe, Int.reduceMod, Int.reduceDiv, ne_eq, Int.reduceEq, not_false_eq_true, Nat.reducePow, List.length_append, List.length_replicate, List.replicate_succ, List.replicate_zero, Int.cast_ofNat_Int, not_true_eq_false, decide_true, decide_false, ite_self, beq_self_eq_true, Bool.true_beq, Bool.false_beq, Bool.not_true, Bool.not_false, Int.reduceNeg, dropK_eq, q0, q1, q7, q8, k9, k10, d1, ix, d2, d3, d4]
            exact Ends_plain rfl rfl
        · have d2 := decide_eq_false h48
          have d4 : decide ((1000000000 : Int) < ((min (vl ds) 10000000000 : Nat) : Int)) = true := decide_eq_true (by rcases hbad with h | h; exact absurd (hh.1 h.1) h48; omega)
          simp (disch := first | omega | simp only [go_sem, tm0, ↓reduceIte, Nat.reduceAdd, Nat.reduceMul, Nat.reduceSub, Nat.reduceLeDiff, Nat.reduceLT, Nat.reduceEqDiff, Int.reduceLT, Int.reduceLE, Int.reduceAdd, Int.reduceSub, Int.reduceMul, Int.reduceToNat, Int.reducePow, Int.reduceNe, Int.reduceMod, Int.reduceDiv, ne_eq, Int.reduceEq, not_false_eq_true, Nat.reducePow, List.length_append, List.length_replicate, List.replicate_succ, List.replicate_zero, Int.cast_ofNat_Int, not_true_eq_false, decide_true, decide_false, ite_self, beq_self_eq_true, Bool.true_beq, Bool.false_beq, Bool.not_true, Bool.not_false, Int.reduceNeg, dropK_eq]) only [go_sem, tm0, ↓reduceIte, Nat.reduceAdd, Nat.reduceMul, Nat.reduceSub, Nat.reduceLeDiff, Nat.reduceLT, Nat.reduceEqDiff, Int.reduceLT, Int.reduceLE, Int.reduceAdd, Int.reduceSub, Int.reduceMul, Int.reduceToNat, Int.reducePow, Int.reduceNe, Int.reduceMod, Int.reduceDiv, ne_eq, Int.reduceEq, not_false_eq_true, Nat.reducePow, List.length_append, List.length_replicate, List.replicate_succ, List.replicate_zero, Int.cast_ofNat_Int, not_true_eq_false, decide_true, decide_false, ite_self, beq_self_eq_true, Bool.true_beq, Bool.false_beq, Bool.not_true, Bool.not_false, Int.reduceNeg, dropK_eq, q0, q1, q7, q8, k9, k10, d1, ix, d2, d4]
          exact Ends_plain rfl rfl
      · rw [numN, if_neg h0, if_neg hbad]
        have hv : vl ds ≤ 1000000000 := by
          rcases Nat.lt_or_ge 1000000000 (vl ds) with h | h
          · exact absurd (.inr h) hbad
          · exact h
        have em : min (vl ds) 10000000000 = vl ds := by omega
        rw [em] at k10
        have d4 : decide ((1000000000 : Int) < ((vl ds : Nat) : Int)) = false := decide_eq_false (by omega)
        have hfin : (AVal.tup [.int .i64 (vl ds : Nat), .int .i64 (((i + ds.length : Nat) : Int) - i), .int .i64 0]) = numV (.ok (if false = true then -(vl ds : Int) else vl ds, (if false = true then 1 else 0) + ds.length)) := by
          simp only [numV, Bool.false_eq_true, if_false]
          congr 3
          congr 1
          omega
        by_cases h48 : ((s.getD i 0).toNat : Int) = 48
        · have d2 := decide_eq_true h48
          have d3 : decide ((i : Int) + 1 < ((i + ds.length : Nat) : Int)) = false := decide_eq_false fun h => hbad (.inl ⟨hh.2 h48, .inl (by omega)⟩)
          simp (disch := first | omega | simp only [go_sem, tm0, ↓reduceIte, Nat.reduceAdd, Nat.reduceMul, Nat.reduceSub, Nat.reduceLeDiff, Nat.reduceLT, Nat.reduceEqDiff, Int.reduceLT, Int.reduceLE, Int.reduceAdd, Int.reduceSub, Int.reduceMul, Int.reduceToNat, Int.reducePow, Int.reduceNe, Int.reduceMod, Int.reduceDiv, ne_eq, Int.reduceEq, not_false_eq_true, Nat.reducePow, List.length_append, List.length_replicate, List.replicate_succ, List.replicate_zero, Int.cast_ofNat_Int, not_true_eq_false, decide_true, decide_false, ite_self, beq_self_eq_true, Bool.true_beq, Bool.false_beq, Bool.not_true, Bool.not_false, Int.reduceNeg, dropK_eq]) only [go_sem, tm0, ↓reduceIte, Nat.reduceAdd, Nat.reduceMul, Nat.reduceSub, Nat.reduceLeDiff, Nat.reduceLT, Nat.reduceEqDiff, Int.reduceLT, Int.reduceLE, Int.reduceAdd, Int.reduceSub, Int.reduceMul, Int.reduceToNat, Int.reducePow, Int.reduceNe, Int.reduceMod, Int.reduceDiv, ne_eq, Int.reduceEq, not_false_eq_true, Nat.reducePow, List.length_append, List.length_replicate, List.replicate_succ, List.replicate_zero, Int.cast_ofNat_Int, not_true_eq_false, decide_true, decide_false, ite_self, beq_self_eq_true, Bool.true_beq, Bool.false_beq, Bool.not_true, Bool.not_false, Int.reduceNeg, dropK_eq, q0, q1, q7, q8, k9, k10, d1, ix, d2, d3, d4]
          exact Ends_plain rfl hfin
        · have d2 := decide_eq_false h48
          simp (disch := first | omega | simp only [go_sem, tm0, ↓reduceIte, Nat.reduceAdd, Nat.reduceMul, Nat.reduceSub, Nat.reduceLeDiff, Nat.reduceLT, Nat.reduceEqDiff, Int.reduceLT, Int.reduceLE, Int.reduceAdd, Int.reduceSub, Int.reduceMul, Int.reduceToNat, Int.reducePow, Int.reduceNe, Int.reduceMod, Int.reduceDiv, ne_eq, Int.reduceEq, not_false_eq_true, Nat.reducePow, List.length_append, List.length_replicate, List.replicate_succ, List.replicate_zero, Int.cast_ofNat_Int, not_true_eq_false, decide_true, decide_false, ite_self, beq_self_eq_true, Bool.true_beq, Bool.false_beq, Bool.not_true, Bool.not_false, Int.reduceNeg, dropK_eq]) only [go_sem, tm0, ↓reduceIte, Nat.reduceAdd, Nat.reduceMul, Nat.reduceSub, Nat.reduceLeDiff, Nat.reduceLT, Nat.reduceEqDiff, Int.reduceLT, Int.reduceLE, Int.reduceAdd, Int.reduceSub, Int.reduceMul, Int.reduceToNat, Int.reducePow, Int.reduceNe, Int.reduceMod, Int.reduceDiv, ne_eq, Int.reduceEq, not_false_eq_true, Nat.reducePow, List.length_append, List.length_replicate, List.replicate_succ, List.replicate_zero, Int.cast_ofNat_Int, not_true_eq_false, decide_true, decide_false, ite_self, beq_self_eq_true, Bool.true_beq, Bool.false_beq, Bool.not_true, Bool.not_false, Int.reduceNeg, dropK_eq, q0, q1, q7, q8, k9, k10, d1, ix, d2, d4]
          exact Ends_plain rfl hfin
end Go.Proofs.YtjcjlgiigjckeaaDoor
