/-
  A scan: the document's, token by token.
-/
import Derived.Test.YtjcjlgiigjckeaaDoorYG
set_option linter.unusedVariables false
set_option linter.unusedSimpArgs false
namespace Go.Proofs.YtjcjlgiigjckeaaDoor
open Go Go.Xec

set_option maxRecDepth 10000
noncomputable def C6 : Cfg := (C2.add 21 F21).add 36 F36
theorem ok6 : CfgOk Tryd.prog C6 := (ok2.add sound21).add sound36
theorem loop22 {d : Nat} {s : List UInt8} {fr : Nat} {tm : Nat → AVal} {hp : Heap} {nc : Nat} {Q : Out → St → Prop} (hs : s.length ≤ 100000) (hfr : fr ≤ s.length) (h0 : tm 0 = sv s) (h12 : tm 12 = .int .i64 fr)
    (hQ : ∀ tm' nc', tm' 0 = tm 0 → tm' 1 = tm 1 → tm' 4 = tm 4 → tm' 12 = .int .i64 ((fr + ((s.drop fr).takeWhile ltB).length : Nat) : Int) → Q (.ext 0) ⟨tm', hp, nc'⟩) :
    Ev (C := C6) (inl := inlD C6 d) 22 (.loop x22l15) ⟨tm, hp, nc⟩ Q := by
  refine Ev_loopW (I := fun n tm hp' nc => ∃ e : Nat, fr ≤ e ∧ e ≤ s.length ∧ n = s.length - e ∧ hp' = hp ∧ tm 12 = .int .i64 e ∧ ∀ j, fr ≤ j → j < e → ltB (s.getD j 0) = true) (n := s.length - fr) ?_ (by omega) ?_
  · exact ⟨fr, by omega, hfr, rfl, rfl, h12, fun j h1 h2 => by omega⟩
  · rintro n tm' hp' nc' hc ⟨e, h1, h2, rfl, rfl, k12, hj⟩
    have k0 := hc 0 rfl
    have k1 := hc 1 rfl
    have k4 := hc 4 rfl
    have q0 := k0
    rw [h0] at k0
    have ee : fr + (e - fr) = e := by omega
    rcases Nat.lt_or_ge e s.length with hlt | hge
    · have e1 : decide ((e : Int) < (s.length : Int)) = true := decide_eq_true (by omega)
      have ix := str_ixN .i64 hlt
      have e37 := F37_eq (n := ((s.getD e 0).toNat : Int))
      cases hin : ltB (s.getD e 0) with
      | true =>
        rw [show decide (lett ((s.getD e 0).toNat : Int)) = true from hin] at e37
        simp (disch := first | omega | simp only [go_sem, tm0, ↓reduceIte, Nat.reduceAdd, Nat.reduceMul, Nat.reduceSub, Nat.reduceLeDiff, Nat.reduceLT, Nat.reduceEqDiff, Int.reduceLT, Int.reduceLE, Int.reduceAdd, Int.reduceSub, Int.reduceMul, Int.reduceToNat, Int.reducePow, Int.reduceNe, Int.reduceMod, Int.reduceDiv, ne_eq, Int.reduceEq, not_false_eq_true, Nat.reducePow, List.length_append, List.length_replicate, List.replicate_succ, List.replicate_zero, Int.cast_ofNat_Int, not_true_eq_false, decide_true, decide_false, ite_self, beq_self_eq_true, Bool.true_beq, Bool.false_beq, Bool.not_true, Bool.not_false, Int.reduceNeg, dropK_eq]) only [x22l15, go_sem, tm0, ↓reduceIte, Nat.reduceAdd, Nat.reduceMul, Nat.reduceSub, Nat.reduceLeDiff, Nat.reduceLT, Nat.reduceEqDiff, Int.reduceLT, Int.reduceLE, Int.reduceAdd, Int.reduceSub, Int.reduceMul, Int.reduceToNat, Int.reducePow, Int.reduceNe, Int.reduceMod, Int.reduceDiv, ne_eq, Int.reduceEq, not_false_eq_true, Nat.reducePow, List.length_append, List.length_replicate, List.replicate_succ, List.replicate_zero, Int.cast_ofNat_Int, not_true_eq_false, decide_true, decide_false, ite_self, beq_self_eq_true, Bool.true_beq, Bool.false_beq, Bool.not_true, Bool.not_false, Int.reduceNeg, dropK_eq, k0, k12, e1, ix, callX_known (C := C6) (g := 37) rfl, ft_call (C := C6) (g := 37) rfl, e37]
        exact ⟨s.length - (e + 1), by omega, e + 1, by omega, by omega, rfl, by simp, run_step hj hin⟩
      | false =>
        rw [show decide (lett ((s.getD e 0).toNat : Int)) = false from hin] at e37
        have hrun := run_eq (p := ltB) (l := s) (a := fr) (e := e) h1 h2 hj (fun _ => hin)
        rw [hrun, run_len h2, ee] at hQ
        simp (disch := first | omega | simp only [go_sem, tm0, ↓reduceIte, Nat.reduceAdd, Nat.reduceMul, Nat.reduceSub, Nat.reduceLeDiff, Nat.reduceLT, Nat.reduceEqDiff, Int.reduceLT, Int.reduceLE, Int.reduceAdd, Int.reduceSub, Int.reduceMul, Int.reduceToNat, Int.reducePow, Int.reduceNe, Int.reduceMod, Int.reduceDiv, ne_eq, Int.reduceEq, not_false_eq_true, Nat.reducePow, List.length_append, List.length_replicate, List.replicate_succ, List.replicate_zero, Int.cast_ofNat_Int, not_true_eq_false, decide_true, decide_false, ite_self, beq_self_eq_true, Bool.true_beq, Bool.false_beq, Bool.not_true, Bool.not_false, Int.reduceNeg, dropK_eq]) only [x22l15, go_sem, tm0, ↓reduceIte, Nat.reduceAdd, Nat.reduceMul, Nat.reduceSub, Nat.reduceLeDiff, Nat.reduceLT, Nat.reduceEqDiff, Int.reduceLT, Int.reduceLE, Int.reduceAdd, Int.reduceSub, Int.reduceMul, Int.reduceToNat, Int.reducePow, Int.reduceNe, Int.reduceMod, Int.reduceDiv, ne_eq, Int.reduceEq, not_false_eq_true, Nat.reducePow, List.length_append, List.length_replicate, List.replicate_succ, List.replicate_zero, Int.cast_ofNat_Int, not_true_eq_false, decide_true, decide_false, ite_self, beq_self_eq_true, Bool.true_beq, Bool.false_beq, Bool.not_true, Bool.not_false, Int.reduceNeg, dropK_eq, k0, k12, e1, ix, callX_known (C := C6) (g := 37) rfl, ft_call (C := C6) (g := 37) rfl, e37]
        refine hQ _ _ ?_ ?_ ?_ ?_ <;> simp only [go_sem, tm0, ↓reduceIte, Nat.reduceAdd, Nat.reduceMul, Nat.reduceSub, Nat.reduceLeDiff, Nat.reduceLT, Nat.reduceEqDiff, Int.reduceLT, Int.reduceLE, Int.reduceAdd, Int.reduceSub, Int.reduceMul, Int.reduceToNat, Int.reducePow, Int.reduceNe, Int.reduceMod, Int.reduceDiv, ne_eq, Int.reduceEq, not_false_eq_true, Nat.reducePow, List.length_append, List.length_replicate, List.replicate_succ, List.replicate_zero, Int.cast_ofNat_Int, not_true_eq_false, decide_true, decide_false, ite_self, beq_self_eq_true, Bool.true_beq, Bool.false_beq, Bool.not_true, Bool.not_false, Int.reduceNeg, dropK_eq, q0, k1, k4, k12]
    · obtain rfl : e = s.length := by omega
      have e1 : decide ((s.length : Int) < (s.length : Int)) = false := decide_eq_false (by omega)
      have hrun := run_eq (p := ltB) (l := s) (a := fr) (e := s.length) h1 h2 hj (fun h => by omega)
      rw [hrun, run_len h2, ee] at hQ
      simp (disch := first | omega | simp only [go_sem, tm0, ↓reduceIte, Nat.reduceAdd, Nat.reduceMul, Nat.reduceSub, Nat.reduceLeDiff, Nat.reduceLT, Nat.reduceEqDiff, Int.reduceLT, Int.reduceLE, Int.reduceAdd, Int.reduceSub, Int.reduceMul, Int.reduceToNat, Int.reducePow, Int.reduceNe, Int.reduceMod, Int.reduceDiv, ne_eq, Int.reduceEq, not_false_eq_true, Nat.reducePow, List.length_append, List.length_replicate, List.replicate_succ, List.replicate_zero, Int.cast_ofNat_Int, not_true_eq_false, decide_true, decide_false, ite_self, beq_self_eq_true, Bool.true_beq, Bool.false_beq, Bool.not_true, Bool.not_false, Int.reduceNeg, dropK_eq]) only [x22l15, go_sem, tm0, ↓reduceIte, Nat.reduceAdd, Nat.reduceMul, Nat.reduceSub, Nat.reduceLeDiff, Nat.reduceLT, Nat.reduceEqDiff, Int.reduceLT, Int.reduceLE, Int.reduceAdd, Int.reduceSub, Int.reduceMul, Int.reduceToNat, Int.reducePow, Int.reduceNe, Int.reduceMod, Int.reduceDiv, ne_eq, Int.reduceEq, not_false_eq_true, Nat.reducePow, List.length_append, List.length_replicate, List.replicate_succ, List.replicate_zero, Int.cast_ofNat_Int, not_true_eq_false, decide_true, decide_false, ite_self, beq_self_eq_true, Bool.true_beq, Bool.false_beq, Bool.not_true, Bool.not_false, Int.reduceNeg, dropK_eq, k0, k12, e1]
      refine hQ _ _ ?_ ?_ ?_ ?_ <;> simp only [go_sem, tm0, ↓reduceIte, Nat.reduceAdd, Nat.reduceMul, Nat.reduceSub, Nat.reduceLeDiff, Nat.reduceLT, Nat.reduceEqDiff, Int.reduceLT, Int.reduceLE, Int.reduceAdd, Int.reduceSub, Int.reduceMul, Int.reduceToNat, Int.reducePow, Int.reduceNe, Int.reduceMod, Int.reduceDiv, ne_eq, Int.reduceEq, not_false_eq_true, Nat.reducePow, List.length_append, List.length_replicate, List.replicate_succ, List.replicate_zero, Int.cast_ofNat_Int, not_true_eq_false, decide_true, decide_false, ite_self, beq_self_eq_true, Bool.true_beq, Bool.false_beq, Bool.not_true, Bool.not_false, Int.reduceNeg, dropK_eq, q0, k1, k4, k12]
theorem numN_err {neg : Bool} {ds : List UInt8} {e : Int} (h : numN neg ds = .error e) : ¬ e = 0 := by
  unfold numN at h
  split at h
  · cases h; decide
  · split at h
    · cases h; decide
    · cases h
theorem numR_err {r : List UInt8} {e : Int} (h : numR r = .error e) : ¬ e = 0 := by
  cases r with
  | nil => cases h; decide
  | cons b r =>
    simp only [numR] at h
    split at h
    · exact numN_err h
    · exact numN_err h
theorem oneR_err {r : List UInt8} {e : Int} (h : oneR r = .error e) : ¬ e = 0 := by
  cases r with
  | nil => cases h; decide
  | cons b r =>
    simp only [oneR] at h
    split at h
    · cases h
    · split at h
      · cases hn : numR (b :: r) with
        | error e' => rw [hn] at h; cases h; exact numR_err hn
        | ok x => rw [hn] at h; cases h
      · split at h
        · cases h; decide
        · split at h
          · cases h; decide
          · cases h
def oneV (i : Nat) : Except Int (Tok × Nat) → AVal
  | .error e => .tup [T0, .int .i64 0, .int .i64 e]
  | .ok (t, k) => .tup [TK { t with at' := i }, .int .i64 k, .int .i64 0]
noncomputable def F22 : List AVal → Option AVal := pureF C6 1 22
theorem sound22 : Sound Tryd.prog 22 F22 := sound_self ok6 1 22
theorem F22_eq {s : List UInt8} {i : Nat} (hi : i < s.length) (hs : s.length ≤ 100000) : F22 [sv s, .int .i64 i] = some (oneV i (oneR (s.drop i))) := by
  have ix := str_ixN .i64 hi
  have hdc := drop_cons hi
  have e36 := F36_eq hi hs
  have e35 := F35_eq (n := ((s.getD i 0).toNat : Int))
  unfold F22
  refine pureF_of (x := x22) rfl rfl ?_
  rw [x22_eq.1, x22_eq.2.1]
  by_cases hb : signB (s.getD i 0)
  · have : oneR (s.drop i) = .ok (⟨sgk (s.getD i 0), [], 0, 0⟩, 1) := by rw [hdc, oneR, if_pos hb]
    rw [this]
    rcases hb with e | e | e <;>
    · simp (disch := first | omega | simp only [go_sem, tm0, ↓reduceIte, Nat.reduceAdd, Nat.reduceMul, Nat.reduceSub, Nat.reduceLeDiff, Nat.reduceLT, Nat.reduceEqDiff, Int.reduceLT, Int.reduceLE, Int.reduceAdd, Int.reduceSub, Int.reduceMul, Int.reduceToNat, Int.reducePow, Int.reduceNe, Int.reduceMod, Int.reduceDiv, ne_eq, Int.reduceEq, not_false_eq_true, Nat.reducePow, List.length_append, List.length_replicate, List.replicate_succ, List.replicate_zero, Int.cast_ofNat_Int, not_true_eq_false, decide_true, decide_false, ite_self, beq_self_eq_true, Bool.true_beq, Bool.false_beq, Bool.not_true, Bool.not_false, Int.reduceNeg, dropK_eq]) only [x22b, go_sem, tm0, ↓reduceIte, Nat.reduceAdd, Nat.reduceMul, Nat.reduceSub, Nat.reduceLeDiff, Nat.reduceLT, Nat.reduceEqDiff, Int.reduceLT, Int.reduceLE, Int.reduceAdd, Int.reduceSub, Int.reduceMul, Int.reduceToNat, Int.reducePow, Int.reduceNe, Int.reduceMod, Int.reduceDiv, ne_eq, Int.reduceEq, not_false_eq_true, Nat.reducePow, List.length_append, List.length_replicate, List.replicate_succ, List.replicate_zero, Int.cast_ofNat_Int, not_true_eq_false, decide_true, decide_false, ite_self, beq_self_eq_true, Bool.true_beq, Bool.false_beq, Bool.not_true, Bool.not_false, Int.reduceNeg, dropK_eq, ix, e]
      refine Ends_plain rfl ?_
      simp only [oneV, sgk, e]
      rfl
  · have hb1 := hb
    simp only [signB, not_or] at hb1
    have d1 := decide_eq_false hb1.1
    have d2 := decide_eq_false hb1.2.1
    have d3 := decide_eq_false hb1.2.2
    by_cases hn : ((s.getD i 0).toNat : Int) = 45 ∨ digB (s.getD i 0)
    · have ho : oneR (s.drop i) = match numR (s.drop i) with
          | .error e => .error e
          | .ok (n, k) => .ok (⟨2, [], n, 0⟩, k) := by rw [hdc, oneR, if_neg hb, if_pos hn]; cases numR (s.getD i 0 :: s.drop (i + 1)) <;> rfl
      rw [ho]
      by_cases h45 : ((s.getD i 0).toNat : Int) = 45
      · have d4 := decide_eq_true h45
        cases hr : numR (s.drop i) with
        | error e =>
          have d5 := decide_eq_true (numR_err hr)
          rw [hr] at e36
          simp only [numV] at e36
          simp (disch := first | omega | simp only [go_sem, tm0, ↓reduceIte, Nat.reduceAdd, Nat.reduceMul, Nat.reduceSub, Nat.reduceLeDiff, Nat.reduceLT, Nat.reduceEqDiff, Int.reduceLT, Int.reduceLE, Int.reduceAdd, Int.reduceSub, Int.reduceMul, Int.reduceToNat, Int.reducePow, Int.reduceNe, Int.reduceMod, Int.reduceDiv, ne_eq, Int.reduceEq, not_false_eq_true, Nat.reducePow, List.length_append, List.length_replicate, List.replicate_succ, List.replicate_zero, Int.cast_ofNat_Int, not_true_eq_false, decide_true, decide_false, ite_self, beq_self_eq_true, Bool.true_beq, Bool.false_beq, Bool.not_true, Bool.not_false, Int.reduceNeg, dropK_eq]) only [x22b, go_sem, tm0, ↓reduceIte, Nat.reduceAdd, Nat.reduceMul, Nat.reduceSub, Nat.reduceLeDiff, Nat.reduceLT, Nat.reduceEqDiff, Int.reduceLT, Int.reduceLE, Int.reduceAdd, Int.reduceSub, Int.reduceMul, Int.reduceToNat, Int.reducePow, Int.reduceNe, Int.reduceMod, Int.reduceDiv, ne_eq, Int.reduceEq, not_false_eq_true, Nat.reducePow, List.length_append, List.length_replicate, List.replicate_succ, List.replicate_zero, Int.cast_ofNat_Int, not_true_eq_false, decide_true, decide_false, ite_self, beq_self_eq_true, Bool.true_beq, Bool.false_beq, Bool.not_true, Bool.not_false, Int.reduceNeg, dropK_eq, ix, d1, d2, d3, d4, d5, callX_known (C := C6) (g := 36) rfl, ft_call (C := C6) (g := 36) rfl, e36]
          exact Ends_plain rfl rfl
        | ok x =>
          obtain ⟨n, k⟩ := x
          rw [hr] at e36
          simp only [numV] at e36
          simp (disch := first | omega | simp only [go_sem, tm0, ↓reduceIte, Nat.reduceAdd, Nat.reduceMul, Nat.reduceSub, Nat.reduceLeDiff, Nat.reduceLT, Nat.reduceEqDiff, Int.reduceLT, Int.reduceLE, Int.reduceAdd, Int.reduceSub, Int.reduceMul, Int.reduceToNat, Int.reducePow, Int.reduceNe, Int.reduceMod, Int.reduceDiv, ne_eq, Int.reduceEq, not_false_eq_true, Nat.reducePow, List.length_append, List.length_replicate, List.replicate_succ, List.replicate_zero, Int.cast_ofNat_Int, not_true_eq_false, decide_true, decide_false, ite_self, beq_self_eq_true, Bool.true_beq, Bool.false_beq, Bool.not_true, Bool.not_false, Int.reduceNeg, dropK_eq]) only [x22b, go_sem, tm0, ↓reduceIte, Nat.reduceAdd, Nat.reduceMul, Nat.reduceSub, Nat.reduceLeDiff, Nat.reduceLT, Nat.reduceEqDiff, Int.reduceLT, Int.reduceLE, Int.reduceAdd, Int.reduceSub, Int.reduceMul, Int.reduceToNat, Int.reducePow, Int.reduceNe, Int.reduceMod, Int.reduceDiv, ne_eq, Int.reduceEq, not_false_eq_true, Nat.reducePow, List.length_append, List.length_replicate, List.replicate_succ, List.replicate_zero, Int.cast_ofNat_Int, not_true_eq_false, decide_true, decide_false, ite_self, beq_self_eq_true, Bool.true_beq, Bool.false_beq, Bool.not_true, Bool.not_false, Int.reduceNeg, dropK_eq, ix, d1, d2, d3, d4, callX_known (C := C6) (g := 36) rfl, ft_call (C := C6) (g := 36) rfl, e36]
          exact Ends_plain rfl rfl
      · have d4 := decide_eq_false h45
        have hdg : digB (s.getD i 0) := by
          rcases hn with h | h
          · exact absurd h h45
          · exact h
        rw [show decide (digi ((s.getD i 0).toNat : Int)) = true from decide_eq_true hdg] at e35
        cases hr : numR (s.drop i) with
        | error e =>
          have d5 := decide_eq_true (numR_err hr)
          rw [hr] at e36
          simp only [numV] at e36
          simp (disch := first | omega | simp only [go_sem, tm0, ↓reduceIte, Nat.reduceAdd, Nat.reduceMul, Nat.reduceSub, Nat.reduceLeDiff, Nat.reduceLT, Nat.reduceEqDiff, Int.reduceLT, Int.reduceLE, Int.reduceAdd, Int.reduceSub, Int.reduceMul, Int.reduceToNat, Int.reducePow, Int.reduceNe, Int.reduceMod, Int.reduceDiv, ne_eq, Int.reduceEq, not_false_eq_true, Nat.reducePow, List.length_append, List.length_replicate, List.replicate_succ, List.replicate_zero, Int.cast_ofNat_Int, not_true_eq_false, decide_true, decide_false, ite_self, beq_self_eq_true, Bool.true_beq, Bool.false_beq, Bool.not_true, Bool.not_false, Int.reduceNeg, dropK_eq]) only [x22b, go_sem, tm0, ↓reduceIte, Nat.reduceAdd, Nat.reduceMul, Nat.reduceSub, Nat.reduceLeDiff, Nat.reduceLT, Nat.reduceEqDiff, Int.reduceLT, Int.reduceLE, Int.reduceAdd, Int.reduceSub, Int.reduceMul, Int.reduceToNat, Int.reducePow, Int.reduceNe, Int.reduceMod, Int.reduceDiv, ne_eq, Int.reduceEq, not_false_eq_true, Nat.reducePow, List.length_append, List.length_replicate, List.replicate_succ, List.replicate_zero, Int.cast_ofNat_Int, not_true_eq_false, decide_true, decide_false, ite_self, beq_self_eq_true, Bool.true_beq, Bool.false_beq, Bool.not_true, Bool.not_false, Int.reduceNeg, dropK_eq, ix, d1, d2, d3, d4, d5, callX_known (C := C6) (g := 36) rfl, ft_call (C := C6) (g := 36) rfl, callX_known (C := C6) (g := 35) rfl, ft_call (C := C6) (g := 35) rfl, e36, e35]
          exact Ends_plain rfl rfl
        | ok x =>
          obtain ⟨n, k⟩ := x
          rw [hr] at e36
          simp only [numV] at e36
          simp (disch := first | omega | simp only [go_sem, tm0, ↓reduceIte, Nat.reduceAdd, Nat.reduceMul, Nat.reduceSub, Nat.reduceLeDiff, Nat.reduceLT, Nat.reduceEqDiff, Int.reduceLT, Int.reduceLE, Int.reduceAdd, Int.reduceSub, Int.reduceMul, Int.reduceToNat, Int.reducePow, Int.reduceNe, Int.reduceMod, Int.reduceDiv, ne_eq, Int.reduceEq, not_false_eq_true, Nat.reducePow, List.length_append, List.length_replicate, List.replicate_succ, List.replicate_zero, Int.cast_ofNat_Int, not_true_eq_false, decide_true, decide_false, ite_self, beq_self_eq_true, Bool.true_beq, Bool.false_beq, Bool.not_true, Bool.not_false, Int.reduceNeg, dropK_eq]) only [x22b, go_sem, tm0, ↓reduceIte, Nat.reduceAdd, Nat.reduceMul, Nat.reduceSub, Nat.reduceLeDiff, Nat.reduceLT, Nat.reduceEqDiff, Int.reduceLT, Int.reduceLE, Int.reduceAdd, Int.reduceSub, Int.reduceMul, Int.reduceToNat, Int.reducePow, Int.reduceNe, Int.reduceMod, Int.reduceDiv, ne_eq, Int.reduceEq, not_false_eq_true, Nat.reducePow, List.length_append, List.length_replicate, List.replicate_succ, List.replicate_zero, Int.cast_ofNat_Int, not_true_eq_false, decide_true, decide_false, ite_self, beq_self_eq_true, Bool.true_beq, Bool.false_beq, Bool.not_true, Bool.not_false, Int.reduceNeg, dropK_eq, ix, d1, d2, d3, d4, callX_known (C := C6) (g := 36) rfl, ft_call (C := C6) (g := 36) rfl, callX_known (C := C6) (g := 35) rfl, ft_call (C := C6) (g := 35) rfl, e36, e35]
          exact Ends_plain rfl rfl
    · have d4 := decide_eq_false (fun h => hn (.inl h))
      rw [show decide (digi ((s.getD i 0).toNat : Int)) = false from decide_eq_false (fun h => hn (.inr h))] at e35
      have ho : oneR (s.drop i) = if (s.drop i).takeWhile ltB = [] then .error 7 else if 12 < ((s.drop i).takeWhile ltB).length then .error 2
          else .ok (⟨1, (s.drop i).takeWhile ltB, 0, 0⟩, ((s.drop i).takeWhile ltB).length) := by rw [hdc, oneR, if_neg hb, if_neg hn]
      rw [ho]
      simp (disch := first | omega | simp only [go_sem, tm0, ↓reduceIte, Nat.reduceAdd, Nat.reduceMul, Nat.reduceSub, Nat.reduceLeDiff, Nat.reduceLT, Nat.reduceEqDiff, Int.reduceLT, Int.reduceLE, Int.reduceAdd, Int.reduceSub, Int.reduceMul, Int.reduceToNat, Int.reducePow, Int.reduceNe, Int.reduceMod, Int.reduceDiv, ne_eq, Int.reduceEq, not_false_eq_true, Nat.reducePow, List.length_append, List.length_replicate, List.replicate_succ, List.replicate_zero, Int.cast_ofNat_Int, not_true_eq_false, decide_true, decide_false, ite_self, beq_self_eq_true, Bool.true_beq, Bool.false_beq, Bool.not_true, Bool.not_false, Int.reduceNeg, dropK_eq]) only [x22b, go_sem, tm0, ↓reduceIte, Nat.reduceAdd, Nat.reduceMul, Nat.reduceSub, Nat.reduceLeDiff, Nat.reduceLT, Nat.reduceEqDiff, Int.reduceLT, Int.reduceLE, Int.reduceAdd, Int.reduceSub, Int.reduceMul, Int.reduceToNat, Int.reducePow, Int.reduceNe, Int.reduceMod, Int.reduceDiv, ne_eq, Int.reduceEq, not_false_eq_true, Nat.reducePow, List.length_append, List.length_replicate, List.replicate_succ, List.replicate_zero, Int.cast_ofNat_Int, not_true_eq_false, decide_true, decide_false, ite_self, beq_self_eq_true, Bool.true_beq, Bool.false_beq, Bool.not_true, Bool.not_false, Int.reduceNeg, dropK_eq, ix, d1, d2, d3, d4, callX_known (C := C6) (g := 35) rfl, ft_call (C := C6) (g := 35) rfl, e35]
      refine loop22 (fr := i) hs (by omega) ?_ ?_ ?_
      · simp only [go_sem, tm0, ↓reduceIte, Nat.reduceAdd, Nat.reduceMul, Nat.reduceSub, Nat.reduceLeDiff, Nat.reduceLT, Nat.reduceEqDiff, Int.reduceLT, Int.reduceLE, Int.reduceAdd, Int.reduceSub, Int.reduceMul, Int.reduceToNat, Int.reducePow, Int.reduceNe, Int.reduceMod, Int.reduceDiv, ne_eq, Int.reduceEq, not_false_eq_true, Nat.reducePow, List.length_append, List.length_replicate, List.replicate_succ, List.replicate_zero, Int.cast_ofNat_Int, not_true_eq_false, decide_true, decide_false, ite_self, beq_self_eq_true, Bool.true_beq, Bool.false_beq, Bool.not_true, Bool.not_false, Int.reduceNeg, dropK_eq]
      · simp only [go_sem, tm0, ↓reduceIte, Nat.reduceAdd, Nat.reduceMul, Nat.reduceSub, Nat.reduceLeDiff, Nat.reduceLT, Nat.reduceEqDiff, Int.reduceLT, Int.reduceLE, Int.reduceAdd, Int.reduceSub, Int.reduceMul, Int.reduceToNat, Int.reducePow, Int.reduceNe, Int.reduceMod, Int.reduceDiv, ne_eq, Int.reduceEq, not_false_eq_true, Nat.reducePow, List.length_append, List.length_replicate, List.replicate_succ, List.replicate_zero, Int.cast_ofNat_Int, not_true_eq_false, decide_true, decide_false, ite_self, beq_self_eq_true, Bool.true_beq, Bool.false_beq, Bool.not_true, Bool.not_false, Int.reduceNeg, dropK_eq]
      intro tm nc q0 q1 q4 k12
      simp only [go_sem, tm0, ↓reduceIte, Nat.reduceAdd, Nat.reduceMul, Nat.reduceSub, Nat.reduceLeDiff, Nat.reduceLT, Nat.reduceEqDiff, Int.reduceLT, Int.reduceLE, Int.reduceAdd, Int.reduceSub, Int.reduceMul, Int.reduceToNat, Int.reducePow, Int.reduceNe, Int.reduceMod, Int.reduceDiv, ne_eq, Int.reduceEq, not_false_eq_true, Nat.reducePow, List.length_append, List.length_replicate, List.replicate_succ, List.replicate_zero, Int.cast_ofNat_Int, not_true_eq_false, decide_true, decide_false, ite_self, beq_self_eq_true, Bool.true_beq, Bool.false_beq, Bool.not_true, Bool.not_false, Int.reduceNeg, dropK_eq] at q0 q1 q4
      have hpre := List.takeWhile_prefix (l := s.drop i) ltB
      generalize hds : (s.drop i).takeWhile ltB = w at *
      have hwl : w.length ≤ (s.drop i).length := hpre.length_le
      rw [List.length_drop] at hwl
      by_cases h0 : w = []
      · have d6 : decide (((i + w.length : Nat) : Int) = (i : Int)) = true := decide_eq_true (by rw [h0]; simp)
        rw [if_pos h0]
        simp (disch := first | omega | simp only [go_sem, tm0, ↓reduceIte, Nat.reduceAdd, Nat.reduceMul, Nat.reduceSub, Nat.reduceLeDiff, Nat.reduceLT, Nat.reduceEqDiff, Int.reduceLT, Int.reduceLE, Int.reduceAdd, Int.reduceSub, Int.reduceMul, Int.reduceToNat, Int.reducePow, Int.reduceNe, Int.reduceMod, Int.reduceDiv, ne_eq, Int.reduceEq, not_false_eq_true, Nat.reducePow, List.length_append, List.length_replicate, List.replicate_succ, List.replicate_zero, Int.cast_ofNat_Int, not_true_eq_false, decide_true, decide_false, ite_self, beq_self_eq_true, Bool.true_beq, Bool.false_beq, Bool.not_true, Bool.not_false, Int.reduceNeg, dropK_eq]) only [go_sem, tm0, ↓reduceIte, Nat.reduceAdd, Nat.reduceMul, Nat.reduceSub, Nat.reduceLeDiff, Nat.reduceLT, Nat.reduceEqDiff, Int.reduceLT, Int.reduceLE, Int.reduceAdd, Int.reduceSub, Int.reduceMul, Int.reduceToNat, Int.reducePow, Int.reduceNe, Int.reduceMod, Int.reduceDiv, ne_eq, Int.reduceEq, not_false_eq_true, Nat.reducePow, List.length_append, List.length_replicate, List.replicate_succ, List.replicate_zero, Int.cast_ofNat_Int, not_true_eq_false, decide_true, decide_false, ite_self, beq_self_eq_true, Bool.true_beq, Bool.false_beq, Bool.not_true, Bool.not_false, Int.reduceNeg, dropK_eq, q0, q1, q4, k12, d6]
        exact Ends_plain rfl rfl
      · have hw := List.length_pos_iff.2 h0
        have d6 : decide (((i + w.length : Nat) : Int) = (i : Int)) = false := decide_eq_false (by omega)
        rw [if_neg h0]
        by_cases h12 : 12 < w.length
        · have d7 : decide ((i : Int) + 12 < ((i + w.length : Nat) : Int)) = true := decide_eq_true (by omega)
          rw [if_pos h12]
          simp (disch := first | omega | simp only [go_sem, tm0, ↓reduceIte, Nat.reduceAdd, Nat.reduceMul, Nat.reduceSub, Nat.reduceLeDiff, Nat.reduceLT, Nat.reduceEqDiff, Int.reduceLT, Int.reduceLE, Int.reduceAdd, Int.reduceSub, Int.reduceMul, Int.reduceToNat, Int.reducePow, Int.reduceNe, Int.reduceMod, Int.reduceDiv, ne_eq, Int.reduceEq, not_false_eq_true, Nat.reducePow, List.length_append, List.length_replicate, List.replicate_succ, List.replicate_zero, Int.cast_ofNat_Int, not_true_eq_false, decide_true, decide_false, ite_self, beq_self_eq_true, Bool.true_beq, Bool.false_beq, Bool.not_true, Bool.not_false, Int.reduceNeg, dropK_eq]) only [go_sem, tm0, ↓reduceIte, Nat.reduceAdd, Nat.reduceMul, Nat.reduceSub, Nat.reduceLeDiff, Nat.reduceLT, Nat.reduceEqDiff, Int.reduceLT, Int.reduceLE, Int.reduceAdd, Int.reduceSub, Int.reduceMul, Int.reduceToNat, Int.reducePow, Int.reduceNe, Int.reduceMod, Int.reduceDiv, ne_eq, Int.reduceEq, not_false_eq_true, Nat.reducePow, List.length_append, List.length_replicate, List.replicate_succ, List.replicate_zero, Int.cast_ofNat_Int, not_true_eq_false, decide_true, decide_false, ite_self, beq_self_eq_true, Bool.true_beq, Bool.false_beq, Bool.not_true, Bool.not_false, Int.reduceNeg, dropK_eq, q0, q1, q4, k12, d6, d7]
          exact Ends_plain rfl rfl
        · have d7 : decide ((i : Int) + 12 < ((i + w.length : Nat) : Int)) = false := decide_eq_false (by omega)
          rw [if_neg h12]
          have hsl := str_slice (l := s) (lo := i) (hi := i + w.length) (by omega) (by omega)
          rw [show i + w.length - i = w.length by omega] at hsl
          have ht : (s.drop i).take w.length = w := (List.prefix_iff_eq_take.1 hpre).symm
          rw [ht] at hsl
          simp (disch := first | omega | simp only [go_sem, tm0, ↓reduceIte, Nat.reduceAdd, Nat.reduceMul, Nat.reduceSub, Nat.reduceLeDiff, Nat.reduceLT, Nat.reduceEqDiff, Int.reduceLT, Int.reduceLE, Int.reduceAdd, Int.reduceSub, Int.reduceMul, Int.reduceToNat, Int.reducePow, Int.reduceNe, Int.reduceMod, Int.reduceDiv, ne_eq, Int.reduceEq, not_false_eq_true, Nat.reducePow, List.length_append, List.length_replicate, List.replicate_succ, List.replicate_zero, Int.cast_ofNat_Int, not_true_eq_false, decide_true, decide_false, ite_self, beq_self_eq_true, Bool.true_beq, Bool.false_beq, Bool.not_true, Bool.not_false, Int.reduceNeg, dropK_eq]) only [go_sem, tm0, ↓reduceIte, Nat.reduceAdd, Nat.reduceMul, Nat.reduceSub, Nat.reduceLeDiff, Nat.reduceLT, Nat.reduceEqDiff, Int.reduceLT, Int.reduceLE, Int.reduceAdd, Int.reduceSub, Int.reduceMul, Int.reduceToNat, Int.reducePow, Int.reduceNe, Int.reduceMod, Int.reduceDiv, ne_eq, Int.reduceEq, not_false_eq_true, Nat.reducePow, List.length_append, List.length_replicate, List.replicate_succ, List.replicate_zero, Int.cast_ofNat_Int, not_true_eq_false, decide_true, decide_false, ite_self, beq_self_eq_true, Bool.true_beq, Bool.false_beq, Bool.not_true, Bool.not_false, Int.reduceNeg, dropK_eq, q0, q1, q4, k12, d6, d7, hsl]
          refine Ends_plain rfl ?_
          simp only [oneV]
          congr 3
          congr 1
          omega
noncomputable def C7 : Cfg := C6.add 22 F22
theorem ok7 : CfgOk Tryd.prog C7 := ok6.add sound22
noncomputable def F8 : List AVal → Option AVal := pureF C7 1 8
theorem sound8 : Sound Tryd.prog 8 F8 := sound_self ok7 1 8
/-- A scan's answer; z: what an empty row is. -/
def scanV (z : List Tok → AVal) : Except (Nat × Int) (List Tok) → AVal
  | .error (i, e) => .tup [.nils, .int .i64 i, .int .i64 e]
  | .ok l => .tup [z l, .int .i64 0, .int .i64 0]
/-- A scan that has gone on. -/
def pre (l : List Tok) : Except (Nat × Int) (List Tok) → Except (Nat × Int) (List Tok)
  | .error x => .error x
  | .ok m => .ok (l ++ m)
theorem pre_nil (x : Except (Nat × Int) (List Tok)) : pre [] x = x := by cases x <;> rfl
theorem scan_step {r : List UInt8} {i k : Nat} {t : Tok} {l : List Tok} (h0 : r ≠ []) (h : blk r = 0) (h1 : oneR r = .ok (t, k)) : pre l (scan r i) = pre (l ++ [{ t with at' := i }]) (scan (r.drop k) (i + k)) := by
  rw [scan_one h0 h h1 (oneR_len h1).1]
  cases scan (r.drop k) (i + k) with
  | error x => rfl
  | ok m => simp [pre]
theorem own_ne {ss : List Nat} {es : Nat} {hp : Heap} {v : AVal} {xs : List AVal} (h : Own ss es hp v xs) (h0 : xs ≠ []) : v ≠ .nils := by
  rcases h with ⟨_, h⟩ | ⟨s, c, g, _, h, _⟩
  · exact absurd h h0
  · rw [h]; intro e; cases e
theorem own_slc {es : Nat} {v : AVal} {xs : List AVal} (h : v ≠ .nils) : sliceOf es v xs = .slc es xs := by
  cases v <;> first | rfl | exact absurd rfl h
abbrev text (s : List UInt8) : Except (Nat × Int) (List Tok) := if s.length ≤ 4000 then scan s 0 else .error (0, 2)
theorem F8_eq {s : List UInt8} (hs : s.length ≤ 100000) : F8 [sv s] = some (scanV (fun l => .slc 4 (l.map TK)) (text s)) := by
  unfold F8
  refine pureF_of (x := x8) rfl rfl ?_
  rw [x8_eq.1, x8_eq.2.1]
  by_cases h4 : s.length ≤ 4000
  · have d0 : decide ((4000 : Int) < (s.length : Int)) = false := decide_eq_false (by omega)
    unfold text
    rw [if_pos h4]
    simp (disch := first | omega | simp only [go_sem, tm0, ↓reduceIte, Nat.reduceAdd, Nat.reduceMul, Nat.reduceSub, Nat.reduceLeDiff, Nat.reduceLT, Nat.reduceEqDiff, Int.reduceLT, Int.reduceLE, Int.reduceAdd, Int.reduceSub, Int.reduceMul, Int.reduceToNat, Int.reducePow, Int.reduceNe, Int.reduceMod, Int.reduceDiv, ne_eq, Int.reduceEq, not_false_eq_true, Nat.reducePow, List.length_append, List.length_replicate, List.replicate_succ, List.replicate_zero, Int.cast_ofNat_Int, not_true_eq_false, decide_true, decide_false, ite_self, beq_self_eq_true, Bool.true_beq, Bool.false_beq, Bool.not_true, Bool.not_false, Int.reduceNeg, dropK_eq]) only [x8b, go_sem, tm0, ↓reduceIte, Nat.reduceAdd, Nat.reduceMul, Nat.reduceSub, Nat.reduceLeDiff, Nat.reduceLT, Nat.reduceEqDiff, Int.reduceLT, Int.reduceLE, Int.reduceAdd, Int.reduceSub, Int.reduceMul, Int.reduceToNat, Int.reducePow, Int.reduceNe, Int.reduceMod, Int.reduceDiv, ne_eq, Int.reduceEq, not_false_eq_true, Nat.reducePow, List.length_append, List.length_replicate, List.replicate_succ, List.replicate_zero, Int.cast_ofNat_Int, not_true_eq_false, decide_true, decide_false, ite_self, beq_self_eq_true, Bool.true_beq, Bool.false_beq, Bool.not_true, Bool.not_false, Int.reduceNeg, dropK_eq, d0]
    refine Ev_loopW (I := fun n tm hp nc => ∃ (i : Nat) (l : List Tok), i ≤ s.length ∧ n = s.length - i ∧ tm 6 = .int .i64 i ∧ l.length ≤ i ∧ scan s 0 = pre l (scan (s.drop i) i) ∧ Own [8003000, 8012003] 4 hp (tm 5) (l.map TK) ∧ tm 5 ≠ .nils) (n := s.length) ?_ (by omega) ?_
    · refine ⟨0, [], by omega, by omega, ?_⟩
      simp only [go_sem, tm0, ↓reduceIte, Nat.reduceAdd, Nat.reduceMul, Nat.reduceSub, Nat.reduceLeDiff, Nat.reduceLT, Nat.reduceEqDiff, Int.reduceLT, Int.reduceLE, Int.reduceAdd, Int.reduceSub, Int.reduceMul, Int.reduceToNat, Int.reducePow, Int.reduceNe, Int.reduceMod, Int.reduceDiv, ne_eq, Int.reduceEq, not_false_eq_true, Nat.reducePow, List.length_append, List.length_replicate, List.replicate_succ, List.replicate_zero, Int.cast_ofNat_Int, not_true_eq_false, decide_true, decide_false, ite_self, beq_self_eq_true, Bool.true_beq, Bool.false_beq, Bool.not_true, Bool.not_false, Int.reduceNeg, dropK_eq, List.map_nil]
      refine ⟨(pre_nil _).symm, Own.sl (ss := [8003000, 8012003]) (by simp) rfl ?_, by simp⟩
      simp only [go_sem, tm0, ↓reduceIte, Nat.reduceAdd, Nat.reduceMul, Nat.reduceSub, Nat.reduceLeDiff, Nat.reduceLT, Nat.reduceEqDiff, Int.reduceLT, Int.reduceLE, Int.reduceAdd, Int.reduceSub, Int.reduceMul, Int.reduceToNat, Int.reducePow, Int.reduceNe, Int.reduceMod, Int.reduceDiv, ne_eq, Int.reduceEq, not_false_eq_true, Nat.reducePow, List.length_append, List.length_replicate, List.replicate_succ, List.replicate_zero, Int.cast_ofNat_Int, not_true_eq_false, decide_true, decide_false, ite_self, beq_self_eq_true, Bool.true_beq, Bool.false_beq, Bool.not_true, Bool.not_false, Int.reduceNeg, dropK_eq]
    · rintro n tm hp nc hc ⟨i, l, hi, rfl, k6, hll, hsc, ho, h0⟩
      have k0 := hc 0 rfl; simp only [go_sem, tm0, ↓reduceIte, Nat.reduceAdd, Nat.reduceMul, Nat.reduceSub, Nat.reduceLeDiff, Nat.reduceLT, Nat.reduceEqDiff, Int.reduceLT, Int.reduceLE, Int.reduceAdd, Int.reduceSub, Int.reduceMul, Int.reduceToNat, Int.reducePow, Int.reduceNe, Int.reduceMod, Int.reduceDiv, ne_eq, Int.reduceEq, not_false_eq_true, Nat.reducePow, List.length_append, List.length_replicate, List.replicate_succ, List.replicate_zero, Int.cast_ofNat_Int, not_true_eq_false, decide_true, decide_false, ite_self, beq_self_eq_true, Bool.true_beq, Bool.false_beq, Bool.not_true, Bool.not_false, Int.reduceNeg, dropK_eq] at k0
      rcases Nat.lt_or_ge i s.length with hlt | hge
      · have d1 : decide ((i : Int) < (s.length : Int)) = true := decide_eq_true (by omega)
        have e21 := F21_eq hlt hs
        have hne : s.drop i ≠ [] := fun h => by have := congrArg List.length h; simp at this; omega
        have hbl := blk_le (s.drop i)
        rw [List.length_drop] at hbl
        by_cases hb : 0 < blk (s.drop i)
        · have d2 : decide ((0 : Int) < ((blk (s.drop i) : Nat) : Int)) = true := decide_eq_true (by omega)
          simp (disch := first | omega | simp only [go_sem, tm0, ↓reduceIte, Nat.reduceAdd, Nat.reduceMul, Nat.reduceSub, Nat.reduceLeDiff, Nat.reduceLT, Nat.reduceEqDiff, Int.reduceLT, Int.reduceLE, Int.reduceAdd, Int.reduceSub, Int.reduceMul, Int.reduceToNat, Int.reducePow, Int.reduceNe, Int.reduceMod, Int.reduceDiv, ne_eq, Int.reduceEq, not_false_eq_true, Nat.reducePow, List.length_append, List.length_replicate, List.replicate_succ, List.replicate_zero, Int.cast_ofNat_Int, not_true_eq_false, decide_true, decide_false, ite_self, beq_self_eq_true, Bool.true_beq, Bool.false_beq, Bool.not_true, Bool.not_false, Int.reduceNeg, dropK_eq]) only [x8l5, go_sem, tm0, ↓reduceIte, Nat.reduceAdd, Nat.reduceMul, Nat.reduceSub, Nat.reduceLeDiff, Nat.reduceLT, Nat.reduceEqDiff, Int.reduceLT, Int.reduceLE, Int.reduceAdd, Int.reduceSub, Int.reduceMul, Int.reduceToNat, Int.reducePow, Int.reduceNe, Int.reduceMod, Int.reduceDiv, ne_eq, Int.reduceEq, not_false_eq_true, Nat.reducePow, List.length_append, List.length_replicate, List.replicate_succ, List.replicate_zero, Int.cast_ofNat_Int, not_true_eq_false, decide_true, decide_false, ite_self, beq_self_eq_true, Bool.true_beq, Bool.false_beq, Bool.not_true, Bool.not_false, Int.reduceNeg, dropK_eq, k0, k6, d1, callX_known (C := C7) (g := 21) rfl, ft_call (C := C7) (g := 21) rfl, e21, d2]
          refine ⟨s.length - (i + blk (s.drop i)), by omega, i + blk (s.drop i), l, by omega, rfl, by simp, by omega, ?_, ho, h0⟩
          rw [hsc, scan_blk hb, List.drop_drop]
        · have hb0 : blk (s.drop i) = 0 := by omega
          have d2 : decide ((0 : Int) < ((blk (s.drop i) : Nat) : Int)) = false := decide_eq_false (by omega)
          have e22 := F22_eq hlt hs
          cases hr : oneR (s.drop i) with
          | error e =>
            have d3 := decide_eq_true (oneR_err hr)
            rw [hr] at e22
            simp only [oneV] at e22
            simp (disch := first | omega | simp only [go_sem, tm0, ↓reduceIte, Nat.reduceAdd, Nat.reduceMul, Nat.reduceSub, Nat.reduceLeDiff, Nat.reduceLT, Nat.reduceEqDiff, Int.reduceLT, Int.reduceLE, Int.reduceAdd, Int.reduceSub, Int.reduceMul, Int.reduceToNat, Int.reducePow, Int.reduceNe, Int.reduceMod, Int.reduceDiv, ne_eq, Int.reduceEq, not_false_eq_true, Nat.reducePow, List.length_append, List.length_replicate, List.replicate_succ, List.replicate_zero, Int.cast_ofNat_Int, not_true_eq_false, decide_true, decide_false, ite_self, beq_self_eq_true, Bool.true_beq, Bool.false_beq, Bool.not_true, Bool.not_false, Int.reduceNeg, dropK_eq]) only [x8l5, go_sem, tm0, ↓reduceIte, Nat.reduceAdd, Nat.reduceMul, Nat.reduceSub, Nat.reduceLeDiff, Nat.reduceLT, Nat.reduceEqDiff, Int.reduceLT, Int.reduceLE, Int.reduceAdd, Int.reduceSub, Int.reduceMul, Int.reduceToNat, Int.reducePow, Int.reduceNe, Int.reduceMod, Int.reduceDiv, ne_eq, Int.reduceEq, not_false_eq_true, Nat.reducePow, List.length_append, List.length_replicate, List.replicate_succ, List.replicate_zero, Int.cast_ofNat_Int, not_true_eq_false, decide_true, decide_false, ite_self, beq_self_eq_true, Bool.true_beq, Bool.false_beq, Bool.not_true, Bool.not_false, Int.reduceNeg, dropK_eq, k0, k6, d1, callX_known (C := C7) (g := 21) rfl, ft_call (C := C7) (g := 21) rfl, callX_known (C := C7) (g := 22) rfl, ft_call (C := C7) (g := 22) rfl, e21, d2, e22, d3]
            refine Ends_plain rfl ?_
            rw [hsc, scan_bad hne hb0 hr]
            rfl
          | ok x =>
            obtain ⟨t, k⟩ := x
            rw [hr] at e22
            simp only [oneV] at e22
            have hk := oneR_len hr
            rw [List.length_drop] at hk
            obtain ⟨V, H, hA, hO⟩ := (ho.keep (hp' := upd (upd hp (8009007, nc + 1 + 1 + 1) (some (.var [.int .i64 0, sv [], .int .i64 0, .int .i64 0]))) (8009007, nc + 1 + 1 + 1) (some (.var [.int .i64 t.k, sv t.s, .int .i64 t.n, .int .i64 (i : Nat)]))) (fun k hk => by repeat rw [upd_ne _ _ (by rintro rfl; simp at hk)])).push (s0 := 8012003) (s1 := 8012002) (z := .agg [.int .i64 t.k, sv t.s, .int .i64 t.n, .int .i64 (i : Nat)]) (bytes := 40) (by simp) (by simp) (TK_plain _ { t with at' := i }) (TK_sc { t with at' := i }) (by simp; omega)
            simp (disch := first | omega | simp only [go_sem, tm0, ↓reduceIte, Nat.reduceAdd, Nat.reduceMul, Nat.reduceSub, Nat.reduceLeDiff, Nat.reduceLT, Nat.reduceEqDiff, Int.reduceLT, Int.reduceLE, Int.reduceAdd, Int.reduceSub, Int.reduceMul, Int.reduceToNat, Int.reducePow, Int.reduceNe, Int.reduceMod, Int.reduceDiv, ne_eq, Int.reduceEq, not_false_eq_true, Nat.reducePow, List.length_append, List.length_replicate, List.replicate_succ, List.replicate_zero, Int.cast_ofNat_Int, not_true_eq_false, decide_true, decide_false, ite_self, beq_self_eq_true, Bool.true_beq, Bool.false_beq, Bool.not_true, Bool.not_false, Int.reduceNeg, dropK_eq]) only [x8l5, go_sem, tm0, ↓reduceIte, Nat.reduceAdd, Nat.reduceMul, Nat.reduceSub, Nat.reduceLeDiff, Nat.reduceLT, Nat.reduceEqDiff, Int.reduceLT, Int.reduceLE, Int.reduceAdd, Int.reduceSub, Int.reduceMul, Int.reduceToNat, Int.reducePow, Int.reduceNe, Int.reduceMod, Int.reduceDiv, ne_eq, Int.reduceEq, not_false_eq_true, Nat.reducePow, List.length_append, List.length_replicate, List.replicate_succ, List.replicate_zero, Int.cast_ofNat_Int, not_true_eq_false, decide_true, decide_false, ite_self, beq_self_eq_true, Bool.true_beq, Bool.false_beq, Bool.not_true, Bool.not_false, Int.reduceNeg, dropK_eq, k0, k6, d1, callX_known (C := C7) (g := 21) rfl, ft_call (C := C7) (g := 21) rfl, callX_known (C := C7) (g := 22) rfl, ft_call (C := C7) (g := 22) rfl, e21, d2, e22, hA]
            refine ⟨s.length - (i + k), by omega, i + k, l ++ [{ t with at' := i }], by omega, rfl, by simp, by simp; omega, ?_, ?_, ?_⟩
            · rw [hsc, scan_step hne hb0 hr, List.drop_drop]
            · rw [List.map_append]; exact (hO _ _).1
            · exact own_ne (ss := [8003000, 8012003]) (hO _ _).1 (by simp)
      · obtain rfl : i = s.length := by omega
        have d1 : decide ((s.length : Int) < (s.length : Int)) = false := decide_eq_false (by omega)
        rw [List.drop_length, scan_nil] at hsc
        simp only [pre, List.append_nil] at hsc
        have hpl : ∀ d, plainL (d + 1) (l.map TK) = true := fun d => plainL_map _ (fun x => TK_plain d x) _
        have hl : ∀ d, lendV (d + 1 + 1) (tm 5) hp = some (sliceOf 4 (tm 5) (l.map TK)) := fun d => Own.lend ho (d + 1) (hpl d)
        rw [own_slc h0] at hl
        simp (disch := first | omega | simp only [*, go_sem, tm0, ↓reduceIte, Nat.reduceAdd, Nat.reduceMul, Nat.reduceSub, Nat.reduceLeDiff, Nat.reduceLT, Nat.reduceEqDiff, Int.reduceLT, Int.reduceLE, Int.reduceAdd, Int.reduceSub, Int.reduceMul, Int.reduceToNat, Int.reducePow, Int.reduceNe, Int.reduceMod, Int.reduceDiv, ne_eq, Int.reduceEq, not_false_eq_true, Nat.reducePow, List.length_append, List.length_replicate, List.replicate_succ, List.replicate_zero, Int.cast_ofNat_Int, not_true_eq_false, decide_true, decide_false, ite_self, beq_self_eq_true, Bool.true_beq, Bool.false_beq, Bool.not_true, Bool.not_false, Int.reduceNeg, List.mem_cons, List.not_mem_nil, or_false, or_self]) only [x8l5, go_sem, tm0, ↓reduceIte, Nat.reduceAdd, Nat.reduceMul, Nat.reduceSub, Nat.reduceLeDiff, Nat.reduceLT, Nat.reduceEqDiff, Int.reduceLT, Int.reduceLE, Int.reduceAdd, Int.reduceSub, Int.reduceMul, Int.reduceToNat, Int.reducePow, Int.reduceNe, Int.reduceMod, Int.reduceDiv, ne_eq, Int.reduceEq, not_false_eq_true, Nat.reducePow, List.length_append, List.length_replicate, List.replicate_succ, List.replicate_zero, Int.cast_ofNat_Int, not_true_eq_false, decide_true, decide_false, ite_self, beq_self_eq_true, Bool.true_beq, Bool.false_beq, Bool.not_true, Bool.not_false, Int.reduceNeg, k0, k6, d1]
        rw [hsc]
        rw [Ends_eq]
        simp (disch := first | omega | simp only [*, go_sem, tm0, ↓reduceIte, Nat.reduceAdd, Nat.reduceMul, Nat.reduceSub, Nat.reduceLeDiff, Nat.reduceLT, Nat.reduceEqDiff, Int.reduceLT, Int.reduceLE, Int.reduceAdd, Int.reduceSub, Int.reduceMul, Int.reduceToNat, Int.reducePow, Int.reduceNe, Int.reduceMod, Int.reduceDiv, ne_eq, Int.reduceEq, not_false_eq_true, Nat.reducePow, List.length_append, List.length_replicate, List.replicate_succ, List.replicate_zero, Int.cast_ofNat_Int, not_true_eq_false, decide_true, decide_false, ite_self, beq_self_eq_true, Bool.true_beq, Bool.false_beq, Bool.not_true, Bool.not_false, Int.reduceNeg, List.mem_cons, List.not_mem_nil, or_false, or_self]) only [go_sem, tm0, ↓reduceIte, Nat.reduceAdd, Nat.reduceMul, Nat.reduceSub, Nat.reduceLeDiff, Nat.reduceLT, Nat.reduceEqDiff, Int.reduceLT, Int.reduceLE, Int.reduceAdd, Int.reduceSub, Int.reduceMul, Int.reduceToNat, Int.reducePow, Int.reduceNe, Int.reduceMod, Int.reduceDiv, ne_eq, Int.reduceEq, not_false_eq_true, Nat.reducePow, List.length_append, List.length_replicate, List.replicate_succ, List.replicate_zero, Int.cast_ofNat_Int, not_true_eq_false, decide_true, decide_false, ite_self, beq_self_eq_true, Bool.true_beq, Bool.false_beq, Bool.not_true, Bool.not_false, Int.reduceNeg, hl]
        rfl
  · have d0 : decide ((4000 : Int) < (s.length : Int)) = true := decide_eq_true (by omega)
    unfold text
    rw [if_neg h4]
    simp (disch := first | omega | simp only [go_sem, tm0, ↓reduceIte, Nat.reduceAdd, Nat.reduceMul, Nat.reduceSub, Nat.reduceLeDiff, Nat.reduceLT, Nat.reduceEqDiff, Int.reduceLT, Int.reduceLE, Int.reduceAdd, Int.reduceSub, Int.reduceMul, Int.reduceToNat, Int.reducePow, Int.reduceNe, Int.reduceMod, Int.reduceDiv, ne_eq, Int.reduceEq, not_false_eq_true, Nat.reducePow, List.length_append, List.length_replicate, List.replicate_succ, List.replicate_zero, Int.cast_ofNat_Int, not_true_eq_false, decide_true, decide_false, ite_self, beq_self_eq_true, Bool.true_beq, Bool.false_beq, Bool.not_true, Bool.not_false, Int.reduceNeg, dropK_eq]) only [x8b, go_sem, tm0, ↓reduceIte, Nat.reduceAdd, Nat.reduceMul, Nat.reduceSub, Nat.reduceLeDiff, Nat.reduceLT, Nat.reduceEqDiff, Int.reduceLT, Int.reduceLE, Int.reduceAdd, Int.reduceSub, Int.reduceMul, Int.reduceToNat, Int.reducePow, Int.reduceNe, Int.reduceMod, Int.reduceDiv, ne_eq, Int.reduceEq, not_false_eq_true, Nat.reducePow, List.length_append, List.length_replicate, List.replicate_succ, List.replicate_zero, Int.cast_ofNat_Int, not_true_eq_false, decide_true, decide_false, ite_self, beq_self_eq_true, Bool.true_beq, Bool.false_beq, Bool.not_true, Bool.not_false, Int.reduceNeg, dropK_eq, d0]
    exact Ends_plain rfl rfl
end Go.Proofs.YtjcjlgiigjckeaaDoor
