/-
  The document's product, piece by piece.
-/
import Derived.Test.YtfndobdfdhkepaaYD
set_option linter.unusedVariables false
set_option linter.unusedSimpArgs false
namespace Go.Proofs.Ytfndobdfdhkepaa
open Go Go.Xec

set_option maxRecDepth 10000
def term (P Q : List Int) (k i : Nat) : Int := if i ≤ k ∧ k - i < 8 then P.getD i 0 * Q.getD (k - i) 0 else 0
def csum (P Q : List Int) (k : Nat) : Nat → Int
  | 0 => 0
  | i + 1 => csum P Q k i + term P Q k i
abbrev conv (P Q : List Int) (n : Nat) : List Int := (List.range n).map fun k => csum P Q k 8
theorem getD_bound {P : List Int} (h : ∀ x ∈ P, P16 x) (i : Nat) : 0 ≤ P.getD i 0 ∧ P.getD i 0 ≤ 65535 := by
  rw [List.getD_eq_getElem?_getD]
  cases e : P[i]? with
  | none => simp
  | some x => exact h x (List.mem_of_getElem? e)
theorem term_bound {P Q : List Int} (hP : ∀ x ∈ P, P16 x) (hQ : ∀ x ∈ Q, P16 x) (k i : Nat) : 0 ≤ term P Q k i ∧ term P Q k i ≤ 4294836225 := by
  unfold term
  split
  · have h1 := getD_bound hP i
    have h2 := getD_bound hQ (k - i)
    exact mul_bound h1.1 h1.2 h2.1 h2.2
  · omega
theorem csum_bound {P Q : List Int} (hP : ∀ x ∈ P, P16 x) (hQ : ∀ x ∈ Q, P16 x) (k : Nat) : ∀ i : Nat, 0 ≤ csum P Q k i ∧ csum P Q k i ≤ i * 4294836225
  | 0 => by simp [csum]
  | i + 1 => by
    have h1 := csum_bound hP hQ k i
    have h2 := term_bound hP hQ k i
    simp only [csum]
    omega
theorem F19_lst {h l : Int} (h1 : U h) (h2 : U l) : ∃ P : List Int, F19 [W h l] = some (.slc 1 (u64s P)) ∧ P.length = 8 ∧ (∀ x ∈ P, P16 x) ∧ worth P = val h l := by
  refine ⟨pcs h l, F19_eq h1 h2, rfl, ?_, ?_⟩
  · intro x hx
    simp only [pcs, List.mem_cons, List.not_mem_nil, or_false] at hx
    simp only [P16]
    omega
  · simp only [worth, pcs, val]; omega
theorem u64s_get {P : List Int} {i : Nat} (h : i < P.length) : (u64s P)[i]? = some (.int .u64 (P.getD i 0)) := by
  rw [List.getElem?_map, List.getElem?_eq_getElem h]
  simp [List.getD_eq_getElem?_getD, List.getElem?_eq_getElem h]

/-- The inner loop, at piece k. -/
theorem inner8 {inl : Inl} {P Q : List Int} (lP : P.length = 8) (lQ : Q.length = 8) (hP : ∀ x ∈ P, P16 x) (hQ : ∀ x ∈ Q, P16 x) {k : Nat} (hk : k < 16) {v8 v4 : AVal} {hp : Heap} {K : Out → St → Prop} {tm : Nat → AVal} {nc : Nat}
    (h6 : tm 6 = .slc 1 (u64s P)) (h7 : tm 7 = .slc 1 (u64s Q)) (h9 : tm 9 = .int .i64 k) (h8 : tm 8 = v8) (h4 : tm 4 = v4) (h24 : tm 24 = .slc 1 (u64s P)) (h25 : tm 25 = .int .i64 8) (h26 : tm 26 = .int .i64 0) (h10 : tm 10 = .int .u64 0)
    (hK : ∀ tm' nc', tm' 6 = .slc 1 (u64s P) → tm' 7 = .slc 1 (u64s Q) → tm' 9 = .int .i64 k → tm' 8 = v8 → tm' 4 = v4 → tm' 10 = .int .u64 (csum P Q k 8) → K (.ext 2) ⟨tm', hp, nc'⟩) :
    Ev (C := C5) (inl := inl) 8 (.loop x8l8) ⟨tm, hp, nc⟩ K := by
  refine Ev_loop_inv (I := fun n st => ∃ (i : Nat) (tm : Nat → AVal) (nc : Nat), st = ⟨tm, hp, nc⟩ ∧ i ≤ 8 ∧ n = 8 - i ∧ tm 6 = .slc 1 (u64s P) ∧ tm 7 = .slc 1 (u64s Q) ∧ tm 9 = .int .i64 k ∧ tm 8 = v8 ∧ tm 4 = v4 ∧
    tm 25 = .int .i64 8 ∧ tm 26 = .int .i64 i ∧ tm 10 = .int .u64 (csum P Q k i)) (n := 8) ?_ (by decide) ?_
  · exact ⟨0, tm, nc, rfl, by omega, rfl, h6, h7, h9, h8, h4, h25, h26, h10⟩
  · clear h6 h7 h9 h8 h4 h24 h25 h26 h10
    rintro n st ⟨i, tm, nc, rfl, hi, rfl, h6, h7, h9, h8, h4, h25, h26, h10⟩
    have hb := csum_bound hP hQ k i
    rcases Nat.lt_or_ge i 8 with hlt | hge
    · have d1 : decide ((i : Int) < 8) = true := decide_eq_true (by omega)
      have gP := u64s_get (P := P) (i := i) (by omega)
      have bP := getD_bound hP i
      by_cases c1 : i ≤ k
      · have d2 : decide ((0 : Int) ≤ (k : Int) - (i : Int)) = true := decide_eq_true (by omega)
        by_cases c2 : k - i < 8
        · have d3 : decide ((k : Int) - (i : Int) < 8) = true := decide_eq_true (by omega)
          have gQ := u64s_get (P := Q) (i := k - i) (by omega)
          have bQ := getD_bound hQ (k - i)
          have bm := mul_bound bP.1 bP.2 bQ.1 bQ.2
          have eki : ((k : Int) - (i : Int)).toNat = k - i := by omega
          simp (disch := first | omega | simp only [go_sem, tm0, ↓reduceIte, Nat.reduceAdd, Nat.reduceMul, Nat.reduceSub, Nat.reduceLeDiff, Nat.reduceLT, Nat.reduceEqDiff, Int.reduceLT, Int.reduceLE, Int.reduceAdd, Int.reduceSub, Int.reduceMul, Int.reduceToNat, Int.reducePow, Int.reduceNe, Int.reduceMod, Int.reduceDiv, ne_eq, Int.reduceEq, not_false_eq_true, Nat.reducePow, List.length_append, List.length_replicate, List.replicate_succ, List.replicate_zero, Int.cast_ofNat_Int]) only [x8l8, go_sem, tm0, ↓reduceIte, Nat.reduceAdd, Nat.reduceMul, Nat.reduceSub, Nat.reduceLeDiff, Nat.reduceLT, Nat.reduceEqDiff, Int.reduceLT, Int.reduceLE, Int.reduceAdd, Int.reduceSub, Int.reduceMul, Int.reduceToNat, Int.reducePow, Int.reduceNe, Int.reduceMod, Int.reduceDiv, ne_eq, Int.reduceEq, not_false_eq_true, Nat.reducePow, List.length_append, List.length_replicate, List.replicate_succ, List.replicate_zero, Int.cast_ofNat_Int, h6, h7, h9, h8, h4, h25, h26, h10, d1, d2, d3, gP, gQ, eki, Int.toNat_natCast, Int.emod_eq_of_lt]
          refine ⟨8 - (i + 1), by omega, i + 1, _, _, rfl, by omega, rfl, ?_⟩
          simp (disch := first | omega | simp only [go_sem, tm0, ↓reduceIte, Nat.reduceAdd, Nat.reduceMul, Nat.reduceSub, Nat.reduceLeDiff, Nat.reduceLT, Nat.reduceEqDiff, Int.reduceLT, Int.reduceLE, Int.reduceAdd, Int.reduceSub, Int.reduceMul, Int.reduceToNat, Int.reducePow, Int.reduceNe, Int.reduceMod, Int.reduceDiv, ne_eq, Int.reduceEq, not_false_eq_true, Nat.reducePow, List.length_append, List.length_replicate, List.replicate_succ, List.replicate_zero, Int.cast_ofNat_Int]) only [go_sem, tm0, ↓reduceIte, Nat.reduceAdd, Nat.reduceMul, Nat.reduceSub, Nat.reduceLeDiff, Nat.reduceLT, Nat.reduceEqDiff, Int.reduceLT, Int.reduceLE, Int.reduceAdd, Int.reduceSub, Int.reduceMul, Int.reduceToNat, Int.reducePow, Int.reduceNe, Int.reduceMod, Int.reduceDiv, ne_eq, Int.reduceEq, not_false_eq_true, Nat.reducePow, List.length_append, List.length_replicate, List.replicate_succ, List.replicate_zero, Int.cast_ofNat_Int, h6, h7, h9, h8, h4, h25, h26, h10]
          refine ⟨by simp, ?_⟩
          simp [csum, term, c1, c2]
        · have d3 : decide ((k : Int) - (i : Int) < 8) = false := decide_eq_false (by omega)
          simp (disch := first | omega | simp only [go_sem, tm0, ↓reduceIte, Nat.reduceAdd, Nat.reduceMul, Nat.reduceSub, Nat.reduceLeDiff, Nat.reduceLT, Nat.reduceEqDiff, Int.reduceLT, Int.reduceLE, Int.reduceAdd, Int.reduceSub, Int.reduceMul, Int.reduceToNat, Int.reducePow, Int.reduceNe, Int.reduceMod, Int.reduceDiv, ne_eq, Int.reduceEq, not_false_eq_true, Nat.reducePow, List.length_append, List.length_replicate, List.replicate_succ, List.replicate_zero, Int.cast_ofNat_Int]) only [x8l8, go_sem, tm0, ↓reduceIte, Nat.reduceAdd, Nat.reduceMul, Nat.reduceSub, Nat.reduceLeDiff, Nat.reduceLT, Nat.reduceEqDiff, Int.reduceLT, Int.reduceLE, Int.reduceAdd, Int.reduceSub, Int.reduceMul, Int.reduceToNat, Int.reducePow, Int.reduceNe, Int.reduceMod, Int.reduceDiv, ne_eq, Int.reduceEq, not_false_eq_true, Nat.reducePow, List.length_append, List.length_replicate, List.replicate_succ, List.replicate_zero, Int.cast_ofNat_Int, h6, h7, h9, h8, h4, h25, h26, h10, d1, d2, d3]
          refine ⟨8 - (i + 1), by omega, i + 1, _, _, rfl, by omega, rfl, ?_⟩
          simp (disch := first | omega | simp only [go_sem, tm0, ↓reduceIte, Nat.reduceAdd, Nat.reduceMul, Nat.reduceSub, Nat.reduceLeDiff, Nat.reduceLT, Nat.reduceEqDiff, Int.reduceLT, Int.reduceLE, Int.reduceAdd, Int.reduceSub, Int.reduceMul, Int.reduceToNat, Int.reducePow, Int.reduceNe, Int.reduceMod, Int.reduceDiv, ne_eq, Int.reduceEq, not_false_eq_true, Nat.reducePow, List.length_append, List.length_replicate, List.replicate_succ, List.replicate_zero, Int.cast_ofNat_Int]) only [go_sem, tm0, ↓reduceIte, Nat.reduceAdd, Nat.reduceMul, Nat.reduceSub, Nat.reduceLeDiff, Nat.reduceLT, Nat.reduceEqDiff, Int.reduceLT, Int.reduceLE, Int.reduceAdd, Int.reduceSub, Int.reduceMul, Int.reduceToNat, Int.reducePow, Int.reduceNe, Int.reduceMod, Int.reduceDiv, ne_eq, Int.reduceEq, not_false_eq_true, Nat.reducePow, List.length_append, List.length_replicate, List.replicate_succ, List.replicate_zero, Int.cast_ofNat_Int, h6, h7, h9, h8, h4, h25, h26, h10]
          refine ⟨by simp, ?_⟩
          simp [csum, term, c1, c2]
      · have d2 : decide ((0 : Int) ≤ (k : Int) - (i : Int)) = false := decide_eq_false (by omega)
        simp (disch := first | omega | simp only [go_sem, tm0, ↓reduceIte, Nat.reduceAdd, Nat.reduceMul, Nat.reduceSub, Nat.reduceLeDiff, Nat.reduceLT, Nat.reduceEqDiff, Int.reduceLT, Int.reduceLE, Int.reduceAdd, Int.reduceSub, Int.reduceMul, Int.reduceToNat, Int.reducePow, Int.reduceNe, Int.reduceMod, Int.reduceDiv, ne_eq, Int.reduceEq, not_false_eq_true, Nat.reducePow, List.length_append, List.length_replicate, List.replicate_succ, List.replicate_zero, Int.cast_ofNat_Int]) only [x8l8, go_sem, tm0, ↓reduceIte, Nat.reduceAdd, Nat.reduceMul, Nat.reduceSub, Nat.reduceLeDiff, Nat.reduceLT, Nat.reduceEqDiff, Int.reduceLT, Int.reduceLE, Int.reduceAdd, Int.reduceSub, Int.reduceMul, Int.reduceToNat, Int.reducePow, Int.reduceNe, Int.reduceMod, Int.reduceDiv, ne_eq, Int.reduceEq, not_false_eq_true, Nat.reducePow, List.length_append, List.length_replicate, List.replicate_succ, List.replicate_zero, Int.cast_ofNat_Int, h6, h7, h9, h8, h4, h25, h26, h10, d1, d2]
        refine ⟨8 - (i + 1), by omega, i + 1, _, _, rfl, by omega, rfl, ?_⟩
        simp (disch := first | omega | simp only [go_sem, tm0, ↓reduceIte, Nat.reduceAdd, Nat.reduceMul, Nat.reduceSub, Nat.reduceLeDiff, Nat.reduceLT, Nat.reduceEqDiff, Int.reduceLT, Int.reduceLE, Int.reduceAdd, Int.reduceSub, Int.reduceMul, Int.reduceToNat, Int.reducePow, Int.reduceNe, Int.reduceMod, Int.reduceDiv, ne_eq, Int.reduceEq, not_false_eq_true, Nat.reducePow, List.length_append, List.length_replicate, List.replicate_succ, List.replicate_zero, Int.cast_ofNat_Int]) only [go_sem, tm0, ↓reduceIte, Nat.reduceAdd, Nat.reduceMul, Nat.reduceSub, Nat.reduceLeDiff, Nat.reduceLT, Nat.reduceEqDiff, Int.reduceLT, Int.reduceLE, Int.reduceAdd, Int.reduceSub, Int.reduceMul, Int.reduceToNat, Int.reducePow, Int.reduceNe, Int.reduceMod, Int.reduceDiv, ne_eq, Int.reduceEq, not_false_eq_true, Nat.reducePow, List.length_append, List.length_replicate, List.replicate_succ, List.replicate_zero, Int.cast_ofNat_Int, h6, h7, h9, h8, h4, h25, h26, h10]
        refine ⟨by simp, ?_⟩
        simp [csum, term, c1]
    · obtain rfl : i = 8 := by omega
      have d1 : decide (((8 : Nat) : Int) < 8) = false := by decide
      simp (disch := first | omega | simp only [go_sem, tm0, ↓reduceIte, Nat.reduceAdd, Nat.reduceMul, Nat.reduceSub, Nat.reduceLeDiff, Nat.reduceLT, Nat.reduceEqDiff, Int.reduceLT, Int.reduceLE, Int.reduceAdd, Int.reduceSub, Int.reduceMul, Int.reduceToNat, Int.reducePow, Int.reduceNe, Int.reduceMod, Int.reduceDiv, ne_eq, Int.reduceEq, not_false_eq_true, Nat.reducePow, List.length_append, List.length_replicate, List.replicate_succ, List.replicate_zero, Int.cast_ofNat_Int]) only [x8l8, go_sem, tm0, ↓reduceIte, Nat.reduceAdd, Nat.reduceMul, Nat.reduceSub, Nat.reduceLeDiff, Nat.reduceLT, Nat.reduceEqDiff, Int.reduceLT, Int.reduceLE, Int.reduceAdd, Int.reduceSub, Int.reduceMul, Int.reduceToNat, Int.reducePow, Int.reduceNe, Int.reduceMod, Int.reduceDiv, ne_eq, Int.reduceEq, not_false_eq_true, Nat.reducePow, List.length_append, List.length_replicate, List.replicate_succ, List.replicate_zero, Int.cast_ofNat_Int, h6, h7, h9, h8, h4, h25, h26, h10, d1]
      exact hK _ _ (by simp only [go_sem, tm0, ↓reduceIte, Nat.reduceAdd, Nat.reduceMul, Nat.reduceSub, Nat.reduceLeDiff, Nat.reduceLT, Nat.reduceEqDiff, Int.reduceLT, Int.reduceLE, Int.reduceAdd, Int.reduceSub, Int.reduceMul, Int.reduceToNat, Int.reducePow, Int.reduceNe, Int.reduceMod, Int.reduceDiv, ne_eq, Int.reduceEq, not_false_eq_true, Nat.reducePow, List.length_append, List.length_replicate, List.replicate_succ, List.replicate_zero, Int.cast_ofNat_Int, h6]) (by simp only [go_sem, tm0, ↓reduceIte, Nat.reduceAdd, Nat.reduceMul, Nat.reduceSub, Nat.reduceLeDiff, Nat.reduceLT, Nat.reduceEqDiff, Int.reduceLT, Int.reduceLE, Int.reduceAdd, Int.reduceSub, Int.reduceMul, Int.reduceToNat, Int.reducePow, Int.reduceNe, Int.reduceMod, Int.reduceDiv, ne_eq, Int.reduceEq, not_false_eq_true, Nat.reducePow, List.length_append, List.length_replicate, List.replicate_succ, List.replicate_zero, Int.cast_ofNat_Int, h7]) (by simp only [go_sem, tm0, ↓reduceIte, Nat.reduceAdd, Nat.reduceMul, Nat.reduceSub, Nat.reduceLeDiff, Nat.reduceLT, Nat.reduceEqDiff, Int.reduceLT, Int.reduceLE, Int.reduceAdd, Int.reduceSub, Int.reduceMul, Int.reduceToNat, Int.reducePow, Int.reduceNe, Int.reduceMod, Int.reduceDiv, ne_eq, Int.reduceEq, not_false_eq_true, Nat.reducePow, List.length_append, List.length_replicate, List.replicate_succ, List.replicate_zero, Int.cast_ofNat_Int, h9]) (by simp only [go_sem, tm0, ↓reduceIte, Nat.reduceAdd, Nat.reduceMul, Nat.reduceSub, Nat.reduceLeDiff, Nat.reduceLT, Nat.reduceEqDiff, Int.reduceLT, Int.reduceLE, Int.reduceAdd, Int.reduceSub, Int.reduceMul, Int.reduceToNat, Int.reducePow, Int.reduceNe, Int.reduceMod, Int.reduceDiv, ne_eq, Int.reduceEq, not_false_eq_true, Nat.reducePow, List.length_append, List.length_replicate, List.replicate_succ, List.replicate_zero, Int.cast_ofNat_Int, h8]) (by simp only [go_sem, tm0, ↓reduceIte, Nat.reduceAdd, Nat.reduceMul, Nat.reduceSub, Nat.reduceLeDiff, Nat.reduceLT, Nat.reduceEqDiff, Int.reduceLT, Int.reduceLE, Int.reduceAdd, Int.reduceSub, Int.reduceMul, Int.reduceToNat, Int.reducePow, Int.reduceNe, Int.reduceMod, Int.reduceDiv, ne_eq, Int.reduceEq, not_false_eq_true, Nat.reducePow, List.length_append, List.length_replicate, List.replicate_succ, List.replicate_zero, Int.cast_ofNat_Int, h4]) (by simp only [go_sem, tm0, ↓reduceIte, Nat.reduceAdd, Nat.reduceMul, Nat.reduceSub, Nat.reduceLeDiff, Nat.reduceLT, Nat.reduceEqDiff, Int.reduceLT, Int.reduceLE, Int.reduceAdd, Int.reduceSub, Int.reduceMul, Int.reduceToNat, Int.reducePow, Int.reduceNe, Int.reduceMod, Int.reduceDiv, ne_eq, Int.reduceEq, not_false_eq_true, Nat.reducePow, List.length_append, List.length_replicate, List.replicate_succ, List.replicate_zero, Int.cast_ofNat_Int, h10])

/-! ### what the pieces' product is worth -/
theorem conv_worth8 (p0 p1 p2 p3 p4 p5 p6 p7 q0 q1 q2 q3 q4 q5 q6 q7 : Int) : worth (conv [p0, p1, p2, p3, p4, p5, p6, p7] [q0, q1, q2, q3, q4, q5, q6, q7] 16) = worth [p0, p1, p2, p3, p4, p5, p6, p7] * worth [q0, q1, q2, q3, q4, q5, q6, q7] := by
  have e : conv [p0, p1, p2, p3, p4, p5, p6, p7] [q0, q1, q2, q3, q4, q5, q6, q7] 16 =
    [p0 * q0, p0 * q1 + p1 * q0, p0 * q2 + p1 * q1 + p2 * q0, p0 * q3 + p1 * q2 + p2 * q1 + p3 * q0, p0 * q4 + p1 * q3 + p2 * q2 + p3 * q1 + p4 * q0,
      p0 * q5 + p1 * q4 + p2 * q3 + p3 * q2 + p4 * q1 + p5 * q0, p0 * q6 + p1 * q5 + p2 * q4 + p3 * q3 + p4 * q2 + p5 * q1 + p6 * q0,
      p0 * q7 + p1 * q6 + p2 * q5 + p3 * q4 + p4 * q3 + p5 * q2 + p6 * q1 + p7 * q0, p1 * q7 + p2 * q6 + p3 * q5 + p4 * q4 + p5 * q3 + p6 * q2 + p7 * q1,
      p2 * q7 + p3 * q6 + p4 * q5 + p5 * q4 + p6 * q3 + p7 * q2, p3 * q7 + p4 * q6 + p5 * q5 + p6 * q4 + p7 * q3, p4 * q7 + p5 * q6 + p6 * q5 + p7 * q4,
      p5 * q7 + p6 * q6 + p7 * q5, p6 * q7 + p7 * q6, p7 * q7, 0] := by
    show [_, _, _, _, _, _, _, _, _, _, _, _, _, _, _, _] = _
    simp [csum, term]
  rw [e]
  simp only [worth, Int.add_mul, Int.mul_add, Int.mul_comm, Int.mul_left_comm, Int.mul_assoc, Int.reduceMul, Int.mul_zero, Int.zero_mul, Int.add_zero]
  omega

theorem conv_worth {P Q : List Int} (lP : P.length = 8) (lQ : Q.length = 8) : worth (conv P Q 16) = worth P * worth Q := by
  obtain ⟨p0, p1, p2, p3, p4, p5, p6, p7, rfl⟩ := list8 lP
  obtain ⟨q0, q1, q2, q3, q4, q5, q6, q7, rfl⟩ := list8 lQ
  exact conv_worth8 ..
theorem conv_small {P Q : List Int} (hP : ∀ x ∈ P, P16 x) (hQ : ∀ x ∈ Q, P16 x) : Small (conv P Q 16) := by
  refine ⟨fun x hx => ?_, by simp [conv]⟩
  simp only [conv, List.mem_map] at hx
  obtain ⟨k, _, rfl⟩ := hx
  have := csum_bound hP hQ k 8
  omega
/-- Is one of them there? -/
def anyPos (l : List Int) : Bool := l.any fun x => decide (0 < x)
theorem anyPos_worth : ∀ (l : List Int), (∀ x ∈ l, 0 ≤ x) → 0 ≤ worth l ∧ anyPos l = decide (0 < worth l)
  | [], _ => by simp [anyPos, worth]
  | x :: l, h => by
    have hx := h x (by simp)
    obtain ⟨h1, h2⟩ := anyPos_worth l (fun y hy => h y (by simp [hy]))
    show 0 ≤ x + 65536 * worth l ∧ (decide (0 < x) || anyPos l) = decide (0 < x + 65536 * worth l)
    refine ⟨by omega, ?_⟩
    rw [h2, Bool.eq_iff_iff]
    simp only [Bool.or_eq_true, decide_eq_true_eq]
    omega
theorem list16 {α : Type} {l : List α} (h : l.length = 16) : ∃ a b c d e f g i r, l = a :: b :: c :: d :: e :: f :: g :: i :: r ∧ r.length = 8 := by
  match l, h with
  | a :: b :: c :: d :: e :: f :: g :: i :: r, h => exact ⟨a, b, c, d, e, f, g, i, r, rfl, by simpa using h⟩
theorem worth_app : ∀ (a b : List Int), worth (a ++ b) = worth a + 65536 ^ a.length * worth b
  | [], b => by simp [worth]
  | x :: a, b => by
    simp only [List.cons_append, worth, worth_app a b, List.length_cons, Int.pow_succ]
    rw [Int.mul_add, Int.mul_comm (65536 ^ a.length) 65536, Int.mul_assoc, Int.add_assoc]
theorem anyPos_take (R : List Int) (j : Nat) (h : j < R.length) : anyPos (R.take (j + 1)) = (anyPos (R.take j) || decide (0 < R.getD j 0)) := by
  unfold anyPos
  rw [List.take_add_one, List.any_append, List.getElem?_eq_getElem h]
  simp [List.getD_eq_getElem?_getD, List.getElem?_eq_getElem h]
/-- The last loop: is a piece there. -/
theorem over8 {inl : Inl} {R : List Int} (lR : R.length = 9) {v8 v4 : AVal} {hp : Heap} {K : Out → St → Prop} {tm : Nat → AVal} {nc : Nat}
    (h8 : tm 8 = v8) (h4 : tm 4 = v4) (h60 : tm 60 = .slc 1 (u64s R)) (h61 : tm 61 = .int .i64 9) (h62 : tm 62 = .int .i64 0) (h12 : tm 12 = .bool false)
    (hK : ∀ tm' nc', tm' 8 = v8 → tm' 4 = v4 → tm' 12 = .bool (anyPos R) → K (.ext 4) ⟨tm', hp, nc'⟩) :
    Ev (C := C5) (inl := inl) 8 (.loop x8l20) ⟨tm, hp, nc⟩ K := by
  refine Ev_loop_inv (I := fun n st => ∃ (i : Nat) (tm : Nat → AVal) (nc : Nat), st = ⟨tm, hp, nc⟩ ∧ i ≤ 9 ∧ n = 9 - i ∧ tm 8 = v8 ∧ tm 4 = v4 ∧ tm 60 = .slc 1 (u64s R) ∧ tm 61 = .int .i64 9 ∧ tm 62 = .int .i64 i ∧ tm 12 = .bool (anyPos (R.take i))) (n := 9) ?_ (by decide) ?_
  · exact ⟨0, tm, nc, rfl, by omega, rfl, h8, h4, h60, h61, h62, h12⟩
  · clear h8 h4 h60 h61 h62 h12
    rintro n st ⟨i, tm, nc, rfl, hi, rfl, h8, h4, h60, h61, h62, h12⟩
    rcases Nat.lt_or_ge i 9 with hlt | hge
    · have d1 : decide ((i : Int) < 9) = true := decide_eq_true (by omega)
      have gR := u64s_get (P := R) (i := i) (by omega)
      have ht := anyPos_take R i (by omega)
      cases d2 : decide (0 < R.getD i 0) with
      | true =>
        simp (disch := first | omega | simp only [go_sem, tm0, ↓reduceIte, Nat.reduceAdd, Nat.reduceMul, Nat.reduceSub, Nat.reduceLeDiff, Nat.reduceLT, Nat.reduceEqDiff, Int.reduceLT, Int.reduceLE, Int.reduceAdd, Int.reduceSub, Int.reduceMul, Int.reduceToNat, Int.reducePow, Int.reduceNe, Int.reduceMod, Int.reduceDiv, ne_eq, Int.reduceEq, not_false_eq_true, Nat.reducePow, List.length_append, List.length_replicate, List.replicate_succ, List.replicate_zero, Int.cast_ofNat_Int]) only [x8l20, go_sem, tm0, ↓reduceIte, Nat.reduceAdd, Nat.reduceMul, Nat.reduceSub, Nat.reduceLeDiff, Nat.reduceLT, Nat.reduceEqDiff, Int.reduceLT, Int.reduceLE, Int.reduceAdd, Int.reduceSub, Int.reduceMul, Int.reduceToNat, Int.reducePow, Int.reduceNe, Int.reduceMod, Int.reduceDiv, ne_eq, Int.reduceEq, not_false_eq_true, Nat.reducePow, List.length_append, List.length_replicate, List.replicate_succ, List.replicate_zero, Int.cast_ofNat_Int, h8, h4, h60, h61, h62, h12, d1, d2, gR, Int.toNat_natCast]
        refine ⟨9 - (i + 1), by omega, i + 1, _, _, rfl, by omega, rfl, ?_⟩
        simp (disch := first | omega | simp only [go_sem, tm0, ↓reduceIte, Nat.reduceAdd, Nat.reduceMul, Nat.reduceSub, Nat.reduceLeDiff, Nat.reduceLT, Nat.reduceEqDiff, Int.reduceLT, Int.reduceLE, Int.reduceAdd, Int.reduceSub, Int.reduceMul, Int.reduceToNat, Int.reducePow, Int.reduceNe, Int.reduceMod, Int.reduceDiv, ne_eq, Int.reduceEq, not_false_eq_true, Nat.reducePow, List.length_append, List.length_replicate, List.replicate_succ, List.replicate_zero, Int.cast_ofNat_Int]) only [go_sem, tm0, ↓reduceIte, Nat.reduceAdd, Nat.reduceMul, Nat.reduceSub, Nat.reduceLeDiff, Nat.reduceLT, Nat.reduceEqDiff, Int.reduceLT, Int.reduceLE, Int.reduceAdd, Int.reduceSub, Int.reduceMul, Int.reduceToNat, Int.reducePow, Int.reduceNe, Int.reduceMod, Int.reduceDiv, ne_eq, Int.reduceEq, not_false_eq_true, Nat.reducePow, List.length_append, List.length_replicate, List.replicate_succ, List.replicate_zero, Int.cast_ofNat_Int, h8, h4, h60, h61, h62, h12, ht, d2]
        simp
      | false =>
        simp (disch := first | omega | simp only [go_sem, tm0, ↓reduceIte, Nat.reduceAdd, Nat.reduceMul, Nat.reduceSub, Nat.reduceLeDiff, Nat.reduceLT, Nat.reduceEqDiff, Int.reduceLT, Int.reduceLE, Int.reduceAdd, Int.reduceSub, Int.reduceMul, Int.reduceToNat, Int.reducePow, Int.reduceNe, Int.reduceMod, Int.reduceDiv, ne_eq, Int.reduceEq, not_false_eq_true, Nat.reducePow, List.length_append, List.length_replicate, List.replicate_succ, List.replicate_zero, Int.cast_ofNat_Int]) only [x8l20, go_sem, tm0, ↓reduceIte, Nat.reduceAdd, Nat.reduceMul, Nat.reduceSub, Nat.reduceLeDiff, Nat.reduceLT, Nat.reduceEqDiff, Int.reduceLT, Int.reduceLE, Int.reduceAdd, Int.reduceSub, Int.reduceMul, Int.reduceToNat, Int.reducePow, Int.reduceNe, Int.reduceMod, Int.reduceDiv, ne_eq, Int.reduceEq, not_false_eq_true, Nat.reducePow, List.length_append, List.length_replicate, List.replicate_succ, List.replicate_zero, Int.cast_ofNat_Int, h8, h4, h60, h61, h62, h12, d1, d2, gR, Int.toNat_natCast]
        refine ⟨9 - (i + 1), by omega, i + 1, _, _, rfl, by omega, rfl, ?_⟩
        simp (disch := first | omega | simp only [go_sem, tm0, ↓reduceIte, Nat.reduceAdd, Nat.reduceMul, Nat.reduceSub, Nat.reduceLeDiff, Nat.reduceLT, Nat.reduceEqDiff, Int.reduceLT, Int.reduceLE, Int.reduceAdd, Int.reduceSub, Int.reduceMul, Int.reduceToNat, Int.reducePow, Int.reduceNe, Int.reduceMod, Int.reduceDiv, ne_eq, Int.reduceEq, not_false_eq_true, Nat.reducePow, List.length_append, List.length_replicate, List.replicate_succ, List.replicate_zero, Int.cast_ofNat_Int]) only [go_sem, tm0, ↓reduceIte, Nat.reduceAdd, Nat.reduceMul, Nat.reduceSub, Nat.reduceLeDiff, Nat.reduceLT, Nat.reduceEqDiff, Int.reduceLT, Int.reduceLE, Int.reduceAdd, Int.reduceSub, Int.reduceMul, Int.reduceToNat, Int.reducePow, Int.reduceNe, Int.reduceMod, Int.reduceDiv, ne_eq, Int.reduceEq, not_false_eq_true, Nat.reducePow, List.length_append, List.length_replicate, List.replicate_succ, List.replicate_zero, Int.cast_ofNat_Int, h8, h4, h60, h61, h62, h12, ht, d2]
        simp
    · obtain rfl : i = 9 := by omega
      have d1 : decide (((9 : Nat) : Int) < 9) = false := by decide
      have ht : R.take 9 = R := List.take_of_length_le (by omega)
      simp (disch := first | omega | simp only [go_sem, tm0, ↓reduceIte, Nat.reduceAdd, Nat.reduceMul, Nat.reduceSub, Nat.reduceLeDiff, Nat.reduceLT, Nat.reduceEqDiff, Int.reduceLT, Int.reduceLE, Int.reduceAdd, Int.reduceSub, Int.reduceMul, Int.reduceToNat, Int.reducePow, Int.reduceNe, Int.reduceMod, Int.reduceDiv, ne_eq, Int.reduceEq, not_false_eq_true, Nat.reducePow, List.length_append, List.length_replicate, List.replicate_succ, List.replicate_zero, Int.cast_ofNat_Int]) only [x8l20, go_sem, tm0, ↓reduceIte, Nat.reduceAdd, Nat.reduceMul, Nat.reduceSub, Nat.reduceLeDiff, Nat.reduceLT, Nat.reduceEqDiff, Int.reduceLT, Int.reduceLE, Int.reduceAdd, Int.reduceSub, Int.reduceMul, Int.reduceToNat, Int.reducePow, Int.reduceNe, Int.reduceMod, Int.reduceDiv, ne_eq, Int.reduceEq, not_false_eq_true, Nat.reducePow, List.length_append, List.length_replicate, List.replicate_succ, List.replicate_zero, Int.cast_ofNat_Int, h8, h4, h60, h61, h62, h12, d1]
      exact hK _ _ (by simp only [go_sem, tm0, ↓reduceIte, Nat.reduceAdd, Nat.reduceMul, Nat.reduceSub, Nat.reduceLeDiff, Nat.reduceLT, Nat.reduceEqDiff, Int.reduceLT, Int.reduceLE, Int.reduceAdd, Int.reduceSub, Int.reduceMul, Int.reduceToNat, Int.reducePow, Int.reduceNe, Int.reduceMod, Int.reduceDiv, ne_eq, Int.reduceEq, not_false_eq_true, Nat.reducePow, List.length_append, List.length_replicate, List.replicate_succ, List.replicate_zero, Int.cast_ofNat_Int, h8]) (by simp only [go_sem, tm0, ↓reduceIte, Nat.reduceAdd, Nat.reduceMul, Nat.reduceSub, Nat.reduceLeDiff, Nat.reduceLT, Nat.reduceEqDiff, Int.reduceLT, Int.reduceLE, Int.reduceAdd, Int.reduceSub, Int.reduceMul, Int.reduceToNat, Int.reducePow, Int.reduceNe, Int.reduceMod, Int.reduceDiv, ne_eq, Int.reduceEq, not_false_eq_true, Nat.reducePow, List.length_append, List.length_replicate, List.replicate_succ, List.replicate_zero, Int.cast_ofNat_Int, h4]) (by simp only [go_sem, tm0, ↓reduceIte, Nat.reduceAdd, Nat.reduceMul, Nat.reduceSub, Nat.reduceLeDiff, Nat.reduceLT, Nat.reduceEqDiff, Int.reduceLT, Int.reduceLE, Int.reduceAdd, Int.reduceSub, Int.reduceMul, Int.reduceToNat, Int.reducePow, Int.reduceNe, Int.reduceMod, Int.reduceDiv, ne_eq, Int.reduceEq, not_false_eq_true, Nat.reducePow, List.length_append, List.length_replicate, List.replicate_succ, List.replicate_zero, Int.cast_ofNat_Int, h12, ht])
theorem step8 {ah al bh bl : Int} (h1 : U ah) (h2 : U al) (h3 : U bh) (h4 : U bl) : pureF C5 1 8 [W ah al, W bh bl] = some (.tup [enc ((val ah al * val bh bl) % big), .bool (decide (big ≤ val ah al * val bh bl))]) := by
  obtain ⟨P, fP, lP, hP, wP⟩ := F19_lst h1 h2
  obtain ⟨Q, fQ, lQ, hQ, wQ⟩ := F19_lst h3 h4
  refine pureF_of (x := x8) rfl rfl ?_
  rw [x8_eq.1, x8_eq.2.1]
  simp (disch := first | omega | simp only [go_sem, tm0, ↓reduceIte, Nat.reduceAdd, Nat.reduceMul, Nat.reduceSub, Nat.reduceLeDiff, Nat.reduceLT, Nat.reduceEqDiff, Int.reduceLT, Int.reduceLE, Int.reduceAdd, Int.reduceSub, Int.reduceMul, Int.reduceToNat, Int.reducePow, Int.reduceNe, Int.reduceMod, Int.reduceDiv, ne_eq, Int.reduceEq, not_false_eq_true, Nat.reducePow, List.length_append, List.length_replicate, List.replicate_succ, List.replicate_zero, Int.cast_ofNat_Int]) only [x8b, x8l5, go_sem, tm0, ↓reduceIte, Nat.reduceAdd, Nat.reduceMul, Nat.reduceSub, Nat.reduceLeDiff, Nat.reduceLT, Nat.reduceEqDiff, Int.reduceLT, Int.reduceLE, Int.reduceAdd, Int.reduceSub, Int.reduceMul, Int.reduceToNat, Int.reducePow, Int.reduceNe, Int.reduceMod, Int.reduceDiv, ne_eq, Int.reduceEq, not_false_eq_true, Nat.reducePow, List.length_append, List.length_replicate, List.replicate_succ, List.replicate_zero, Int.cast_ofNat_Int, callX_names (C := C5) (g := 19) rfl, fP, fQ]
  refine Ev_loop_inv (I := fun n st => ∃ (k g : Nat) (tm : Nat → AVal) (hp : Heap) (nc : Nat), st = ⟨tm, hp, nc⟩ ∧ k ≤ 16 ∧ n = 16 - k ∧ tm 6 = .slc 1 (u64s P) ∧ tm 7 = .slc 1 (u64s Q) ∧ tm 9 = .int .i64 k ∧ tm 8 = .sl (8003000, 3) g 1 0 k ∧
    hp (8003000, 3) = some (.row g 1 (u64s (conv P Q k))) ∧ tm 4 = .ptr (8000002, 0) 0 0 0 0 ∧ hp (8000002, 0) = some (.var [.int .u64 0, .int .u64 0])) (n := 16) ?_ (by decide) ?_
  · refine ⟨0, 0, _, _, _, rfl, by omega, rfl, ?_⟩
    simp (disch := first | omega | simp only [go_sem, tm0, ↓reduceIte, Nat.reduceAdd, Nat.reduceMul, Nat.reduceSub, Nat.reduceLeDiff, Nat.reduceLT, Nat.reduceEqDiff, Int.reduceLT, Int.reduceLE, Int.reduceAdd, Int.reduceSub, Int.reduceMul, Int.reduceToNat, Int.reducePow, Int.reduceNe, Int.reduceMod, Int.reduceDiv, ne_eq, Int.reduceEq, not_false_eq_true, Nat.reducePow, List.length_append, List.length_replicate, List.replicate_succ, List.replicate_zero, Int.cast_ofNat_Int]) only [go_sem, tm0, ↓reduceIte, Nat.reduceAdd, Nat.reduceMul, Nat.reduceSub, Nat.reduceLeDiff, Nat.reduceLT, Nat.reduceEqDiff, Int.reduceLT, Int.reduceLE, Int.reduceAdd, Int.reduceSub, Int.reduceMul, Int.reduceToNat, Int.reducePow, Int.reduceNe, Int.reduceMod, Int.reduceDiv, ne_eq, Int.reduceEq, not_false_eq_true, Nat.reducePow, List.length_append, List.length_replicate, List.replicate_succ, List.replicate_zero, Int.cast_ofNat_Int]
    rfl
  · rintro n st ⟨k, g, tm, hp, nc, rfl, hk, rfl, k6, k7, k9, k8, kh, k4, kh4⟩
    rcases Nat.lt_or_ge k 16 with hlt | hge
    · have d1 : decide ((k : Int) < 16) = true := decide_eq_true (by omega)
      simp (disch := first | omega | simp only [go_sem, tm0, ↓reduceIte, Nat.reduceAdd, Nat.reduceMul, Nat.reduceSub, Nat.reduceLeDiff, Nat.reduceLT, Nat.reduceEqDiff, Int.reduceLT, Int.reduceLE, Int.reduceAdd, Int.reduceSub, Int.reduceMul, Int.reduceToNat, Int.reducePow, Int.reduceNe, Int.reduceMod, Int.reduceDiv, ne_eq, Int.reduceEq, not_false_eq_true, Nat.reducePow, List.length_append, List.length_replicate, List.replicate_succ, List.replicate_zero, Int.cast_ofNat_Int]) only [go_sem, tm0, ↓reduceIte, Nat.reduceAdd, Nat.reduceMul, Nat.reduceSub, Nat.reduceLeDiff, Nat.reduceLT, Nat.reduceEqDiff, Int.reduceLT, Int.reduceLE, Int.reduceAdd, Int.reduceSub, Int.reduceMul, Int.reduceToNat, Int.reducePow, Int.reduceNe, Int.reduceMod, Int.reduceDiv, ne_eq, Int.reduceEq, not_false_eq_true, Nat.reducePow, List.length_append, List.length_replicate, List.replicate_succ, List.replicate_zero, Int.cast_ofNat_Int, k6, k7, k9, k8, k4, kh, kh4, d1, List.length_map, lP]
      refine inner8 lP lQ hP hQ hlt (v8 := .sl (8003000, 3) g 1 0 k) (v4 := .ptr (8000002, 0) 0 0 0 0) ?_ ?_ ?_ ?_ ?_ ?_ ?_ ?_ ?_ ?_
      all_goals try (simp only [go_sem, tm0, ↓reduceIte, Nat.reduceAdd, Nat.reduceMul, Nat.reduceSub, Nat.reduceLeDiff, Nat.reduceLT, Nat.reduceEqDiff, Int.reduceLT, Int.reduceLE, Int.reduceAdd, Int.reduceSub, Int.reduceMul, Int.reduceToNat, Int.reducePow, Int.reduceNe, Int.reduceMod, Int.reduceDiv, ne_eq, Int.reduceEq, not_false_eq_true, Nat.reducePow, List.length_append, List.length_replicate, List.replicate_succ, List.replicate_zero, Int.cast_ofNat_Int, k6, k7, k9, k8, k4]; done)
      · intro tm' nc' m6 m7 m9 m8 m4 m10
        have hb := csum_bound hP hQ k 8
        simp (disch := first | omega | simp only [go_sem, tm0, ↓reduceIte, Nat.reduceAdd, Nat.reduceMul, Nat.reduceSub, Nat.reduceLeDiff, Nat.reduceLT, Nat.reduceEqDiff, Int.reduceLT, Int.reduceLE, Int.reduceAdd, Int.reduceSub, Int.reduceMul, Int.reduceToNat, Int.reducePow, Int.reduceNe, Int.reduceMod, Int.reduceDiv, ne_eq, Int.reduceEq, not_false_eq_true, Nat.reducePow, List.length_append, List.length_replicate, List.replicate_succ, List.replicate_zero, Int.cast_ofNat_Int]) only [go_sem, tm0, ↓reduceIte, Nat.reduceAdd, Nat.reduceMul, Nat.reduceSub, Nat.reduceLeDiff, Nat.reduceLT, Nat.reduceEqDiff, Int.reduceLT, Int.reduceLE, Int.reduceAdd, Int.reduceSub, Int.reduceMul, Int.reduceToNat, Int.reducePow, Int.reduceNe, Int.reduceMod, Int.reduceDiv, ne_eq, Int.reduceEq, not_false_eq_true, Nat.reducePow, List.length_append, List.length_replicate, List.replicate_succ, List.replicate_zero, Int.cast_ofNat_Int, m6, m7, m9, m8, m10, kh, List.length_map, List.length_range, Nat.zero_add]
        refine ⟨16 - (k + 1), by omega, k + 1, g + 1, _, _, _, rfl, by omega, rfl, ?_⟩
        simp (disch := first | omega | simp only [go_sem, tm0, ↓reduceIte, Nat.reduceAdd, Nat.reduceMul, Nat.reduceSub, Nat.reduceLeDiff, Nat.reduceLT, Nat.reduceEqDiff, Int.reduceLT, Int.reduceLE, Int.reduceAdd, Int.reduceSub, Int.reduceMul, Int.reduceToNat, Int.reducePow, Int.reduceNe, Int.reduceMod, Int.reduceDiv, ne_eq, Int.reduceEq, not_false_eq_true, Nat.reducePow, List.length_append, List.length_replicate, List.replicate_succ, List.replicate_zero, Int.cast_ofNat_Int]) only [go_sem, tm0, ↓reduceIte, Nat.reduceAdd, Nat.reduceMul, Nat.reduceSub, Nat.reduceLeDiff, Nat.reduceLT, Nat.reduceEqDiff, Int.reduceLT, Int.reduceLE, Int.reduceAdd, Int.reduceSub, Int.reduceMul, Int.reduceToNat, Int.reducePow, Int.reduceNe, Int.reduceMod, Int.reduceDiv, ne_eq, Int.reduceEq, not_false_eq_true, Nat.reducePow, List.length_append, List.length_replicate, List.replicate_succ, List.replicate_zero, Int.cast_ofNat_Int, m6, m7, m9, m8, m4, m10, kh, kh4]
        exact ⟨by simp, by simp [conv, List.range_succ]⟩
    · obtain rfl : k = 16 := by omega
      have d1 : decide (((16 : Nat) : Int) < 16) = false := by decide
      have sm := conv_small hP hQ
      have f20 := F20_eq sm
      obtain ⟨ds, last, e1, e2, e3, e4, e5⟩ := carr_worth _ 0 (fun x hx => (sm.1 x hx).1) (Int.le_refl 0)
      rw [conv_worth lP lQ, wP, wQ] at e5
      have l16 : (conv P Q 16).length = 16 := by simp [conv]
      have ht : (u64s (conv P Q 16)).take 16 = u64s (conv P Q 16) := List.take_of_length_le (by simp)
      rw [e1] at f20
      generalize conv P Q 16 = cv at *
      rw [l16] at e2 e5
      obtain ⟨a0, a1, a2, a3, a4, a5, a6, a7, r, rfl, lr⟩ := list16 e2
      have hs : slVA 1 (.slc 1 (u64s (a0 :: a1 :: a2 :: a3 :: a4 :: a5 :: a6 :: a7 :: (r ++ [last])))) (some (.int .i64 8)) none none = some (.slc 1 (u64s (r ++ [last]))) := by
        simp [slVA, bnd, lr]
        exact List.take_of_length_le (by simp [lr])
      have lR : (r ++ [last]).length = 9 := by simp [lr]
      have p1 : P16 a0 ∧ P16 a1 ∧ P16 a2 ∧ P16 a3 := ⟨e3 _ (by simp), e3 _ (by simp), e3 _ (by simp), e3 _ (by simp)⟩
      have p2 : P16 a4 ∧ P16 a5 ∧ P16 a6 ∧ P16 a7 := ⟨e3 _ (by simp), e3 _ (by simp), e3 _ (by simp), e3 _ (by simp)⟩
      have f21 := F21_eq (r := r ++ [last]) p1 p2
      obtain ⟨w0, w1⟩ := anyPos_worth (r ++ [last]) (fun x hx => by
        simp only [List.mem_append, List.mem_singleton] at hx
        rcases hx with hx | rfl
        · exact (e3 x (by simp [hx])).1
        · exact e4)
      have ew : worth [a0, a1, a2, a3, a4, a5, a6, a7] + big * worth (r ++ [last]) = val ah al * val bh bl := by
        have g1 := worth_app [a0, a1, a2, a3, a4, a5, a6, a7] (r ++ [last])
        have g2 := worth_app ([a0, a1, a2, a3, a4, a5, a6, a7] ++ r) [last]
        simp only [List.cons_append, List.nil_append, List.length_cons, List.length_nil, lr, Nat.reduceAdd, List.append_assoc] at g1 g2
        rw [show (65536 : Int) ^ 8 = big by decide] at g1
        rw [← g1, g2]
        simp only [worth, Int.mul_zero, Int.add_zero] at e5 ⊢
        exact e5
      simp only [List.cons_append, List.map_cons] at f20 f21 hs
      generalize hR : r ++ [last] = R at *
      simp (disch := first | omega | simp only [go_sem, tm0, ↓reduceIte, Nat.reduceAdd, Nat.reduceMul, Nat.reduceSub, Nat.reduceLeDiff, Nat.reduceLT, Nat.reduceEqDiff, Int.reduceLT, Int.reduceLE, Int.reduceAdd, Int.reduceSub, Int.reduceMul, Int.reduceToNat, Int.reducePow, Int.reduceNe, Int.reduceMod, Int.reduceDiv, ne_eq, Int.reduceEq, not_false_eq_true, Nat.reducePow, List.length_append, List.length_replicate, List.replicate_succ, List.replicate_zero, Int.cast_ofNat_Int]) only [go_sem, tm0, ↓reduceIte, Nat.reduceAdd, Nat.reduceMul, Nat.reduceSub, Nat.reduceLeDiff, Nat.reduceLT, Nat.reduceEqDiff, Int.reduceLT, Int.reduceLE, Int.reduceAdd, Int.reduceSub, Int.reduceMul, Int.reduceToNat, Int.reducePow, Int.reduceNe, Int.reduceMod, Int.reduceDiv, ne_eq, Int.reduceEq, not_false_eq_true, Nat.reducePow, List.length_append, List.length_replicate, List.replicate_succ, List.replicate_zero, Int.cast_ofNat_Int, k6, k7, k9, k8, k4, kh, kh4, d1, List.length_map, l16, ht, f20, hs, lR, callX_names (C := C5) (g := 20) rfl]
      refine over8 (R := R) lR (v8 := .slc 1 (.int .u64 a0 :: .int .u64 a1 :: .int .u64 a2 :: .int .u64 a3 :: .int .u64 a4 :: .int .u64 a5 :: .int .u64 a6 :: .int .u64 a7 :: u64s R)) (v4 := .ptr (8000002, 0) 0 0 0 0) ?_ ?_ ?_ ?_ ?_ ?_ ?_
      all_goals try (simp only [go_sem, tm0, ↓reduceIte, Nat.reduceAdd, Nat.reduceMul, Nat.reduceSub, Nat.reduceLeDiff, Nat.reduceLT, Nat.reduceEqDiff, Int.reduceLT, Int.reduceLE, Int.reduceAdd, Int.reduceSub, Int.reduceMul, Int.reduceToNat, Int.reducePow, Int.reduceNe, Int.reduceMod, Int.reduceDiv, ne_eq, Int.reduceEq, not_false_eq_true, Nat.reducePow, List.length_append, List.length_replicate, List.replicate_succ, List.replicate_zero, Int.cast_ofNat_Int, k4]; done)
      intro tm' nc' m8 m4 m12
      simp (disch := first | omega | simp only [go_sem, tm0, ↓reduceIte, Nat.reduceAdd, Nat.reduceMul, Nat.reduceSub, Nat.reduceLeDiff, Nat.reduceLT, Nat.reduceEqDiff, Int.reduceLT, Int.reduceLE, Int.reduceAdd, Int.reduceSub, Int.reduceMul, Int.reduceToNat, Int.reducePow, Int.reduceNe, Int.reduceMod, Int.reduceDiv, ne_eq, Int.reduceEq, not_false_eq_true, Nat.reducePow, List.length_append, List.length_replicate, List.replicate_succ, List.replicate_zero, Int.cast_ofNat_Int]) only [go_sem, tm0, ↓reduceIte, Nat.reduceAdd, Nat.reduceMul, Nat.reduceSub, Nat.reduceLeDiff, Nat.reduceLT, Nat.reduceEqDiff, Int.reduceLT, Int.reduceLE, Int.reduceAdd, Int.reduceSub, Int.reduceMul, Int.reduceToNat, Int.reducePow, Int.reduceNe, Int.reduceMod, Int.reduceDiv, ne_eq, Int.reduceEq, not_false_eq_true, Nat.reducePow, List.length_append, List.length_replicate, List.replicate_succ, List.replicate_zero, Int.cast_ofNat_Int, m8, m4, m12, kh4, f21, callX_names (C := C5) (g := 21) rfl, ftC_names (C := C5) (g := 21) rfl]
      refine Ends_plain rfl ?_
      rw [← ew, w1]
      simp only [worth, big] at w0 ⊢
      clear f20 f21 hs ew ht e3 e5 fP fQ
      refine tWb ?_ ?_ (decide_eq_decide.2 ?_) <;> omega
theorem sound8 : Sound Try.prog 8 F7 := sound_at ok5 0 fun xs r h => by
  unfold F7 at h
  split at h
  · split at h
    · rename_i hc
      cases h
      exact step8 hc.1 hc.2.1 hc.2.2.1 hc.2.2.2
    · cases h
  · cases h

def C6 : Cfg := C5.add 8 F7
theorem ok6 : CfgOk Try.prog C6 := ok5.add sound8
/-- WideTimes. -/
theorem step3 {ah al bh bl : Int} (h1 : U ah) (h2 : U al) (h3 : U bh) (h4 : U bl) : pureF C6 1 3 [W ah al, W bh bl] = some (.bool true) := by
  have q1 := F7_eq h1 h2 h3 h4
  have q2 : F7 [W 0 al, W 0 bl] = some (.tup [enc (al * bl), .bool false]) := by
    have b := mul_bound (m := 18446744073709551615) h2.1 (by omega) h4.1 (by omega)
    rw [F7_eq (by decide) h2 (by decide) h4]
    rw [show val 0 al = al by simp only [val]; omega, show val 0 bl = bl by simp only [val]; omega]
    rw [Int.emod_eq_of_lt b.1 (by simp only [big]; omega), decide_eq_false (by simp only [big]; omega)]
  have q3 := F11_eq h2 h4
  refine pureF_of (x := x3) rfl rfl ?_
  rw [x3_eq.1, x3_eq.2.1]
  simp (disch := first | omega | simp only [go_sem, tm0, ↓reduceIte, Nat.reduceAdd, Nat.reduceMul, Nat.reduceSub, Nat.reduceLeDiff, Nat.reduceLT, Nat.reduceEqDiff, Int.reduceLT, Int.reduceLE, Int.reduceAdd, Int.reduceSub, Int.reduceMul, Int.reduceToNat, Int.reducePow, Int.reduceNe, Int.reduceMod, Int.reduceDiv, ne_eq, Int.reduceEq, not_false_eq_true, Nat.reducePow, List.length_append, List.length_replicate, List.replicate_succ, List.replicate_zero, Int.cast_ofNat_Int]) only [x3b, go_sem, tm0, ↓reduceIte, Nat.reduceAdd, Nat.reduceMul, Nat.reduceSub, Nat.reduceLeDiff, Nat.reduceLT, Nat.reduceEqDiff, Int.reduceLT, Int.reduceLE, Int.reduceAdd, Int.reduceSub, Int.reduceMul, Int.reduceToNat, Int.reducePow, Int.reduceNe, Int.reduceMod, Int.reduceDiv, ne_eq, Int.reduceEq, not_false_eq_true, Nat.reducePow, List.length_append, List.length_replicate, List.replicate_succ, List.replicate_zero, Int.cast_ofNat_Int, callX_known (C := C6) (g := 7) rfl, callX_known (C := C6) (g := 8) rfl, callX_known (C := C6) (g := 9) rfl, callX_known (C := C6) (g := 10) rfl, callX_known (C := C6) (g := 11) rfl,
    ft_call (C := C6) (g := 7) rfl, ft_call (C := C6) (g := 8) rfl, ft_call (C := C6) (g := 9) rfl, ft_call (C := C6) (g := 10) rfl, ft_call (C := C6) (g := 11) rfl, q1, q2, q3, F9_eq, F10_eq, beq_self_eq_true, eq_self]
  exact Ends_plain rfl rfl
theorem law3 : ∀ xs, WTL [tW, tW] xs → pureF C6 1 3 xs = some (.bool true) := by
  intro xs h
  simp only [WTL] at h
  obtain ⟨a, _, rfl, ha, b, _, rfl, hb, rfl⟩ := h
  obtain ⟨x, y, rfl, h1, h2⟩ := wt_W ha
  obtain ⟨z, t, rfl, h3, h4⟩ := wt_W hb
  exact step3 h1 h2 h3 h4
end Go.Proofs.Ytfndobdfdhkepaa
