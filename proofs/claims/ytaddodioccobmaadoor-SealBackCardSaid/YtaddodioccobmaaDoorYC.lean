/-
  Hexadecimal numerals.
-/
import Derived.Test.YtaddodioccobmaaDoorYB
set_option linter.unusedVariables false
set_option linter.unusedSimpArgs false
namespace Go.Proofs.YtaddodioccobmaaDoor
open Go Go.Xec

set_option maxRecDepth 10000
def hexs : List UInt8 := [48, 49, 50, 51, 52, 53, 54, 55, 56, 57, 97, 98, 99, 100, 101, 102]
def hd (d : Nat) : UInt8 := hexs.getD d 0
theorem hd_cut : ∀ d < 16, (hexs.drop d).take 1 = [hd d] := by decide
/-- The lowest digits. -/
def lowd (n : Nat) : Nat → List UInt8
  | 0 => []
  | i + 1 => hd (n / 16 ^ i % 16) :: lowd n i
theorem lowd_len (n : Nat) : ∀ i, (lowd n i).length = i
  | 0 => rfl
  | i + 1 => by simp [lowd, lowd_len n i]
noncomputable def F19 : List AVal → Option AVal := pureF C2 1 19
theorem sound19 : Sound Tryd.prog 19 F19 := sound_self ok2 1 19
theorem F19_eq {n : Nat} (hn : n < 9223372036854775808) : F19 [.int .i64 n] = some (sv (lowd n 8)) := by
  unfold F19
  refine pureF_of (x := x19) rfl rfl ?_
  rw [x19_eq.1, x19_eq.2.1]
  simp (disch := first | omega | simp only [go_sem, tm0, ↓reduceIte, Nat.reduceAdd, Nat.reduceMul, Nat.reduceSub, Nat.reduceLeDiff, Nat.reduceLT, Nat.reduceEqDiff, Int.reduceLT, Int.reduceLE, Int.reduceAdd, Int.reduceSub, Int.reduceMul, Int.reduceToNat, Int.reducePow, Int.reduceNe, Int.reduceMod, Int.reduceDiv, ne_eq, Int.reduceEq, not_false_eq_true, Nat.reducePow, List.length_append, List.length_replicate, List.replicate_succ, List.replicate_zero, Int.cast_ofNat_Int, not_true_eq_false, decide_true, decide_false, ite_self, beq_self_eq_true, Bool.true_beq, Bool.false_beq, Bool.not_true, Bool.not_false, Int.reduceNeg, dropK_eq]) only [x19b, go_sem, tm0, ↓reduceIte, Nat.reduceAdd, Nat.reduceMul, Nat.reduceSub, Nat.reduceLeDiff, Nat.reduceLT, Nat.reduceEqDiff, Int.reduceLT, Int.reduceLE, Int.reduceAdd, Int.reduceSub, Int.reduceMul, Int.reduceToNat, Int.reducePow, Int.reduceNe, Int.reduceMod, Int.reduceDiv, ne_eq, Int.reduceEq, not_false_eq_true, Nat.reducePow, List.length_append, List.length_replicate, List.replicate_succ, List.replicate_zero, Int.cast_ofNat_Int, not_true_eq_false, decide_true, decide_false, ite_self, beq_self_eq_true, Bool.true_beq, Bool.false_beq, Bool.not_true, Bool.not_false, Int.reduceNeg, dropK_eq]
  refine Ev_range (ti := 4) (len := 8) (J := fun i tm hp nc => tm 3 = sv (lowd n i) ∧ tm 0 = .int .i64 (n / 16 ^ i : Nat)) (by omega) (by simp only [go_sem, tm0, ↓reduceIte, Nat.reduceAdd, Nat.reduceMul, Nat.reduceSub, Nat.reduceLeDiff, Nat.reduceLT, Nat.reduceEqDiff, Int.reduceLT, Int.reduceLE, Int.reduceAdd, Int.reduceSub, Int.reduceMul, Int.reduceToNat, Int.reducePow, Int.reduceNe, Int.reduceMod, Int.reduceDiv, ne_eq, Int.reduceEq, not_false_eq_true, Nat.reducePow, List.length_append, List.length_replicate, List.replicate_succ, List.replicate_zero, Int.cast_ofNat_Int, not_true_eq_false, decide_true, decide_false, ite_self, beq_self_eq_true, Bool.true_beq, Bool.false_beq, Bool.not_true, Bool.not_false, Int.reduceNeg, dropK_eq]) ⟨by simp only [go_sem, tm0, ↓reduceIte, Nat.reduceAdd, Nat.reduceMul, Nat.reduceSub, Nat.reduceLeDiff, Nat.reduceLT, Nat.reduceEqDiff, Int.reduceLT, Int.reduceLE, Int.reduceAdd, Int.reduceSub, Int.reduceMul, Int.reduceToNat, Int.reducePow, Int.reduceNe, Int.reduceMod, Int.reduceDiv, ne_eq, Int.reduceEq, not_false_eq_true, Nat.reducePow, List.length_append, List.length_replicate, List.replicate_succ, List.replicate_zero, Int.cast_ofNat_Int, not_true_eq_false, decide_true, decide_false, ite_self, beq_self_eq_true, Bool.true_beq, Bool.false_beq, Bool.not_true, Bool.not_false, Int.reduceNeg, dropK_eq]; rfl, by simp only [go_sem, tm0, ↓reduceIte, Nat.reduceAdd, Nat.reduceMul, Nat.reduceSub, Nat.reduceLeDiff, Nat.reduceLT, Nat.reduceEqDiff, Int.reduceLT, Int.reduceLE, Int.reduceAdd, Int.reduceSub, Int.reduceMul, Int.reduceToNat, Int.reducePow, Int.reduceNe, Int.reduceMod, Int.reduceDiv, ne_eq, Int.reduceEq, not_false_eq_true, Nat.reducePow, List.length_append, List.length_replicate, List.replicate_succ, List.replicate_zero, Int.cast_ofNat_Int, not_true_eq_false, decide_true, decide_false, ite_self, beq_self_eq_true, Bool.true_beq, Bool.false_beq, Bool.not_true, Bool.not_false, Int.reduceNeg, dropK_eq]; simp⟩ ?_
  intro i tm hp nc hi hc k4 hJ
  obtain ⟨k3, k0⟩ := hJ
  rcases Nat.lt_or_ge i 8 with hlt | hge
  · have d1 : decide ((i : Int) < 8) = true := decide_eq_true (by omega)
    have hle : n / 16 ^ i ≤ n := Nat.div_le_self _ _
    have hpow : n / 16 ^ (i + 1) = n / 16 ^ i / 16 := by rw [Nat.pow_succ, Nat.div_div_eq_div_mul]
    have hlow : lowd n (i + 1) = [hd (n / 16 ^ i % 16)] ++ lowd n i := rfl
    have hll := lowd_len n i
    rw [hpow, hlow]
    generalize n / 16 ^ i = m at *
    generalize lowd n i = w at *
    have e1 : (m : Int).tmod 16 = ((m % 16 : Nat) : Int) := tmodN m 16
    have e2 : (m : Int).tdiv 16 = ((m / 16 : Nat) : Int) := by rw [Int.tdiv_eq_ediv_of_nonneg (by omega)]; omega
    have hm : m % 16 < 16 := Nat.mod_lt _ (by decide)
    have hs : slSA (sv hexs) (some (.int .i64 ((m % 16 : Nat) : Int))) (some (.int .i64 (((m % 16 : Nat) : Int) + 1))) = some (sv [hd (m % 16)]) := by
      have := str_slice (l := hexs) (lo := m % 16) (hi := m % 16 + 1) (by omega) (by show m % 16 + 1 ≤ 16; omega)
      rw [Nat.add_sub_cancel_left, hd_cut _ hm, Int.natCast_add, Int.natCast_one] at this
      exact this
    simp only [hexs] at hs
    have hl1 : 1 + w.length < 9223372036854775808 := by omega
    simp (disch := first | omega | simp only [go_sem, tm0, ↓reduceIte, Nat.reduceAdd, Nat.reduceMul, Nat.reduceSub, Nat.reduceLeDiff, Nat.reduceLT, Nat.reduceEqDiff, Int.reduceLT, Int.reduceLE, Int.reduceAdd, Int.reduceSub, Int.reduceMul, Int.reduceToNat, Int.reducePow, Int.reduceNe, Int.reduceMod, Int.reduceDiv, ne_eq, Int.reduceEq, not_false_eq_true, Nat.reducePow, List.length_append, List.length_replicate, List.replicate_succ, List.replicate_zero, Int.cast_ofNat_Int, not_true_eq_false, decide_true, decide_false, ite_self, beq_self_eq_true, Bool.true_beq, Bool.false_beq, Bool.not_true, Bool.not_false, Int.reduceNeg, dropK_eq]) only [x19l3, go_sem, tm0, ↓reduceIte, Nat.reduceAdd, Nat.reduceMul, Nat.reduceSub, Nat.reduceLeDiff, Nat.reduceLT, Nat.reduceEqDiff, Int.reduceLT, Int.reduceLE, Int.reduceAdd, Int.reduceSub, Int.reduceMul, Int.reduceToNat, Int.reducePow, Int.reduceNe, Int.reduceMod, Int.reduceDiv, ne_eq, Int.reduceEq, not_false_eq_true, Nat.reducePow, List.length_append, List.length_replicate, List.replicate_succ, List.replicate_zero, Int.cast_ofNat_Int, not_true_eq_false, decide_true, decide_false, ite_self, beq_self_eq_true, Bool.true_beq, Bool.false_beq, Bool.not_true, Bool.not_false, Int.reduceNeg, dropK_eq, k0, k3, k4, d1, e1, e2, hs, if_pos hl1]
    exact ⟨hlt, by simp⟩
  · obtain rfl : i = 8 := by omega
    have d1 : decide (((8 : Nat) : Int) < 8) = false := by decide
    simp (disch := first | omega | simp only [go_sem, tm0, ↓reduceIte, Nat.reduceAdd, Nat.reduceMul, Nat.reduceSub, Nat.reduceLeDiff, Nat.reduceLT, Nat.reduceEqDiff, Int.reduceLT, Int.reduceLE, Int.reduceAdd, Int.reduceSub, Int.reduceMul, Int.reduceToNat, Int.reducePow, Int.reduceNe, Int.reduceMod, Int.reduceDiv, ne_eq, Int.reduceEq, not_false_eq_true, Nat.reducePow, List.length_append, List.length_replicate, List.replicate_succ, List.replicate_zero, Int.cast_ofNat_Int, not_true_eq_false, decide_true, decide_false, ite_self, beq_self_eq_true, Bool.true_beq, Bool.false_beq, Bool.not_true, Bool.not_false, Int.reduceNeg, dropK_eq]) only [x19l3, go_sem, tm0, ↓reduceIte, Nat.reduceAdd, Nat.reduceMul, Nat.reduceSub, Nat.reduceLeDiff, Nat.reduceLT, Nat.reduceEqDiff, Int.reduceLT, Int.reduceLE, Int.reduceAdd, Int.reduceSub, Int.reduceMul, Int.reduceToNat, Int.reducePow, Int.reduceNe, Int.reduceMod, Int.reduceDiv, ne_eq, Int.reduceEq, not_false_eq_true, Nat.reducePow, List.length_append, List.length_replicate, List.replicate_succ, List.replicate_zero, Int.cast_ofNat_Int, not_true_eq_false, decide_true, decide_false, ite_self, beq_self_eq_true, Bool.true_beq, Bool.false_beq, Bool.not_true, Bool.not_false, Int.reduceNeg, dropK_eq, k0, k3, k4, d1]
    exact Ends_plain rfl rfl
/-- A numeral of no more digits than it wants. -/
def hexT (n : Nat) : List UInt8 := if h : n < 16 then [hd n] else hexT (n / 16) ++ [hd (n % 16)]
termination_by n
decreasing_by omega
theorem hexT_small {n : Nat} (h : n < 16) : hexT n = [hd n] := by rw [hexT, dif_pos h]
theorem hexT_step {n : Nat} (h : 16 ≤ n) : hexT n = hexT (n / 16) ++ [hd (n % 16)] := by rw [hexT, dif_neg (by omega)]
theorem hexT_len : ∀ (k n : Nat), n < 16 ^ (k + 1) → 1 ≤ (hexT n).length ∧ (hexT n).length ≤ k + 1
  | 0, n, h => by rw [hexT_small (by simpa using h)]; simp
  | k + 1, n, h => by
    by_cases h1 : n < 16
    · rw [hexT_small h1]; simp
    · have := hexT_len k (n / 16) (by rw [Nat.div_lt_iff_lt_mul (by decide)]; rw [Nat.pow_succ] at h; exact h)
      rw [hexT_step (by omega)]
      simp; omega
theorem lowd_zero (i : Nat) : lowd 0 i = List.replicate i 48 := by
  induction i with
  | zero => rfl
  | succ i ih => rw [lowd, ih, List.replicate_succ]; simp [hd, hexs]
theorem lowd_shift (n : Nat) : ∀ i, lowd n (i + 1) = lowd (n / 16) i ++ [hd (n % 16)]
  | 0 => by simp [lowd]
  | i + 1 => by
    rw [lowd, lowd_shift n i, lowd]
    rw [List.cons_append, Nat.div_div_eq_div_mul, ← Nat.pow_succ']
/-- Eight digits: nulls ahead of it. -/
theorem lowd_hex : ∀ (k n : Nat), n < 16 ^ (k + 1) → lowd n (k + 1) = List.replicate (k + 1 - (hexT n).length) 48 ++ hexT n
  | 0, n, h => by
    have hn : n < 16 := by simpa using h
    rw [hexT_small hn]
    simp [lowd, Nat.mod_eq_of_lt hn]
  | k + 1, n, h => by
    rw [lowd_shift]
    by_cases h1 : n < 16
    · rw [Nat.div_eq_of_lt h1, lowd_zero, hexT_small h1, Nat.mod_eq_of_lt h1]
      simp
    · have hd16 : n / 16 < 16 ^ (k + 1) := by rw [Nat.div_lt_iff_lt_mul (by decide)]; rw [Nat.pow_succ] at h; exact h
      have hl := hexT_len k (n / 16) hd16
      rw [lowd_hex k (n / 16) hd16, hexT_step (n := n) (by omega), List.length_append, List.append_assoc]
      congr 2
      simp
end Go.Proofs.YtaddodioccobmaaDoor
