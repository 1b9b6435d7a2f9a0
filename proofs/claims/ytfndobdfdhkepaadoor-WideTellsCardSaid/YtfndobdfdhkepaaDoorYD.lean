/-
  Digits; the program's.
-/
import Derived.Test.YtfndobdfdhkepaaDoorYC
set_option linter.unusedVariables false
set_option linter.unusedSimpArgs false
namespace Go.Proofs.YtfndobdfdhkepaaDoor
open Go Go.Xec

set_option maxRecDepth 10000
theorem dd_small {n : Nat} (h : n < 10) : dd n = [UInt8.ofNat (48 + n)] := by unfold dd; rw [Lib.decDigits, dif_pos h]
theorem dd_step {n : Nat} (h : 10 ≤ n) : dd n = dd (n / 10) ++ [UInt8.ofNat (48 + n % 10)] := by
  unfold dd
  rw [Lib.decDigits, dif_neg (by omega)]
theorem dd_len : ∀ (d n : Nat), n < 10 ^ (d + 1) → 1 ≤ (dd n).length ∧ (dd n).length ≤ d + 1
  | 0, n, h => by rw [dd_small (by simpa using h)]; simp
  | d + 1, n, h => by
    by_cases h1 : n < 10
    · rw [dd_small h1]; simp
    · rw [dd_step (by omega), List.length_append]
      have := dd_len d (n / 10) (by rw [Nat.div_lt_iff_lt_mul (by decide)]; rw [Nat.pow_succ] at h; exact h)
      simp; omega
/-- The lowest digits. -/
def low : Nat → Nat → List UInt8
  | 0, _ => []
  | k + 1, n => low k (n / 10) ++ [UInt8.ofNat (48 + n % 10)]
theorem low_zero : ∀ k, low k 0 = List.replicate k 48
  | 0 => rfl
  | k + 1 => by rw [low, Nat.zero_div, low_zero k, List.replicate_succ']; rfl
theorem low_pad : ∀ (k n : Nat), n < 10 ^ (k + 1) → low (k + 1) n = List.replicate (k + 1 - (dd n).length) 48 ++ dd n
  | 0, n, h => by
    have hn : n < 10 := by simpa using h
    rw [dd_small hn]
    simp [low, Nat.mod_eq_of_lt hn]
  | k + 1, n, h => by
    rw [low]
    by_cases h1 : n < 10
    · rw [Nat.div_eq_of_lt h1, low_zero, dd_small h1, Nat.mod_eq_of_lt h1]
      simp
    · have h2 : n / 10 < 10 ^ (k + 1) := by rw [Nat.div_lt_iff_lt_mul (by decide)]; rw [Nat.pow_succ] at h; exact h
      have hl := dd_len k (n / 10) h2
      rw [low_pad k (n / 10) h2, dd_step (n := n) (by omega), List.length_append, List.append_assoc]
      congr 2
      simp
theorem dd_split : ∀ (k n : Nat), 10 ^ k ≤ n → dd n = dd (n / 10 ^ k) ++ low k (n % 10 ^ k)
  | 0, n, h => by simp [low]
  | k + 1, n, h => by
    have hp : 10 ^ (k + 1) = 10 * 10 ^ k := by rw [Nat.pow_succ, Nat.mul_comm]
    have hpos : 0 < 10 ^ k := Nat.pow_pos (by decide)
    have h1 : 10 ^ k ≤ n / 10 := by rw [Nat.le_div_iff_mul_le (by decide)]; omega
    have h2 : n / 10 / 10 ^ k = n / 10 ^ (k + 1) := by rw [Nat.div_div_eq_div_mul, hp]
    have h3 : n % 10 ^ (k + 1) = n % 10 + 10 * (n / 10 % 10 ^ k) := by rw [hp]; exact Nat.mod_mul
    have h4 : (n % 10 + 10 * (n / 10 % 10 ^ k)) / 10 = n / 10 % 10 ^ k := by omega
    have h5 : (n % 10 + 10 * (n / 10 % 10 ^ k)) % 10 = n % 10 := by omega
    rw [dd_step (n := n) (by omega), dd_split k (n / 10) h1, h2, low, h3, h4, h5, List.append_assoc]
theorem dd_18 {n : Nat} (h : 1000000000000000000 ≤ n) : dd n = dd (n / 1000000000000000000) ++ List.replicate (18 - (dd (n % 1000000000000000000)).length) 48 ++ dd (n % 1000000000000000000) := by
  have h1 := dd_split 18 n (by simpa using h)
  have h2 := low_pad 17 (n % 1000000000000000000) (by simp only [Nat.reduceAdd, Nat.reducePow]; omega)
  simp only [Nat.reducePow] at h1
  simp only [Nat.reduceAdd] at h2
  rw [h1, h2, List.append_assoc]
abbrev W (h l : Int) : AVal := .agg [.int .u64 h, .int .u64 l]
noncomputable def C3 : Cfg := ((C2.add 8 F8).add 14 F_fmtU).add 9 F_repeat
theorem ok3 : CfgOk Tryd.prog C3 := ((ok2.add sound8).add sound14).add sound9
noncomputable def F7 : List AVal → Option AVal := pureF C3 1 7
theorem sound7 : Sound Tryd.prog 7 F7 := sound_self ok3 1 7
theorem F7_eq {n : Nat} (h : n < 18446744073709551616) : F7 [.int .u64 n, .int .i64 10] = some (sv (dd n)) := by
  have e14 := F_fmtU_eq h
  unfold F7
  refine pureF_of (x := x7) rfl rfl ?_
  rw [x7_eq.1, x7_eq.2.1]
  simp (disch := first | omega | simp only [go_sem, tm0, ↓reduceIte, Nat.reduceAdd, Nat.reduceMul, Nat.reduceSub, Nat.reduceLeDiff, Nat.reduceLT, Nat.reduceEqDiff, Int.reduceLT, Int.reduceLE, Int.reduceAdd, Int.reduceSub, Int.reduceMul, Int.reduceToNat, Int.reducePow, Int.reduceNe, Int.reduceMod, Int.reduceDiv, ne_eq, Int.reduceEq, not_false_eq_true, Nat.reducePow, List.length_append, List.length_replicate, List.replicate_succ, List.replicate_zero, Int.cast_ofNat_Int, not_true_eq_false, decide_true, decide_false, ite_self, beq_self_eq_true, Bool.true_beq, Bool.false_beq, Bool.not_true, Bool.not_false, Int.reduceNeg, dropK_eq]) only [x7b, go_sem, tm0, ↓reduceIte, Nat.reduceAdd, Nat.reduceMul, Nat.reduceSub, Nat.reduceLeDiff, Nat.reduceLT, Nat.reduceEqDiff, Int.reduceLT, Int.reduceLE, Int.reduceAdd, Int.reduceSub, Int.reduceMul, Int.reduceToNat, Int.reducePow, Int.reduceNe, Int.reduceMod, Int.reduceDiv, ne_eq, Int.reduceEq, not_false_eq_true, Nat.reducePow, List.length_append, List.length_replicate, List.replicate_succ, List.replicate_zero, Int.cast_ofNat_Int, not_true_eq_false, decide_true, decide_false, ite_self, beq_self_eq_true, Bool.true_beq, Bool.false_beq, Bool.not_true, Bool.not_false, Int.reduceNeg, dropK_eq, callX_known (C := C3) (g := 14) rfl, ft_call (C := C3) (g := 14) rfl, e14]
  exact Ends_plain rfl rfl
noncomputable def C4 : Cfg := C3.add 7 F7
theorem ok4 : CfgOk Tryd.prog C4 := ok3.add sound7
theorem repeat48 : ∀ k, Lib.repeatL [48] k = List.replicate k 48
  | 0 => rfl
  | k + 1 => by rw [Lib.repeatL, repeat48 k]; rfl
theorem F_repeat_48 {n : Nat} (h : n ≤ 18) : F_repeat [sv [48], .int .i64 (18 - (n : Int))] = some (sv (List.replicate (18 - n) 48)) := by
  have ek : (18 - (n : Int)).toNat = 18 - n := by omega
  have hsz : (bs [48]).size ≤ 1000000 := by rw [bs_size]; simp
  have hc : 0 ≤ 18 - (n : Int) ∧ 18 - (n : Int) ≤ 1000000 ∧ (bs [48]).size ≤ 1000000 := ⟨by omega, by omega, hsz⟩
  have e0 : F_repeat [sv [48], .int .i64 (18 - (n : Int))] = if 0 ≤ 18 - (n : Int) ∧ 18 - (n : Int) ≤ 1000000 ∧ (bs [48]).size ≤ 1000000 then some (sv (Lib.repeatL (bs [48]).data.toList (18 - (n : Int)).toNat)) else none := rfl
  rw [e0, if_pos hc, bs_data, ek, repeat48]
theorem text0 {d lo : Nat} (hl : lo < 18446744073709551616) {hp : Heap} {nc : Nat} {K : AVal × Heap × Nat → Prop} (hK : ∀ hp' nc', K (sv (dd lo), hp', nc')) : Bd (inlD C4 (d + 1) 4 [W 0 lo] hp nc) K := by
  refine inl_of (x := x4) rfl rfl ?_
  rw [x4_eq.1, x4_eq.2.1]
  have e7 := F7_eq hl
  simp (disch := first | omega | simp only [go_sem, tm0, ↓reduceIte, Nat.reduceAdd, Nat.reduceMul, Nat.reduceSub, Nat.reduceLeDiff, Nat.reduceLT, Nat.reduceEqDiff, Int.reduceLT, Int.reduceLE, Int.reduceAdd, Int.reduceSub, Int.reduceMul, Int.reduceToNat, Int.reducePow, Int.reduceNe, Int.reduceMod, Int.reduceDiv, ne_eq, Int.reduceEq, not_false_eq_true, Nat.reducePow, List.length_append, List.length_replicate, List.replicate_succ, List.replicate_zero, Int.cast_ofNat_Int, not_true_eq_false, decide_true, decide_false, ite_self, beq_self_eq_true, Bool.true_beq, Bool.false_beq, Bool.not_true, Bool.not_false, Int.reduceNeg, dropK_eq]) only [x4b, go_sem, tm0, ↓reduceIte, Nat.reduceAdd, Nat.reduceMul, Nat.reduceSub, Nat.reduceLeDiff, Nat.reduceLT, Nat.reduceEqDiff, Int.reduceLT, Int.reduceLE, Int.reduceAdd, Int.reduceSub, Int.reduceMul, Int.reduceToNat, Int.reducePow, Int.reduceNe, Int.reduceMod, Int.reduceDiv, ne_eq, Int.reduceEq, not_false_eq_true, Nat.reducePow, List.length_append, List.length_replicate, List.replicate_succ, List.replicate_zero, Int.cast_ofNat_Int, not_true_eq_false, decide_true, decide_false, ite_self, beq_self_eq_true, Bool.true_beq, Bool.false_beq, Bool.not_true, Bool.not_false, Int.reduceNeg, dropK_eq, callX_known (C := C4) (g := 7) rfl, ft_call (C := C4) (g := 7) rfl, e7]
  exact hK _ _
abbrev two64 : Nat := 18446744073709551616
abbrev e18 : Nat := 1000000000000000000
theorem text1 {d hi lo : Nat} (hl : lo < 18446744073709551616) (hh : hi < 18446744073709551616) (h0 : hi ≠ 0)
    (ih : ∀ (hp : Heap) (nc : Nat) (K : AVal × Heap × Nat → Prop), (∀ hp' nc', K (sv (dd ((hi * 18446744073709551616 + lo) / 1000000000000000000)), hp', nc')) → Bd (inlD C4 d 4 [W ((hi / 1000000000000000000 : Nat) : Int) (((hi % 1000000000000000000 * 18446744073709551616 + lo) / 1000000000000000000 : Nat) : Int)] hp nc) K)
    {hp : Heap} {nc : Nat} {K : AVal × Heap × Nat → Prop} (hK : ∀ hp' nc', K (sv (dd (hi * 18446744073709551616 + lo)), hp', nc')) : Bd (inlD C4 (d + 1) 4 [W hi lo] hp nc) K := by
  refine inl_of (x := x4) rfl rfl ?_
  rw [x4_eq.1, x4_eq.2.1]
  have d1 : decide ((hi : Int) = 0) = false := decide_eq_false (by omega)
  have e8 := F8_eq (hi := 0) (lo := (hi : Int)) (by omega) (by omega)
  have e8b := F8_eq (hi := (hi : Int) % 1000000000000000000) (lo := (lo : Int)) (by omega) (by omega)
  rw [show ((0 : Int) * 18446744073709551616 + (hi : Int)) = (hi : Int) by omega] at e8
  have q1 : (hi : Int) / 1000000000000000000 = ((hi / 1000000000000000000 : Nat) : Int) := by omega
  have q2 : (hi : Int) % 1000000000000000000 = ((hi % 1000000000000000000 : Nat) : Int) := by omega
  have q3 : ((hi : Int) % 1000000000000000000 * 18446744073709551616 + (lo : Int)) / 1000000000000000000 = (((hi % 1000000000000000000 * 18446744073709551616 + lo) / 1000000000000000000 : Nat) : Int) := by omega
  have q4 : ((hi : Int) % 1000000000000000000 * 18446744073709551616 + (lo : Int)) % 1000000000000000000 = (((hi * 18446744073709551616 + lo) % 1000000000000000000 : Nat) : Int) := by omega
  rw [q3, q4, q2] at e8b
  rw [q1, q2] at e8
  have hdd := dd_18 (n := hi * 18446744073709551616 + lo) (by omega)
  have e7 := F7_eq (n := (hi * 18446744073709551616 + lo) % 1000000000000000000) (by omega)
  have hlen := dd_len 17 ((hi * 18446744073709551616 + lo) % 1000000000000000000) (by simp only [Nat.reduceAdd, Nat.reducePow]; omega)
  have hlen2 := dd_len 38 ((hi * 18446744073709551616 + lo) / 1000000000000000000) (by simp only [Nat.reduceAdd, Nat.reducePow]; omega)
  have er := F_repeat_48 hlen.2
  rw [hdd] at hK
  generalize dd ((hi * 18446744073709551616 + lo) % 1000000000000000000) = b at *
  generalize dd ((hi * 18446744073709551616 + lo) / 1000000000000000000) = a at *
  have l1 : a.length + (List.replicate (18 - b.length) (48 : UInt8)).length < 9223372036854775808 := by simp; omega
  have l2 : a.length + (List.replicate (18 - b.length) (48 : UInt8)).length + b.length < 9223372036854775808 := by simp; omega
  generalize List.replicate (18 - b.length) (48 : UInt8) = z at *
  simp (disch := first | omega | simp only [go_sem, tm0, ↓reduceIte, Nat.reduceAdd, Nat.reduceMul, Nat.reduceSub, Nat.reduceLeDiff, Nat.reduceLT, Nat.reduceEqDiff, Int.reduceLT, Int.reduceLE, Int.reduceAdd, Int.reduceSub, Int.reduceMul, Int.reduceToNat, Int.reducePow, Int.reduceNe, Int.reduceMod, Int.reduceDiv, ne_eq, Int.reduceEq, not_false_eq_true, Nat.reducePow, List.length_append, List.length_replicate, List.replicate_succ, List.replicate_zero, Int.cast_ofNat_Int, not_true_eq_false, decide_true, decide_false, ite_self, beq_self_eq_true, Bool.true_beq, Bool.false_beq, Bool.not_true, Bool.not_false, Int.reduceNeg, dropK_eq]) only [x4b, go_sem, tm0, ↓reduceIte, Nat.reduceAdd, Nat.reduceMul, Nat.reduceSub, Nat.reduceLeDiff, Nat.reduceLT, Nat.reduceEqDiff, Int.reduceLT, Int.reduceLE, Int.reduceAdd, Int.reduceSub, Int.reduceMul, Int.reduceToNat, Int.reducePow, Int.reduceNe, Int.reduceMod, Int.reduceDiv, ne_eq, Int.reduceEq, not_false_eq_true, Nat.reducePow, List.length_append, List.length_replicate, List.replicate_succ, List.replicate_zero, Int.cast_ofNat_Int, not_true_eq_false, decide_true, decide_false, ite_self, beq_self_eq_true, Bool.true_beq, Bool.false_beq, Bool.not_true, Bool.not_false, Int.reduceNeg, dropK_eq, d1, callX_known (C := C4) (g := 7) rfl, ft_call (C := C4) (g := 7) rfl, callX_known (C := C4) (g := 8) rfl, ft_call (C := C4) (g := 8) rfl, callX_known (C := C4) (g := 9) rfl, ft_call (C := C4) (g := 9) rfl, call_inl (C := C4) (g := 4) rfl, e8, e8b, e7]
  refine ih _ _ _ fun hp' nc' => ?_
  simp (disch := first | omega | simp only [go_sem, tm0, ↓reduceIte, Nat.reduceAdd, Nat.reduceMul, Nat.reduceSub, Nat.reduceLeDiff, Nat.reduceLT, Nat.reduceEqDiff, Int.reduceLT, Int.reduceLE, Int.reduceAdd, Int.reduceSub, Int.reduceMul, Int.reduceToNat, Int.reducePow, Int.reduceNe, Int.reduceMod, Int.reduceDiv, ne_eq, Int.reduceEq, not_false_eq_true, Nat.reducePow, List.length_append, List.length_replicate, List.replicate_succ, List.replicate_zero, Int.cast_ofNat_Int, not_true_eq_false, decide_true, decide_false, ite_self, beq_self_eq_true, Bool.true_beq, Bool.false_beq, Bool.not_true, Bool.not_false, Int.reduceNeg, dropK_eq]) only [go_sem, tm0, ↓reduceIte, Nat.reduceAdd, Nat.reduceMul, Nat.reduceSub, Nat.reduceLeDiff, Nat.reduceLT, Nat.reduceEqDiff, Int.reduceLT, Int.reduceLE, Int.reduceAdd, Int.reduceSub, Int.reduceMul, Int.reduceToNat, Int.reducePow, Int.reduceNe, Int.reduceMod, Int.reduceDiv, ne_eq, Int.reduceEq, not_false_eq_true, Nat.reducePow, List.length_append, List.length_replicate, List.replicate_succ, List.replicate_zero, Int.cast_ofNat_Int, not_true_eq_false, decide_true, decide_false, ite_self, beq_self_eq_true, Bool.true_beq, Bool.false_beq, Bool.not_true, Bool.not_false, Int.reduceNeg, dropK_eq, callX_known (C := C4) (g := 7) rfl, ft_call (C := C4) (g := 7) rfl, callX_known (C := C4) (g := 8) rfl, ft_call (C := C4) (g := 8) rfl, callX_known (C := C4) (g := 9) rfl, ft_call (C := C4) (g := 9) rfl, er, if_pos l1, if_pos l2]
  exact hK _ _
theorem text0' {d a lo N : Nat} (ha : a = 0) (hl : lo < 18446744073709551616) (hN : lo = N) {hp : Heap} {nc : Nat} {K : AVal × Heap × Nat → Prop} (hK : ∀ hp' nc', K (sv (dd N), hp', nc')) : Bd (inlD C4 (d + 1) 4 [W a lo] hp nc) K := by
  subst ha
  subst hN
  exact text0 hl hK
theorem text12 {d q p N : Nat} (hp1 : p < 18446744073709551616) (hq : q < 19) (hN : q * 18446744073709551616 + p = N) {hp : Heap} {nc : Nat} {K : AVal × Heap × Nat → Prop} (hK : ∀ hp' nc', K (sv (dd N), hp', nc')) :
    Bd (inlD C4 (d + 2) 4 [W q p] hp nc) K := by
  by_cases h1 : q = 0
  · exact text0' h1 hp1 (by omega) hK
  · subst hN
    exact text1 hp1 (by omega) h1 (fun hp nc K hK2 => text0' (by omega) (by omega) (by omega) hK2) hK
theorem text2 {d hi lo N : Nat} (hl : lo < 18446744073709551616) (hh : hi < 18446744073709551616) (hN : hi * 18446744073709551616 + lo = N) {hp : Heap} {nc : Nat} {K : AVal × Heap × Nat → Prop} (hK : ∀ hp' nc', K (sv (dd N), hp', nc')) :
    Bd (inlD C4 (d + 3) 4 [W hi lo] hp nc) K := by
  by_cases h0 : hi = 0
  · exact text0' h0 hl (by omega) hK
  · subst hN
    exact text1 hl hh h0 (fun hp nc K hK' => text12 (by omega) (by omega) (by omega) hK') hK
end Go.Proofs.YtfndobdfdhkepaaDoor
