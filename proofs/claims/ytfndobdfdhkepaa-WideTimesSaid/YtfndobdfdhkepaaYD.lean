/-
  The laws of wide numbers, as the interpreter sees them.
-/
import Derived.Test.YtfndobdfdhkepaaYC
set_option linter.unusedVariables false
set_option linter.unusedSimpArgs false
namespace Go.Proofs.Ytfndobdfdhkepaa
open Go Go.Xec

set_option maxRecDepth 10000
def C4 : Cfg := (C3.add 14 F12).add 15 F13
theorem ok4 : CfgOk Try.prog C4 := (ok3.add sound14).add sound15
theorem C4_12 : C4.Γ 12 = some F12 := rfl
theorem C4_13 : C4.Γ 13 = some F13 := rfl
theorem C4_14 : C4.Γ 14 = some F12 := rfl
theorem C4_15 : C4.Γ 15 = some F13 := rfl
theorem C4_16 : C4.Γ 16 = some F16 := rfl
theorem C4_17 : C4.Γ 17 = some F16 := rfl
theorem C4_11 : C4.Γ 11 = some F11 := rfl
theorem C4_7 : C4.Γ 7 = some F7 := rfl
theorem C4_9 : C4.Γ 9 = some F9 := rfl

def F10 : List AVal → Option AVal
  | [] => some (.bool true)
  | _ => none
theorem F10_eq : F10 [] = some (.bool true) := rfl
theorem step10 : pureF C4 1 10 [] = some (.bool true) := by
  have e1 : F11 [.int .u64 9223372036854775808, .int .u64 4] = some (W 2 0) := F11_eq (by decide) (by decide)
  have e2 : F12 [W 2 0, W 0 3] = some (.tup [W 2 3, .bool false]) := F12_eq (by decide) (by decide) (by decide) (by decide)
  have e3 : F16 [W 2 0, W 2 3] = some (.bool true) := F16_eq (by decide) (by decide)
  refine pureF_of (x := x10) rfl rfl ?_
  rw [x10_eq.1, x10_eq.2.1]
  simp (disch := first | omega | simp only [go_sem, tm0, ↓reduceIte, Nat.reduceAdd, Nat.reduceMul, Nat.reduceSub, Nat.reduceLeDiff, Nat.reduceLT, Nat.reduceEqDiff, Int.reduceLT, Int.reduceLE, Int.reduceAdd, Int.reduceSub, Int.reduceMul, Int.reduceToNat, Int.reducePow, Int.reduceNe, Int.reduceMod, Int.reduceDiv, ne_eq, Int.reduceEq, not_false_eq_true, Nat.reducePow, List.length_append, List.length_replicate, List.replicate_succ, List.replicate_zero, Int.cast_ofNat_Int]) only [x10b, go_sem, tm0, ↓reduceIte, Nat.reduceAdd, Nat.reduceMul, Nat.reduceSub, Nat.reduceLeDiff, Nat.reduceLT, Nat.reduceEqDiff, Int.reduceLT, Int.reduceLE, Int.reduceAdd, Int.reduceSub, Int.reduceMul, Int.reduceToNat, Int.reducePow, Int.reduceNe, Int.reduceMod, Int.reduceDiv, ne_eq, Int.reduceEq, not_false_eq_true, Nat.reducePow, List.length_append, List.length_replicate, List.replicate_succ, List.replicate_zero, Int.cast_ofNat_Int, callX_known C4_11, callX_known C4_12, callX_known C4_16, ft_call C4_11, ft_call C4_12, ft_call C4_16, e1, e2, e3]
  exact Ends_plain rfl rfl
theorem sound10 : Sound Try.prog 10 F10 := sound_at ok4 0 fun xs r h => by
  unfold F10 at h
  split at h
  · cases h
    exact step10
  · cases h

def C5 : Cfg := C4.add 10 F10
theorem ok5 : CfgOk Try.prog C5 := ok4.add sound10
theorem C5_12 : C5.Γ 12 = some F12 := rfl
theorem C5_13 : C5.Γ 13 = some F13 := rfl
theorem C5_14 : C5.Γ 14 = some F12 := rfl
theorem C5_15 : C5.Γ 15 = some F13 := rfl
theorem C5_16 : C5.Γ 16 = some F16 := rfl
theorem C5_17 : C5.Γ 17 = some F16 := rfl
theorem C5_11 : C5.Γ 11 = some F11 := rfl
theorem C5_7 : C5.Γ 7 = some F7 := rfl
theorem C5_9 : C5.Γ 9 = some F9 := rfl
theorem C5_10 : C5.Γ 10 = some F10 := rfl

/-- WideAdds. -/
theorem step5 {ah al bh bl : Int} (h1 : U ah) (h2 : U al) (h3 : U bh) (h4 : U bl) : pureF C5 1 5 [W ah al, W bh bl] = some (.bool true) := by
  refine pureF_of (x := x5) rfl rfl ?_
  rw [x5_eq.1, x5_eq.2.1]
  simp (disch := first | omega | simp only [go_sem, tm0, ↓reduceIte, Nat.reduceAdd, Nat.reduceMul, Nat.reduceSub, Nat.reduceLeDiff, Nat.reduceLT, Nat.reduceEqDiff, Int.reduceLT, Int.reduceLE, Int.reduceAdd, Int.reduceSub, Int.reduceMul, Int.reduceToNat, Int.reducePow, Int.reduceNe, Int.reduceMod, Int.reduceDiv, ne_eq, Int.reduceEq, not_false_eq_true, Nat.reducePow, List.length_append, List.length_replicate, List.replicate_succ, List.replicate_zero, Int.cast_ofNat_Int]) only [x5b, go_sem, tm0, ↓reduceIte, Nat.reduceAdd, Nat.reduceMul, Nat.reduceSub, Nat.reduceLeDiff, Nat.reduceLT, Nat.reduceEqDiff, Int.reduceLT, Int.reduceLE, Int.reduceAdd, Int.reduceSub, Int.reduceMul, Int.reduceToNat, Int.reducePow, Int.reduceNe, Int.reduceMod, Int.reduceDiv, ne_eq, Int.reduceEq, not_false_eq_true, Nat.reducePow, List.length_append, List.length_replicate, List.replicate_succ, List.replicate_zero, Int.cast_ofNat_Int, callX_known C5_12, callX_known C5_13, callX_known C5_14, callX_known C5_15, callX_known C5_16, callX_known C5_17, callX_known C5_10, ft_call C5_12, ft_call C5_13, ft_call C5_14, ft_call C5_15, ft_call C5_16, ft_call C5_17, ft_call C5_10,
    F12_eq h1 h2 h3 h4, F13_eq h1 h2 h3 h4, F16_eq h2 h4, F10_eq, beq_self_eq_true, eq_self]
  exact Ends_plain rfl rfl
/-! ### by numbers -/
abbrev N128 (n : Int) : Prop := 0 ≤ n ∧ n < 340282366920938463463374607431768211456
theorem W_enc {h l : Int} (h1 : U h) (h2 : U l) : ∃ n, N128 n ∧ W h l = enc n := by
  refine ⟨h * 18446744073709551616 + l, by simp only [N128]; omega, ?_⟩
  have e1 : (h * 18446744073709551616 + l) / 18446744073709551616 = h := by omega
  have e2 : (h * 18446744073709551616 + l) % 18446744073709551616 = l := by omega
  simp only [enc, e1, e2]
theorem F12_enc {m n : Int} (h1 : N128 m) (h2 : N128 n) : F12 [enc m, enc n] = some (.tup [enc ((m + n) % 340282366920938463463374607431768211456), .bool (decide (340282366920938463463374607431768211456 ≤ m + n))]) := by
  rw [F12_eq (by simp only [U]; omega) (by simp only [U]; omega) (by simp only [U]; omega) (by simp only [U]; omega)]
  rw [show val (m / 18446744073709551616) (m % 18446744073709551616) = m by simp only [val]; omega, show val (n / 18446744073709551616) (n % 18446744073709551616) = n by simp only [val]; omega]
theorem F13_enc {m n : Int} (h1 : N128 m) (h2 : N128 n) : F13 [enc m, enc n] = some (.tup [enc ((m - n) % 340282366920938463463374607431768211456), .bool (decide (m < n))]) := by
  rw [F13_eq (by simp only [U]; omega) (by simp only [U]; omega) (by simp only [U]; omega) (by simp only [U]; omega)]
  rw [show val (m / 18446744073709551616) (m % 18446744073709551616) = m by simp only [val]; omega, show val (n / 18446744073709551616) (n % 18446744073709551616) = n by simp only [val]; omega]
theorem F7_enc {m n : Int} (h1 : N128 m) (h2 : N128 n) : F7 [enc m, enc n] = some (.tup [enc ((m * n) % 340282366920938463463374607431768211456), .bool (decide (340282366920938463463374607431768211456 ≤ m * n))]) := by
  rw [F7_eq (by simp only [U]; omega) (by simp only [U]; omega) (by simp only [U]; omega) (by simp only [U]; omega)]
  rw [show val (m / 18446744073709551616) (m % 18446744073709551616) = m by simp only [val]; omega, show val (n / 18446744073709551616) (n % 18446744073709551616) = n by simp only [val]; omega]
theorem F16_enc {m n : Int} (h1 : N128 m) (h2 : N128 n) : F16 [enc m, enc n] = some (.bool (decide (m < n))) := by
  rw [F16_eq (by simp only [U]; omega) (by simp only [U]; omega)]
  rw [show val (m / 18446744073709551616) (m % 18446744073709551616) = m by simp only [val]; omega, show val (n / 18446744073709551616) (n % 18446744073709551616) = n by simp only [val]; omega]

/-- WideBack. -/
theorem step6 {m n : Int} (h1 : N128 m) (h2 : N128 n) : pureF C5 1 6 [enc m, enc n] = some (.bool true) := by
  have z1 : ((m + n) % 340282366920938463463374607431768211456 - n) % 340282366920938463463374607431768211456 = m := by omega
  have z2 : ((m - n) % 340282366920938463463374607431768211456 + n) % 340282366920938463463374607431768211456 = m := by omega
  have z3 : decide ((m + n) % 340282366920938463463374607431768211456 < n) = decide (340282366920938463463374607431768211456 ≤ m + n) := decide_eq_decide.2 (by omega)
  have z4 : decide (340282366920938463463374607431768211456 ≤ (m - n) % 340282366920938463463374607431768211456 + n) = decide (m < n) := decide_eq_decide.2 (by omega)
  have z5 : decide ((m + n) % 340282366920938463463374607431768211456 < m) = decide (340282366920938463463374607431768211456 ≤ m + n) := decide_eq_decide.2 (by omega)
  have c : (decide (m < n) = true ∧ decide (n < m) = false ∧ (decide (m / 18446744073709551616 = n / 18446744073709551616) && decide (m % 18446744073709551616 = n % 18446744073709551616)) = false) ∨
      (decide (m < n) = false ∧ decide (n < m) = true ∧ (decide (m / 18446744073709551616 = n / 18446744073709551616) && decide (m % 18446744073709551616 = n % 18446744073709551616)) = false) ∨
      (decide (m < n) = false ∧ decide (n < m) = false ∧ (decide (m / 18446744073709551616 = n / 18446744073709551616) && decide (m % 18446744073709551616 = n % 18446744073709551616)) = true) := by
    simp only [decide_eq_true_eq, decide_eq_false_iff_not, Bool.and_eq_true, Bool.and_eq_false_iff]
    omega
  refine pureF_of (x := x6) rfl rfl ?_
  rw [x6_eq.1, x6_eq.2.1]
  simp (disch := first | omega | simp only [go_sem, tm0, ↓reduceIte, Nat.reduceAdd, Nat.reduceMul, Nat.reduceSub, Nat.reduceLeDiff, Nat.reduceLT, Nat.reduceEqDiff, Int.reduceLT, Int.reduceLE, Int.reduceAdd, Int.reduceSub, Int.reduceMul, Int.reduceToNat, Int.reducePow, Int.reduceNe, Int.reduceMod, Int.reduceDiv, ne_eq, Int.reduceEq, not_false_eq_true, Nat.reducePow, List.length_append, List.length_replicate, List.replicate_succ, List.replicate_zero, Int.cast_ofNat_Int]) only [x6b, go_sem, tm0, ↓reduceIte, Nat.reduceAdd, Nat.reduceMul, Nat.reduceSub, Nat.reduceLeDiff, Nat.reduceLT, Nat.reduceEqDiff, Int.reduceLT, Int.reduceLE, Int.reduceAdd, Int.reduceSub, Int.reduceMul, Int.reduceToNat, Int.reducePow, Int.reduceNe, Int.reduceMod, Int.reduceDiv, ne_eq, Int.reduceEq, not_false_eq_true, Nat.reducePow, List.length_append, List.length_replicate, List.replicate_succ, List.replicate_zero, Int.cast_ofNat_Int, callX_known C5_12, callX_known C5_13, callX_known C5_16, callX_known C5_10, ft_call C5_12, ft_call C5_13, ft_call C5_16, ft_call C5_10,
    F12_enc, F13_enc, F16_enc, F10_eq, z1, z2, z3, z4, z5, beq_self_eq_true, eq_self]
  rcases c with ⟨c1, c2, c3⟩ | ⟨c1, c2, c3⟩ | ⟨c1, c2, c3⟩ <;>
    simp (disch := first | omega | simp only [go_sem, tm0, ↓reduceIte, Nat.reduceAdd, Nat.reduceMul, Nat.reduceSub, Nat.reduceLeDiff, Nat.reduceLT, Nat.reduceEqDiff, Int.reduceLT, Int.reduceLE, Int.reduceAdd, Int.reduceSub, Int.reduceMul, Int.reduceToNat, Int.reducePow, Int.reduceNe, Int.reduceMod, Int.reduceDiv, ne_eq, Int.reduceEq, not_false_eq_true, Nat.reducePow, List.length_append, List.length_replicate, List.replicate_succ, List.replicate_zero, Int.cast_ofNat_Int]) only [c1, c2, c3, go_sem, tm0, ↓reduceIte, Nat.reduceAdd, Nat.reduceMul, Nat.reduceSub, Nat.reduceLeDiff, Nat.reduceLT, Nat.reduceEqDiff, Int.reduceLT, Int.reduceLE, Int.reduceAdd, Int.reduceSub, Int.reduceMul, Int.reduceToNat, Int.reducePow, Int.reduceNe, Int.reduceMod, Int.reduceDiv, ne_eq, Int.reduceEq, not_false_eq_true, Nat.reducePow, List.length_append, List.length_replicate, List.replicate_succ, List.replicate_zero, Int.cast_ofNat_Int, callX_known C5_12, callX_known C5_13, callX_known C5_16, callX_known C5_10, ft_call C5_12, ft_call C5_13, ft_call C5_16, ft_call C5_10,
      F12_enc, F13_enc, F16_enc, F10_eq, beq_self_eq_true, eq_self, decide_eq_true_eq, decide_eq_false_iff_not, Bool.true_beq, Bool.false_beq]
  all_goals exact Ends_plain rfl rfl

/-- A wide number that comes in. -/
abbrev tW : ATy := .struct [.int .u64, .int .u64]
theorem wt_W {a : AVal} (h : WT tW a) : ∃ x y, a = W x y ∧ U x ∧ U y := by
  simp only [WT, WTL] at h
  obtain ⟨ps, rfl, _, _, rfl, ⟨x, rfl, hx⟩, _, _, rfl, ⟨y, rfl, hy⟩, rfl⟩ := h
  refine ⟨x, y, rfl, ?_, ?_⟩
  · have e1 : IntKind.u64.min = 0 := rfl
    have e2 : IntKind.u64.max = 18446744073709551615 := rfl
    simp only [U]; omega
  · have e1 : IntKind.u64.min = 0 := rfl
    have e2 : IntKind.u64.max = 18446744073709551615 := rfl
    simp only [U]; omega
theorem law5 : ∀ xs, WTL [tW, tW] xs → pureF C5 1 5 xs = some (.bool true) := by
  intro xs h
  simp only [WTL] at h
  obtain ⟨a, _, rfl, ha, b, _, rfl, hb, rfl⟩ := h
  obtain ⟨x, y, rfl, h1, h2⟩ := wt_W ha
  obtain ⟨z, t, rfl, h3, h4⟩ := wt_W hb
  exact step5 h1 h2 h3 h4
theorem law6 : ∀ xs, WTL [tW, tW] xs → pureF C5 1 6 xs = some (.bool true) := by
  intro xs h
  simp only [WTL] at h
  obtain ⟨a, _, rfl, ha, b, _, rfl, hb, rfl⟩ := h
  obtain ⟨x, y, rfl, h1, h2⟩ := wt_W ha
  obtain ⟨z, t, rfl, h3, h4⟩ := wt_W hb
  obtain ⟨m, hm, em⟩ := W_enc h1 h2
  obtain ⟨n, hn, en⟩ := W_enc h3 h4
  rw [em, en]
  exact step6 hm hn
end Go.Proofs.Ytfndobdfdhkepaa
