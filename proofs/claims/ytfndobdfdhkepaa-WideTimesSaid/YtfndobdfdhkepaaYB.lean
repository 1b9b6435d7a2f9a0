/-
  What the functions of wide answer.
-/
import Derived.Test.YtfndobdfdhkepaaYA
set_option linter.unusedVariables false
set_option linter.unusedSimpArgs false
namespace Go.Proofs.Ytfndobdfdhkepaa
open Go Go.Xec

/-- A word. -/
abbrev U (n : Int) : Prop := 0 ≤ n ∧ n < 18446744073709551616
abbrev W (h l : Int) : AVal := .agg [.int .u64 h, .int .u64 l]
abbrev val (h l : Int) : Int := h * 18446744073709551616 + l
/-- A wide number, of a number below 2^128. -/
abbrev enc (n : Int) : AVal := W (n / 18446744073709551616) (n % 18446744073709551616)
abbrev big : Int := 340282366920938463463374607431768211456

def F22 : List AVal → Option AVal
  | [.int .u64 a, .int .u64 b] => if U a ∧ U b then some (.tup [.int .u64 (a * b / 18446744073709551616), .int .u64 (a * b % 18446744073709551616)]) else none
  | _ => none
theorem F22_eq {a b : Int} (ha : U a) (hb : U b) : F22 [.int .u64 a, .int .u64 b] = some (.tup [.int .u64 (a * b / 18446744073709551616), .int .u64 (a * b % 18446744073709551616)]) := if_pos ⟨ha, hb⟩

theorem mul_bound {x y m : Int} (h0 : 0 ≤ x) (h1 : x ≤ m) (h2 : 0 ≤ y) (h3 : y ≤ m) : 0 ≤ x * y ∧ x * y ≤ m * m :=
  ⟨Int.mul_nonneg h0 h2, Int.mul_le_mul h1 h3 h2 (by omega)⟩

set_option maxRecDepth 10000
theorem step22 {a b : Int} (ha : U a) (hb : U b) : pureF C0 1 22 [.int .u64 a, .int .u64 b] = some (.tup [.int .u64 (a * b / 18446744073709551616), .int .u64 (a * b % 18446744073709551616)]) := by
  refine pureF_of (x := x22) rfl rfl ?_
  rw [x22_eq.1, x22_eq.2.1]
  simp only [x22b, go_sem, tm0, ↓reduceIte, Nat.reduceAdd, Nat.reduceMul, Nat.reduceSub, Nat.reduceLeDiff, Nat.reduceLT, Nat.reduceEqDiff, Int.reduceLT, Int.reduceLE, Int.reduceAdd, Int.reduceSub, Int.reduceMul, Int.reduceToNat, Int.reducePow, Int.reduceNe, Int.reduceMod, Int.reduceDiv, ne_eq, Int.reduceEq, not_false_eq_true, Nat.reducePow, List.length_append, List.length_replicate, List.replicate_succ, List.replicate_zero, Int.cast_ofNat_Int, and_self, Bool.and_self, binA_and32, binA_shr]
  refine Ends_plain rfl ?_
  have e1 : a = a / 4294967296 * 4294967296 + a % 4294967296 := by omega
  have e2 : b = b / 4294967296 * 4294967296 + b % 4294967296 := by omega
  have h1 : 0 ≤ a / 4294967296 ∧ a / 4294967296 ≤ 4294967295 := by omega
  have h2 : 0 ≤ a % 4294967296 ∧ a % 4294967296 ≤ 4294967295 := by omega
  have h3 : 0 ≤ b / 4294967296 ∧ b / 4294967296 ≤ 4294967295 := by omega
  have h4 : 0 ≤ b % 4294967296 ∧ b % 4294967296 ≤ 4294967295 := by omega
  generalize a / 4294967296 = a1 at *
  generalize a % 4294967296 = a0 at *
  generalize b / 4294967296 = b1 at *
  generalize b % 4294967296 = b0 at *
  have p11 := mul_bound h1.1 h1.2 h3.1 h3.2
  have p10 := mul_bound h1.1 h1.2 h4.1 h4.2
  have p01 := mul_bound h2.1 h2.2 h3.1 h3.2
  have p00 := mul_bound h2.1 h2.2 h4.1 h4.2
  have e3 : a * b = a1 * b1 * 18446744073709551616 + (a1 * b0 + a0 * b1) * 4294967296 + a0 * b0 := by
    rw [e1, e2]
    simp only [Int.add_mul, Int.mul_add, Int.mul_comm, Int.mul_left_comm, Int.mul_assoc, Int.reduceMul]
    omega
  rw [e3]
  generalize a1 * b1 = q11 at *
  generalize a1 * b0 = q10 at *
  generalize a0 * b1 = q01 at *
  generalize a0 * b0 = q00 at *
  clear e1 e2 e3 ha hb
  congr 2
  · congr 1
    omega

theorem sound22 : Sound Try.prog 22 F22 := sound_at ok0 0 fun xs r h => by
  unfold F22 at h
  split at h
  · split at h
    · rename_i hc
      cases h
      exact step22 hc.1 hc.2
    · cases h
  · cases h

theorem sound18 : Sound Try.prog 18 F_add64 := sound_add64 Try.func18 (by kernel_rfl) (by kernel_rfl) (by kernel_rfl) (by kernel_rfl)
theorem sound24 : Sound Try.prog 24 F_sub64 := sound_sub64 Try.func24 (by kernel_rfl) (by kernel_rfl) (by kernel_rfl) (by
  intro x y c hc w
  have : c = 0 ∨ c = 1 := by omega
  rcases this with rfl | rfl <;> rfl)

def C1 : Cfg := ((C0.add 22 F22).add 18 F_add64).add 24 F_sub64
theorem ok1 : CfgOk Try.prog C1 := ((ok0.add sound22).add sound18).add sound24
theorem C1_22 : C1.Γ 22 = some F22 := rfl
theorem C1_18 : C1.Γ 18 = some F_add64 := rfl
theorem C1_24 : C1.Γ 24 = some F_sub64 := rfl

def F11 : List AVal → Option AVal
  | [.int .u64 a, .int .u64 b] => if U a ∧ U b then some (enc (a * b)) else none
  | _ => none
theorem F11_eq {a b : Int} (ha : U a) (hb : U b) : F11 [.int .u64 a, .int .u64 b] = some (enc (a * b)) := if_pos ⟨ha, hb⟩
theorem step11 {a b : Int} (ha : U a) (hb : U b) : pureF C1 1 11 [.int .u64 a, .int .u64 b] = some (enc (a * b)) := by
  refine pureF_of (x := x11) rfl rfl ?_
  rw [x11_eq.1, x11_eq.2.1]
  simp only [x11b, go_sem, tm0, ↓reduceIte, Nat.reduceAdd, Nat.reduceMul, Nat.reduceSub, Nat.reduceLeDiff, Nat.reduceLT, Nat.reduceEqDiff, Int.reduceLT, Int.reduceLE, Int.reduceAdd, Int.reduceSub, Int.reduceMul, Int.reduceToNat, Int.reducePow, Int.reduceNe, Int.reduceMod, Int.reduceDiv, ne_eq, Int.reduceEq, not_false_eq_true, Nat.reducePow, List.length_append, List.length_replicate, List.replicate_succ, List.replicate_zero, Int.cast_ofNat_Int, callX_known C1_22, F22_eq ha hb]
  exact Ends_plain rfl rfl
theorem sound11 : Sound Try.prog 11 F11 := sound_at ok1 0 fun xs r h => by
  unfold F11 at h
  split at h
  · split at h
    · rename_i hc
      cases h
      exact step11 hc.1 hc.2
    · cases h
  · cases h

def F23 : List AVal → Option AVal
  | [.agg [.int .u64 h, .int .u64 l]] => some (.agg [.int .u64 l, .int .u64 h])
  | _ => none
theorem F23_eq {h l : Int} : F23 [W h l] = some (.agg [.int .u64 l, .int .u64 h]) := rfl
theorem step23 (h l : Int) : pureF C1 1 23 [W h l] = some (.agg [.int .u64 l, .int .u64 h]) := by
  refine pureF_of (x := x23) rfl rfl ?_
  rw [x23_eq.1, x23_eq.2.1]
  simp only [x23b, go_sem, tm0, ↓reduceIte, Nat.reduceAdd, Nat.reduceMul, Nat.reduceSub, Nat.reduceLeDiff, Nat.reduceLT, Nat.reduceEqDiff, Int.reduceLT, Int.reduceLE, Int.reduceAdd, Int.reduceSub, Int.reduceMul, Int.reduceToNat, Int.reducePow, Int.reduceNe, Int.reduceMod, Int.reduceDiv, ne_eq, Int.reduceEq, not_false_eq_true, Nat.reducePow, List.length_append, List.length_replicate, List.replicate_succ, List.replicate_zero, Int.cast_ofNat_Int]
  exact Ends_plain rfl rfl
theorem sound23 : Sound Try.prog 23 F23 := sound_at ok1 0 fun xs r h => by
  unfold F23 at h
  split at h
  · cases h
    exact step23 _ _
  · cases h

/-- Less, in words. -/
def F16 : List AVal → Option AVal
  | [.agg [.int .u64 ah, .int .u64 al], .agg [.int .u64 bh, .int .u64 bl]] => if U al ∧ U bl then some (.bool (decide (val ah al < val bh bl))) else none
  | _ => none
theorem F16_eq {ah al bh bl : Int} (h1 : U al) (h2 : U bl) : F16 [W ah al, W bh bl] = some (.bool (decide (val ah al < val bh bl))) := if_pos ⟨h1, h2⟩
theorem step16 {ah al bh bl : Int} (h1 : U al) (h2 : U bl) : pureF C1 1 16 [W ah al, W bh bl] = some (.bool (decide (val ah al < val bh bl))) := by
  refine pureF_of (x := x16) rfl rfl ?_
  rw [x16_eq.1, x16_eq.2.1]
  simp only [x16b, go_sem, tm0, ↓reduceIte, Nat.reduceAdd, Nat.reduceMul, Nat.reduceSub, Nat.reduceLeDiff, Nat.reduceLT, Nat.reduceEqDiff, Int.reduceLT, Int.reduceLE, Int.reduceAdd, Int.reduceSub, Int.reduceMul, Int.reduceToNat, Int.reducePow, Int.reduceNe, Int.reduceMod, Int.reduceDiv, ne_eq, Int.reduceEq, not_false_eq_true, Nat.reducePow, List.length_append, List.length_replicate, List.replicate_succ, List.replicate_zero, Int.cast_ofNat_Int]
  repeat' (first | refine Ends_plain rfl ?_ | (first | refine Gd_split_t (fun h => ?_) (fun h => ?_) | refine Gd_split_f (fun h => ?_) (fun h => ?_) | refine Cd_split (fun h => ?_) (fun h => ?_)) <;> simp only [*, go_sem, tm0, ↓reduceIte, Nat.reduceAdd, Nat.reduceMul, Nat.reduceSub, Nat.reduceLeDiff, Nat.reduceLT, Nat.reduceEqDiff, Int.reduceLT, Int.reduceLE, Int.reduceAdd, Int.reduceSub, Int.reduceMul, Int.reduceToNat, Int.reducePow, Int.reduceNe, Int.reduceMod, Int.reduceDiv, ne_eq, Int.reduceEq, not_false_eq_true, Nat.reducePow, List.length_append, List.length_replicate, List.replicate_succ, List.replicate_zero, Int.cast_ofNat_Int])
  all_goals
    congr 1
    simp only [decide_eq_true_eq, decide_eq_false_iff_not, val] at *
  · exact (decide_eq_true (by omega)).symm
  · exact decide_eq_decide.2 (by omega)
  · exact (decide_eq_false (by omega)).symm
theorem sound16 : Sound Try.prog 16 F16 := sound_at ok1 0 fun xs r h => by
  unfold F16 at h
  split at h
  · split at h
    · rename_i hc
      cases h
      exact step16 hc.1 hc.2
    · cases h
  · cases h

def C2 : Cfg := ((C1.add 11 F11).add 23 F23).add 16 F16
theorem ok2 : CfgOk Try.prog C2 := ((ok1.add sound11).add sound23).add sound16
theorem C2_11 : C2.Γ 11 = some F11 := rfl
theorem C2_23 : C2.Γ 23 = some F23 := rfl
theorem C2_16 : C2.Γ 16 = some F16 := rfl
theorem C2_18 : C2.Γ 18 = some F_add64 := rfl
theorem C2_24 : C2.Γ 24 = some F_sub64 := rfl

theorem tWb {h h' l l' : Int} {b b' : Bool} (e1 : h = h') (e2 : l = l') (e3 : b = b') : AVal.tup [W h l, .bool b] = .tup [W h' l', .bool b'] := by
  subst e1; subst e2; subst e3; rfl
/-- Add. -/
def F12 : List AVal → Option AVal
  | [.agg [.int .u64 ah, .int .u64 al], .agg [.int .u64 bh, .int .u64 bl]] => if U ah ∧ U al ∧ U bh ∧ U bl then
      some (.tup [enc ((val ah al + val bh bl) % big), .bool (decide (big ≤ val ah al + val bh bl))]) else none
  | _ => none
theorem F12_eq {ah al bh bl : Int} (h1 : U ah) (h2 : U al) (h3 : U bh) (h4 : U bl) : F12 [W ah al, W bh bl] = some (.tup [enc ((val ah al + val bh bl) % big), .bool (decide (big ≤ val ah al + val bh bl))]) := if_pos ⟨h1, h2, h3, h4⟩
theorem step12 {ah al bh bl : Int} (h1 : U ah) (h2 : U al) (h3 : U bh) (h4 : U bl) : pureF C2 1 12 [W ah al, W bh bl] = some (.tup [enc ((val ah al + val bh bl) % big), .bool (decide (big ≤ val ah al + val bh bl))]) := by
  refine pureF_of (x := x12) rfl rfl ?_
  rw [x12_eq.1, x12_eq.2.1]
  simp (disch := first | omega | simp only [go_sem, tm0, ↓reduceIte, Nat.reduceAdd, Nat.reduceMul, Nat.reduceSub, Nat.reduceLeDiff, Nat.reduceLT, Nat.reduceEqDiff, Int.reduceLT, Int.reduceLE, Int.reduceAdd, Int.reduceSub, Int.reduceMul, Int.reduceToNat, Int.reducePow, Int.reduceNe, Int.reduceMod, Int.reduceDiv, ne_eq, Int.reduceEq, not_false_eq_true, Nat.reducePow, List.length_append, List.length_replicate, List.replicate_succ, List.replicate_zero, Int.cast_ofNat_Int]) only [x12b, x12l5, go_sem, tm0, ↓reduceIte, Nat.reduceAdd, Nat.reduceMul, Nat.reduceSub, Nat.reduceLeDiff, Nat.reduceLT, Nat.reduceEqDiff, Int.reduceLT, Int.reduceLE, Int.reduceAdd, Int.reduceSub, Int.reduceMul, Int.reduceToNat, Int.reducePow, Int.reduceNe, Int.reduceMod, Int.reduceDiv, ne_eq, Int.reduceEq, not_false_eq_true, Nat.reducePow, List.length_append, List.length_replicate, List.replicate_succ, List.replicate_zero, Int.cast_ofNat_Int, callX_known C2_18, callX_known C2_23, ft_call C2_18, ft_call C2_23, F23_eq, F_add64_eq, ↓Ev_loop, ↓EvN_step]
  refine Ends_plain rfl (tWb ?_ ?_ (decide_eq_decide.2 ?_)) <;> simp only [val, big] <;> omega
theorem sound12 : Sound Try.prog 12 F12 := sound_at ok2 0 fun xs r h => by
  unfold F12 at h
  split at h
  · split at h
    · rename_i hc
      cases h
      exact step12 hc.1 hc.2.1 hc.2.2.1 hc.2.2.2
    · cases h
  · cases h

/-- Sub. -/
def F13 : List AVal → Option AVal
  | [.agg [.int .u64 ah, .int .u64 al], .agg [.int .u64 bh, .int .u64 bl]] => if U ah ∧ U al ∧ U bh ∧ U bl then
      some (.tup [enc ((val ah al - val bh bl) % big), .bool (decide (val ah al < val bh bl))]) else none
  | _ => none
theorem F13_eq {ah al bh bl : Int} (h1 : U ah) (h2 : U al) (h3 : U bh) (h4 : U bl) : F13 [W ah al, W bh bl] = some (.tup [enc ((val ah al - val bh bl) % big), .bool (decide (val ah al < val bh bl))]) := if_pos ⟨h1, h2, h3, h4⟩
theorem bor01 (p : Prop) [Decidable p] : 0 ≤ (if p then (1 : Int) else 0) ∧ (if p then (1 : Int) else 0) ≤ 1 := by split <;> decide
theorem step13 {ah al bh bl : Int} (h1 : U ah) (h2 : U al) (h3 : U bh) (h4 : U bl) : pureF C2 1 13 [W ah al, W bh bl] = some (.tup [enc ((val ah al - val bh bl) % big), .bool (decide (val ah al < val bh bl))]) := by
  refine pureF_of (x := x13) rfl rfl ?_
  rw [x13_eq.1, x13_eq.2.1]
  simp (disch := first | omega | simp only [go_sem, tm0, ↓reduceIte, Nat.reduceAdd, Nat.reduceMul, Nat.reduceSub, Nat.reduceLeDiff, Nat.reduceLT, Nat.reduceEqDiff, Int.reduceLT, Int.reduceLE, Int.reduceAdd, Int.reduceSub, Int.reduceMul, Int.reduceToNat, Int.reducePow, Int.reduceNe, Int.reduceMod, Int.reduceDiv, ne_eq, Int.reduceEq, not_false_eq_true, Nat.reducePow, List.length_append, List.length_replicate, List.replicate_succ, List.replicate_zero, Int.cast_ofNat_Int]) only [x13b, x13l5, go_sem, tm0, ↓reduceIte, Nat.reduceAdd, Nat.reduceMul, Nat.reduceSub, Nat.reduceLeDiff, Nat.reduceLT, Nat.reduceEqDiff, Int.reduceLT, Int.reduceLE, Int.reduceAdd, Int.reduceSub, Int.reduceMul, Int.reduceToNat, Int.reducePow, Int.reduceNe, Int.reduceMod, Int.reduceDiv, ne_eq, Int.reduceEq, not_false_eq_true, Nat.reducePow, List.length_append, List.length_replicate, List.replicate_succ, List.replicate_zero, Int.cast_ofNat_Int, callX_known C2_24, callX_known C2_23, ft_call C2_24, ft_call C2_23, F23_eq, F_sub64_eq, ↓Ev_loop, ↓EvN_step]
  refine Ends_plain rfl (tWb ?_ ?_ (decide_eq_decide.2 ?_)) <;> simp only [val, big] <;> (repeat' split) <;> omega
theorem sound13 : Sound Try.prog 13 F13 := sound_at ok2 0 fun xs r h => by
  unfold F13 at h
  split at h
  · split at h
    · rename_i hc
      cases h
      exact step13 hc.1 hc.2.1 hc.2.2.1 hc.2.2.2
    · cases h
  · cases h

/-- Of, and Less, of the document. -/
def F9 : List AVal → Option AVal
  | [.int .u64 x] => some (W 0 x)
  | _ => none
theorem F9_eq {x : Int} : F9 [.int .u64 x] = some (W 0 x) := rfl
theorem step9 (x : Int) : pureF C2 1 9 [.int .u64 x] = some (W 0 x) := by
  refine pureF_of (x := x9) rfl rfl ?_
  rw [x9_eq.1, x9_eq.2.1]
  simp (disch := first | omega | simp only [go_sem, tm0, ↓reduceIte, Nat.reduceAdd, Nat.reduceMul, Nat.reduceSub, Nat.reduceLeDiff, Nat.reduceLT, Nat.reduceEqDiff, Int.reduceLT, Int.reduceLE, Int.reduceAdd, Int.reduceSub, Int.reduceMul, Int.reduceToNat, Int.reducePow, Int.reduceNe, Int.reduceMod, Int.reduceDiv, ne_eq, Int.reduceEq, not_false_eq_true, Nat.reducePow, List.length_append, List.length_replicate, List.replicate_succ, List.replicate_zero, Int.cast_ofNat_Int]) only [x9b, go_sem, tm0, ↓reduceIte, Nat.reduceAdd, Nat.reduceMul, Nat.reduceSub, Nat.reduceLeDiff, Nat.reduceLT, Nat.reduceEqDiff, Int.reduceLT, Int.reduceLE, Int.reduceAdd, Int.reduceSub, Int.reduceMul, Int.reduceToNat, Int.reducePow, Int.reduceNe, Int.reduceMod, Int.reduceDiv, ne_eq, Int.reduceEq, not_false_eq_true, Nat.reducePow, List.length_append, List.length_replicate, List.replicate_succ, List.replicate_zero, Int.cast_ofNat_Int]
  exact Ends_plain rfl rfl
theorem sound9 : Sound Try.prog 9 F9 := sound_at ok2 0 fun xs r h => by
  unfold F9 at h
  split at h
  · cases h
    exact step9 _
  · cases h
theorem step17 {ah al bh bl : Int} (h1 : U al) (h2 : U bl) : pureF C2 1 17 [W ah al, W bh bl] = some (.bool (decide (val ah al < val bh bl))) := by
  refine pureF_of (x := x17) rfl rfl ?_
  rw [x17_eq.1, x17_eq.2.1]
  simp only [x17b, go_sem, tm0, ↓reduceIte, Nat.reduceAdd, Nat.reduceMul, Nat.reduceSub, Nat.reduceLeDiff, Nat.reduceLT, Nat.reduceEqDiff, Int.reduceLT, Int.reduceLE, Int.reduceAdd, Int.reduceSub, Int.reduceMul, Int.reduceToNat, Int.reducePow, Int.reduceNe, Int.reduceMod, Int.reduceDiv, ne_eq, Int.reduceEq, not_false_eq_true, Nat.reducePow, List.length_append, List.length_replicate, List.replicate_succ, List.replicate_zero, Int.cast_ofNat_Int]
  repeat' (first | refine Ends_plain rfl ?_ | (first | refine Gd_split_t (fun h => ?_) (fun h => ?_) | refine Gd_split_f (fun h => ?_) (fun h => ?_) | refine Cd_split (fun h => ?_) (fun h => ?_)) <;> simp only [*, go_sem, tm0, ↓reduceIte, Nat.reduceAdd, Nat.reduceMul, Nat.reduceSub, Nat.reduceLeDiff, Nat.reduceLT, Nat.reduceEqDiff, Int.reduceLT, Int.reduceLE, Int.reduceAdd, Int.reduceSub, Int.reduceMul, Int.reduceToNat, Int.reducePow, Int.reduceNe, Int.reduceMod, Int.reduceDiv, ne_eq, Int.reduceEq, not_false_eq_true, Nat.reducePow, List.length_append, List.length_replicate, List.replicate_succ, List.replicate_zero, Int.cast_ofNat_Int])
  all_goals
    congr 1
    simp only [decide_eq_true_eq, decide_eq_false_iff_not, val] at *
  · exact decide_eq_decide.2 (by omega)
  · exact decide_eq_decide.2 (by omega)
theorem sound17 : Sound Try.prog 17 F16 := sound_at ok2 0 fun xs r h => by
  unfold F16 at h
  split at h
  · split at h
    · rename_i hc
      cases h
      exact step17 hc.1 hc.2
    · cases h
  · cases h

/-- Times. -/
def F7 : List AVal → Option AVal
  | [.agg [.int .u64 ah, .int .u64 al], .agg [.int .u64 bh, .int .u64 bl]] => if U ah ∧ U al ∧ U bh ∧ U bl then
      some (.tup [enc ((val ah al * val bh bl) % big), .bool (decide (big ≤ val ah al * val bh bl))]) else none
  | _ => none
theorem F7_eq {ah al bh bl : Int} (h1 : U ah) (h2 : U al) (h3 : U bh) (h4 : U bl) : F7 [W ah al, W bh bl] = some (.tup [enc ((val ah al * val bh bl) % big), .bool (decide (big ≤ val ah al * val bh bl))]) := if_pos ⟨h1, h2, h3, h4⟩
theorem mul_pos1 {x y : Int} (h : 0 ≤ x) (h' : 0 ≤ y) : (0 < x ∧ 0 < y ∧ 1 ≤ x * y) ∨ ((x = 0 ∨ y = 0) ∧ x * y = 0) := by
  rcases Int.lt_or_eq_of_le h with h1 | h1
  · rcases Int.lt_or_eq_of_le h' with h2 | h2
    · exact .inl ⟨h1, h2, Int.mul_pos h1 h2⟩
    · subst h2; exact .inr ⟨.inr rfl, by simp⟩
  · subst h1; exact .inr ⟨.inl rfl, by simp⟩
theorem step7 {ah al bh bl : Int} (h1 : U ah) (h2 : U al) (h3 : U bh) (h4 : U bl) : pureF C2 1 7 [W ah al, W bh bl] = some (.tup [enc ((val ah al * val bh bl) % big), .bool (decide (big ≤ val ah al * val bh bl))]) := by
  refine pureF_of (x := x7) rfl rfl ?_
  rw [x7_eq.1, x7_eq.2.1]
  have p11 : 0 ≤ ah * bh ∧ ah * bh ≤ 18446744073709551615 * 18446744073709551615 := mul_bound h1.1 (by omega) h3.1 (by omega)
  have p10 : 0 ≤ ah * bl ∧ ah * bl ≤ 18446744073709551615 * 18446744073709551615 := mul_bound h1.1 (by omega) h4.1 (by omega)
  have p01 : 0 ≤ al * bh ∧ al * bh ≤ 18446744073709551615 * 18446744073709551615 := mul_bound h2.1 (by omega) h3.1 (by omega)
  have p00 : 0 ≤ al * bl ∧ al * bl ≤ 18446744073709551615 * 18446744073709551615 := mul_bound h2.1 (by omega) h4.1 (by omega)
  have pz := mul_pos1 h1.1 h3.1
  simp (disch := first | omega | simp only [go_sem, tm0, ↓reduceIte, Nat.reduceAdd, Nat.reduceMul, Nat.reduceSub, Nat.reduceLeDiff, Nat.reduceLT, Nat.reduceEqDiff, Int.reduceLT, Int.reduceLE, Int.reduceAdd, Int.reduceSub, Int.reduceMul, Int.reduceToNat, Int.reducePow, Int.reduceNe, Int.reduceMod, Int.reduceDiv, ne_eq, Int.reduceEq, not_false_eq_true, Nat.reducePow, List.length_append, List.length_replicate, List.replicate_succ, List.replicate_zero, Int.cast_ofNat_Int]) only [x7b, x7l4, go_sem, tm0, ↓reduceIte, Nat.reduceAdd, Nat.reduceMul, Nat.reduceSub, Nat.reduceLeDiff, Nat.reduceLT, Nat.reduceEqDiff, Int.reduceLT, Int.reduceLE, Int.reduceAdd, Int.reduceSub, Int.reduceMul, Int.reduceToNat, Int.reducePow, Int.reduceNe, Int.reduceMod, Int.reduceDiv, ne_eq, Int.reduceEq, not_false_eq_true, Nat.reducePow, List.length_append, List.length_replicate, List.replicate_succ, List.replicate_zero, Int.cast_ofNat_Int, callX_known C2_18, callX_known C2_11, ft_call C2_18, ft_call C2_11, F_add64_eq, F11_eq, ↓Ev_loop, ↓EvN_step]
  repeat' (first | refine Ends_plain rfl ?_ | (first | refine Gd_split_t (fun h => ?_) (fun h => ?_) | refine Gd_split_f (fun h => ?_) (fun h => ?_) | refine Cd_split (fun h => ?_) (fun h => ?_)) <;> simp (disch := first | omega | simp only [go_sem, tm0, ↓reduceIte, Nat.reduceAdd, Nat.reduceMul, Nat.reduceSub, Nat.reduceLeDiff, Nat.reduceLT, Nat.reduceEqDiff, Int.reduceLT, Int.reduceLE, Int.reduceAdd, Int.reduceSub, Int.reduceMul, Int.reduceToNat, Int.reducePow, Int.reduceNe, Int.reduceMod, Int.reduceDiv, ne_eq, Int.reduceEq, not_false_eq_true, Nat.reducePow, List.length_append, List.length_replicate, List.replicate_succ, List.replicate_zero, Int.cast_ofNat_Int]) only [h, go_sem, tm0, ↓reduceIte, Nat.reduceAdd, Nat.reduceMul, Nat.reduceSub, Nat.reduceLeDiff, Nat.reduceLT, Nat.reduceEqDiff, Int.reduceLT, Int.reduceLE, Int.reduceAdd, Int.reduceSub, Int.reduceMul, Int.reduceToNat, Int.reducePow, Int.reduceNe, Int.reduceMod, Int.reduceDiv, ne_eq, Int.reduceEq, not_false_eq_true, Nat.reducePow, List.length_append, List.length_replicate, List.replicate_succ, List.replicate_zero, Int.cast_ofNat_Int, callX_known C2_18, callX_known C2_11, ft_call C2_18, ft_call C2_11, F_add64_eq, F11_eq, ↓Ev_loop, ↓EvN_step])
  all_goals
    have e : val ah al * val bh bl = ah * bh * big + (ah * bl + al * bh) * 18446744073709551616 + al * bl := by
      simp only [val, big, Int.add_mul, Int.mul_add, Int.mul_comm, Int.mul_left_comm, Int.mul_assoc, Int.reduceMul]
      omega
    rw [e]
    generalize ah * bh = q11 at *
    generalize ah * bl = q10 at *
    generalize al * bh = q01 at *
    generalize al * bl = q00 at *
    simp only [decide_eq_true_eq, decide_eq_false_iff_not] at *
    clear e
    refine tWb ?_ ?_ ?_
    · simp only [big]; omega
    · simp only [big]; omega
    · simp only [big]
      first
        | exact (decide_eq_true (by omega)).symm
        | exact (decide_eq_false (by omega)).symm
        | exact decide_eq_decide.2 (by omega)
theorem sound7 : Sound Try.prog 7 F7 := sound_at ok2 0 fun xs r h => by
  unfold F7 at h
  split at h
  · split at h
    · rename_i hc
      cases h
      exact step7 hc.1 hc.2.1 hc.2.2.1 hc.2.2.2
    · cases h
  · cases h
end Go.Proofs.Ytfndobdfdhkepaa
