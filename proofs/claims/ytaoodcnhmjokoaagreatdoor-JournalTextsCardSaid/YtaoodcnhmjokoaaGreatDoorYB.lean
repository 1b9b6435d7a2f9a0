/-
  Numbers of a line: the program's.
-/
import Derived.Test.YtaoodcnhmjokoaaGreatDoorYX
set_option linter.unusedVariables false
set_option linter.unusedSimpArgs false
namespace Go.Proofs.YtaoodcnhmjokoaaGreatDoor
open Go Go.Xec

set_option maxRecDepth 10000
namespace T
theorem vlA_cons (a : Nat) (c : UInt8) (l : List UInt8) : vlA a (c :: l) = vlA (a * 10 + (c.toNat - 48)) l := by simp only [vlA, List.foldl_cons]
theorem vlA_le (l : List UInt8) : ∀ (a : Nat), a ≤ vlA a l := by
  induction l with
  | nil => intro a; exact Nat.le_refl _
  | cons c l ih => intro a; rw [vlA_cons]; exact Nat.le_trans (by omega) (ih _)
theorem parse_digs (l : List UInt8) : ∀ (a : Nat), digs l → a < 18446744073709551616 → Lib.parseUint10 a l = if vlA a l < 18446744073709551616 then .ok (vlA a l) else .range := by
  induction l with
  | nil => intro a _ ha; rw [if_pos (show vlA a [] < _ from ha)]; rfl
  | cons c l ih =>
    intro a h ha
    have hc := h c (by simp)
    simp only [digB, digi] at hc
    have hle := vlA_le l (a * 10 + (c.toNat - 48))
    rw [vlA_cons]
    simp only [Lib.parseUint10]
    have h3 : 48 ≤ c.toNat ∧ c.toNat ≤ 57 := by omega
    rw [if_pos h3]
    by_cases h1 : 1844674407370955162 ≤ a
    · rw [if_pos h1, if_neg (by omega)]
    · rw [if_neg h1]
      by_cases h2 : 18446744073709551616 ≤ a * 10 + (c.toNat - 48)
      · rw [if_pos h2, if_neg (by omega)]
      · rw [if_neg h2]
        exact ih _ (fun b hb => h b (by simp [hb])) (by omega)
theorem mag_digs {l : List UInt8} (h : digs l) (h0 : l ≠ []) : Lib.parseMag l = if vl l < 18446744073709551616 then .ok (vl l) else .range := by
  unfold Lib.parseMag
  rw [if_neg h0]
  exact parse_digs l 0 h (by omega)
theorem atoi_plain {l : List UInt8} (h : digs l) (h0 : l ≠ []) : Lib.atoiAll l = if vl l < 9223372036854775808 then .ok (vl l : Int) else .range := by
  cases l with
  | nil => exact absurd rfl h0
  | cons c r =>
    have hc := h c (by simp)
    simp only [digB, digi] at hc
    unfold Lib.atoiAll
    simp only
    rw [if_neg (by omega), mag_digs h h0]
    by_cases h1 : vl (c :: r) < 18446744073709551616
    · rw [if_pos h1]
      simp only
      by_cases h2 : vl (c :: r) < 9223372036854775808
      · rw [if_pos h2, if_neg (by omega), if_neg (by omega), if_neg (by omega)]
      · rw [if_neg h2, if_pos (by omega)]
    · rw [if_neg h1, if_neg (by omega)]
theorem atoi_minus {l : List UInt8} (h : digs l) (h0 : l ≠ []) : Lib.atoiAll (45 :: l) = if vl l ≤ 9223372036854775808 then .ok (-(vl l : Int)) else .range := by
  unfold Lib.atoiAll
  simp only
  rw [if_pos (by right; rfl), mag_digs h h0]
  by_cases h1 : vl l < 18446744073709551616
  · rw [if_pos h1]
    simp only
    by_cases h2 : vl l ≤ 9223372036854775808
    · rw [if_pos h2, if_neg (by simp), if_neg (by omega), if_pos (by rfl)]
    · rw [if_neg h2, if_neg (by simp), if_pos ⟨by rfl, by omega⟩]
  · rw [if_neg h1, if_neg (by omega)]
end T
theorem atoi_its {n : Int} (h : numOk n) : Lib.atoiAll (its n) = .ok n := by
  have h : -1000000000 ≤ n ∧ n ≤ 1000000000 := h
  show Lib.atoiAll (Lib.itoa n) = _
  unfold Lib.itoa
  by_cases h0 : n < 0
  · rw [if_pos h0]
    have := T.atoi_minus (T.dd_digs n.natAbs) (T.dd_ne n.natAbs)
    rw [T.dd_vl, if_pos (by omega)] at this
    rw [show Lib.decDigits n.natAbs = T.dd n.natAbs from rfl, this]
    congr 1
    omega
  · rw [if_neg h0]
    have := T.atoi_plain (T.dd_digs n.toNat) (T.dd_ne n.toNat)
    rw [T.dd_vl, if_pos (by omega)] at this
    rw [show Lib.decDigits n.toNat = T.dd n.toNat from rfl, this]
    congr 1
    omega
theorem nilA_nili : nilA 1 .nili = some true := rfl
theorem nilA_ifc1 (te : TypeId) (x : AVal) : nilA 1 (.ifc te x) = some false := rfl
theorem atoi_val {p : List UInt8} (hp : p.length ≤ 100000) : ∃ (v : Int) (x : AVal), F_atoi 141 [sv p] = some (.tup [.int .i64 v, x]) ∧
    ((x = .nili ∧ -9223372036854775808 ≤ v ∧ v ≤ 9223372036854775807 ∧ ((numOf p = some v ∧ numOk v ∧ its v = p) ∨ (numOf p = none ∧ ¬ (numOk v ∧ its v = p)))) ∨ (x = .ifc 141 .any ∧ numOf p = none)) := by
  have hsz : (bs p).size ≤ 281474976710656 := by rw [bs_size]; omega
  have hno : ∀ {q}, Lib.atoiAll p = q → (∀ v, q ≠ .ok v) → numOf p = none := fun hq hne => numOf_none fun n hn h => by
    have := atoi_its hn
    rw [h, hq] at this
    exact hne _ this
  simp only [F_atoi, bs_data, if_pos hsz]
  cases hv : Lib.atoiAll p with
  | ok v =>
    refine ⟨v, .nili, rfl, .inl ⟨rfl, (Lib.atoiAll_bounds hv).1, (Lib.atoiAll_bounds hv).2, ?_⟩⟩
    by_cases h : numOk v ∧ its v = p
    · refine .inl ⟨?_, h⟩
      rw [← h.2]
      exact numOf_its h.1
    · refine .inr ⟨numOf_none fun n hn he => ?_, h⟩
      have := atoi_its hn
      rw [he, hv] at this
      cases this
      exact h ⟨hn, he⟩
  | range => exact ⟨_, _, rfl, .inr ⟨rfl, hno hv (by simp)⟩⟩
  | _ => exact ⟨_, _, rfl, .inr ⟨rfl, hno hv (by simp)⟩⟩
/-- The numbers ahead of what is none. -/
noncomputable def goodN : List (List UInt8) → List Int
  | [] => []
  | s :: r => match numOf s with
    | some n => n :: goodN r
    | none => []
theorem goodN_le : ∀ ls, (goodN ls).length ≤ ls.length
  | [] => Nat.le_refl _
  | s :: r => by
    rw [goodN]
    have := goodN_le r
    cases numOf s with
    | none => exact Nat.zero_le _
    | some n => simp; omega
theorem goodN_at : ∀ (ls : List (List UInt8)) (i : Nat) (hi : i < ls.length), i ≤ (goodN ls).length → (i < (goodN ls).length ∧ numOf ls[i] = some ((goodN ls).getD i 0)) ∨ (i = (goodN ls).length ∧ numOf ls[i] = none)
  | [], i, hi, _ => absurd hi (by simp)
  | s :: r, i, hi, h => by
    rw [goodN] at h ⊢
    cases hn : numOf s with
    | none =>
      rw [hn] at h
      have : i = 0 := by simpa using h
      subst this
      exact .inr ⟨rfl, by simpa using hn⟩
    | some n =>
      rw [hn] at h
      cases i with
      | zero => exact .inl ⟨by simp, by simpa using hn⟩
      | succ i =>
        simp only [List.length_cons] at h hi ⊢
        rcases goodN_at r i (by omega) (by omega) with ⟨h1, h2⟩ | ⟨h1, h2⟩
        · exact .inl ⟨by omega, by simpa using h2⟩
        · exact .inr ⟨by omega, by simpa using h2⟩
theorem allN_good : ∀ ls, allN ls = if (goodN ls).length = ls.length then some (goodN ls) else none
  | [] => rfl
  | s :: r => by
    rw [allN, goodN, allN_good r]
    cases numOf s with
    | none =>
      have : ¬ ([] : List Int).length = (s :: r).length := by simp
      simp only
      rw [if_neg this]
    | some n =>
      simp only [List.length_cons, Nat.add_right_cancel_iff]
      by_cases h : (goodN r).length = r.length
      · rw [if_pos h, if_pos h]
      · rw [if_neg h, if_neg h]
end Go.Proofs.YtaoodcnhmjokoaaGreatDoor
