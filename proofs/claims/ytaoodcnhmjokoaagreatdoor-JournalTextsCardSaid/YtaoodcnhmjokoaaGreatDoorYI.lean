/-
  What is written is read as it was, and what is read is written as it was.
-/
import Derived.Test.YtaoodcnhmjokoaaGreatDoorYF
set_option linter.unusedVariables false
set_option linter.unusedSimpArgs false
namespace Go.Proofs.YtaoodcnhmjokoaaGreatDoor
open Go Go.Xec

/-- Lines, one behind the other. -/
def linesT (ls : List (List UInt8)) : List UInt8 := (ls.map (· ++ [10])).flatten
theorem linesT_cons (l : List UInt8) (r : List (List UInt8)) : linesT (l :: r) = l ++ [10] ++ linesT r := by simp [linesT]
theorem linesT_ne {ls : List (List UInt8)} (h : ls ≠ []) : linesT ls ≠ [] := by
  cases ls with
  | nil => exact absurd rfl h
  | cons l r => rw [linesT_cons]; simp
theorem linesT_suf : ∀ {ls : List (List UInt8)}, ls ≠ [] → Lib.hasSuffix (linesT ls) [10] = true
  | [], h => absurd rfl h
  | [l], _ => by rw [linesT_cons]; simp [Lib.hasSuffix, linesT]
  | l :: m :: r, _ => by
    have h := linesT_suf (ls := m :: r) (by simp)
    rw [linesT_cons]
    unfold Lib.hasSuffix at h ⊢
    rw [List.isSuffixOf_iff_suffix] at h ⊢
    exact h.trans (List.suffix_append _ _)
theorem parts_nil (c : UInt8) : parts c [] = [[]] := rfl
theorem linesT_parts : ∀ {ls : List (List UInt8)}, ls ≠ [] → (∀ p ∈ ls, (10 : UInt8) ∉ p) → parts 10 ((linesT ls).take ((linesT ls).length - 1)) = ls
  | [], h, _ => absurd rfl h
  | [l], _, hp => by
    have e : (linesT [l]).take ((linesT [l]).length - 1) = l := by
      rw [linesT_cons]
      simp [linesT]
    rw [e]
    exact parts_none (hp l (by simp))
  | l :: m :: r, _, hp => by
    have ih := linesT_parts (ls := m :: r) (by simp) (fun p h => hp p (by simp at h ⊢; exact .inr h))
    have hne := List.length_pos_iff.2 (linesT_ne (ls := m :: r) (by simp))
    have e : (linesT (l :: m :: r)).take ((linesT (l :: m :: r)).length - 1) = l ++ 10 :: (linesT (m :: r)).take ((linesT (m :: r)).length - 1) := by
      rw [linesT_cons]
      have h1 : (l ++ [10] ++ linesT (m :: r)).length - 1 = (l ++ [10]).length + ((linesT (m :: r)).length - 1) := by
        simp only [List.length_append, List.length_cons, List.length_nil]
        omega
      rw [h1, List.take_length_add_append]
      simp
    rw [e, parts_at _ (hp l (by simp)), ih]
theorem parts_lines : ∀ (n : Nat) (s : List UInt8), s.length ≤ n → linesT (parts 10 s) = s ++ [10]
  | n, s, hn => by
    rcases parts_head 10 s with ⟨h1, _⟩ | ⟨p, r, _, h2, h3⟩
    · rw [h1, linesT_cons]; simp [linesT]
    · rw [h3, linesT_cons]
      subst h2
      cases n with
      | zero => simp at hn
      | succ n =>
        rw [parts_lines n r (by simp at hn; omega)]
        simp
theorem parts_join : ∀ (n : Nat) (s : List UInt8), s.length ≤ n → Lib.join (parts 32 s) [32] = s
  | n, s, hn => by
    rcases parts_head 32 s with ⟨h1, _⟩ | ⟨p, r, _, h2, h3⟩
    · rw [h1, Lib.join_one]
    · rw [h3]
      subst h2
      cases n with
      | zero => simp at hn
      | succ n =>
        have ih := parts_join n r (by simp at hn; omega)
        cases hq : parts 32 r with
        | nil => exact absurd hq (parts_ne 32 r)
        | cons q qs =>
          rw [hq] at ih
          rw [Lib.join_cons] at ih ⊢
          rw [← ih]
          simp [Lib.joinTail]
theorem its_no32 (n : Int) : (32 : UInt8) ∉ its n := by
  have hd : ∀ m, (32 : UInt8) ∉ Lib.decDigits m := fun m h => by
    have := T.dd_digs m 32 h
    simp [T.digB, T.digi] at this
  show (32 : UInt8) ∉ Lib.itoa n
  unfold Lib.itoa
  split
  · simp only [List.mem_cons, not_or]
    exact ⟨by decide, hd _⟩
  · exact hd _
theorem rowT_parts : ∀ {ns : List Int}, ns ≠ [] → parts 32 (rowT ns) = ns.map fun n => its n
  | [], h => absurd rfl h
  | [n], _ => by rw [rowT_one]; exact parts_none (its_no32 n)
  | n :: m :: r, _ => by
    rw [rowT_cons, parts_at _ (its_no32 n), rowT_parts (ns := m :: r) (by simp)]
    rfl
theorem goodN_its : ∀ {ns : List Int}, (∀ n ∈ ns, numOk n) → goodN (ns.map fun n => its n) = ns
  | [], _ => rfl
  | n :: r, h => by
    rw [List.map_cons, goodN, numOf_its (h n (by simp)), goodN_its (fun m hm => h m (by simp [hm]))]
theorem goodN_map : ∀ {ls : List (List UInt8)}, (goodN ls).length = ls.length → (goodN ls).map (fun n => its n) = ls
  | [], _ => rfl
  | s :: r, h => by
    rw [goodN] at h ⊢
    cases hn : numOf s with
    | none => rw [hn] at h; simp at h
    | some n =>
      rw [hn] at h
      simp only [List.length_cons, Nat.add_right_cancel_iff] at h
      simp only [List.map_cons]
      rw [goodN_map h, (numOf_some hn).2]
theorem cnt_row {ns : List Int} (h0 : ns ≠ []) (h5 : ns.length ≤ 5) (h : ∀ n ∈ ns, numOk n) : cntN (rowT ns) = some ns := by
  unfold cntN
  rw [rowT_parts h0, goodN_its h]
  rw [if_pos ⟨by simpa using h5, by simp⟩]
theorem row_cnt {s : List UInt8} {ns : List Int} (h : cntN s = some ns) : rowT ns = s := by
  unfold cntN at h
  split at h
  · rename_i h1
    cases h
    unfold rowT
    rw [goodN_map h1.2]
    exact parts_join _ s (Nat.le_refl _)
  · cases h
end Go.Proofs.YtaoodcnhmjokoaaGreatDoor
