/-
  Rows of numbers, in whatever form they come: none, an empty one, one that is seen.
-/
import Derived.Test.YtppehejnnjlkfaaGreatDoorXV
set_option linter.unusedVariables false
set_option linter.unusedSimpArgs false
namespace Go.Xec
open Go

abbrev i64s (l : List Int) : List AVal := l.map (AVal.int .i64)
/-- A slice of numbers that holds l. -/
def Rw (a : AVal) (l : List Int) : Prop := (a = .nils ∧ l = []) ∨ (a = .emp ∧ l = []) ∨ a = .slc 1 (i64s l)
theorem Rw.nils : Rw .nils [] := .inl ⟨rfl, rfl⟩
theorem Rw.slc (l : List Int) : Rw (.slc 1 (i64s l)) l := .inr (.inr rfl)
/-- The first h of a row. -/
def rwTake (h : Nat) : AVal → AVal
  | .slc es xs => .slc es (xs.take h)
  | x => x
def rwDrop (h : Nat) : AVal → AVal
  | .slc es xs => .slc es (xs.drop h)
  | x => x
section
variable {a : AVal} {l : List Int} {hp : Heap}
theorem Rw.len (h : Rw a l) : lenVA a = some (.int .i64 l.length) := by
  rcases h with ⟨rfl, rfl⟩ | ⟨rfl, rfl⟩ | rfl
  · rfl
  · rfl
  · simp [lenVA]
theorem Rw.elems (h : Rw a l) : elemsA 1 a hp = some (i64s l) := by
  rcases h with ⟨rfl, rfl⟩ | ⟨rfl, rfl⟩ | rfl
  · rfl
  · rfl
  · exact elemsA_slc 1 _
theorem Rw.plain (h : Rw a l) (d : Nat) : plain d a = true := by
  rcases h with ⟨rfl, rfl⟩ | ⟨rfl, rfl⟩ | rfl
  · exact plain_nils d
  · exact plain_emp d
  · exact plain_slc d _ _
theorem Rw.cells (h : Rw a l) : cellsOf a = [a] := by
  rcases h with ⟨rfl, rfl⟩ | ⟨rfl, rfl⟩ | rfl <;> rfl
theorem Rw.sc (h : Rw a l) : isSc a = true := by
  rcases h with ⟨rfl, rfl⟩ | ⟨rfl, rfl⟩ | rfl <;> rfl
theorem Rw.ia (h : Rw a l) {i : Nat} (hi : i < l.length) : iaSA 1 a (.int .i64 i) = some (.pvo [.int .i64 (l.getD i 0)] 0) := by
  rcases h with ⟨rfl, rfl⟩ | ⟨rfl, rfl⟩ | rfl
  · simp at hi
  · simp at hi
  · rw [iaSA_slc]
    simp [List.getElem?_map, List.getElem?_eq_getElem hi, cellsOf]
theorem Rw.take (h : Rw a l) (n : Nat) : Rw (rwTake n a) (l.take n) := by
  rcases h with ⟨rfl, rfl⟩ | ⟨rfl, rfl⟩ | rfl
  · exact .inl ⟨rfl, by simp⟩
  · exact .inr (.inl ⟨rfl, by simp⟩)
  · exact .inr (.inr (by simp [rwTake, List.map_take]))
theorem Rw.drop (h : Rw a l) (n : Nat) : Rw (rwDrop n a) (l.drop n) := by
  rcases h with ⟨rfl, rfl⟩ | ⟨rfl, rfl⟩ | rfl
  · exact .inl ⟨rfl, by simp⟩
  · exact .inr (.inl ⟨rfl, by simp⟩)
  · exact .inr (.inr (by simp [rwDrop, List.map_drop]))
theorem Rw.sliceTo (h : Rw a l) {n : Nat} (hn : n ≤ l.length) : slVA 1 a none (some (.int .i64 n)) none = some (rwTake n a) := by
  rcases h with ⟨rfl, rfl⟩ | ⟨rfl, rfl⟩ | rfl
  · obtain rfl : n = 0 := by simpa using hn
    rfl
  · obtain rfl : n = 0 := by simpa using hn
    rfl
  · simp [slVA, bnd, rwTake, hn]
theorem Rw.sliceFrom (h : Rw a l) {n : Nat} (hn : n ≤ l.length) : slVA 1 a (some (.int .i64 n)) none none = some (rwDrop n a) := by
  rcases h with ⟨rfl, rfl⟩ | ⟨rfl, rfl⟩ | rfl
  · obtain rfl : n = 0 := by simpa using hn
    rfl
  · obtain rfl : n = 0 := by simpa using hn
    rfl
  · simp [slVA, bnd, rwDrop, hn]
    rw [List.take_of_length_le (by simp)]
end
/-- What a row holds. -/
def rowI : AVal → Option (List Int)
  | .nils => some []
  | .emp => some []
  | .slc 1 xs => intsI xs
  | _ => none
where intsI : List AVal → Option (List Int)
  | [] => some []
  | .int .i64 n :: r => (intsI r).map (n :: ·)
  | _ => none
theorem intsI_map : ∀ (l : List Int), rowI.intsI (i64s l) = some l
  | [] => rfl
  | x :: l => by simp [rowI.intsI, intsI_map l]
theorem intsI_inv : ∀ {xs : List AVal} {l : List Int}, rowI.intsI xs = some l → xs = i64s l
  | [], l, h => by simp [rowI.intsI] at h; subst h; rfl
  | x :: xs, l, h => by
    unfold rowI.intsI at h
    split at h
    · cases h; rename_i e; cases e
    · rename_i n r e
      cases e
      cases h' : rowI.intsI xs with
      | none => rw [h'] at h; cases h
      | some r =>
        rw [h'] at h
        simp at h
        subst h
        rw [intsI_inv h']
        rfl
    · cases h
theorem rowI_eq {a : AVal} {l : List Int} (h : Rw a l) : rowI a = some l := by
  rcases h with ⟨rfl, rfl⟩ | ⟨rfl, rfl⟩ | rfl
  · rfl
  · rfl
  · exact intsI_map l
theorem rowI_inv {a : AVal} {l : List Int} (h : rowI a = some l) : Rw a l := by
  unfold rowI at h
  split at h
  · cases h; exact Rw.nils
  · cases h; exact .inr (.inl ⟨rfl, rfl⟩)
  · rw [intsI_inv h]; exact Rw.slc l
  · cases h

/-! ### rows of rows -/
abbrev rowOf (l : List Int) : AVal := .slc 1 (i64s l)
/-- A slice of slices that hold the lists of ls. -/
def Rws (a : AVal) (ls : List (List Int)) : Prop := (a = .nils ∧ ls = []) ∨ (a = .emp ∧ ls = []) ∨ ∃ xs, a = .slc 1 xs ∧ xs.length = ls.length ∧ ∀ (i : Nat) (l : List Int), ls[i]? = some l → ∃ x, xs[i]? = some x ∧ Rw x l
theorem Rws.len {a : AVal} {ls : List (List Int)} (h : Rws a ls) : lenVA a = some (.int .i64 ls.length) := by
  rcases h with ⟨rfl, rfl⟩ | ⟨rfl, rfl⟩ | ⟨xs, rfl, h, _⟩
  · rfl
  · rfl
  · simp [lenVA, h]
theorem Rws.ia {a : AVal} {ls : List (List Int)} (h : Rws a ls) {i : Nat} (hi : i < ls.length) : ∃ x, iaSA 1 a (.int .i64 i) = some (.pvo [x] 0) ∧ Rw x (ls.getD i []) := by
  rcases h with ⟨rfl, rfl⟩ | ⟨rfl, rfl⟩ | ⟨xs, rfl, h1, h2⟩
  · simp at hi
  · simp at hi
  · obtain ⟨x, hx, hr⟩ := h2 i ls[i] (List.getElem?_eq_getElem hi)
    refine ⟨x, ?_, by simpa [List.getD_eq_getElem?_getD, List.getElem?_eq_getElem hi] using hr⟩
    rw [iaSA_slc]
    simp [hx, hr.cells]
theorem Rws.plain {a : AVal} {ls : List (List Int)} (h : Rws a ls) (d : Nat) : Xec.plain d a = true := by
  rcases h with ⟨rfl, rfl⟩ | ⟨rfl, rfl⟩ | ⟨xs, rfl, _⟩
  · exact plain_nils d
  · exact plain_emp d
  · exact plain_slc d _ _
theorem Rws.slc (ls : List (List Int)) : Rws (.slc 1 (ls.map rowOf)) ls := by
  refine .inr (.inr ⟨_, rfl, by simp, fun i l h => ⟨rowOf l, by simp [h], Rw.slc l⟩⟩)
theorem Rws.nils : Rws .nils [] := .inl ⟨rfl, rfl⟩
def rowsI : AVal → Option (List (List Int))
  | .nils => some []
  | .emp => some []
  | .slc 1 xs => xs.mapM rowI
  | _ => none
theorem mapM_rowI : ∀ {xs : List AVal} {ls : List (List Int)}, xs.mapM rowI = some ls → xs.length = ls.length ∧ ∀ (i : Nat) (l : List Int), ls[i]? = some l → ∃ x, xs[i]? = some x ∧ Rw x l
  | [], ls, h => by
    simp at h
    subst h
    exact ⟨rfl, fun i l h => by simp at h⟩
  | x :: xs, ls, h => by
    simp only [List.mapM_cons, Option.pure_def, Option.bind_eq_bind] at h
    cases h1 : rowI x with
    | none => rw [h1] at h; simp at h
    | some l0 =>
      rw [h1] at h
      simp only [Option.bind_some] at h
      cases h2 : xs.mapM rowI with
      | none => rw [h2] at h; simp at h
      | some r =>
        rw [h2] at h
        simp only [Option.bind_some, Option.some.injEq] at h
        subst h
        obtain ⟨e1, e2⟩ := mapM_rowI h2
        refine ⟨by simp [e1], fun i l hi => ?_⟩
        cases i with
        | zero => simp at hi; subst hi; exact ⟨x, rfl, rowI_inv h1⟩
        | succ i => simp at hi ⊢; exact e2 i l hi
theorem rowsI_inv {a : AVal} {ls : List (List Int)} (h : rowsI a = some ls) : Rws a ls := by
  unfold rowsI at h
  split at h
  · cases h; exact Rws.nils
  · cases h; exact .inr (.inl ⟨rfl, rfl⟩)
  · exact .inr (.inr ⟨_, rfl, mapM_rowI h⟩)
  · cases h
theorem mapM_of : ∀ {xs : List AVal} {ls : List (List Int)}, xs.length = ls.length → (∀ (i : Nat) (l : List Int), ls[i]? = some l → ∃ x, xs[i]? = some x ∧ Rw x l) → xs.mapM rowI = some ls
  | [], ls, h, _ => by
    cases ls with
    | nil => rfl
    | cons => simp at h
  | x :: xs, [], h, _ => by simp at h
  | x :: xs, l :: ls, h, h2 => by
    obtain ⟨y, hy, hr⟩ := h2 0 l rfl
    simp at hy
    subst hy
    have e := mapM_of (xs := xs) (ls := ls) (by simpa using h) (fun i l hi => by simpa using h2 (i + 1) l (by simpa using hi))
    simp [List.mapM_cons, rowI_eq hr, e]
theorem rowsI_eq {a : AVal} {ls : List (List Int)} (h : Rws a ls) : rowsI a = some ls := by
  rcases h with ⟨rfl, rfl⟩ | ⟨rfl, rfl⟩ | ⟨xs, rfl, h1, h2⟩
  · rfl
  · rfl
  · exact mapM_of h1 h2
end Go.Xec
