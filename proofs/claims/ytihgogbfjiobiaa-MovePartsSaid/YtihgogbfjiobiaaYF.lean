/-
  What Run answers, in plain words (its soundness: by a walk).
-/
import Derived.Test.YtihgogbfjiobiaaYE
set_option linter.unusedVariables false
set_option linter.unusedSimpArgs false
namespace Go.Proofs.Ytihgogbfjiobiaa
open Go Go.Xec

theorem ints_inj : ∀ {l m : List Int}, l.map (AVal.int .i64) = m.map (AVal.int .i64) → l = m
  | [], [], _ => rfl
  | [], _ :: _, h => by simp at h
  | _ :: _, [], h => by simp at h
  | e :: l, f :: m, h => by
    simp only [List.map_cons, List.cons.injEq, AVal.int.injEq, true_and] at h
    rw [h.1, ints_inj h.2]
theorem RI_inj {a : AVal} {l m : List Int} (h : RI a l) (h' : RI a m) : l = m := by
  rcases h with ⟨rfl, rfl⟩ | ⟨rfl, rfl⟩ | rfl
  · rcases h' with ⟨_, h⟩ | ⟨h, _⟩ | h
    · exact h.symm
    · cases h
    · cases h
  · rcases h' with ⟨h, _⟩ | ⟨_, h⟩ | h
    · cases h
    · exact h.symm
    · cases h
  · rcases h' with ⟨h, _⟩ | ⟨h, _⟩ | h
    · cases h
    · cases h
    · simp only [AVal.slc.injEq, true_and] at h
      exact ints_inj h
/-- What Run answers. -/
def runV (m : Mv) (l : List Int) : AVal :=
  if ¬ mvOk m then .tup [MV 0 0 0, .nils, .int .i64 1]
  else if ¬ allX l then .tup [MV 0 0 0, .nils, .int .i64 3]
  else if 1000000000 - m.n < (l.length : Int) then .tup [MV 0 0 0, .nils, .int .i64 11]
  else .tup [MA (runM m l).1, rowN 1 ((runM m l).2.map (AVal.int .i64)), .int .i64 0]
abbrev i64In (x : Int) : Prop := -9223372036854775808 ≤ x ∧ x ≤ 9223372036854775807
open Classical in
noncomputable def F7 : List AVal → Option AVal
  | [.agg [.int .i64 n, .int .i64 l, .int .i64 s], a] => if h : i64In n ∧ ∃ xs, RI a xs ∧ xs.length ≤ 100000 then some (runV ⟨n, l, s⟩ h.2.choose) else none
  | _ => none
theorem F7_eq {n l s : Int} {a : AVal} {xs : List Int} (hn : i64In n) (ha : RI a xs) (hl : xs.length ≤ 100000) : F7 [MV n l s, a] = some (runV ⟨n, l, s⟩ xs) := by
  have h : i64In n ∧ ∃ xs, RI a xs ∧ xs.length ≤ 100000 := ⟨hn, xs, ha, hl⟩
  simp only [F7]
  rw [dif_pos h, RI_inj h.2.choose_spec.1 ha]
end Go.Proofs.Ytihgogbfjiobiaa
