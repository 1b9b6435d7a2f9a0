/-
  The sum of all steps, in plain words: forwards and backwards; and where it is the way from the first to the last.
-/
import Derived.Test.YtihgogbfjiobiaaYP
set_option linter.unusedVariables false
namespace Go.Proofs.Ytihgogbfjiobiaa
open Go Go.Xec

/-- The sum of all steps. -/
def tvar : List Int → Int
  | x :: y :: r => stepD x y + tvar (y :: r)
  | _ => 0
def upB : List Int → Bool
  | x :: y :: r => decide (x ≤ y) && upB (y :: r)
  | _ => true
def dnB : List Int → Bool
  | x :: y :: r => decide (y ≤ x) && dnB (y :: r)
  | _ => true
theorem stepD_abs (a b : Int) : stepD a b = stepD b a ∧ 0 ≤ stepD a b ∧ (a ≤ b → stepD a b = b - a) ∧ (b ≤ a → stepD a b = a - b) ∧ a - b ≤ stepD a b ∧ b - a ≤ stepD a b := by
  unfold stepD
  refine ⟨?_, ?_, ?_, ?_, ?_, ?_⟩
  all_goals (try intro h)
  all_goals split
  all_goals first | omega | (split <;> omega)
theorem tvar_snoc : ∀ (l : List Int) (y : Int), l ≠ [] → tvar (l ++ [y]) = tvar l + stepD (l.getLastD 0) y
  | [x], y, _ => by simp [tvar]
  | x :: z :: r, y, _ => by
    have := tvar_snoc (z :: r) y (by simp)
    simp only [List.cons_append, tvar, List.getLastD_cons] at this ⊢
    rw [this]
    omega
theorem tvar_rev : ∀ l : List Int, tvar l.reverse = tvar l
  | [] => rfl
  | [x] => rfl
  | x :: y :: r => by
    rw [List.reverse_cons, tvar_snoc _ _ (by simp), tvar_rev (y :: r)]
    have : (y :: r).reverse.getLastD 0 = y := by simp
    rw [this, tvar, (stepD_abs y x).1]
    omega
theorem tvar_zero : ∀ l : List Int, 0 ≤ tvar l ∧ (tvar l = 0 → upB l = true ∧ dnB l = true)
  | [] => by simp [tvar, upB, dnB]
  | [x] => by simp [tvar, upB, dnB]
  | x :: y :: r => by
    obtain ⟨h1, h2⟩ := tvar_zero (y :: r)
    simp only [tvar, upB, dnB, Bool.and_eq_true, decide_eq_true_eq]
    obtain ⟨_, a2, a3, a4, a5, a6⟩ := stepD_abs x y
    refine ⟨by omega, fun h => ?_⟩
    obtain ⟨h3, h4⟩ := h2 (by omega)
    exact ⟨⟨by omega, h3⟩, ⟨by omega, h4⟩⟩
theorem tvar_far : ∀ (x : Int) (r : List Int), stepD x ((x :: r).getLastD 0) ≤ tvar (x :: r) ∧ ((upB (x :: r) || dnB (x :: r)) = true ↔ tvar (x :: r) = stepD x ((x :: r).getLastD 0)) ∧
    (upB (x :: r) = true → x ≤ (x :: r).getLastD 0) ∧ (dnB (x :: r) = true → (x :: r).getLastD 0 ≤ x)
  | x, [] => by simp [tvar, stepD, upB, dnB]
  | x, y :: r => by
    obtain ⟨h1, h2, h3, h4⟩ := tvar_far y r
    have h5 := (tvar_zero (y :: r)).2
    have e : (x :: y :: r).getLastD 0 = (y :: r).getLastD 0 := by simp
    rw [e]
    generalize (y :: r).getLastD 0 = z at *
    simp only [tvar, upB, dnB, Bool.and_eq_true, Bool.or_eq_true, decide_eq_true_eq] at h2 h3 h4 ⊢
    obtain ⟨_, a2, a3, a4, a5, a6⟩ := stepD_abs x y
    obtain ⟨_, b2, b3, b4, b5, b6⟩ := stepD_abs x z
    obtain ⟨_, c2, c3, c4, c5, c6⟩ := stepD_abs y z
    generalize tvar (y :: r) = T at *
    refine ⟨by omega, ⟨?_, ?_⟩, ?_, ?_⟩
    · rintro (⟨g1, g2⟩ | ⟨g1, g2⟩)
      · have := h3 g2
        have := h2.1 (.inl g2)
        omega
      · have := h4 g2
        have := h2.1 (.inr g2)
        omega
    · intro h
      have hT : T = stepD y z := by omega
      rcases h2.2 hT with g | g
      · have := h3 g
        by_cases k : x ≤ y
        · exact .inl ⟨k, g⟩
        · exact .inr ⟨by omega, (h5 (by omega)).2⟩
      · have := h4 g
        by_cases k : y ≤ x
        · exact .inr ⟨k, g⟩
        · exact .inl ⟨by omega, (h5 (by omega)).1⟩
    · rintro ⟨g1, g2⟩
      have := h3 g2
      omega
    · rintro ⟨g1, g2⟩
      have := h4 g2
      omega
theorem run_tv1 : ∀ (r : List Int) (m : Mv), 0 < m.n → (runM m r).1 = ⟨m.n + r.length, (m.l :: r).getLastD 0, m.s + tvar (m.l :: r)⟩ ∧ (runM m r).2.length = r.length
  | [], m, _ => by
    obtain ⟨n, l, s⟩ := m
    simp [runM, tvar]
  | y :: r, m, h => by
    have e : runM m (y :: r) = _ := runM_app m [y] r
    have e1 : (runM m [y]).1 = nextM m y := rfl
    have e2 : (runM m [y]).2 = [dOf m y] := by simp [runM, stepM, h]
    have e3 : dOf m y = stepD m.l y := if_pos h
    rw [e1, e2] at e
    obtain ⟨h1, h2⟩ := run_tv1 r (nextM m y) (by show 0 < m.n + 1; omega)
    rw [e, h1]
    refine ⟨?_, by simp [h2]⟩
    show (⟨m.n + 1 + r.length, (y :: r).getLastD 0, m.s + dOf m y + tvar (y :: r)⟩ : Mv) = _
    rw [e3, List.length_cons, tvar, Mv.mk.injEq]
    refine ⟨by omega, by simp, by omega⟩
theorem run_tv {l : List Int} (h : l ≠ []) : (runM ⟨0, 0, 0⟩ l).1 = ⟨l.length, l.getLastD 0, tvar l⟩ ∧ (runM ⟨0, 0, 0⟩ l).2.length = l.length - 1 := by
  cases l with
  | nil => exact absurd rfl h
  | cons x r =>
    have e : runM ⟨0, 0, 0⟩ (x :: r) = _ := runM_app ⟨0, 0, 0⟩ [x] r
    have e1 : runM ⟨0, 0, 0⟩ [x] = (⟨1, x, 0⟩, []) := rfl
    rw [e1] at e
    obtain ⟨h1, h2⟩ := run_tv1 r ⟨1, x, 0⟩ (by show (0 : Int) < 1; decide)
    rw [e, h1]
    refine ⟨?_, by simp [h2]⟩
    simp only [Mv.mk.injEq, List.length_cons]
    exact ⟨by omega, trivial, by omega⟩
theorem up_drop {l : List Int} {i : Nat} (h1 : i + 1 < l.length) : upB (l.drop i) = (decide (l[i] ≤ l[i + 1]) && upB (l.drop (i + 1))) ∧ dnB (l.drop i) = (decide (l[i + 1] ≤ l[i]) && dnB (l.drop (i + 1))) := by
  rw [List.drop_eq_getElem_cons (show i < l.length by omega), List.drop_eq_getElem_cons h1]
  exact ⟨rfl, rfl⟩
theorem up_end {l : List Int} {i : Nat} (h1 : l.length ≤ i + 1) : upB (l.drop i) = true ∧ dnB (l.drop i) = true := by
  have : (l.drop i).length ≤ 1 := by rw [List.length_drop]; omega
  generalize l.drop i = r at *
  match r, this with
  | [], _ => exact ⟨rfl, rfl⟩
  | [x], _ => exact ⟨rfl, rfl⟩
  | _ :: _ :: _, h => simp at h
end Go.Proofs.Ytihgogbfjiobiaa
