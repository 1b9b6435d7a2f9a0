/-
  A journal's text, as the program writes it: in one.
-/
import Derived.Test.YtaoodcnhmjokoaaGreatDoorYY
set_option linter.unusedVariables false
set_option linter.unusedSimpArgs false
namespace Go.Proofs.YtaoodcnhmjokoaaGreatDoor
open Go Go.Xec Go.RowKit

set_option maxHeartbeats 2000000 in
set_option maxRecDepth 100000 in
theorem exp_no {cap first : Int} {a : AVal} {l : List En} {v : Value} (w : World) (hL : Laid Tryz.prog w) (ha : RE a l) (hl : l.length ≤ 100000) (hj : ¬ jOk cap first l) (hv : V (ctx0 w fun b => b < w.heap.size) (JV cap first a) v) :
    Calls Tryz.prog 17 #[v] w fun e w' => e = .returned (.tuple #[.string (bs []), .int .i64 1]) ∧ Below w.heap.size w w' := by
  obtain ⟨ao, cp, rfl, hcell⟩ := jv_val ha hv
  have hF10 := F10_eq (cap := cap) (first := first) ha hl
  rw [decide_eq_false hj] at hF10
  go_enter Tryz.func17, Tryz.ntmps17
  go_wp2_with (go_at_call 10; refine (calls_sound Tryz.func10 (by kernel_rfl) (by kernel_rfl) sound10 hF10 _ ?hL10 (vs := [.agg #[.int .i64 cap, .int .i64 first, .slice ao l.length cp]]) ?hV10).mono ?_)
  case hL10 => exact below_laid hL ((Below.refl _ w).alloc (Nat.le_refl _) _)
  case hV10 =>
    simp only [VL]
    exact ⟨_, _, rfl, V_grow (ctx_grow ((Below.refl _ w).alloc (Nat.le_refl _) _)) _ _ hv, rfl⟩
  rintro e w2 ⟨v, rfl, hb2, hv2⟩
  simp only [V] at hv2
  subst hv2
  have hbw2 : Below w.heap.size w w2 := ((Below.refl _ w).alloc (Nat.le_refl _) _).trans (hb2.mono (by simp))
  go_wp2
  go_ret2
  exact ⟨rfl, hbw2⟩
theorem EK_inj {e f : En} (h : EK e = EK f) : e = f := by
  obtain ⟨a, b, c, d⟩ := e
  obtain ⟨a', b', c', d'⟩ := f
  simp only [EK, AVal.agg.injEq, List.cons.injEq, AVal.int.injEq, true_and, and_true] at h
  obtain ⟨rfl, rfl, rfl, rfl⟩ := h
  rfl
theorem map_EK_inj : ∀ {l m : List En}, l.map EK = m.map EK → l = m
  | [], [], _ => rfl
  | [], _ :: _, h => by simp at h
  | _ :: _, [], h => by simp at h
  | e :: l, f :: m, h => by
    simp only [List.map_cons, List.cons.injEq] at h
    rw [EK_inj h.1, map_EK_inj h.2]
theorem RE_inj {a : AVal} {l m : List En} (h : RE a l) (h' : RE a m) : l = m := by
  rcases h with ⟨rfl, rfl⟩ | ⟨rfl, rfl⟩ | rfl
  · rcases h' with ⟨_, h⟩ | ⟨h, _⟩ | h
    · exact h.symm
    · cases h
    · cases h
  · rcases h' with ⟨h, _⟩ | ⟨_, h⟩ | h
    · cases h
    · exact h.symm
    · cases h
  · rcases h' with ⟨h, _⟩ | ⟨h, _⟩ | h
    · cases h
    · cases h
    · simp only [AVal.slc.injEq, true_and] at h
      exact map_EK_inj h
/-- What Export answers. -/
def expV (cap first : Int) (l : List En) : AVal := if jOk cap first l then .tup [sv (expT cap first l), .int .i64 0] else .tup [sv [], .int .i64 1]
open Classical in
noncomputable def F17 : List AVal → Option AVal
  | [.agg [.int .i64 cap, .int .i64 first, a]] => if h : ∃ l, RE a l ∧ l.length ≤ 100000 then some (expV cap first h.choose) else none
  | _ => none
theorem F17_eq {cap first : Int} {a : AVal} {l : List En} (ha : RE a l) (hl : l.length ≤ 100000) : F17 [JV cap first a] = some (expV cap first l) := by
  have h : ∃ l, RE a l ∧ l.length ≤ 100000 := ⟨l, ha, hl⟩
  simp only [F17]
  rw [dif_pos h, RE_inj h.choose_spec.1 ha]
theorem sound17 : Sound Tryz.prog 17 F17 := by
  refine sound_calls Tryz.func17 (by kernel_rfl) (by kernel_rfl) ?_
  intro ys r hr w S vs hS hL hl
  unfold F17 at hr
  split at hr
  · rename_i cap first a
    split at hr
    · rename_i h
      obtain ⟨h1, h2⟩ := h.choose_spec
      generalize h.choose = l at hr h1 h2
      cases hr
      obtain ⟨v, rfl, hv⟩ := VL_1 hl
      have hg : Grow (ctx0 w S) (ctx0 w fun b => b < w.heap.size) := ⟨fun b hb => hS b hb, fun _ _ => rfl, fun _ _ _ h => h, fun _ => Nat.le_refl _⟩
      have hv := V_grow hg _ _ hv
      unfold expV
      by_cases hj : jOk cap first l
      · rw [if_pos hj]
        refine (exp_calls w hL h1 hj hv).mono ?_
        rintro e w' ⟨rfl, hb⟩
        obtain ⟨e1, e2, e3⟩ := env_below hb
        exact ⟨_, rfl, e1, e2, e3, by simp only [V, VL]; exact ⟨_, rfl, _, _, rfl, rfl, _, _, rfl, rfl, rfl⟩⟩
      · rw [if_neg hj]
        refine (exp_no w hL h1 h2 hj hv).mono ?_
        rintro e w' ⟨rfl, hb⟩
        obtain ⟨e1, e2, e3⟩ := env_below hb
        exact ⟨_, rfl, e1, e2, e3, by simp only [V, VL]; exact ⟨_, rfl, _, _, rfl, rfl, _, _, rfl, rfl, rfl⟩⟩
    · cases hr
  · cases hr
end Go.Proofs.YtaoodcnhmjokoaaGreatDoor
