/-
  The program's Print, in one.
-/
import Derived.Test.YtppehejnnjlkfaaGreatDoorYCg
set_option linter.unusedVariables false
set_option linter.unusedSimpArgs false
namespace Go.Proofs.YtppehejnnjlkfaaGreatDoor
open Go Go.Xec Go.RowKit

set_option maxHeartbeats 4000000 in
set_option maxRecDepth 100000 in
theorem prt_no {a : AVal} {r : List Ch} {v : Value} (w : World) (hL : Laid Tryz.prog w) (ha : RC a r) (hl : r.length ≤ 100000) (hn : ∀ c ∈ r, c.n.length ≤ 1000000) (hr : ¬ rOk r) (hv : V (ctx0 w fun b => b < w.heap.size) (.agg [a]) v) :
    Calls Tryz.prog 13 #[v] w fun e w' => e = .returned (.tuple #[.string (bs []), .int .i64 1]) ∧ Below w.heap.size w w' := by
  obtain ⟨ao, cp, rfl, hcell⟩ := rec_val ha hv
  have hF14 := F14_eq ha hl hn
  rw [decide_eq_false hr] at hF14
  go_enter Tryz.func13, Tryz.ntmps13
  go_wp2_with (go_at_call 14; refine (calls_sound Tryz.func14 (by kernel_rfl) (by kernel_rfl) sound14 hF14 _ ?hL14 (vs := [.agg #[.slice ao r.length cp]]) ?hV14).mono ?_)
  case hL14 => exact below_laid hL ((Below.refl _ w).alloc (Nat.le_refl _) _)
  case hV14 =>
    simp only [VL]
    exact ⟨_, _, rfl, V_grow (ctx_grow ((Below.refl _ w).alloc (Nat.le_refl _) _)) _ _ hv, rfl⟩
  rintro e w2 ⟨v, rfl, hb2, hv2⟩
  simp only [V] at hv2
  subst hv2
  have hbw2 : Below w.heap.size w w2 := ((Below.refl _ w).alloc (Nat.le_refl _) _).trans (hb2.mono (by simp))
  go_wp2
  go_ret2
  exact ⟨rfl, hbw2⟩
theorem sv_inj {s t : List UInt8} (h : sv s = sv t) : s = t := by
  injection h with h
  exact bs_inj.1 h
theorem CK_inj {e f : Ch} (h : CK e = CK f) : e = f := by
  obtain ⟨n, t, a0, a1, a2, a3, a4, a5, a6, a7, a8, a9, a10, a11⟩ := e
  obtain ⟨n', t', b0, b1, b2, b3, b4, b5, b6, b7, b8, b9, b10, b11⟩ := f
  simp only [CK, AVal.agg.injEq, List.cons.injEq, AVal.int.injEq, true_and, and_true] at h
  obtain ⟨h0, rfl, rfl, rfl, rfl, rfl, rfl, rfl, rfl, rfl, rfl, rfl, rfl, rfl⟩ := h
  rw [sv_inj h0]
theorem map_CK_inj : ∀ {l m : List Ch}, l.map CK = m.map CK → l = m
  | [], [], _ => rfl
  | [], _ :: _, h => by simp at h
  | _ :: _, [], h => by simp at h
  | e :: l, f :: m, h => by
    injection h with h1 h2
    rw [CK_inj h1, map_CK_inj h2]
theorem RC_inj {a : AVal} {l m : List Ch} (h : RC a l) (h' : RC a m) : l = m := by
  rcases h with ⟨rfl, rfl⟩ | ⟨rfl, rfl⟩ | rfl
  · rcases h' with ⟨_, h⟩ | ⟨h, _⟩ | h
    · exact h.symm
    · cases h
    · cases h
  · rcases h' with ⟨h, _⟩ | ⟨_, h⟩ | h
    · cases h
    · exact h.symm
    · cases h
  · rcases h' with ⟨h, _⟩ | ⟨h, _⟩ | h
    · cases h
    · cases h
    · injection h with _ h
      exact map_CK_inj h
/-- What Print answers. -/
def prtV (r : List Ch) : AVal := if rOk r then .tup [sv (prtR r), .int .i64 0] else .tup [sv [], .int .i64 1]
abbrev RcOk (a : AVal) (l : List Ch) : Prop := RC a l ∧ l.length ≤ 100000 ∧ ∀ c ∈ l, c.n.length ≤ 1000000
open Classical in
noncomputable def F13 : List AVal → Option AVal
  | [.agg [a]] => if h : ∃ l, RcOk a l then some (prtV h.choose) else none
  | _ => none
theorem F13_eq {a : AVal} {l : List Ch} (ha : RC a l) (hl : l.length ≤ 100000) (hn : ∀ c ∈ l, c.n.length ≤ 1000000) : F13 [.agg [a]] = some (prtV l) := by
  have h : ∃ l, RcOk a l := ⟨l, ha, hl, hn⟩
  simp only [F13]
  rw [dif_pos h, RC_inj h.choose_spec.1 ha]
theorem sound13 : Sound Tryz.prog 13 F13 := by
  refine sound_calls Tryz.func13 (by kernel_rfl) (by kernel_rfl) ?_
  intro ys r hr w S vs hS hL hl
  unfold F13 at hr
  split at hr
  · rename_i a
    split at hr
    · rename_i h
      obtain ⟨h1, h2, h3⟩ := h.choose_spec
      generalize h.choose = l at hr h1 h2 h3
      cases hr
      obtain ⟨v, rfl, hv⟩ := VL_1 hl
      have hg : Grow (ctx0 w S) (ctx0 w fun b => b < w.heap.size) := ⟨fun b hb => hS b hb, fun _ _ => rfl, fun _ _ _ h => h, fun _ => Nat.le_refl _⟩
      have hv := V_grow hg _ _ hv
      unfold prtV
      by_cases hj : rOk l
      · rw [if_pos hj]
        refine (prt_calls w hL h1 hj hv).mono ?_
        rintro e w' ⟨rfl, hb⟩
        obtain ⟨e1, e2, e3⟩ := env_below hb
        exact ⟨_, rfl, e1, e2, e3, by simp only [V, VL]; exact ⟨_, rfl, _, _, rfl, rfl, _, _, rfl, rfl, rfl⟩⟩
      · rw [if_neg hj]
        refine (prt_no w hL h1 h2 h3 hj hv).mono ?_
        rintro e w' ⟨rfl, hb⟩
        obtain ⟨e1, e2, e3⟩ := env_below hb
        exact ⟨_, rfl, e1, e2, e3, by simp only [V, VL]; exact ⟨_, rfl, _, _, rfl, rfl, _, _, rfl, rfl, rfl⟩⟩
    · cases hr
  · cases hr
end Go.Proofs.YtppehejnnjlkfaaGreatDoor
