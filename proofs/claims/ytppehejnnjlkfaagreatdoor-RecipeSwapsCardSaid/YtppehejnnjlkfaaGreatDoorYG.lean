/-
  Functions of Go's library, for the interpreter.
-/
import Derived.Test.YtppehejnnjlkfaaGreatDoorYS
set_option linter.unusedVariables false
set_option linter.unusedSimpArgs false
namespace Go.Proofs.YtppehejnnjlkfaaGreatDoor
open Go Go.Xec Go.RowKit

theorem named1 : Tryz.prog.globalNamed "internal/strconv.uint64pow10" ≠ none := by
  have e : (Tryz.prog.globalNamed "internal/strconv.uint64pow10").isSome = true := by kernel_rfl
  intro h; rw [h] at e; cases e
theorem named2 : Tryz.prog.globalNamed "strconv.ErrSyntax" ≠ none := by
  have e : (Tryz.prog.globalNamed "strconv.ErrSyntax").isSome = true := by kernel_rfl
  intro h; rw [h] at e; cases e
theorem named3 : Tryz.prog.globalNamed "strconv.ErrRange" ≠ none := by
  have e : (Tryz.prog.globalNamed "strconv.ErrRange").isSome = true := by kernel_rfl
  intro h; rw [h] at e; cases e
theorem tab10 {w : World} (h : Laid Tryz.prog w) : Lib.TabIs Tryz.prog w "internal/strconv.uint64pow10" .u64 Lib.pow10Tab :=
  h.1 ("internal/strconv.uint64pow10", .u64, Lib.pow10Tab) (by simp [tabs]) named1
theorem sound27 : Sound Tryz.prog 27 F_itoa := by
  refine sound_calls Tryz.func27 (by kernel_rfl) (by kernel_rfl) ?_
  intro ys r hr w S vs hS hL hl
  unfold F_itoa at hr
  split at hr
  · rename_i n
    split at hr
    · rename_i hn
      cases hr
      obtain ⟨u, rfl, hu⟩ := VL_1 hl
      have hu := V_int hu
      subst hu
      refine (Tryz.strconv_Itoa n hn.1 hn.2 w (tab10 hL)).mono ?_
      rintro e w' ⟨rfl, k, os, rfl⟩
      obtain ⟨h1, h2, h3⟩ := env_grow w k os
      exact ⟨_, rfl, h1, h2, h3, by simp only [V]; rfl⟩
    · cases hr
  · cases hr
theorem sound68 : Sound Tryz.prog 68 F_index := by
  refine sound_calls Tryz.func68 (by kernel_rfl) (by kernel_rfl) ?_
  intro ys r hr w S vs hS hL hl
  unfold F_index at hr
  split at hr
  · rename_i s c
    cases hr
    obtain ⟨u, v, rfl, hu, hv⟩ := VL_2 hl
    have hu := V_str hu
    have hv := V_int hv
    subst hu; subst hv
    refine (Tryz.strings_IndexByte s c w).mono ?_
    rintro e w' ⟨rfl, rfl⟩
    exact ⟨_, rfl, Nat.le_refl _, fun _ _ => rfl, SameEnv.refl _, by simp only [V]⟩
  · cases hr
theorem sound88 : Sound Tryz.prog 88 (F_atoi 161) := by
  refine sound_calls Tryz.func88 (by kernel_rfl) (by kernel_rfl) ?_
  intro ys r hr w S vs hS hL hl
  unfold F_atoi at hr
  split at hr
  · rename_i s
    split at hr
    · rename_i hsz
      obtain ⟨u, rfl, hu⟩ := VL_1 hl
      have hu := V_str hu
      subst hu
      cases hv : Lib.atoiAll s.data.toList with
      | ok v =>
        rw [hv] at hr
        cases hr
        refine (Tryz.strconv_Atoi_ok s (by omega) v hv w).mono ?_
        rintro e w' ⟨rfl, rfl | ⟨t, rfl⟩⟩
        · refine ⟨_, rfl, Nat.le_refl _, fun _ _ => rfl, SameEnv.refl _, ?_⟩
          simp only [V, VL]
          exact ⟨_, rfl, _, _, rfl, rfl, _, _, rfl, rfl, rfl⟩
        · obtain ⟨h1, h2, h3⟩ := env_bytes w 5 t
          refine ⟨_, rfl, h1, h2, h3, ?_⟩
          simp only [V, VL]
          exact ⟨_, rfl, _, _, rfl, rfl, _, _, rfl, rfl, rfl⟩
      | range =>
        rw [hv] at hr
        cases hr
        obtain ⟨tp, p, hp⟩ := hL.2.1 "strconv.ErrRange" (by simp [errs]) named3
        refine (Tryz.strconv_Atoi_range_var s hsz hv tp p w hp).mono ?_
        rintro e w' ⟨N, rfl, _, _, hb⟩
        obtain ⟨h1, h2, h3⟩ := env_below hb
        refine ⟨_, rfl, h1, h2, h3, ?_⟩
        simp only [V, VL]
        exact ⟨_, rfl, _, _, rfl, rfl, _, _, rfl, ⟨_, rfl, trivial⟩, rfl⟩
      | _ =>
        rw [hv] at hr
        cases hr
        obtain ⟨tp, p, hp⟩ := hL.2.1 "strconv.ErrSyntax" (by simp [errs]) named2
        refine (Any.strconv_Atoi_syntax_var Tryz.laysC172 s hsz hv tp p w hp).mono ?_
        rintro e w' ⟨N, rfl, _, _, hb⟩
        obtain ⟨h1, h2, h3⟩ := env_below hb
        refine ⟨_, rfl, h1, h2, h3, ?_⟩
        simp only [V, VL]
        exact ⟨_, rfl, _, _, rfl, rfl, _, _, rfl, ⟨_, rfl, trivial⟩, rfl⟩
    · cases hr
  · cases hr
end Go.Proofs.YtppehejnnjlkfaaGreatDoor
