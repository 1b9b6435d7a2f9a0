/-
  Functions of Go's library, for the interpreter.
-/
import Derived.Test.YtjcjlgiigjckeaaDoorYS
set_option linter.unusedVariables false
set_option linter.unusedSimpArgs false
namespace Go.Proofs.YtjcjlgiigjckeaaDoor
open Go Go.Xec Go.RowKit

theorem named1 : Tryd.prog.globalNamed "internal/strconv.uint64pow10" ≠ none := by
  have e : (Tryd.prog.globalNamed "internal/strconv.uint64pow10").isSome = true := by kernel_rfl
  intro h; rw [h] at e; cases e
theorem named2 : Tryd.prog.globalNamed "strconv.ErrSyntax" ≠ none := by
  have e : (Tryd.prog.globalNamed "strconv.ErrSyntax").isSome = true := by kernel_rfl
  intro h; rw [h] at e; cases e
theorem named3 : Tryd.prog.globalNamed "strconv.ErrRange" ≠ none := by
  have e : (Tryd.prog.globalNamed "strconv.ErrRange").isSome = true := by kernel_rfl
  intro h; rw [h] at e; cases e
theorem tab10 {w : World} (h : Laid Tryd.prog w) : Lib.TabIs Tryd.prog w "internal/strconv.uint64pow10" .u64 Lib.pow10Tab :=
  h.1 ("internal/strconv.uint64pow10", .u64, Lib.pow10Tab) (by simp [tabs]) named1
theorem sound23 : Sound Tryd.prog 23 F_itoa := by
  refine sound_calls Tryd.func23 (by kernel_rfl) (by kernel_rfl) ?_
  intro ys r hr w S vs hS hL hl
  unfold F_itoa at hr
  split at hr
  · rename_i n
    split at hr
    · rename_i hn
      cases hr
      obtain ⟨u, rfl, hu⟩ := VL_1 hl
      have hu := V_int hu
      subst hu
      refine (Tryd.strconv_Itoa n hn.1 hn.2 w (tab10 hL)).mono ?_
      rintro e w' ⟨rfl, k, os, rfl⟩
      obtain ⟨h1, h2, h3⟩ := env_grow w k os
      exact ⟨_, rfl, h1, h2, h3, by simp only [V]; rfl⟩
    · cases hr
  · cases hr
theorem sound31 : Sound Tryd.prog 31 F_index := by
  refine sound_calls Tryd.func31 (by kernel_rfl) (by kernel_rfl) ?_
  intro ys r hr w S vs hS hL hl
  unfold F_index at hr
  split at hr
  · rename_i s c
    cases hr
    obtain ⟨u, v, rfl, hu, hv⟩ := VL_2 hl
    have hu := V_str hu
    have hv := V_int hv
    subst hu; subst hv
    refine (Tryd.strings_IndexByte s c w).mono ?_
    rintro e w' ⟨rfl, rfl⟩
    exact ⟨_, rfl, Nat.le_refl _, fun _ _ => rfl, SameEnv.refl _, by simp only [V]⟩
  · cases hr
theorem sound45 : Sound Tryd.prog 45 (F_atoi 84) := by
  refine sound_calls Tryd.func45 (by kernel_rfl) (by kernel_rfl) ?_
  intro ys r hr w S vs hS hL hl
  unfold F_atoi at hr
  split at hr
  · rename_i s
    split at hr
    · rename_i hsz
      obtain ⟨u, rfl, hu⟩ := VL_1 hl
      have hu := V_str hu
      subst hu
      cases hv : Lib.atoiAll s.data.toList with
      | ok v =>
        rw [hv] at hr
        cases hr
        refine (Tryd.strconv_Atoi_ok s (by omega) v hv w).mono ?_
        rintro e w' ⟨rfl, rfl | ⟨t, rfl⟩⟩
        · refine ⟨_, rfl, Nat.le_refl _, fun _ _ => rfl, SameEnv.refl _, ?_⟩
          simp only [V, VL]
          exact ⟨_, rfl, _, _, rfl, rfl, _, _, rfl, rfl, rfl⟩
        · obtain ⟨h1, h2, h3⟩ := env_bytes w 5 t
          refine ⟨_, rfl, h1, h2, h3, ?_⟩
          simp only [V, VL]
          exact ⟨_, rfl, _, _, rfl, rfl, _, _, rfl, rfl, rfl⟩
      | range =>
        rw [hv] at hr
        cases hr
        obtain ⟨tp, p, hp⟩ := hL.2 "strconv.ErrRange" (by simp [errs]) named3
        refine (Tryd.strconv_Atoi_range_var s hsz hv tp p w hp).mono ?_
        rintro e w' ⟨N, rfl, _, _, hb⟩
        obtain ⟨h1, h2, h3⟩ := env_below hb
        refine ⟨_, rfl, h1, h2, h3, ?_⟩
        simp only [V, VL]
        exact ⟨_, rfl, _, _, rfl, rfl, _, _, rfl, ⟨_, rfl, trivial⟩, rfl⟩
      | _ =>
        rw [hv] at hr
        cases hr
        obtain ⟨tp, p, hp⟩ := hL.2 "strconv.ErrSyntax" (by simp [errs]) named2
        refine (Any.strconv_Atoi_syntax_var Tryd.laysC172 s hsz hv tp p w hp).mono ?_
        rintro e w' ⟨N, rfl, _, _, hb⟩
        obtain ⟨h1, h2, h3⟩ := env_below hb
        refine ⟨_, rfl, h1, h2, h3, ?_⟩
        simp only [V, VL]
        exact ⟨_, rfl, _, _, rfl, rfl, _, _, rfl, ⟨_, rfl, trivial⟩, rfl⟩
    · cases hr
  · cases hr
theorem sound24 : Sound Tryd.prog 24 F_join := by
  refine sound_calls Tryd.func24 (by kernel_rfl) (by kernel_rfl) ?_
  intro ys r hr w S vs hS hL hl
  unfold F_join at hr
  split at hr
  · rename_i a sep
    obtain ⟨u, v, rfl, hu, hv⟩ := VL_2 hl
    have hv := V_str hv
    subst hv
    have none1 : ∀ (ad : Option Addr) (c : Nat), u = .slice ad 0 c → r = sv [] → Calls Tryd.prog 24 #[u, .string sep] w fun e w' => ∃ v, e = .returned v ∧ w.heap.size ≤ w'.heap.size ∧ (∀ b, b < w.heap.size → w'.heap[b]? = w.heap[b]?) ∧ SameEnv w w' ∧ V (ctx0 w' fun b => S b ∨ (w.heap.size ≤ b ∧ b < w'.heap.size)) r v := by
      rintro ad c rfl rfl
      refine (Tryd.strings_Join_none ad c sep w).mono ?_
      rintro e w' ⟨rfl, rfl⟩
      exact ⟨_, rfl, Nat.le_refl _, fun _ _ => rfl, SameEnv.refl _, by simp only [V]; rfl⟩
    split at hr
    · cases hr
      simp only [V] at hu
      exact none1 _ _ hu rfl
    · cases hr
      simp only [V] at hu
      obtain ⟨ad, hu⟩ := hu
      exact none1 _ _ hu rfl
    · rename_i xs
      split at hr
      · rename_i ls hls
        split at hr
        · rename_i hb
          cases hr
          obtain rfl := strsI_inv hls
          simp only [V] at hu
          obtain ⟨b, o, cap, hu, hcap, hS', hvr⟩ := hu
          rw [List.length_map] at hu hcap
          cases hll : ls with
          | nil =>
            subst hll
            exact none1 _ _ hu (by simp [Lib.join_nil])
          | cons l0 lr =>
            rw [← hll]
            have hbS : S b := by
              rcases hS' with h | h
              · rw [hll] at h; simp at h
              · exact h
            obtain ⟨hc, _⟩ := VR_flat hvr
            have hfl : ∀ (ls : List (List UInt8)), (ls.map sv).flatMap cellsOf = ls.map sv := by
              intro ls
              induction ls with
              | nil => rfl
              | cons l ls ih => simp only [List.map_cons, List.flatMap_cons, ih]; rfl
            rw [hfl] at hc
            have hjm : (ls.map bs).map (fun x : ByteArray => x.data.toList) = ls := by
              rw [List.map_map]
              have : ((fun x : ByteArray => x.data.toList) ∘ bs) = id := funext fun l => bs_data l
              rw [this, List.map_id]
            have := Tryd.strings_Join b o cap (ls.map bs) sep w (fun j x hj => by
              rw [List.getElem?_map] at hj
              cases hlj : ls[j]? with
              | none => rw [hlj] at hj; cases hj
              | some l =>
                rw [hlj] at hj
                cases hj
                obtain ⟨v, hv, hv2⟩ := hc.get (i := j) (a := sv l) (by rw [List.getElem?_map, hlj]; rfl)
                rw [V_str hv2] at hv
                exact hv) (hS b hbS) (by simpa using hb.1) (by simpa using hcap) (by rw [hjm]; exact hb.2)
            rw [List.length_map, hjm] at this
            rw [hu]
            refine this.mono ?_
            rintro e w' ⟨rfl, hbe⟩
            obtain ⟨h1, h2, h3⟩ := env_below hbe
            exact ⟨_, rfl, h1, h2, h3, by simp only [V]; rfl⟩
        · cases hr
      · cases hr
    · cases hr
  · cases hr
end Go.Proofs.YtjcjlgiigjckeaaDoor
