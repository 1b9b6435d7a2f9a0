/-
  Functions of Go's library, for the interpreter.
-/
import Derived.Test.YtaoodcnhmjokoaaGreatDoorYS
set_option linter.unusedVariables false
set_option linter.unusedSimpArgs false
namespace Go.Proofs.YtaoodcnhmjokoaaGreatDoor
open Go Go.Xec Go.RowKit
def F_contains : List AVal → Option AVal
  | [.str s, .str c] => match c.data.toList with
    | [b] => some (.bool (decide (0 ≤ Lib.indexByte s.data.toList b)))
    | _ => none
  | _ => none
theorem sound54 : Sound Tryz.prog 54 F_contains := by
  refine sound_calls Tryz.func54 (by kernel_rfl) (by kernel_rfl) ?_
  intro ys r hr w S vs hS hL hl
  unfold F_contains at hr
  split at hr
  · rename_i s c
    split at hr
    · rename_i b hb
      cases hr
      obtain ⟨u, v, rfl, hu, hv⟩ := VL_2 hl
      have hu := V_str hu
      have hv := V_str hv
      subst hu
      subst hv
      have hc : c = ⟨#[b]⟩ := by rw [bs_of c, hb]; rfl
      subst hc
      refine (Tryz.strings_Contains_one s b w).mono ?_
      rintro e w' ⟨rfl, rfl⟩
      exact ⟨_, rfl, Nat.le_refl _, fun _ _ => rfl, SameEnv.refl _, by simp only [V]⟩
    · cases hr
  · cases hr
def F_repeat : List AVal → Option AVal
  | [.str s, .int .i64 c] => if 0 ≤ c ∧ c ≤ 1000000 ∧ s.size ≤ 1000000 then some (sv (Lib.repeatL s.data.toList c.toNat)) else none
  | _ => none
theorem sound57 : Sound Tryz.prog 57 F_repeat := by
  refine sound_calls Tryz.func57 (by kernel_rfl) (by kernel_rfl) ?_
  intro ys r hr w S vs hS hL hl
  unfold F_repeat at hr
  split at hr
  · rename_i s c
    split at hr
    · rename_i hc
      cases hr
      obtain ⟨u, v, rfl, hu, hv⟩ := VL_2 hl
      have hu := V_str hu
      have hv := V_int hv
      subst hu
      subst hv
      obtain ⟨n, rfl⟩ : ∃ n : Nat, c = n := ⟨c.toNat, by omega⟩
      have hm : s.size * n ≤ 1000000 * 1000000 := Nat.mul_le_mul hc.2.2 (by omega)
      refine (Tryz.strings_Repeat s n w (by omega) (by omega)).mono ?_
      rintro e w' ⟨rfl, hb⟩
      obtain ⟨h1, h2, h3⟩ := env_below hb
      exact ⟨_, rfl, h1, h2, h3, by simp only [V]; rfl⟩
    · cases hr
  · cases hr
def F_trim : List AVal → Option AVal
  | [.str s, .str c] => if s.size ≤ 1000000 ∧ c.size ≤ 1000000 ∧ c.data.toList.all (fun b => decide (b.toNat < 128)) = true then some (sv (Lib.trimS s.data.toList c.data.toList)) else none
  | _ => none
theorem sound65 : Sound Tryz.prog 65 F_trim := by
  refine sound_calls Tryz.func65 (by kernel_rfl) (by kernel_rfl) ?_
  intro ys r hr w S vs hS hL hl
  unfold F_trim at hr
  split at hr
  · rename_i s c
    split at hr
    · rename_i hc
      cases hr
      obtain ⟨u, v, rfl, hu, hv⟩ := VL_2 hl
      have hu := V_str hu
      have hv := V_str hv
      subst hu
      subst hv
      refine (Any.strings_Trim_laid Tryz.lays160 (by kernel_rfl) s c w (by omega) (by omega) (ascii_of_all hc.2.2)).mono ?_
      rintro e w' ⟨rfl, hb⟩
      obtain ⟨h1, h2, h3⟩ := env_below hb
      exact ⟨_, rfl, h1, h2, h3, by simp only [V]; rfl⟩
    · cases hr
  · cases hr
theorem named5 : Tryz.prog.globalNamed "math/bits.deBruijn64tab" = some 7 := by kernel_rfl
def F_tz : List AVal → Option AVal
  | [.int .u64 x] => if 0 ≤ x ∧ x < 18446744073709551616 then some (.int .i64 (Lib.ctz 64 x.toNat : Nat)) else none
  | _ => none
theorem sound132 : Sound Tryz.prog 132 F_tz := by
  refine sound_calls Tryz.func132 (by kernel_rfl) (by kernel_rfl) ?_
  intro ys r hr w S vs hS hL hl
  unfold F_tz at hr
  split at hr
  · rename_i x
    split at hr
    · rename_i hx
      cases hr
      obtain ⟨u, rfl, hu⟩ := VL_1 hl
      have hu := V_int hu
      subst hu
      obtain ⟨n, rfl⟩ : ∃ n : Nat, x = n := ⟨x.toNat, by omega⟩
      have hT : TabAt 7 Lib.deBruijn64tab w := by
        intro j hj
        have h := hL.1 ("math/bits.deBruijn64tab", .u8, Lib.deBruijn64tab.map Int.ofNat) (by simp [tabs]) (by rw [named5]; simp)
        rw [h.cell named5 j (by simpa using hj)]
        simp [List.getD_eq_getElem?_getD, List.getElem?_map, List.getElem?_eq_getElem hj]
      refine (Any7.bits_TrailingZeros64 Tryz.lays7x29 n (by omega) w (fun _ => hT)).mono ?_
      rintro e w' ⟨rfl, rfl⟩
      exact ⟨_, rfl, Nat.le_refl _, fun _ _ => rfl, SameEnv.refl _, by simp only [V, Int.toNat_natCast]⟩
    · cases hr
  · cases hr

theorem named1 : Tryz.prog.globalNamed "internal/strconv.uint64pow10" ≠ none := by
  have e : (Tryz.prog.globalNamed "internal/strconv.uint64pow10").isSome = true := by kernel_rfl
  intro h; rw [h] at e; cases e
theorem named2 : Tryz.prog.globalNamed "strconv.ErrSyntax" ≠ none := by
  have e : (Tryz.prog.globalNamed "strconv.ErrSyntax").isSome = true := by kernel_rfl
  intro h; rw [h] at e; cases e
theorem named3 : Tryz.prog.globalNamed "strconv.ErrRange" ≠ none := by
  have e : (Tryz.prog.globalNamed "strconv.ErrRange").isSome = true := by kernel_rfl
  intro h; rw [h] at e; cases e
theorem tab10 {w : World} (h : Laid Tryz.prog w) : Lib.TabIs Tryz.prog w "internal/strconv.uint64pow10" .u64 Lib.pow10Tab :=
  h.1 ("internal/strconv.uint64pow10", .u64, Lib.pow10Tab) (by simp [tabs]) named1
theorem sound43 : Sound Tryz.prog 43 F_itoa := by
  refine sound_calls Tryz.func43 (by kernel_rfl) (by kernel_rfl) ?_
  intro ys r hr w S vs hS hL hl
  unfold F_itoa at hr
  split at hr
  · rename_i n
    split at hr
    · rename_i hn
      cases hr
      obtain ⟨u, rfl, hu⟩ := VL_1 hl
      have hu := V_int hu
      subst hu
      refine (Tryz.strconv_Itoa n hn.1 hn.2 w (tab10 hL)).mono ?_
      rintro e w' ⟨rfl, k, os, rfl⟩
      obtain ⟨h1, h2, h3⟩ := env_grow w k os
      exact ⟨_, rfl, h1, h2, h3, by simp only [V]; rfl⟩
    · cases hr
  · cases hr
theorem sound67 : Sound Tryz.prog 67 (F_atoi 141) := by
  refine sound_calls Tryz.func67 (by kernel_rfl) (by kernel_rfl) ?_
  intro ys r hr w S vs hS hL hl
  unfold F_atoi at hr
  split at hr
  · rename_i s
    split at hr
    · rename_i hsz
      obtain ⟨u, rfl, hu⟩ := VL_1 hl
      have hu := V_str hu
      subst hu
      cases hv : Lib.atoiAll s.data.toList with
      | ok v =>
        rw [hv] at hr
        cases hr
        refine (Tryz.strconv_Atoi_ok s (by omega) v hv w).mono ?_
        rintro e w' ⟨rfl, rfl | ⟨t, rfl⟩⟩
        · refine ⟨_, rfl, Nat.le_refl _, fun _ _ => rfl, SameEnv.refl _, ?_⟩
          simp only [V, VL]
          exact ⟨_, rfl, _, _, rfl, rfl, _, _, rfl, rfl, rfl⟩
        · obtain ⟨h1, h2, h3⟩ := env_bytes w 5 t
          refine ⟨_, rfl, h1, h2, h3, ?_⟩
          simp only [V, VL]
          exact ⟨_, rfl, _, _, rfl, rfl, _, _, rfl, rfl, rfl⟩
      | range =>
        rw [hv] at hr
        cases hr
        obtain ⟨tp, p, hp⟩ := hL.2.1 "strconv.ErrRange" (by simp [errs]) named3
        refine (Tryz.strconv_Atoi_range_var s hsz hv tp p w hp).mono ?_
        rintro e w' ⟨N, rfl, _, _, hb⟩
        obtain ⟨h1, h2, h3⟩ := env_below hb
        refine ⟨_, rfl, h1, h2, h3, ?_⟩
        simp only [V, VL]
        exact ⟨_, rfl, _, _, rfl, rfl, _, _, rfl, ⟨_, rfl, trivial⟩, rfl⟩
      | _ =>
        rw [hv] at hr
        cases hr
        obtain ⟨tp, p, hp⟩ := hL.2.1 "strconv.ErrSyntax" (by simp [errs]) named2
        refine (Any.strconv_Atoi_syntax_var Tryz.laysC172 s hsz hv tp p w hp).mono ?_
        rintro e w' ⟨N, rfl, _, _, hb⟩
        obtain ⟨h1, h2, h3⟩ := env_below hb
        refine ⟨_, rfl, h1, h2, h3, ?_⟩
        simp only [V, VL]
        exact ⟨_, rfl, _, _, rfl, rfl, _, _, rfl, ⟨_, rfl, trivial⟩, rfl⟩
    · cases hr
  · cases hr
theorem sound44 : Sound Tryz.prog 44 F_join := by
  refine sound_calls Tryz.func44 (by kernel_rfl) (by kernel_rfl) ?_
  intro ys r hr w S vs hS hL hl
  unfold F_join at hr
  split at hr
  · rename_i a sep
    obtain ⟨u, v, rfl, hu, hv⟩ := VL_2 hl
    have hv := V_str hv
    subst hv
    have none1 : ∀ (ad : Option Addr) (c : Nat), u = .slice ad 0 c → r = sv [] → Calls Tryz.prog 44 #[u, .string sep] w fun e w' => ∃ v, e = .returned v ∧ w.heap.size ≤ w'.heap.size ∧ (∀ b, b < w.heap.size → w'.heap[b]? = w.heap[b]?) ∧ SameEnv w w' ∧ V (ctx0 w' fun b => S b ∨ (w.heap.size ≤ b ∧ b < w'.heap.size)) r v := by
      rintro ad c rfl rfl
      refine (Tryz.strings_Join_none ad c sep w).mono ?_
      rintro e w' ⟨rfl, rfl⟩
      exact ⟨_, rfl, Nat.le_refl _, fun _ _ => rfl, SameEnv.refl _, by simp only [V]; rfl⟩
    split at hr
    · cases hr
      simp only [V] at hu
      exact none1 _ _ hu rfl
    · cases hr
      simp only [V] at hu
      obtain ⟨ad, hu⟩ := hu
      exact none1 _ _ hu rfl
    · rename_i xs
      split at hr
      · rename_i ls hls
        split at hr
        · rename_i hb
          cases hr
          obtain rfl := strsI_inv hls
          simp only [V] at hu
          obtain ⟨b, o, cap, hu, hcap, hS', hvr⟩ := hu
          rw [List.length_map] at hu hcap
          cases hll : ls with
          | nil =>
            subst hll
            exact none1 _ _ hu (by simp [Lib.join_nil])
          | cons l0 lr =>
            rw [← hll]
            have hbS : S b := by
              rcases hS' with h | h
              · rw [hll] at h; simp at h
              · exact h
            obtain ⟨hc, _⟩ := VR_flat hvr
            have hfl : ∀ (ls : List (List UInt8)), (ls.map sv).flatMap cellsOf = ls.map sv := by
              intro ls
              induction ls with
              | nil => rfl
              | cons l ls ih => simp only [List.map_cons, List.flatMap_cons, ih]; rfl
            rw [hfl] at hc
            have hjm : (ls.map bs).map (fun x : ByteArray => x.data.toList) = ls := by
              rw [List.map_map]
              have : ((fun x : ByteArray => x.data.toList) ∘ bs) = id := funext fun l => bs_data l
              rw [this, List.map_id]
            have := Tryz.strings_Join b o cap (ls.map bs) sep w (fun j x hj => by
              rw [List.getElem?_map] at hj
              cases hlj : ls[j]? with
              | none => rw [hlj] at hj; cases hj
              | some l =>
                rw [hlj] at hj
                cases hj
                obtain ⟨v, hv, hv2⟩ := hc.get (i := j) (a := sv l) (by rw [List.getElem?_map, hlj]; rfl)
                rw [V_str hv2] at hv
                exact hv) (hS b hbS) (by simpa using hb.1) (by simpa using hcap) (by rw [hjm]; exact hb.2)
            rw [List.length_map, hjm] at this
            rw [hu]
            refine this.mono ?_
            rintro e w' ⟨rfl, hbe⟩
            obtain ⟨h1, h2, h3⟩ := env_below hbe
            exact ⟨_, rfl, h1, h2, h3, by simp only [V]; rfl⟩
        · cases hr
      · cases hr
    · cases hr
  · cases hr

end Go.Proofs.YtaoodcnhmjokoaaGreatDoor
