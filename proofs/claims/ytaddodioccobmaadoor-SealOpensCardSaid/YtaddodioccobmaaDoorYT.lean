/-
  Functions of Go's library, for the interpreter.
-/
import Derived.Test.YtaddodioccobmaaDoorYS
set_option linter.unusedVariables false
set_option linter.unusedSimpArgs false
namespace Go.Proofs.YtaddodioccobmaaDoor
open Go Go.Xec Go.RowKit

def F_contains : List AVal → Option AVal
  | [.str s, .str c] => match c.data.toList with
    | [b] => some (.bool (decide (0 ≤ Lib.indexByte s.data.toList b)))
    | _ => none
  | _ => none
theorem sound21 : Sound Tryd.prog 21 F_contains := by
  refine sound_calls Tryd.func21 (by kernel_rfl) (by kernel_rfl) ?_
  intro ys r hr w S vs hS hL hl
  unfold F_contains at hr
  split at hr
  · rename_i s c
    split at hr
    · rename_i b hb
      cases hr
      obtain ⟨u, v, rfl, hu, hv⟩ := VL_2 hl
      have hu := V_str hu
      have hv := V_str hv
      subst hu
      subst hv
      have hc : c = ⟨#[b]⟩ := by rw [bs_of c, hb]; rfl
      subst hc
      refine (Tryd.strings_Contains_one s b w).mono ?_
      rintro e w' ⟨rfl, rfl⟩
      exact ⟨_, rfl, Nat.le_refl _, fun _ _ => rfl, SameEnv.refl _, by simp only [V]⟩
    · cases hr
  · cases hr
def F_repeat : List AVal → Option AVal
  | [.str s, .int .i64 c] => if 0 ≤ c ∧ c ≤ 1000000 ∧ s.size ≤ 1000000 then some (sv (Lib.repeatL s.data.toList c.toNat)) else none
  | _ => none
theorem sound23 : Sound Tryd.prog 23 F_repeat := by
  refine sound_calls Tryd.func23 (by kernel_rfl) (by kernel_rfl) ?_
  intro ys r hr w S vs hS hL hl
  unfold F_repeat at hr
  split at hr
  · rename_i s c
    split at hr
    · rename_i hc
      cases hr
      obtain ⟨u, v, rfl, hu, hv⟩ := VL_2 hl
      have hu := V_str hu
      have hv := V_int hv
      subst hu
      subst hv
      obtain ⟨n, rfl⟩ : ∃ n : Nat, c = n := ⟨c.toNat, by omega⟩
      have hm : s.size * n ≤ 1000000 * 1000000 := Nat.mul_le_mul hc.2.2 (by omega)
      refine (Tryd.strings_Repeat s n w (by omega) (by omega)).mono ?_
      rintro e w' ⟨rfl, hb⟩
      obtain ⟨h1, h2, h3⟩ := env_below hb
      exact ⟨_, rfl, h1, h2, h3, by simp only [V]; rfl⟩
    · cases hr
  · cases hr
def F_trim : List AVal → Option AVal
  | [.str s, .str c] => if s.size ≤ 1000000 ∧ c.size ≤ 1000000 ∧ c.data.toList.all (fun b => decide (b.toNat < 128)) = true then some (sv (Lib.trimS s.data.toList c.data.toList)) else none
  | _ => none
theorem sound20 : Sound Tryd.prog 20 F_trim := by
  refine sound_calls Tryd.func20 (by kernel_rfl) (by kernel_rfl) ?_
  intro ys r hr w S vs hS hL hl
  unfold F_trim at hr
  split at hr
  · rename_i s c
    split at hr
    · rename_i hc
      cases hr
      obtain ⟨u, v, rfl, hu, hv⟩ := VL_2 hl
      have hu := V_str hu
      have hv := V_str hv
      subst hu
      subst hv
      refine (Any.strings_Trim_laid Tryd.lays160 (by kernel_rfl) s c w (by omega) (by omega) (ascii_of_all hc.2.2)).mono ?_
      rintro e w' ⟨rfl, hb⟩
      obtain ⟨h1, h2, h3⟩ := env_below hb
      exact ⟨_, rfl, h1, h2, h3, by simp only [V]; rfl⟩
    · cases hr
  · cases hr
theorem named5 : Tryd.prog.globalNamed "math/bits.deBruijn64tab" = some 5 := by kernel_rfl
def F_tz : List AVal → Option AVal
  | [.int .u64 x] => if 0 ≤ x ∧ x < 18446744073709551616 then some (.int .i64 (Lib.ctz 64 x.toNat : Nat)) else none
  | _ => none
theorem sound74 : Sound Tryd.prog 74 F_tz := by
  refine sound_calls Tryd.func74 (by kernel_rfl) (by kernel_rfl) ?_
  intro ys r hr w S vs hS hL hl
  unfold F_tz at hr
  split at hr
  · rename_i x
    split at hr
    · rename_i hx
      cases hr
      obtain ⟨u, rfl, hu⟩ := VL_1 hl
      have hu := V_int hu
      subst hu
      obtain ⟨n, rfl⟩ : ∃ n : Nat, x = n := ⟨x.toNat, by omega⟩
      have hT : TabAt 5 Lib.deBruijn64tab w := by
        intro j hj
        have h := hL.1 ("math/bits.deBruijn64tab", .u8, Lib.deBruijn64tab.map Int.ofNat) (by simp [tabs]) (by rw [named5]; simp)
        rw [h.cell named5 j (by simpa using hj)]
        simp [List.getD_eq_getElem?_getD, List.getElem?_map, List.getElem?_eq_getElem hj]
      refine (Any7.bits_TrailingZeros64 Tryd.lays7x29 n (by omega) w (fun _ => hT)).mono ?_
      rintro e w' ⟨rfl, rfl⟩
      exact ⟨_, rfl, Nat.le_refl _, fun _ _ => rfl, SameEnv.refl _, by simp only [V, Int.toNat_natCast]⟩
    · cases hr
  · cases hr
end Go.Proofs.YtaddodioccobmaaDoor
