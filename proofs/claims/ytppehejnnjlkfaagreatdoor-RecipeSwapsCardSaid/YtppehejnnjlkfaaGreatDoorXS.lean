/-
  Functions that the model itself answers: what they answer, for the interpreter. Add64 and Sub64 of math/bits.
-/
import Derived.Test.YtppehejnnjlkfaaGreatDoorXR
import Derived.Laws.Externs
set_option linter.unusedVariables false
set_option linter.unusedSimpArgs false
namespace Go.Xec
open Go

def F_add64 : List AVal → Option AVal
  | [.int .u64 x, .int .u64 y, .int .u64 c] => if 0 ≤ x ∧ 0 ≤ y ∧ 0 ≤ c ∧ c ≤ 1 then some (.tup [.int .u64 ((x + y + c) % 18446744073709551616), .int .u64 ((x + y + c) / 18446744073709551616)]) else none
  | _ => none
def F_sub64 : List AVal → Option AVal
  | [.int .u64 x, .int .u64 y, .int .u64 c] => if 0 ≤ x ∧ 0 ≤ y ∧ y < 18446744073709551616 ∧ 0 ≤ c ∧ c ≤ 1 then some (.tup [.int .u64 ((x - y - c) % 18446744073709551616), .int .u64 (if x < y + c then 1 else 0)]) else none
  | _ => none
theorem F_add64_eq {x y c : Int} (h1 : 0 ≤ x) (h2 : 0 ≤ y) (h3 : 0 ≤ c) (h4 : c ≤ 1) : F_add64 [.int .u64 x, .int .u64 y, .int .u64 c] = some (.tup [.int .u64 ((x + y + c) % 18446744073709551616), .int .u64 ((x + y + c) / 18446744073709551616)]) := by
  simp [F_add64, h1, h2, h3, h4]
theorem F_sub64_eq {x y c : Int} (h1 : 0 ≤ x) (h2 : 0 ≤ y) (h3 : y < 18446744073709551616) (h4 : 0 ≤ c) (h5 : c ≤ 1) : F_sub64 [.int .u64 x, .int .u64 y, .int .u64 c] = some (.tup [.int .u64 ((x - y - c) % 18446744073709551616), .int .u64 (if x < y + c then 1 else 0)]) := by
  simp [F_sub64, h1, h2, h3, h4, h5]

theorem VL_3 {x : Ctx} {a b c : AVal} {vs : List Value} (h : VL x [a, b, c] vs) : ∃ u v w, vs = [u, v, w] ∧ V x a u ∧ V x b v ∧ V x c w := by
  simp only [VL] at h
  obtain ⟨u, _, rfl, hu, v, _, rfl, hv, w, _, rfl, hw, rfl⟩ := h
  exact ⟨u, v, w, rfl, hu, hv, hw⟩

theorem sound_add64 {P : Program} {f : FuncId} {fn : Func} (hf : P.funcs[f]? = some fn) (hname : (fn.name == "runtime.NumGoroutine") = false) (hb : fn.body.isNone = true) (hn : Extern.findNext fn = none) (he : Extern.find fn = some add64Entry) :
    Sound P f F_add64 := by
  intro xs r hr w S vs hS _ hl
  unfold F_add64 at hr
  split at hr
  · rename_i x y c
    split at hr
    · rename_i hc
      cases hr
      obtain ⟨h1, h2, h3, h4⟩ := hc
      obtain ⟨u1, u2, u3, rfl, e1, e2, e3⟩ := VL_3 hl
      rw [V_int e1, V_int e2, V_int e3]
      obtain ⟨x, rfl⟩ := Int.eq_ofNat_of_zero_le h1
      obtain ⟨y, rfl⟩ := Int.eq_ofNat_of_zero_le h2
      obtain ⟨c, rfl⟩ := Int.eq_ofNat_of_zero_le h3
      refine .inr ⟨.tuple #[.int .u64 (((x + y + c : Nat) : Int) % 18446744073709551616), .int .u64 (((x + y + c : Nat) : Int) / 18446744073709551616)], w, ?_, Nat.le_refl _, fun _ _ => rfl, SameEnv.refl _, ?_⟩
      · rw [run_callFunc_extern hf hname hb hn he, run_add64 x y c (by omega) (by omega) (by omega) (by omega)]
        simp only [Result.andThen]
        congr 5 <;> omega
      · simp only [V, VL]
        refine ⟨_, rfl, _, _, rfl, ?_, _, _, rfl, ?_, rfl⟩ <;> congr 1
    · cases hr
  · cases hr

theorem sound_sub64 {P : Program} {f : FuncId} {fn : Func} (hf : P.funcs[f]? = some fn) (hname : (fn.name == "runtime.NumGoroutine") = false) (hb : fn.body.isNone = true) (hn : Extern.findNext fn = none)
    (he : ∀ x y c : Nat, c ≤ 1 → ∀ w : World, (Extern.find fn).map (fun e => (e #[.int .u64 x, .int .u64 y, .int .u64 c]).run P w) =
      some (.ok (.tuple #[.int .u64 (((x + 18446744073709551616 - y - c) % 18446744073709551616 : Nat) : Int), .int .u64 ((if x < y + c then 1 else 0 : Nat) : Int)]) w)) :
    Sound P f F_sub64 := by
  intro xs r hr w S vs hS _ hl
  unfold F_sub64 at hr
  split at hr
  · rename_i x y c
    split at hr
    · rename_i hc
      cases hr
      obtain ⟨h1, h2, h2', h3, h4⟩ := hc
      obtain ⟨u1, u2, u3, rfl, e1, e2, e3⟩ := VL_3 hl
      rw [V_int e1, V_int e2, V_int e3]
      obtain ⟨x, rfl⟩ := Int.eq_ofNat_of_zero_le h1
      obtain ⟨y, rfl⟩ := Int.eq_ofNat_of_zero_le h2
      obtain ⟨c, rfl⟩ := Int.eq_ofNat_of_zero_le h3
      have h5 := he x y c (by omega) w
      cases h6 : Extern.find fn with
      | none => rw [h6] at h5; cases h5
      | some e =>
      rw [h6] at h5
      simp only [Option.map_some, Option.some.injEq] at h5
      refine .inr ⟨.tuple #[.int .u64 ((((x + 18446744073709551616 - y - c) % 18446744073709551616 : Nat)) : Int), .int .u64 ((if x < y + c then 1 else 0 : Nat) : Int)], w, ?_, Nat.le_refl _, fun _ _ => rfl, SameEnv.refl _, ?_⟩
      · rw [run_callFunc_extern hf hname hb hn h6, h5]
        rfl
      · simp only [V, VL]
        refine ⟨_, rfl, _, _, rfl, ?_, _, _, rfl, ?_, rfl⟩
        · congr 1; omega
        · congr 1; split <;> split <;> omega
    · cases hr
  · cases hr

end Go.Xec
