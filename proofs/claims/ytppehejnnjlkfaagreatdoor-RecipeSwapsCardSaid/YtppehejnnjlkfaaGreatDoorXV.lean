/-
  Arithmetic of machine numbers, for stepping.
-/
import Derived.Test.YtppehejnnjlkfaaGreatDoorXU
set_option linter.unusedVariables false
set_option linter.unusedSimpArgs false
namespace Go.Xec
open Go

theorem wrap_u64 (n : Int) : IntKind.u64.wrap n = n % 18446744073709551616 := by
  simp [IntKind.wrap, IntKind.signed, IntKind.bits]
theorem wrap_u8 (n : Int) : IntKind.u8.wrap n = n % 256 := by
  simp [IntKind.wrap, IntKind.signed, IntKind.bits]
theorem wrap_u32 (n : Int) : IntKind.u32.wrap n = n % 4294967296 := by
  simp [IntKind.wrap, IntKind.signed, IntKind.bits]

section
variable (k : IntKind) (a b : Int)
theorem binA_add : binA .add (.int k a) (.int k b) = some (.int k (k.wrap (a + b))) := by simp [binA, isShift, intBin]
theorem binA_sub : binA .sub (.int k a) (.int k b) = some (.int k (k.wrap (a - b))) := by simp [binA, isShift, intBin]
theorem binA_mul : binA .mul (.int k a) (.int k b) = some (.int k (k.wrap (a * b))) := by simp [binA, isShift, intBin]
theorem binA_quo (h : b ≠ 0) : binA .quo (.int k a) (.int k b) = some (.int k (k.wrap (a.tdiv b))) := by simp [binA, isShift, intBin, h]
theorem binA_rem (h : b ≠ 0) : binA .rem (.int k a) (.int k b) = some (.int k (a.tmod b)) := by simp [binA, isShift, intBin, h]
theorem binA_eql : binA .eql (.int k a) (.int k b) = some (.bool (decide (a = b))) := by
  simp only [binA, isShift, intBin, if_true, Bool.false_eq_true, if_false]; rfl
theorem binA_neq : binA .neq (.int k a) (.int k b) = some (.bool (decide (a ≠ b))) := by
  simp only [binA, isShift, intBin, if_true, Bool.false_eq_true, if_false]
  congr 2
  by_cases h : a = b <;> simp [h]
theorem binA_lss : binA .lss (.int k a) (.int k b) = some (.bool (decide (a < b))) := by simp [binA, isShift, intBin]
theorem binA_leq : binA .leq (.int k a) (.int k b) = some (.bool (decide (a ≤ b))) := by simp [binA, isShift, intBin]
theorem binA_gtr : binA .gtr (.int k a) (.int k b) = some (.bool (decide (b < a))) := by simp [binA, isShift, intBin]
theorem binA_geq : binA .geq (.int k a) (.int k b) = some (.bool (decide (b ≤ a))) := by simp [binA, isShift, intBin]
theorem binA_and_u64 (m : Nat) (hm : m ≤ 64) : binA .and (.int .u64 a) (.int .u64 (2 ^ m - 1)) = some (.int .u64 (a % 2 ^ m)) := by
  simp only [binA, isShift, intBin, if_true, Bool.false_eq_true, if_false, wrap_u64]
  congr 2
  have h1 : ((BitVec.ofInt 64 a &&& BitVec.ofInt 64 (2 ^ m - 1)).toNat : Int) = a % 2 ^ m := by
    have e1 : BitVec.ofInt 64 ((2 : Int) ^ m - 1) = BitVec.ofNat 64 (2 ^ m - 1) := by
      have e : ((2 : Int) ^ m - 1) = ((2 ^ m - 1 : Nat) : Int) := by
        have : 1 ≤ 2 ^ m := Nat.one_le_two_pow
        rw [Int.natCast_sub this]
        simp
      rw [e]
      simp
    rw [e1, BitVec.toNat_and, BitVec.toNat_ofNat]
    have hlt : 2 ^ m - 1 < 2 ^ 64 := by
      have := Nat.pow_le_pow_right (show 0 < 2 by decide) hm
      have : 1 ≤ 2 ^ m := Nat.one_le_two_pow
      omega
    rw [Nat.mod_eq_of_lt hlt, Nat.and_two_pow_sub_one_eq_mod]
    simp only [BitVec.toNat_ofInt]
    have hp : (2 : Int) ^ 64 = 2 ^ m * 2 ^ (64 - m) := by
      rw [← Int.pow_add]; congr 1; omega
    have h2 : (((a % ((2 ^ 64 : Nat) : Int)).toNat : Nat) : Int) = a % 2 ^ 64 := by
      rw [Int.toNat_of_nonneg (Int.emod_nonneg _ (by decide))]
      rfl
    rw [Int.natCast_emod, h2]
    show a % 2 ^ 64 % ((2 ^ m : Nat) : Int) = _
    rw [Int.natCast_pow]
    show a % 2 ^ 64 % 2 ^ m = _
    rw [hp, Int.emod_emod_of_dvd _ ⟨_, rfl⟩]
  rw [show IntKind.u64.bits = 64 from rfl, h1]
  have hp : (0 : Int) < 2 ^ m := Int.pow_pos (by decide)
  have := Int.emod_nonneg a (Int.ne_of_gt hp)
  have := Int.emod_lt_of_pos a hp
  have h3 : (2 : Int) ^ m ≤ 18446744073709551616 := by
    have := Nat.pow_le_pow_right (show 0 < 2 by decide) hm
    have h4 : ((2 ^ m : Nat) : Int) ≤ ((2 ^ 64 : Nat) : Int) := by exact_mod_cast this
    rw [Int.natCast_pow] at h4
    exact h4
  rw [Int.emod_eq_of_lt (by omega) (by omega)]
theorem binA_and32 : binA .and (.int .u64 a) (.int .u64 4294967295) = some (.int .u64 (a % 4294967296)) := binA_and_u64 a 32 (by decide)
theorem binA_shr : binA .shr (.int .u64 a) (.int .u64 32) = some (.int .u64 (a / 4294967296)) := by
  simp only [binA, isShift, if_true, shiftBin]
  simp [IntKind.bits]
  rw [Int.fdiv_eq_ediv_of_nonneg _ (by decide)]
theorem binA_shr_u64 (h0 : 0 ≤ b) (h1 : b < 64) : binA .shr (.int .u64 a) (.int .u64 b) = some (.int .u64 (a / 2 ^ b.toNat)) := by
  simp only [binA, isShift, if_true, shiftBin, if_neg (Int.not_lt.2 h0)]
  have e : min b.toNat IntKind.u64.bits = b.toNat := by
    have : IntKind.u64.bits = 64 := rfl
    omega
  rw [e, Int.fdiv_eq_ediv_of_nonneg _ (Int.le_of_lt (Int.pow_pos (by decide)))]
theorem binA_shl_u64 (h0 : 0 ≤ b) (h1 : b < 64) : binA .shl (.int .u64 a) (.int .u64 b) = some (.int .u64 ((a * 2 ^ b.toNat) % 18446744073709551616)) := by
  simp only [binA, isShift, if_true, shiftBin, if_neg (Int.not_lt.2 h0), wrap_u64]
  have e : min b.toNat IntKind.u64.bits = b.toNat := by
    have : IntKind.u64.bits = 64 := rfl
    omega
  rw [e]
end
attribute [go_sem] wrap_i64 binA_quo binA_rem binA_shr_u64 binA_shl_u64 binA_add binA_sub binA_mul binA_eql binA_neq binA_lss binA_leq binA_gtr binA_geq wrap_u64 wrap_u8 wrap_u32
end Go.Xec
