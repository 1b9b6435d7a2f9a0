/-
  Laid together: part 4.
-/
import Derived.Test.YtkonpbcnekcjjaaGreatDoorZV3
set_option linter.unusedVariables false
set_option linter.unusedSimpArgs false
namespace Go.Proofs.YtkonpbcnekcjjaaGreatDoor.DV
open Go Go.Xec
attribute [local go_sem] tm0 ne_eq not_false_eq_true List.length_append List.length_replicate List.replicate_succ List.replicate_zero Int.cast_ofNat_Int not_true_eq_false decide_true decide_false ite_self beq_self_eq_true Bool.true_beq Bool.false_beq Bool.not_true Bool.not_false
attribute [local go_sem_proc] Nat.reduceAdd Nat.reduceMul Nat.reduceSub Nat.reduceLeDiff Nat.reduceLT Nat.reduceEqDiff Int.reduceLT Int.reduceLE Int.reduceAdd Int.reduceSub Int.reduceMul Int.reduceToNat Int.reducePow Int.reduceNe Int.reduceMod Int.reduceDiv Int.reduceEq Nat.reducePow Int.reduceNeg
set_option maxRecDepth 10000
noncomputable def C11 : Cfg := C3.add 85 RT.F85
theorem ok11 : CfgOk Tryz.prog C11 := ok3.add RT.sound85
noncomputable def F82 : List AVal → Option AVal := pureF C11 1 82
theorem sound82 : Sound Tryz.prog 82 F82 := sound_self ok11 1 82
theorem F82_eq {y : Int} (hy : U y) {s : Nat} (hs : RT.blen y.toNat + s = 64) : F82 [.int .u64 y] = some (.int .i64 (s : Int)) := by
  have e85 := RT.F85_eq hy
  have hb : (RT.blen y.toNat : Int) = 64 - (s : Int) := by omega
  rw [hb] at e85
  have h1 : (s : Int) ≤ 64 := by omega
  unfold F82
  refine pureF_of (x := x82) rfl rfl ?_
  rw [x82_eq.1, x82_eq.2.1]
  simp (disch := first | omega | simp only [*, go_sem, ↓reduceIte, dropK_eq]) only [x82b, go_sem, ↓reduceIte, dropK_eq, callX_known (C := C11) (g := 85) rfl, ft_call (C := C11) (g := 85) rfl, e85]
  exact Ends_plain rfl (by congr 1; omega)
noncomputable def C12 : Cfg := C11.add 82 F82
theorem ok12 : CfgOk Tryz.prog C12 := ok11.add sound82
noncomputable def F81 : List AVal → Option AVal := pureF C12 1 81
theorem sound81 : Sound Tryz.prog 81 F81 := sound_self ok12 1 81
theorem dig_two {p q : Int} (hp : 0 ≤ p ∧ p < 4294967296) (hq : 0 ≤ q ∧ q < 4294967296) : (p * 4294967296 % 18446744073709551616 + q) % 18446744073709551616 = p * 4294967296 + q := by omega
theorem F81_high {h l y : Int} (hh : 0 < h ∧ h < y) (hl : U l) (hy : y < 18446744073709551616) :
    F81 [.int .u64 h, .int .u64 l, .int .u64 y] = some (.tup [.int .u64 ((h * 18446744073709551616 + l) / y), .int .u64 ((h * 18446744073709551616 + l) % y)]) := by
  obtain ⟨b1, b2, b3⟩ := RT.blen_of (n := y.toNat) (by omega)
  have b4 : RT.blen y.toNat ≤ 64 := by
    refine Classical.byContradiction fun hn => ?_
    have : 2 ^ 64 ≤ 2 ^ (RT.blen y.toNat - 1) := Nat.pow_le_pow_right (by decide) (by omega)
    omega
  obtain ⟨s, hs⟩ : ∃ s, RT.blen y.toNat + s = 64 := ⟨64 - RT.blen y.toNat, by omega⟩
  have hs63 : s ≤ 63 := by omega
  have e82 := F82_eq (y := y) ⟨by omega, hy⟩ hs

  obtain ⟨P, hP⟩ : ∃ P : Int, P = 2 ^ s := ⟨_, rfl⟩
  obtain ⟨R, hR⟩ : ∃ R : Int, R = 2 ^ (64 - s) := ⟨_, rfl⟩
  have hP0 : 0 < P := by rw [hP]; exact Int.pow_pos (by decide)
  have hR0 : 0 < R := by rw [hR]; exact Int.pow_pos (by decide)
  have hPR : P * R = 18446744073709551616 := by
    rw [hP, hR, ← Int.pow_add, show s + (64 - s) = 64 by omega]; rfl
  have hYn : 2 ^ 63 ≤ y.toNat * 2 ^ s ∧ y.toNat * 2 ^ s < 2 ^ 64 := by
    constructor
    · have : 2 ^ 63 = 2 ^ (RT.blen y.toNat - 1) * 2 ^ s := by rw [← Nat.pow_add, show RT.blen y.toNat - 1 + s = 63 by omega]
      rw [this]
      exact Nat.mul_le_mul_right _ b2
    · have : 2 ^ 64 = 2 ^ (RT.blen y.toNat) * 2 ^ s := by rw [← Nat.pow_add, hs]
      rw [this]
      exact Nat.mul_lt_mul_of_pos_right b3 (Nat.pow_pos (by decide))
  have hY : 9223372036854775808 ≤ y * P ∧ y * P < 18446744073709551616 := by
    have e : ((y.toNat * 2 ^ s : Nat) : Int) = y * P := by
      rw [Int.natCast_mul, hP, Int.toNat_of_nonneg (by omega)]; norm_cast
    rw [← e]
    constructor
    · have := hYn.1; omega
    · have := hYn.2; omega
  have hlR : 0 ≤ l / R ∧ l / R < P := by
    refine ⟨Int.ediv_nonneg hl.1 (by omega), ?_⟩
    rw [Int.ediv_lt_iff_lt_mul hR0, hPR]
    exact hl.2
  have hhP : 0 ≤ h * P ∧ h * P + P ≤ y * P := by
    refine ⟨Int.mul_nonneg (by omega) (by omega), ?_⟩
    have : (h + 1) * P ≤ y * P := Int.mul_le_mul_of_nonneg_right (by omega) (by omega)
    rwa [Int.add_mul, Int.one_mul] at this
  have hlP : 0 ≤ l * P := Int.mul_nonneg hl.1 (by omega)
  have sh1 : binA .shl (.int .u64 y) (.int .u64 s) = some (.int .u64 (y * P)) := by
    rw [binA_shl_u (by omega) (by omega), Int.toNat_natCast, ← hP, Int.emod_eq_of_lt (by omega) (by omega)]
  have sh2 : binA .shl (.int .u64 h) (.int .u64 s) = some (.int .u64 (h * P)) := by
    rw [binA_shl_u (by omega) (by omega), Int.toNat_natCast, ← hP, Int.emod_eq_of_lt (by omega) (by omega)]
  have sh3 : binA .shr (.int .u64 l) (.int .u64 (64 - s)) = some (.int .u64 (l / R)) := by
    rw [binA_shr_le (by omega) (by omega), show (64 - (s : Int)).toNat = 64 - s by omega, ← hR]
  have sh4 : binA .shl (.int .u64 l) (.int .u64 s) = some (.int .u64 (l * P % 18446744073709551616)) := by
    rw [binA_shl_u (by omega) (by omega), Int.toNat_natCast, ← hP]
  have eP : ((2 ^ s : Nat) : Int) = P := by rw [hP]; norm_cast
  have or1 : binA .or (.int .u64 (h * P)) (.int .u64 (l / R)) = some (.int .u64 (h * P + l / R)) := by
    have e1 : ((2 ^ s * h.toNat : Nat) : Int) = h * P := by rw [Int.natCast_mul, eP, Int.toNat_of_nonneg (by omega), Int.mul_comm]
    have e2 : (((l / R).toNat : Nat) : Int) = l / R := Int.toNat_of_nonneg hlR.1
    have e3 : ((2 ^ s * h.toNat + (l / R).toNat : Nat) : Int) = h * P + l / R := by rw [Int.natCast_add, e1, e2]
    have := or_add (h := h.toNat) (l := (l / R).toNat) (s := s) (by have : (((l / R).toNat : Nat) : Int) < ((2 ^ s : Nat) : Int) := (by rw [e2, eP]; exact hlR.2); omega) (by omega)
    rwa [e1, e2, e3] at this
  have hN : (h * 18446744073709551616 + l) * P = (h * P + l / R) * 18446744073709551616 + l * P % 18446744073709551616 := by
    have e1 : l * P / 18446744073709551616 = l / R := by
      rw [← hPR, Int.mul_comm l P, Int.mul_ediv_mul_of_pos _ _ hP0]
    have e2 : (h * 18446744073709551616 + l) * P = h * P * 18446744073709551616 + l * P := by
      rw [Int.add_mul, Int.mul_right_comm]
    rw [e2]
    generalize h * P = hp' at *
    generalize l * P = lp at *
    omega
  have hv : 0 ≤ l * P % 18446744073709551616 ∧ l * P % 18446744073709551616 < 18446744073709551616 := by omega
  have hu : 0 ≤ h * P + l / R ∧ h * P + l / R < y * P := by omega
  have w1 : (s : Int) % 18446744073709551616 = (s : Int) := Int.emod_eq_of_lt (by omega) (by omega)
  have w2 : (64 - (s : Int)) % 18446744073709551616 = 64 - (s : Int) := Int.emod_eq_of_lt (by omega) (by omega)
  have c1 : decide (y = 0) = false := decide_eq_false (by omega)
  have c2 : decide (y ≤ h) = false := decide_eq_false (by omega)
  have c3 : decide (h = 0) = false := decide_eq_false (by omega)
  generalize h * P + l / R = u at *
  generalize l * P % 18446744073709551616 = v at *
  have hYP := rfl (a := y * P)
  generalize hYd : y * P = Y at *
  have sh5 : ∀ x : Int, binA .shr (.int .u64 x) (.int .u64 s) = some (.int .u64 (x / P)) := fun x => by
    rw [binA_shr_le (by omega) (by omega), Int.toNat_natCast, ← hP]
  have e1 : Y / 4294967296 * 4294967296 + Y % 4294967296 = Y := by omega
  have a1 : 2147483648 ≤ Y / 4294967296 ∧ Y / 4294967296 < 4294967296 := by omega
  have b1' : 0 ≤ Y % 4294967296 ∧ Y % 4294967296 < 4294967296 := by omega
  have v1 : 0 ≤ v / 4294967296 ∧ v / 4294967296 < 4294967296 := by omega
  have v0 : 0 ≤ v % 4294967296 ∧ v % 4294967296 < 4294967296 := by omega
  have hv2 : v = v / 4294967296 * 4294967296 + v % 4294967296 := by omega
  generalize hD1 : v / 4294967296 = d1 at *
  generalize hD0 : v % 4294967296 = d0 at *
  generalize hA : Y / 4294967296 = a at *
  generalize hB : Y % 4294967296 = b at *
  have hk1 := kn_first (a := a) (b := b) (u := u) (d := d1) b1' a1 (by omega) v1
  have hr1 := kn_rest (a := a) (b := b) (u := u) (d := d1) b1' a1 (by omega) v1
  obtain ⟨t0, t1, t2, t3⟩ := knT_spec (a := a) (b := b) (u := u) (d := d1) b1' a1.1 (by omega) v1
  have q1b : u / a < 1099511627776 := by rw [Int.ediv_lt_iff_lt_mul (by omega)]; omega
  have ha0 : a ≠ 0 := by omega
  have fq : ∀ z : Int, 0 ≤ z → z < 18446744073709551616 → z.tdiv a = z / a ∧ z / a % 18446744073709551616 = z / a ∧ z / a * a % 18446744073709551616 = z / a * a ∧ (z - z / a * a) % 18446744073709551616 = z % a ∧ z % a < a := by
    intro z hz0 hz1
    have hq0 : 0 ≤ z / a := Int.ediv_nonneg hz0 (by omega)
    have m1 : z / a * a = z - z % a := by have := Int.emod_add_mul_ediv z a; rw [Int.mul_comm a] at this; omega
    have m0 : 0 ≤ z / a * a := Int.mul_nonneg hq0 (by omega)
    have r0 := Int.emod_nonneg z ha0
    have r1 := Int.emod_lt_of_pos z (show 0 < a by omega)
    have hle : z / a ≤ z := Int.ediv_le_self a hz0
    refine ⟨Int.tdiv_eq_ediv_of_nonneg hz0, Int.emod_eq_of_lt hq0 (by omega), Int.emod_eq_of_lt m0 (by omega), ?_, r1⟩
    rw [m1, show z - (z - z % a) = z % a by omega]
    exact Int.emod_eq_of_lt r0 (by omega)
  obtain ⟨f1, f2, f3, f4, f5⟩ := fq u hu.1 (by omega)
  unfold F81
  refine pureF_of (x := x81) rfl rfl ?_
  rw [x81_eq.1, x81_eq.2.1]
  simp (disch := first | omega | simp only [*, go_sem, ↓reduceIte, dropK_eq]) only [x81b, go_sem, ↓reduceIte, dropK_eq, callX_known (C := C12) (g := 82) rfl, ft_call (C := C12) (g := 82) rfl, e82, c1, c2, c3, w1, w2, sh1, sh2, sh3, sh4, or1, binA_shr, binA_and32, hA, hB, hD1, hD0, f1, f2, f3, f4]
  refine (kn_loop17 hk1 (by omega) q1b ?_ ?_ ?_ ?_ ?_).and_tm.mono ?_
  · simp only [go_sem, ↓reduceIte, dropK_eq]
  · simp only [go_sem, ↓reduceIte, dropK_eq]
  · simp only [go_sem, ↓reduceIte, dropK_eq]
  · simp only [go_sem, ↓reduceIte, dropK_eq]
  · simp only [go_sem, ↓reduceIte, dropK_eq]
  rintro o ⟨tm1, hp1, nc1⟩ ⟨⟨rfl, rfl, k15⟩, hc⟩
  have k15 : tm1 15 = .int .u64 (knT a b u d1) := k15
  have k2 := hc 2 rfl; have k8 := hc 8 rfl; have k9 := hc 9 rfl; have k10 := hc 10 rfl; have k11 := hc 11 rfl; have k13 := hc 13 rfl; have k14 := hc 14 rfl; simp only [go_sem, ↓reduceIte, dropK_eq] at k2 k8 k9 k10 k11 k13 k14
  clear hc hk1
  generalize knT a b u d1 = q1 at *
  rw [e1] at hr1 t2 t3
  obtain ⟨u21, hu21⟩ : ∃ x, u * 4294967296 + d1 - q1 * Y = x := ⟨_, rfl⟩
  rw [hu21] at hr1
  have g0 : 0 ≤ q1 * Y := Int.mul_nonneg t0 (by omega)
  have e21 : ((u * 4294967296 % 18446744073709551616 + d1) % 18446744073709551616 - q1 * Y % 18446744073709551616) % 18446744073709551616 = u21 := by omega
  have hk2 := kn_first (a := a) (b := b) (u := u21) (d := d0) b1' a1 (by omega) v0
  have hr2 := kn_rest (a := a) (b := b) (u := u21) (d := d0) b1' a1 (by omega) v0
  obtain ⟨s0, s1, s2, s3⟩ := knT_spec (a := a) (b := b) (u := u21) (d := d0) b1' a1.1 (by omega) v0
  have q2b : u21 / a < 1099511627776 := by rw [Int.ediv_lt_iff_lt_mul (by omega)]; omega
  obtain ⟨i1, i2, i3, i4, i5⟩ := fq u21 hr1.1 (by omega)
  simp (disch := first | omega | simp only [*, go_sem, ↓reduceIte, dropK_eq]) only [go_sem, ↓reduceIte, dropK_eq, k2, k8, k9, k10, k11, k13, k14, k15, e21, i1, i2, i3, i4]
  refine (kn_loop25 hk2 (by omega) q2b ?_ ?_ ?_ ?_ ?_).and_tm.mono ?_
  · simp only [go_sem, ↓reduceIte, dropK_eq, k9]
  · simp only [go_sem, ↓reduceIte, dropK_eq, k10]
  · simp only [go_sem, ↓reduceIte, dropK_eq, k14]
  · simp only [go_sem, ↓reduceIte, dropK_eq]
  · simp only [go_sem, ↓reduceIte, dropK_eq]
  rintro o ⟨tm2, hp2, nc2⟩ ⟨⟨rfl, rfl, k18⟩, hc⟩
  have k18 : tm2 18 = .int .u64 (knT a b u21 d0) := k18
  have j2 := hc 2 rfl; have j8 := hc 8 rfl; have j14 := hc 14 rfl; have j15 := hc 15 rfl; have j17 := hc 17 rfl; simp only [go_sem, ↓reduceIte, dropK_eq, k2, k8, k14, k15] at j2 j8 j14 j15 j17
  clear hc hk2
  have hNd : (h * 18446744073709551616 + l) * P = (u * 4294967296 + d1) * 4294967296 + d0 := by
    clear hu21 hr1 hr2 s2 s3 g0 e21 t2 t3 hlP hhP hYn hPR
    omega
  have hYd' : a * 4294967296 + b = y * P := e1.trans hYd.symm
  have hdd := two_digits (a := a) (b := b) (n := 0) (q1 := q1) (q0 := knT a b u21 d0) (u21 := u21) (d1 := d1) (d0 := d0) (u := u) (P := P) (y := y) (N := h * 18446744073709551616 + l) hP0 (by omega) hYd' hNd (by rw [e1]; exact hu21.symm) hr2
  generalize knT a b u21 d0 = q0 at *
  rw [e1] at hr2 s2 s3 hdd
  have g1 : 0 ≤ q0 * Y := Int.mul_nonneg s0 (by omega)
  obtain ⟨z, hz⟩ : ∃ x, u21 * 4294967296 + d0 - q0 * Y = x := ⟨_, rfl⟩
  rw [hz] at hr2 hdd
  have e28 : ((u21 * 4294967296 % 18446744073709551616 + d0) % 18446744073709551616 - q0 * Y % 18446744073709551616) % 18446744073709551616 = z := by omega
  have e29 : (q1 * 4294967296 % 18446744073709551616 + q0) % 18446744073709551616 = q1 * 4294967296 + q0 := by
    exact dig_two ⟨t0, t1⟩ ⟨s0, s1⟩
  have e30 : z / P = (h * 18446744073709551616 + l) % y := by rw [hdd.2]; exact Int.mul_ediv_cancel _ (by omega)
  simp (disch := first | omega | simp only [*, go_sem, ↓reduceIte, dropK_eq]) only [go_sem, ↓reduceIte, dropK_eq, j2, j8, j14, j15, j17, k18, e28, e29, sh5, e30]
  rw [hdd.1]
  exact Ends_plain rfl rfl
end Go.Proofs.YtkonpbcnekcjjaaGreatDoor.DV
namespace Go.Proofs.YtkonpbcnekcjjaaGreatDoor
open Go Go.Xec
attribute [local go_sem] tm0 ne_eq not_false_eq_true List.length_append List.length_replicate List.replicate_succ List.replicate_zero Int.cast_ofNat_Int not_true_eq_false decide_true decide_false ite_self beq_self_eq_true Bool.true_beq Bool.false_beq Bool.not_true Bool.not_false
attribute [local go_sem_proc] Nat.reduceAdd Nat.reduceMul Nat.reduceSub Nat.reduceLeDiff Nat.reduceLT Nat.reduceEqDiff Int.reduceLT Int.reduceLE Int.reduceAdd Int.reduceSub Int.reduceMul Int.reduceToNat Int.reducePow Int.reduceNe Int.reduceMod Int.reduceDiv Int.reduceEq Nat.reducePow Int.reduceNeg
set_option maxRecDepth 10000
theorem take_snoc {l : List Int} {i : Nat} (hi : i < l.length) : l.take (i + 1) = l.take i ++ [l.getD i 0] := by
  rw [List.take_add_one, List.getElem?_eq_getElem hi, List.getD_eq_getElem?_getD, List.getElem?_eq_getElem hi]
  rfl
def clip (x : Int) : Int := min (max x (-100000)) 100000
noncomputable def F6 : List AVal → Option AVal := pureF C5 1 6
theorem sound6 : Sound Tryz.prog 6 F6 := sound_self ok5 1 6
theorem F6_eq {a : AVal} {l : List Int} {m : Nat} (ha : Rw a l) (hl : l.length ≤ 100000000000000) (hm : m ≤ 1000000) : F6 [a, .int .i64 m] = some (rowN 1 (i64s ((l.take (min l.length m)).map clip))) := by
  have htk := ha.sliceTo (n := min l.length m) (by omega)
  have hta := ha.take (min l.length m)
  have hlt := hta.len
  have hl2 : (l.take (min l.length m)).length ≤ m := by rw [List.length_take]; omega
  have hmn : mnxA false (.int .i64 (l.length : Int)) [.int .i64 (m : Int)] = some (.int .i64 ((min l.length m : Nat) : Int)) := by
    rw [mnx_min]; refine congrArg (fun z => some (AVal.int .i64 z)) ?_; omega
  have hlen := ha.len
  generalize l.take (min l.length m) = l2 at *
  generalize rwTake (min l.length m) a = a2 at *
  unfold F6
  refine pureF_of (x := x6) rfl rfl ?_
  rw [x6_eq.1, x6_eq.2.1]
  simp (disch := first | omega | simp only [*, go_sem, ↓reduceIte, dropK_eq]) only [x6b, go_sem, ↓reduceIte, dropK_eq, hlen, hmn, htk, hlt]
  refine Ev_range (ti := 15) (len := l2.length) (J := fun i tm hp nc => Xec.Own [6005005] 1 hp (tm 5) (i64s ((l2.take i).map clip)) ∧ (i64s ((l2.take i).map clip) = [] → tm 5 = .nils)) (by omega) (by simp only [go_sem, ↓reduceIte, dropK_eq]) ?_ ?_
  · simp only [go_sem, ↓reduceIte, dropK_eq]
    exact ⟨Xec.Own.nils _ _ _, fun _ => trivial⟩
  rintro i tm hp nc hi' hc k15 ⟨ho, h0⟩
  have k13 := hc 13 rfl; have k14 := hc 14 rfl; simp only [go_sem, ↓reduceIte, dropK_eq] at k13 k14
  rcases Nat.lt_or_ge i l2.length with hlt2 | hge
  · have d1 : decide ((i : Int) < (l2.length : Int)) = true := decide_eq_true (by omega)
    have ia := hta.ia hlt2
    have hts := take_snoc hlt2
    generalize l2.getD i 0 = y at *
    have m1 : mnxA true (.int .i64 y) [.int .i64 (-100000)] = some (.int .i64 (max y (-100000))) := mnx_max
    have m2 : mnxA false (.int .i64 (max y (-100000))) [.int .i64 100000] = some (.int .i64 (clip y)) := mnx_min
    obtain ⟨V, H, hA, hO⟩ := ho.push (s0 := 6005005) (s1 := 6005004) (z := .int .i64 (clip y)) (bytes := 8) (by simp) (by simp) (plain_int _ _ _) rfl (by simp [i64s]; omega)
    simp (disch := first | omega | simp only [*, go_sem, ↓reduceIte, dropK_eq]) only [x6l3, go_sem, ↓reduceIte, dropK_eq, k13, k14, k15, d1, ia, m1, m2, hA]
    refine ⟨hlt2, by simp, ?_, ?_⟩
    · rw [hts, List.map_append, i64s, List.map_append]; exact (hO _ _).1
    · rw [hts]; intro h; simp [i64s] at h
  · obtain rfl : i = l2.length := by omega
    have d1 : decide ((l2.length : Int) < (l2.length : Int)) = false := decide_eq_false (by omega)
    rw [List.take_length] at *
    simp (disch := first | omega | simp only [*, go_sem, ↓reduceIte, dropK_eq]) only [x6l3, go_sem, ↓reduceIte, dropK_eq, k13, k14, k15, d1]
    rw [Ends_eq]
    exact ho.lendN h0 63 (plainL_ints 63 _ _) (fun _ _ => rfl)
noncomputable def F7 : List AVal → Option AVal := pureF C5 1 7
theorem sound7 : Sound Tryz.prog 7 F7 := sound_self ok5 1 7
theorem F7_eq {a : AVal} {l : List Int} (ha : Rw a l) (hl : l.length ≤ 1000000) (hin : ∀ x ∈ l, inM x) : F7 [a] = some (.tup [StK (ofL l), .int .i64 0]) := by
  have hlen := ha.len
  unfold F7
  refine pureF_of (x := x7) rfl rfl ?_
  rw [x7_eq.1, x7_eq.2.1]
  simp (disch := first | omega | simp only [*, go_sem, ↓reduceIte, dropK_eq]) only [x7b, go_sem, ↓reduceIte, dropK_eq, hlen]
  refine Ev_range (ti := 9) (len := l.length) (J := fun i tm hp nc => hp (7001000, 1) = some (.var (StC (ofL (l.take i)))) ∧ hp (7000000, 0) = some (.var (StC St0))) (by omega) (by simp only [go_sem, ↓reduceIte, dropK_eq]) ?_ ?_
  · simp only [go_sem, ↓reduceIte, dropK_eq, List.take_zero, ofL, List.foldl_nil]
    rfl
  rintro i tm hp nc hi' hc k9 ⟨kq, kr⟩
  have k2 := hc 2 rfl; have k4 := hc 4 rfl; have k7 := hc 7 rfl; have k8 := hc 8 rfl; simp only [go_sem, ↓reduceIte, dropK_eq] at k2 k4 k7 k8
  rcases Nat.lt_or_ge i l.length with hlt | hge
  · have d1 : decide ((i : Int) < (l.length : Int)) = true := decide_eq_true (by omega)
    have ia := ha.ia hlt
    have hsn := ofL_snoc (l.take i) (l.getD i 0)
    rw [← take_snoc hlt] at hsn
    have hx : inM (l.getD i 0) := hin _ (by rw [List.getD_eq_getElem?_getD, List.getElem?_eq_getElem hlt]; exact List.getElem_mem hlt)
    have hB := ofL_stB (l := l.take i) (fun x hx => hin x (List.mem_of_mem_take hx)) (by rw [List.length_take]; omega)
    generalize l.getD i 0 = y at *
    have hy := sq_le hx
    have hB1 : stB (one1 y) := by
      have h1 := hx.1
      have h2 := hx.2
      unfold stB one1
      refine ⟨⟨?_, ?_⟩, ⟨?_, ?_⟩, ?_, ?_⟩ <;> (dsimp only; omega)
    have e20 := F20_eq hx
    have e22 := F22_eq hx
    have e21 := F21_eq hB hB1
    rw [← hsn] at e21
    generalize one1 y = o at *
    generalize ofL (l.take i) = t0 at *
    generalize ofL (l.take (i + 1)) = t1 at *
    simp (disch := first | omega | simp only [*, go_sem, ↓reduceIte, dropK_eq]) only [x7l3, go_sem, ↓reduceIte, dropK_eq, k2, k4, k7, k8, k9, d1, ia, kq, kr, callX_known (C := C5) (g := 20) rfl, ft_call (C := C5) (g := 20) rfl, callX_known (C := C5) (g := 21) rfl, ft_call (C := C5) (g := 21) rfl, callX_known (C := C5) (g := 22) rfl, ft_call (C := C5) (g := 22) rfl, e20, e21, e22]
    exact ⟨hlt, by simp⟩
  · obtain rfl : i = l.length := by omega
    have d1 : decide ((l.length : Int) < (l.length : Int)) = false := decide_eq_false (by omega)
    rw [List.take_length] at *
    simp (disch := first | omega | simp only [*, go_sem, ↓reduceIte, dropK_eq]) only [x7l3, go_sem, ↓reduceIte, dropK_eq, k2, k4, k7, k8, k9, d1, kq, kr]
    exact Ends_plain rfl rfl
set_option maxRecDepth 10000
theorem F48_gen {x : Int} (h : -4611686018427387904 ≤ x ∧ x ≤ 4611686018427387904) : F48 [.int .i64 x] = some (.int .u64 (max x (-x))) := by
  have m1 : mnxA true (.int .i64 x) [.int .i64 (0 - x)] = some (.int .i64 (max x (-x))) := by rw [mnx_max, Int.zero_sub]
  have h1 := h.1
  have h2 := h.2
  have h3 : 0 ≤ max x (-x) ∧ max x (-x) ≤ 4611686018427387904 := by omega
  have h4 := h3.1
  have h5 := h3.2
  unfold F48
  refine pureF_of (x := x48) rfl rfl ?_
  rw [x48_eq.1, x48_eq.2.1]
  generalize max x (-x) = m at *
  simp (disch := first | omega | simp only [*, go_sem, ↓reduceIte, dropK_eq]) only [x48b, go_sem, ↓reduceIte, dropK_eq, m1]
  exact Ends_plain rfl (by rw [Int.emod_eq_of_lt (by omega) (by omega)])
def sprd (t : Stt) : Int := t.n * t.q - t.s * t.s
theorem F9_nq {n q : Int} (hn : 0 ≤ n ∧ n ≤ 1000000) (hq : 0 ≤ q ∧ q ≤ 1000000000000000000) : F9 [W 0 n, enc q] = some (.tup [enc (n * q), .bool false]) := by
  have h0 : U 0 := by unfold U; omega
  have h1 := Int.mul_nonneg hn.1 hq.1
  have h2 : n * q ≤ 1000000 * 1000000000000000000 := Int.mul_le_mul hn.2 hq.2 hq.1 (by omega)
  have e : val 0 n = n := by unfold val; omega
  rw [F9_eq h0 (by unfold U; omega) (U_hi (by unfold big; omega)) (U_lo q), val_enc, e, Int.emod_eq_of_lt h1 (by unfold big; omega), decide_eq_false (by unfold big; omega)]
theorem F80_q {a b : Int} (ha : 0 ≤ a ∧ a < big) (hb : 0 ≤ b ∧ b ≤ a) : F80 [enc a, enc b] = some (.tup [enc (a - b), .bool false]) := by
  rw [F80_eq (U_hi ha) (U_lo a) (U_hi ⟨hb.1, by omega⟩) (U_lo b), val_enc, val_enc, Int.emod_eq_of_lt (by omega) (by omega), decide_eq_false (by omega)]
theorem sq_bnd {x m : Int} (h : -m ≤ x ∧ x ≤ m) : 0 ≤ x * x ∧ x * x ≤ m * m := by
  rcases Int.le_total 0 x with h1 | h1
  · exact ⟨Int.mul_nonneg h1 h1, Int.mul_le_mul h.2 h.2 h1 (by omega)⟩
  · rw [← Int.neg_mul_neg x x]
    exact ⟨Int.mul_nonneg (by omega) (by omega), Int.mul_le_mul (by omega) (by omega) (by omega) (by omega)⟩
noncomputable def F57 : List AVal → Option AVal := pureF C5 1 57
theorem sound57 : Sound Tryz.prog 57 F57 := sound_self ok5 1 57
theorem F57_eq {t : Stt} (h : stB t) (hs : 0 ≤ sprd t) : F57 [StK t] = some (.tup [enc (sprd t), .bool false]) := by
  obtain ⟨⟨a1, a2⟩, ⟨a3, a4⟩, a5, a6⟩ := h
  have e9 := F9_nq ⟨a1, a2⟩ ⟨a5, a6⟩
  have h1 := Int.mul_nonneg a1 a5
  have h2 : t.n * t.q ≤ 1000000 * 1000000000000000000 := Int.mul_le_mul a2 a6 a5 (by omega)
  have h3 := sq_bnd (x := t.s) (m := 1000000000000) ⟨by omega, a4⟩
  have e48 := F48_gen (x := t.s) (by omega)
  have hu : U (max t.s (-t.s)) := by unfold U; omega
  have e24 := F24_eq hu hu
  rw [sq_max] at e24
  unfold sprd at hs ⊢
  have e80 := F80_q (a := t.n * t.q) (b := t.s * t.s) ⟨h1, by unfold big; omega⟩ ⟨h3.1, by omega⟩
  have hw : t.n % 18446744073709551616 = t.n := Int.emod_eq_of_lt a1 (by omega)
  unfold F57
  refine pureF_of (x := x57) rfl rfl ?_
  rw [x57_eq.1, x57_eq.2.1]
  generalize t.n * t.q = nq at *
  generalize t.s * t.s = ss at *
  simp (disch := first | omega | simp only [*, go_sem, ↓reduceIte, dropK_eq]) only [x57b, go_sem, ↓reduceIte, dropK_eq, callX_known (C := C5) (g := 9) rfl, ft_call (C := C5) (g := 9) rfl, callX_known (C := C5) (g := 48) rfl, ft_call (C := C5) (g := 48) rfl, callX_known (C := C5) (g := 24) rfl, ft_call (C := C5) (g := 24) rfl, callX_known (C := C5) (g := 80) rfl, ft_call (C := C5) (g := 80) rfl, hw, e9, e48, e24, e80]
  exact Ends_plain rfl rfl
theorem dev_nn (l : List Int) (x : Int) : 0 ≤ sqL l - 2 * (x * sumL l) + (l.length : Int) * (x * x) := by
  induction l using snoc_ind with
  | h0 => simp [sqL, sumL]
  | hs l y ih =>
    rw [sqL_snoc, sumL_snoc, List.length_append, List.length_cons, List.length_nil]
    have h1 := (sq_bnd (x := y - x) (m := max (y - x) (-(y - x))) (by omega)).1
    have e1 : (y - x) * (y - x) = y * y - 2 * (x * y) + x * x := by
      rw [Int.sub_mul, Int.mul_sub, Int.mul_sub, Int.mul_comm y x]; omega
    have e2 : ((l.length + (0 + 1) : Nat) : Int) * (x * x) = (l.length : Int) * (x * x) + x * x := by
      rw [show ((l.length + (0 + 1) : Nat) : Int) = (l.length : Int) + 1 by omega, Int.add_mul, Int.one_mul]
    rw [e2, Int.mul_add x]
    omega
theorem sprd_nn (l : List Int) : 0 ≤ (l.length : Int) * sqL l - sumL l * sumL l := by
  induction l using snoc_ind with
  | h0 => simp [sqL, sumL]
  | hs l x ih =>
    have h := dev_nn l x
    rw [sqL_snoc, sumL_snoc, List.length_append, List.length_cons, List.length_nil]
    have e2 : ((l.length + (0 + 1) : Nat) : Int) * (sqL l + x * x) = (l.length : Int) * sqL l + (l.length : Int) * (x * x) + sqL l + x * x := by
      rw [show ((l.length + (0 + 1) : Nat) : Int) = (l.length : Int) + 1 by omega, Int.add_mul, Int.one_mul, Int.mul_add]; omega
    have e3 : (sumL l + x) * (sumL l + x) = sumL l * sumL l + 2 * (x * sumL l) + x * x := by
      rw [Int.add_mul, Int.mul_add, Int.mul_add, Int.mul_comm (sumL l) x]; omega
    rw [e2, e3]
    omega
theorem ofL_sprd (l : List Int) : 0 ≤ sprd (ofL l) := by
  obtain ⟨h1, h2, h3⟩ := ofL_eq (l := l)
  unfold sprd
  rw [h1, h2, h3]
  exact sprd_nn l
theorem ofL_ends {l : List Int} (h : ∀ x ∈ l, inM x) (hne : l ≠ []) : inM (ofL l).lo ∧ inM (ofL l).hi ∧ (ofL l).lo ≤ (ofL l).hi ∧ (l.length : Int) * (ofL l).lo ≤ sumL l ∧ sumL l ≤ (l.length : Int) * (ofL l).hi := by
  induction l using snoc_ind with
  | h0 => exact absurd rfl hne
  | hs l x ih =>
    have hx := h x (by simp)
    rw [ofL_snoc, sumL_snoc, List.length_append, List.length_cons, List.length_nil]
    unfold join2
    by_cases h0 : (ofL l).n = 0
    · rw [if_pos h0]
      have : l = [] := by rw [(ofL_eq (l := l)).1] at h0; exact List.length_eq_zero_iff.1 (by omega)
      subst this
      simp only [one1, sumL, List.foldl_nil, List.length_nil]
      refine ⟨hx, hx, Int.le_refl _, ?_, ?_⟩ <;> omega
    · rw [if_neg h0, if_neg (show ¬ (one1 x).n = 0 by show ¬ (1 : Int) = 0; decide)]
      have hl : l ≠ [] := by rintro rfl; exact h0 rfl
      obtain ⟨i1, i2, i3, i4, i5⟩ := ih (fun y hy => h y (by simp [hy])) hl
      simp only [one1]
      generalize (ofL l).lo = lo at *
      generalize (ofL l).hi = hi at *
      have k1 : ((l.length : Int)) * min lo x ≤ (l.length : Int) * lo := Int.mul_le_mul_of_nonneg_left (by omega) (by omega)
      have k2 : (l.length : Int) * hi ≤ ((l.length : Int)) * max hi x := Int.mul_le_mul_of_nonneg_left (by omega) (by omega)
      have e : ∀ y : Int, ((l.length + (0 + 1) : Nat) : Int) * y = (l.length : Int) * y + y := fun y => by
        rw [show ((l.length + (0 + 1) : Nat) : Int) = (l.length : Int) + 1 by omega, Int.add_mul, Int.one_mul]
      rw [e, e]
      unfold inM at *
      refine ⟨by omega, by omega, by omega, by omega, by omega⟩
set_option maxRecDepth 10000
noncomputable def F56 : List AVal → Option AVal := pureF C5 1 56
theorem sound56 : Sound Tryz.prog 56 F56 := sound_self ok5 1 56
theorem F56_eq {n : Int} (h : 0 ≤ n ∧ n ≤ 1000000) : F56 [.int .i64 n] = some (enc (n * 1000000000000)) := by
  have e24 := F24_eq (a := n) (b := 1000000000000) (by unfold U; omega) (by unfold U; omega)
  have hw : n % 18446744073709551616 = n := Int.emod_eq_of_lt h.1 (by omega)
  unfold F56
  refine pureF_of (x := x56) rfl rfl ?_
  rw [x56_eq.1, x56_eq.2.1]
  simp (disch := first | omega | simp only [*, go_sem, ↓reduceIte, dropK_eq]) only [x56b, go_sem, ↓reduceIte, dropK_eq, callX_known (C := C5) (g := 24) rfl, ft_call (C := C5) (g := 24) rfl, hw, e24]
  exact Ends_plain rfl rfl
theorem F55_q {p q : Int} : F55 [enc p, enc q] = some (.bool (decide (p < q))) := by
  rw [F55_eq (U_lo p) (U_lo q), val_enc, val_enc]
noncomputable def C9 : Cfg := (C5.add 56 F56).add 57 F57
theorem ok9 : CfgOk Tryz.prog C9 := (ok5.add sound56).add sound57
noncomputable def F30 : List AVal → Option AVal := pureF C9 1 30
theorem sound30 : Sound Tryz.prog 30 F30 := sound_self ok9 1 30
theorem F30_nil : F30 [StK (ofL [])] = some (.bool true) := by
  unfold F30
  refine pureF_of (x := x30) rfl rfl ?_
  rw [x30_eq.1, x30_eq.2.1]
  simp (disch := first | omega | simp only [*, go_sem, ↓reduceIte, dropK_eq]) only [x30b, go_sem, ↓reduceIte, dropK_eq, ofL, List.foldl_nil, Int.zero_ediv, Int.zero_emod]
  exact Ends_plain rfl rfl
theorem F30_eq {l : List Int} (h : ∀ x ∈ l, inM x) (hl : l.length ≤ 1000000) : F30 [StK (ofL l)] = some (.bool true) := by
  by_cases hne : l = []
  · subst hne
    exact F30_nil
  have hB := ofL_stB h hl
  have e57 := F57_eq hB (ofL_sprd l)
  obtain ⟨h1, h2, h3⟩ := ofL_eq (l := l)
  obtain ⟨i1, i2, i3, i4, i5⟩ := ofL_ends h hne
  obtain ⟨_, j1, j2⟩ := ofL_bnd h hl
  have hn1 : 1 ≤ (ofL l).n := by
    rw [h1]
    have : l.length ≠ 0 := fun e => hne (List.length_eq_zero_iff.1 e)
    omega
  have e56 := F56_eq (n := (ofL l).n) (by have := hB.1; omega)
  have e55 := F55_q (p := (ofL l).n * 1000000000000) (q := (ofL l).q)
  rw [decide_eq_false (by rw [h1, h3]; omega)] at e55
  rw [← h1, ← h2] at i4 i5
  have b1 := hB.1.1
  have b2 := hB.1.2
  have l1 := i1.1
  have l2 := i1.2
  have l3 := i2.1
  have l4 := i2.2
  have w1 := sq_bnd (x := (ofL l).lo) (m := 1000000) i1
  have m1 : -1000000000000 ≤ (ofL l).n * (ofL l).lo ∧ (ofL l).n * (ofL l).lo ≤ 1000000000000 := by
    have g1 : (ofL l).n * (ofL l).lo ≤ (ofL l).n * 1000000 := Int.mul_le_mul_of_nonneg_left l2 b1
    have g2 : (ofL l).n * (-1000000) ≤ (ofL l).n * (ofL l).lo := Int.mul_le_mul_of_nonneg_left l1 b1
    omega
  have m2 : -1000000000000 ≤ (ofL l).n * (ofL l).hi ∧ (ofL l).n * (ofL l).hi ≤ 1000000000000 := by
    have g1 : (ofL l).n * (ofL l).hi ≤ (ofL l).n * 1000000 := Int.mul_le_mul_of_nonneg_left l4 b1
    have g2 : (ofL l).n * (-1000000) ≤ (ofL l).n * (ofL l).hi := Int.mul_le_mul_of_nonneg_left l3 b1
    omega
  have e20a := F20_eq i1
  have e20b := F20_eq i2
  have d0 : decide ((ofL l).n = 0) = false := decide_eq_false (by omega)
  have d1 : decide ((ofL l).n < 1) = false := decide_eq_false (by omega)
  have d2 : decide (1000000000 < (ofL l).n) = false := decide_eq_false (by omega)
  have d3 : decide ((ofL l).hi < (ofL l).lo) = false := decide_eq_false (by omega)
  have d4 : decide ((ofL l).s < (ofL l).n * (ofL l).lo) = false := decide_eq_false (by omega)
  have d5 : decide ((ofL l).n * (ofL l).hi < (ofL l).s) = false := decide_eq_false (by omega)
  clear h1 h2 h3 h hB hne j1 j2 i1 i2 w1
  generalize hP1 : (ofL l).n * (ofL l).lo = p1 at *
  generalize hP2 : (ofL l).n * (ofL l).hi = p2 at *
  generalize (ofL l).n * 1000000000000 = p3 at *
  generalize sprd (ofL l) = sp at *
  generalize ofL l = t at *
  unfold F30
  refine pureF_of (x := x30) rfl rfl ?_
  rw [x30_eq.1, x30_eq.2.1]
  simp (disch := first | omega | simp only [*, go_sem, ↓reduceIte, dropK_eq]) only [x30b, go_sem, ↓reduceIte, dropK_eq, callX_known (C := C9) (g := 20) rfl, ft_call (C := C9) (g := 20) rfl, callX_known (C := C9) (g := 55) rfl, ft_call (C := C9) (g := 55) rfl, callX_known (C := C9) (g := 56) rfl, ft_call (C := C9) (g := 56) rfl, callX_known (C := C9) (g := 57) rfl, ft_call (C := C9) (g := 57) rfl, e20a, e20b, e55, e56, e57, d0, d1, d2, d3, d4, d5, hP1, hP2]
  exact Ends_plain rfl rfl
set_option maxRecDepth 10000
noncomputable def C10 : Cfg := C9.add 30 F30
theorem ok10 : CfgOk Tryz.prog C10 := ok9.add sound30
noncomputable def F61 : List AVal → Option AVal := pureF C10 1 61
theorem sound61 : Sound Tryz.prog 61 F61 := sound_self ok10 1 61
theorem F61_eq {l : List Int} (h : ∀ x ∈ l, inM x) (hl : l.length ≤ 1000000) (hne : l ≠ []) : F61 [StK (ofL l)] = some (.tup [enc (sprd (ofL l)), .int .i64 0]) := by
  have e30 := F30_eq h hl
  have hB := ofL_stB h hl
  have e57 := F57_eq hB (ofL_sprd l)
  have hn : ¬ (ofL l).n = 0 := by rw [(ofL_eq (l := l)).1]; intro e; exact hne (List.length_eq_zero_iff.1 (by omega))
  have d1 := decide_eq_false hn
  clear hn hB h hl hne
  generalize sprd (ofL l) = sp at *
  generalize ofL l = t at *
  unfold F61
  refine pureF_of (x := x61) rfl rfl ?_
  rw [x61_eq.1, x61_eq.2.1]
  simp (disch := first | omega | simp only [*, go_sem, ↓reduceIte, dropK_eq]) only [x61b, go_sem, ↓reduceIte, dropK_eq, callX_known (C := C10) (g := 30) rfl, ft_call (C := C10) (g := 30) rfl, callX_known (C := C10) (g := 57) rfl, ft_call (C := C10) (g := 57) rfl, e30, e57, d1]
  exact Ends_plain rfl rfl
end Go.Proofs.YtkonpbcnekcjjaaGreatDoor
namespace Go.Proofs.YtkonpbcnekcjjaaGreatDoor.DV
open Go Go.Xec
attribute [local go_sem] tm0 ne_eq not_false_eq_true List.length_append List.length_replicate List.replicate_succ List.replicate_zero Int.cast_ofNat_Int not_true_eq_false decide_true decide_false ite_self beq_self_eq_true Bool.true_beq Bool.false_beq Bool.not_true Bool.not_false
attribute [local go_sem_proc] Nat.reduceAdd Nat.reduceMul Nat.reduceSub Nat.reduceLeDiff Nat.reduceLT Nat.reduceEqDiff Int.reduceLT Int.reduceLE Int.reduceAdd Int.reduceSub Int.reduceMul Int.reduceToNat Int.reducePow Int.reduceNe Int.reduceMod Int.reduceDiv Int.reduceEq Nat.reducePow Int.reduceNeg
set_option maxRecDepth 10000
theorem F81_low {l y : Int} (hl : U l) (hy : 0 < y) (hy2 : y < 18446744073709551616) : F81 [.int .u64 0, .int .u64 l, .int .u64 y] = some (.tup [.int .u64 (l / y), .int .u64 (l % y)]) := by
  have d1 : decide (y = 0) = false := decide_eq_false (by omega)
  have d2 : decide (y ≤ 0) = false := decide_eq_false (by omega)
  have hq : l.tdiv y = l / y := Int.tdiv_eq_ediv_of_nonneg hl.1
  have hr : l.tmod y = l % y := Int.tmod_eq_emod_of_nonneg hl.1
  have hb : l / y ≤ l := Int.ediv_le_self y hl.1
  have hb0 : 0 ≤ l / y := Int.ediv_nonneg hl.1 (by omega)
  have w1 : l / y % 18446744073709551616 = l / y := by have := hl.2; omega
  have hy0 : y ≠ 0 := by omega
  unfold F81
  refine pureF_of (x := x81) rfl rfl ?_
  rw [x81_eq.1, x81_eq.2.1]
  simp (disch := first | omega | simp only [*, go_sem, ↓reduceIte, dropK_eq]) only [x81b, go_sem, ↓reduceIte, dropK_eq, d1, d2, hq, hr, w1]
  exact Ends_plain rfl rfl
theorem F81_eq {h l y : Int} (hh : 0 ≤ h ∧ h < y) (hl : U l) (hy : y < 18446744073709551616) :
    F81 [.int .u64 h, .int .u64 l, .int .u64 y] = some (.tup [.int .u64 ((h * 18446744073709551616 + l) / y), .int .u64 ((h * 18446744073709551616 + l) % y)]) := by
  by_cases h0 : h = 0
  · subst h0
    rw [F81_low hl hh.2 hy, Int.zero_mul, Int.zero_add]
  · exact F81_high ⟨by omega, hh.2⟩ hl hy
noncomputable def C13 : Cfg := C12.add 81 F81
theorem ok13 : CfgOk Tryz.prog C13 := ok12.add sound81
noncomputable def F58 : List AVal → Option AVal := pureF C13 1 58
theorem sound58 : Sound Tryz.prog 58 F58 := sound_self ok13 1 58
theorem F58_eq {n y : Int} (hn : 0 ≤ n ∧ n < big) (hy : 0 < y ∧ y < 18446744073709551616) : F58 [enc n, enc y] = some (.tup [enc (n / y), enc (n % y), .int .i64 0]) := by
  have hU := U_hi hn
  have hL := U_lo n
  obtain ⟨h, l, rfl, hh, hl⟩ : ∃ h l : Int, n = h * 18446744073709551616 + l ∧ n / 18446744073709551616 = h ∧ n % 18446744073709551616 = l := ⟨_, _, by omega, rfl, rfl⟩
  have y1 : y / 18446744073709551616 = 0 := Int.ediv_eq_zero_of_lt (by omega) hy.2
  have y2 : y % 18446744073709551616 = y := Int.emod_eq_of_lt (by omega) hy.2
  have d1 : decide (y = 0) = false := decide_eq_false (by omega)
  rw [hh] at hU
  rw [hl] at hL
  have e1 := F81_low hU hy.1 hy.2
  have m0 := Int.emod_nonneg h (show y ≠ 0 by omega)
  have m1 := Int.emod_lt_of_pos h hy.1
  have e2 := F81_eq ⟨m0, m1⟩ hL hy.2
  have hd := Int.emod_add_mul_ediv h y

  have hN : h * 18446744073709551616 + l = (h % y * 18446744073709551616 + l) + h / y * 18446744073709551616 * y := by
    rw [Int.mul_right_comm, Int.mul_comm (h / y) y]
    omega
  have q0 : 0 ≤ (h % y * 18446744073709551616 + l) / y := Int.ediv_nonneg (by have := hL.1; omega) (by omega)
  have q1 : (h % y * 18446744073709551616 + l) / y < 18446744073709551616 := by
    rw [Int.ediv_lt_iff_lt_mul hy.1]
    have : (h % y + 1) * 18446744073709551616 ≤ y * 18446744073709551616 := Int.mul_le_mul_of_nonneg_right (by omega) (by decide)
    have := hL.2
    omega
  have r0 := Int.emod_nonneg (h % y * 18446744073709551616 + l) (show y ≠ 0 by omega)
  have r1 := Int.emod_lt_of_pos (h % y * 18446744073709551616 + l) hy.1
  have eq1 : (h * 18446744073709551616 + l) / y = (h % y * 18446744073709551616 + l) / y + h / y * 18446744073709551616 := by
    conv => lhs; rw [hN]
    exact Int.add_mul_ediv_right _ _ (by omega)
  have eq2 : (h * 18446744073709551616 + l) % y = (h % y * 18446744073709551616 + l) % y := by
    conv => lhs; rw [hN]
    exact Int.add_mul_emod_self_right _ _ _
  rw [eq1, eq2]
  have z1 : ((h % y * 18446744073709551616 + l) / y + h / y * 18446744073709551616) / 18446744073709551616 = h / y := by omega
  have z2 : ((h % y * 18446744073709551616 + l) / y + h / y * 18446744073709551616) % 18446744073709551616 = (h % y * 18446744073709551616 + l) / y := by omega
  have z3 : (h % y * 18446744073709551616 + l) % y / 18446744073709551616 = 0 := Int.ediv_eq_zero_of_lt r0 (by omega)
  have z4 : (h % y * 18446744073709551616 + l) % y % 18446744073709551616 = (h % y * 18446744073709551616 + l) % y := Int.emod_eq_of_lt r0 (by omega)
  clear hN eq1 eq2 hn hd q0 q1 r0 r1
  unfold F58
  refine pureF_of (x := x58) rfl rfl ?_
  rw [x58_eq.1, x58_eq.2.1]
  simp (disch := first | omega | simp only [*, go_sem, ↓reduceIte, dropK_eq]) only [x58b, go_sem, ↓reduceIte, dropK_eq, callX_known (C := C13) (g := 81) rfl, ft_call (C := C13) (g := 81) rfl, hh, hl, y1, y2, d1, e1, e2]
  refine Ends_plain rfl ?_
  show _ = AVal.tup [W (_ / 18446744073709551616) (_ % 18446744073709551616), W (_ / 18446744073709551616) (_ % 18446744073709551616), _]
  rw [z1, z2, z3, z4]
theorem F58_zero {n : Int} : F58 [enc n, enc 0] = some (.tup [enc 0, enc 0, .int .i64 4]) := by
  unfold F58
  refine pureF_of (x := x58) rfl rfl ?_
  rw [x58_eq.1, x58_eq.2.1]
  simp (disch := first | omega | simp only [*, go_sem, ↓reduceIte, dropK_eq]) only [x58b, go_sem, ↓reduceIte, dropK_eq, callX_known (C := C13) (g := 81) rfl, ft_call (C := C13) (g := 81) rfl, Int.zero_ediv, Int.zero_emod]
  exact Ends_plain rfl rfl
end Go.Proofs.YtkonpbcnekcjjaaGreatDoor.DV
namespace Go.Proofs.YtkonpbcnekcjjaaGreatDoor
open Go Go.Xec
theorem cellsOf_fn (f : Fn) (a b : List AVal) : cellsOf (.fn f a b) = [.fn f a b] := rfl
theorem isSc_fn (f : Fn) (a b : List AVal) : isSc (.fn f a b) = true := rfl
theorem cellsOf_ifc (t : TypeId) (v : AVal) : cellsOf (.ifc t v) = [.ifc t v] := rfl
theorem isSc_ifc (t : TypeId) (v : AVal) : isSc (.ifc t v) = true := rfl
theorem cellsOf_mp (k : Key) : cellsOf (.mp k) = [.mp k] := rfl
theorem isSc_mp (k : Key) : isSc (.mp k) = true := rfl
theorem lendV_fn0 (d : Nat) (f : Fn) (hp : Heap) : lendV (d + 1) (.fn f [] []) hp = some (.fn f [] []) := by
  simp [lendV, lend, lendL, Rd.run, Rd.bind]
theorem iaAA_pvo (n es : Nat) (cs : List AVal) (o : Nat) (kd : IntKind) (j : Int) : iaAA n es (.pvo cs o) (.int kd j) = if 0 ≤ j ∧ j < n then some (.pvo cs (o + j.toNat * es)) else none := rfl
attribute [go_sem] iaAA_pvo cellsOf_fn isSc_fn cellsOf_ifc isSc_ifc cellsOf_mp isSc_mp lendV_fn0
end Go.Proofs.YtkonpbcnekcjjaaGreatDoor
namespace Go.Proofs.YtkonpbcnekcjjaaGreatDoor
open Go Go.Xec
attribute [local go_sem] tm0 ne_eq not_false_eq_true List.length_append List.length_replicate List.replicate_succ List.replicate_zero Int.cast_ofNat_Int not_true_eq_false decide_true decide_false ite_self beq_self_eq_true Bool.true_beq Bool.false_beq Bool.not_true Bool.not_false
attribute [local go_sem_proc] Nat.reduceAdd Nat.reduceMul Nat.reduceSub Nat.reduceLeDiff Nat.reduceLT Nat.reduceEqDiff Int.reduceLT Int.reduceLE Int.reduceAdd Int.reduceSub Int.reduceMul Int.reduceToNat Int.reducePow Int.reduceNe Int.reduceMod Int.reduceDiv Int.reduceEq Nat.reducePow Int.reduceNeg
set_option maxRecDepth 10000
noncomputable def F94 : List AVal → Option AVal := pureF C3 1 94
theorem sound94 : Sound Tryz.prog 94 F94 := sound_self ok3 1 94
theorem F94_eq {x : Int} (h : -9223372036854775808 ≤ x ∧ x ≤ 9223372036854775807) : F94 [.int .i64 x] = some (.int .u64 (x.natAbs : Int)) := by
  unfold F94
  refine pureF_of (x := x94) rfl rfl ?_
  rw [x94_eq.1, x94_eq.2.1]
  by_cases hx : x < 0
  · have d := decide_eq_true hx
    simp (disch := first | omega | simp only [go_sem, ↓reduceIte, dropK_eq]) only [x94b, go_sem, ↓reduceIte, dropK_eq, d]
    refine Ends_plain rfl ?_
    congr 1
    omega
  · have d := decide_eq_false hx
    simp (disch := first | omega | simp only [go_sem, ↓reduceIte, dropK_eq]) only [x94b, go_sem, ↓reduceIte, dropK_eq, d]
    refine Ends_plain rfl ?_
    congr 1
    omega
noncomputable def F81 : List AVal → Option AVal := pureF C3 1 81
theorem sound81 : Sound Tryz.prog 81 F81 := sound_self ok3 1 81
theorem F81_low {l y : Int} (hl : U l) (hy : 0 < y) (hy2 : y < 18446744073709551616) : F81 [.int .u64 0, .int .u64 l, .int .u64 y] = some (.tup [.int .u64 (l / y), .int .u64 (l % y)]) := by
  have d1 : decide (y = 0) = false := decide_eq_false (by omega)
  have d2 : decide (y ≤ 0) = false := decide_eq_false (by omega)
  have hq : l.tdiv y = l / y := Int.tdiv_eq_ediv_of_nonneg hl.1
  have hr : l.tmod y = l % y := Int.tmod_eq_emod_of_nonneg hl.1
  have hb : l / y ≤ l := Int.ediv_le_self y hl.1
  have hb0 : 0 ≤ l / y := Int.ediv_nonneg hl.1 (by omega)
  have w1 : l / y % 18446744073709551616 = l / y := by have := hl.2; omega
  have hy0 : y ≠ 0 := by omega
  unfold F81
  refine pureF_of (x := x81) rfl rfl ?_
  rw [x81_eq.1, x81_eq.2.1]
  simp (disch := first | omega | simp only [*, go_sem, ↓reduceIte, dropK_eq]) only [x81b, go_sem, ↓reduceIte, dropK_eq, d1, d2, hq, hr, w1]
  exact Ends_plain rfl rfl
noncomputable def C20 : Cfg := (C3.add 94 F94).add 81 F81
theorem ok20 : CfgOk Tryz.prog C20 := (ok3.add sound94).add sound81
noncomputable def F58 : List AVal → Option AVal := pureF C20 1 58
theorem sound58 : Sound Tryz.prog 58 F58 := sound_self ok20 1 58
theorem F58_low {l y : Int} (hl : U l) (hy : 0 < y) (hy2 : y < 18446744073709551616) : F58 [W 0 l, W 0 y] = some (.tup [W 0 (l / y), W 0 (l % y), .int .i64 0]) := by
  have e1 := F81_low (l := 0) (by decide) hy hy2
  have e2 := F81_low hl hy hy2
  have d1 : decide (y = 0) = false := decide_eq_false (by omega)
  rw [Int.zero_ediv, Int.zero_emod] at e1
  unfold F58
  refine pureF_of (x := x58) rfl rfl ?_
  rw [x58_eq.1, x58_eq.2.1]
  simp (disch := first | omega | simp only [*, go_sem, ↓reduceIte, dropK_eq]) only [x58b, go_sem, ↓reduceIte, dropK_eq, callX_known (C := C20) (g := 81) rfl, ft_call (C := C20) (g := 81) rfl, d1, e1, e2]
  exact Ends_plain rfl rfl
noncomputable def F95 : List AVal → Option AVal := pureF C3 1 95
theorem sound95 : Sound Tryz.prog 95 F95 := sound_self ok3 1 95
theorem F95_eq {l : Int} {b : Bool} (h : 0 ≤ l ∧ l ≤ 9223372036854775807) : F95 [W 0 l, .bool b] = some (.int .i64 (if b = true then -l else l)) := by
  have d1 : decide (9223372036854775808 < l) = false := decide_eq_false (by omega)
  have d2 : decide (9223372036854775807 < l) = false := decide_eq_false (by omega)
  have w1 : IntKind.i64.wrap l = l := wrap_i64 (by omega) (by omega)
  have w2 : IntKind.i64.wrap ((0 - l) % 18446744073709551616) = -l := by
    by_cases h0 : l = 0
    · subst h0; rfl
    · rw [show (0 - l) % 18446744073709551616 = 18446744073709551616 - l by omega]
      simp only [IntKind.wrap, IntKind.signed, IntKind.bits]
      simp
      omega
  unfold F95
  refine pureF_of (x := x95) rfl rfl ?_
  rw [x95_eq.1, x95_eq.2.1]
  cases b <;>
  · simp (disch := first | omega | simp only [*, go_sem, ↓reduceIte, dropK_eq]) only [x95b, go_sem, ↓reduceIte, dropK_eq, d1, d2, w1, w2]
    exact Ends_plain rfl rfl
abbrev LV (q r c : Int) (b : Bool) : AVal := .agg [.int .u64 0, .int .u64 q, .int .u64 0, .int .u64 r, .int .u64 0, .int .u64 c, .bool b]
noncomputable def F118 : List AVal → Option AVal := pureF C3 1 118
theorem sound118 : Sound Tryz.prog 118 F118 := sound_self ok3 1 118
theorem F118_eq {q r c : Int} {b : Bool} : F118 [LV q r c b] = some (.bool (b && !decide (r = 0))) := by
  unfold F118
  refine pureF_of (x := x118) rfl rfl ?_
  rw [x118_eq.1, x118_eq.2.1]
  cases b <;>
  · simp (disch := first | omega | simp only [*, go_sem, ↓reduceIte, dropK_eq]) only [x118b, go_sem, ↓reduceIte, dropK_eq]
    exact Ends_plain rfl rfl
noncomputable def F119 : List AVal → Option AVal := pureF C3 1 119
theorem sound119 : Sound Tryz.prog 119 F119 := sound_self ok3 1 119
theorem F119_eq {q r c : Int} {b : Bool} : F119 [LV q r c b] = some (.bool (!b && !decide (r = 0))) := by
  unfold F119
  refine pureF_of (x := x119) rfl rfl ?_
  rw [x119_eq.1, x119_eq.2.1]
  cases b <;>
  · simp (disch := first | omega | simp only [*, go_sem, ↓reduceIte, dropK_eq]) only [x119b, go_sem, ↓reduceIte, dropK_eq]
    exact Ends_plain rfl rfl
noncomputable def F91 : List AVal → Option AVal := pureF C3 1 91
theorem sound91 : Sound Tryz.prog 91 F91 := sound_self ok3 1 91
def mdFs : List AVal := [.fn (.func 118) [] [], .fn (.func 119) [] [], .fn (.func 120) [] []]
theorem F91_eq : F91 [] = some (.agg mdFs) := by
  unfold F91
  refine pureF_of (x := x91) rfl rfl ?_
  rw [x91_eq.1, x91_eq.2.1]
  simp (disch := first | omega | simp only [go_sem, ↓reduceIte, dropK_eq]) only [x91b, go_sem, ↓reduceIte, dropK_eq]
  rw [Ends_eq]
  simp (disch := first | omega | simp only [go_sem, ↓reduceIte, dropK_eq]) only [go_sem, ↓reduceIte, dropK_eq]
  rfl
noncomputable def C21 : Cfg := (((((C20.add 58 F58).add 95 F95).add 118 F118).add 119 F119).add 91 F91)
theorem ok21 : CfgOk Tryz.prog C21 := (((((ok20.add sound58).add sound95).add sound118).add sound119).add sound91)
def rnd (n c m : Int) : Int := if m = 0 then n / c else -((-n) / c)
noncomputable def F93 : List AVal → Option AVal := pureF C21 1 93
theorem sound93 : Sound Tryz.prog 93 F93 := sound_self ok21 1 93
theorem neg_pos_div {p c : Int} (hc : 0 < c) (hp : 0 ≤ p) : (-p) / c = -(p / c) - (if p % c = 0 then 0 else 1) := by
  have h1 := Int.emod_add_mul_ediv p c
  have h2 := Int.emod_nonneg p (by omega : c ≠ 0)
  have h3 := Int.emod_lt_of_pos p hc
  by_cases h : p % c = 0
  · rw [if_pos h, Int.neg_ediv_of_dvd (Int.dvd_of_emod_eq_zero h)]
    omega
  · rw [if_neg h]
    have e : c * (-(p / c) - 1) = -(c * (p / c)) - c := by rw [Int.mul_sub, Int.mul_neg]; omega
    exact ((Int.ediv_emod_unique (r := c - p % c) hc).2 ⟨by omega, by omega, by omega⟩).1
theorem rnd_eq {p c : Int} {s : Bool} (hc : 0 < c) (hp : 0 ≤ p) :
    rnd (if s = true then -p else p) c 0 = (if s = true then -(p / c + (if (s && !decide (p % c = 0)) = true then 1 else 0)) else p / c + (if (s && !decide (p % c = 0)) = true then 1 else 0)) ∧
    rnd (if s = true then -p else p) c 1 = (if s = true then -(p / c + (if (!s && !decide (p % c = 0)) = true then 1 else 0)) else p / c + (if (!s && !decide (p % c = 0)) = true then 1 else 0)) := by
  have h := neg_pos_div hc hp
  unfold rnd
  cases s
  · simp only [Bool.false_eq_true, if_false, if_true, Bool.false_and, Bool.not_false, Bool.true_and]
    refine ⟨by omega, ?_⟩
    rw [if_neg (by decide), h]
    by_cases h0 : p % c = 0
    · simp [h0]
    · simp [h0]; omega
  · simp only [if_true, Bool.true_and, Bool.not_true, Bool.false_and, Bool.false_eq_true, if_false, Int.neg_neg]
    refine ⟨?_, ?_⟩
    · rw [h]
      by_cases h0 : p % c = 0
      · simp [h0]
      · simp [h0]; omega
    · rw [if_neg (by decide)]; omega
theorem sgn_eq {a b : Int} (ha : ¬ a = 0) (hb : ¬ b = 0) : a * b = (if (decide (a < 0) != decide (b < 0)) = true then -((a.natAbs : Int) * (b.natAbs : Int)) else (a.natAbs : Int) * (b.natAbs : Int)) := by
  rcases Int.lt_or_gt_of_ne ha with h1 | h1 <;> rcases Int.lt_or_gt_of_ne hb with h2 | h2
  · have e1 : ((a.natAbs : Int)) = -a := by omega
    have e2 : ((b.natAbs : Int)) = -b := by omega
    rw [e1, e2, Int.neg_mul_neg]; simp [h1, h2]
  · have e1 : ((a.natAbs : Int)) = -a := by omega
    have e2 : ((b.natAbs : Int)) = b := by omega
    have h3 : ¬ b < 0 := by omega
    rw [e1, e2, Int.neg_mul, Int.neg_neg]; simp [h1, h3]
  · have e1 : ((a.natAbs : Int)) = a := by omega
    have e2 : ((b.natAbs : Int)) = -b := by omega
    have h3 : ¬ a < 0 := by omega
    rw [e1, e2, Int.mul_neg, Int.neg_neg]; simp [h3, h2]
  · have e1 : ((a.natAbs : Int)) = a := by omega
    have e2 : ((b.natAbs : Int)) = b := by omega
    have h3 : ¬ a < 0 := by omega
    have h4 : ¬ b < 0 := by omega
    rw [e1, e2]; simp [h3, h4]
theorem rnd_zero (c m : Int) : rnd 0 c m = 0 := by
  unfold rnd; split <;> simp
theorem F93_eq {a b c m : Int} (hc : 0 < c) (hc2 : c < 9223372036854775808) (ha : -9223372036854775808 ≤ a ∧ a ≤ 9223372036854775807) (hb : -9223372036854775808 ≤ b ∧ b ≤ 9223372036854775807)
    (hab : (a.natAbs : Int) * (b.natAbs : Int) ≤ 9223372036854775806) (hm : m = 0 ∨ m = 1) :
    F93 [.pvo [.int .i64 c] 0, .pvo [.int .i64 a] 0, .pvo [.int .i64 b] 0, .pvo mdFs 0, .pvo [.int .i64 m] 0] = some (.int .i64 (rnd (a * b) c m)) := by
  have e1 := F94_eq (x := c) (by omega)
  have e2 := F94_eq ha
  have e3 := F94_eq hb
  rw [show ((c.natAbs : Nat) : Int) = c by omega] at e1
  have hA : U (a.natAbs : Int) := by simp only [U]; omega
  have hB : U (b.natAbs : Int) := by simp only [U]; omega
  have e4 := F24_eq hA hB
  have hp0 : 0 ≤ (a.natAbs : Int) * (b.natAbs : Int) := Int.mul_nonneg hA.1 hB.1
  have hcn : decide (c < 0) = false := decide_eq_false (by omega)
  have hz : a = 0 ∨ b = 0 ∨ (¬ a = 0 ∧ ¬ b = 0) := by omega
  have hsg := fun h1 h2 => sgn_eq (a := a) (b := b) h1 h2
  have hz0 : a = 0 ∨ b = 0 → a * b = 0 := by rintro (rfl | rfl) <;> simp
  generalize a * b = n at *
  generalize (a.natAbs : Int) * (b.natAbs : Int) = p at *
  have e5 := F58_low (l := p) (y := c) (by simp only [U]; omega) hc (by omega)
  have hq : p / c ≤ p := Int.ediv_le_self c hp0
  have hq0 : 0 ≤ p / c := Int.ediv_nonneg hp0 (by omega)
  simp only [enc] at e4
  rw [show p / 18446744073709551616 = 0 by omega, show p % 18446744073709551616 = p by omega] at e4
  have hrn := fun s => rnd_eq (p := p) (c := c) (s := s) hc hp0
  have e243 := F10_eq (ah := 0) (al := p / c) (bh := 0) (bl := 1) (by decide) (by simp only [U]; omega) (by decide) (by decide)
  have hv : (val 0 (p / c) + val 0 1) % big = p / c + 1 := by simp only [val, big]; omega
  rw [hv] at e243
  simp only [enc] at e243
  rw [show (p / c + 1) / 18446744073709551616 = 0 by omega, show (p / c + 1) % 18446744073709551616 = p / c + 1 by omega] at e243
  have e249a : ∀ s : Bool, F95 [W 0 (p / c), .bool s] = some (.int .i64 (if s = true then -(p / c) else p / c)) := fun s => F95_eq ⟨by omega, by omega⟩
  have e249b : ∀ s : Bool, F95 [W 0 (p / c + 1), .bool s] = some (.int .i64 (if s = true then -(p / c + 1) else p / c + 1)) := fun s => F95_eq ⟨by omega, by omega⟩
  rcases hz with h | h | ⟨h1, h2⟩
  · have d1 : decide (a = 0) = true := decide_eq_true h
    rw [hz0 (.inl h), rnd_zero]
    unfold F93
    refine pureF_of (x := x93) rfl rfl ?_
    rw [x93_eq.1, x93_eq.2.1]
    clear hrn hsg hz0 h e243 e249a e249b
    generalize decide (a < 0) = s1
    generalize decide (b < 0) = s2
    simp (disch := first | omega | simp only [*, go_sem, ↓reduceIte, dropK_eq]) only [x93b, go_sem, ↓reduceIte, dropK_eq, callX_known (C := C21) (g := 94) rfl, ft_call (C := C21) (g := 94) rfl, callX_known (C := C21) (g := 24) rfl, ft_call (C := C21) (g := 24) rfl, callX_known (C := C21) (g := 58) rfl, ft_call (C := C21) (g := 58) rfl, e1, e2, e3, e4, e5, d1, hcn, ft_mkf]
    exact Ends_plain rfl rfl
  · have d2 : decide (b = 0) = true := decide_eq_true h
    rw [hz0 (.inr h), rnd_zero]
    unfold F93
    refine pureF_of (x := x93) rfl rfl ?_
    rw [x93_eq.1, x93_eq.2.1]
    clear hrn hsg hz0 h e243 e249a e249b
    generalize decide (a < 0) = s1
    generalize decide (b < 0) = s2
    generalize hd : decide (a = 0) = d1
    cases d1 <;>
    · simp (disch := first | omega | simp only [*, go_sem, ↓reduceIte, dropK_eq]) only [x93b, go_sem, ↓reduceIte, dropK_eq, callX_known (C := C21) (g := 94) rfl, ft_call (C := C21) (g := 94) rfl, callX_known (C := C21) (g := 24) rfl, ft_call (C := C21) (g := 24) rfl, callX_known (C := C21) (g := 58) rfl, ft_call (C := C21) (g := 58) rfl, e1, e2, e3, e4, e5, hd, d2, hcn]
      exact Ends_plain rfl rfl
  · have d1 : decide (a = 0) = false := decide_eq_false h1
    have d2 : decide (b = 0) = false := decide_eq_false h2
    have hn := hsg h1 h2
    have hr0 := hrn (decide (a < 0) != decide (b < 0))
    rw [← hn] at hr0
    clear hsg hz0 hn hrn h1 h2 ha hb
    unfold F93
    refine pureF_of (x := x93) rfl rfl ?_
    rw [x93_eq.1, x93_eq.2.1]
    generalize hs1 : decide (a < 0) = s1 at *
    generalize hs2 : decide (b < 0) = s2 at *
    generalize hrr : decide (p % c = 0) = r0 at *
    cases s1 <;> cases s2 <;> cases r0 <;> rcases hm with rfl | rfl
    all_goals
      simp (disch := first | omega | simp only [*, go_sem, ↓reduceIte, dropK_eq]) only [x93b, go_sem, ↓reduceIte, dropK_eq, callX_known (C := C21) (g := 94) rfl, ft_call (C := C21) (g := 94) rfl, callX_known (C := C21) (g := 24) rfl, ft_call (C := C21) (g := 24) rfl, callX_known (C := C21) (g := 58) rfl, ft_call (C := C21) (g := 58) rfl, callX_known (C := C21) (g := 118) rfl, ft_call (C := C21) (g := 118) rfl, callX_known (C := C21) (g := 119) rfl, ft_call (C := C21) (g := 119) rfl, callX_known (C := C21) (g := 10) rfl, ft_call (C := C21) (g := 10) rfl, callX_known (C := C21) (g := 95) rfl, ft_call (C := C21) (g := 95) rfl, e1, e2, e3, e4, e5, hs1, hs2, d1, d2, hcn, mdFs, F118_eq, F119_eq, hrr, e243, e249a, e249b]
      refine Ends_plain rfl ?_
      refine congrArg (AVal.int .i64) ?_
      first | rw [hr0.1] | rw [hr0.2]
      simp
end Go.Proofs.YtkonpbcnekcjjaaGreatDoor
namespace Go.Proofs.YtkonpbcnekcjjaaGreatDoor
open Go Go.Xec Go.RowKit
theorem calls_sound {f : FuncId} {fn : Func} {F : List AVal → Option AVal} (hf : Tryz.prog.funcs[f]? = some fn) (hname : (fn.name == "runtime.NumGoroutine") = false) (hb : fn.body.isSome = true)
    (hs : Sound Tryz.prog f F) {ys : List AVal} {r : AVal} (hF : F ys = some r) (w : World) (hL : Laid Tryz.prog w) {vs : List Value} (hl : VL (ctx0 w fun b => b < w.heap.size) ys vs) :
    Calls Tryz.prog f vs.toArray w fun e w' => ∃ v, e = .returned v ∧ Below w.heap.size w w' ∧ V (ctx0 w' fun b => b < w'.heap.size) r v := by
  rcases hs ys r hF w _ vs (fun _ h => h) hL hl with ⟨_, h⟩ | ⟨v, w', h, _⟩
  · refine h.mono ?_
    rintro e w' ⟨v, rfl, h1, h2, h3, h4⟩
    refine ⟨v, rfl, ⟨h3.1, h3.2.1, h3.2.2, h1, h2⟩, ?_⟩
    have e : (fun b => b < w.heap.size ∨ (w.heap.size ≤ b ∧ b < w'.heap.size)) = fun b => b < w'.heap.size := by
      funext b
      apply propext
      omega
    rw [e] at h4
    exact h4
  · exfalso
    cases hbb : fn.body with
    | none => rw [hbb] at hb; cases hb
    | some c =>
      simp only [callFunc, Sem.run_bind, run_program, Result.andThen_ok, hf, hname, hbb] at h
      simp at h
theorem below_laid {w w' : World} (hL : Laid Tryz.prog w) (h : Below w.heap.size w w') : Laid Tryz.prog w' := hL.keep h.block
theorem heap_alloc (w : World) (o : Obj) : (w.alloc o).heap = w.heap.push o := rfl
theorem catch_idle (p q : Addr) (w : World) :
    CallsD Tryz.prog 121 #[.pointer (some p), .pointer (some q)] .returning w fun e u' w' => e = .returned (.tuple #[]) ∧ u' = .returning ∧ w' = w := by
  refine callsD_of_wpS Tryz.func121 rfl fun c₀ cs hu => ?_
  apply wpS_seq
  apply wpS_region
  simp [wpOpsS, go_sem, recoverD, hu, Tryz.ntmps121, Exit.thenS]
  apply wpS_seq
  apply wpS_region
  simp [wpOpsS, go_sem, Exit.thenS]
  refine wpS_cond (t := false) (by simp [Act.eval, Array.replicate]) ?_
  simp only [Bool.false_eq_true, if_false]
  refine wpS_of_wp (wp_skip ?_)
  cases c₀
  simp_all [bodyPostS, results, Tryz.results121]
theorem try_calls (caps : Array Value) (n : Int) (w : World) (h : ∀ w', Below w.heap.size w w' → Calls Tryz.prog 93 caps w' fun e w'' => e = .returned (.int .i64 n) ∧ Below w'.heap.size w' w'') :
    Calls Tryz.prog 92 #[.func (.func 93) #[] caps] w fun e w' => e = .returned (.tuple #[.int .i64 n, .int .i64 0]) ∧ Below w.heap.size w w' := by
  have hmf : ∀ (fn : Fn) (first cap : Array Value) (w : World), (Instr.makeFunc fn first cap).run Tryz.prog w = .ok (.func fn first cap) w := fun _ _ _ _ => rfl
  go_enter_defers Tryz.func92, Tryz.ntmps92
  go_wp2_with fail
  have h01 : Below w.heap.size w ((w.alloc (.cells #[.int .i64 0] 3)).alloc (.cells #[.int .i64 0] 29)) := ((Below.refl _ _).alloc (Nat.le_refl _) _).alloc (by simp) _
  refine (h _ h01).mono ?_
  rintro e w2 ⟨rfl, hb⟩
  have hsz : w.heap.size + 2 ≤ w2.heap.size := by have := hb.size; simp at this; omega
  have c0 : w2.cell? ⟨w.heap.size, 0, none⟩ = some (.int .i64 0) := by
    rw [hb.cell (by simp; omega)]
    simp
  have c1 : w2.cell? ⟨w.heap.size + 1, 0, none⟩ = some (.int .i64 0) := by
    rw [hb.cell (by simp)]
    simp [World.cell?_alloc_at]
  have f0 : w2.frozen? ⟨w.heap.size, 0, none⟩ = false := by
    rw [hb.frozen (by simp; omega)]
    simp
  have f1 : w2.frozen? ⟨w.heap.size + 1, 0, none⟩ = false := by
    rw [hb.frozen (by simp)]
    simp [World.frozen?_alloc_at]
  go_wp2
  have b2 : Below w.heap.size w ((w2.setCell ⟨w.heap.size, 0, none⟩ (.int .i64 n)).setCell ⟨w.heap.size + 1, 0, none⟩ (.int .i64 0)) :=
    ((h01.trans (hb.mono (by simp; omega))).setCell (by simp) _).setCell (by simp) _
  have d0 : ((w2.setCell ⟨w.heap.size, 0, none⟩ (.int .i64 n)).setCell ⟨w.heap.size + 1, 0, none⟩ (.int .i64 0)).cell? ⟨w.heap.size, 0, none⟩ = some (.int .i64 n) := by
    rw [World.cell?_setCell_other _ _ _ _ (by simp)]
    exact World.cell?_setCell_same _ _ _ c0
  have d1 : ((w2.setCell ⟨w.heap.size, 0, none⟩ (.int .i64 n)).setCell ⟨w.heap.size + 1, 0, none⟩ (.int .i64 0)).cell? ⟨w.heap.size + 1, 0, none⟩ = some (.int .i64 0) := by
    refine World.cell?_setCell_same _ _ _ ((World.cell?_setCell_other _ _ _ _ (by simp)).trans c1)
  generalize ((w2.setCell ⟨w.heap.size, 0, none⟩ (.int .i64 n)).setCell ⟨w.heap.size + 1, 0, none⟩ (.int .i64 0)) = w3 at *
  refine leaves_cons (f := 121) (args := #[.pointer (some ⟨w.heap.size, 0, none⟩), .pointer (some ⟨w.heap.size + 1, 0, none⟩)]) (by simp) (by simp [go_sem]) ?_
  refine (catch_idle ⟨w.heap.size, 0, none⟩ ⟨w.heap.size + 1, 0, none⟩ _).mono ?_
  rintro e u' w'' ⟨rfl, rfl, rfl⟩
  simp [Leaves, settle, results, Tryz.results92, go_sem, d0, d1]
  exact b2
theorem VL_nil0 (x : Ctx) : VL x [] [] := by simp [VL]
theorem V_pvo1 {w : World} {S : Nat → Prop} {k : IntKind} {n : Int} {b : Nat} (hS : S b) (h : w.cell? ⟨b, 0, none⟩ = some (.int k n)) : V (ctx0 w S) (.pvo [.int k n] 0) (.pointer (some ⟨b, 0, none⟩)) := by
  simp only [V, VC]
  exact ⟨b, 0, rfl, hS, ⟨_, h, rfl⟩, trivial⟩
def F_md : List AVal → Option AVal
  | [.int .i64 a, .int .i64 b, .int .i64 c, .int .i64 m] => if (0 < c ∧ c < 9223372036854775808) ∧ (-9223372036854775808 ≤ a ∧ a ≤ 9223372036854775807) ∧ (-9223372036854775808 ≤ b ∧ b ≤ 9223372036854775807) ∧ (a.natAbs : Int) * (b.natAbs : Int) ≤ 9223372036854775806 ∧ (m = 0 ∨ m = 1) then some (.tup [.int .i64 (rnd (a * b) c m), .int .i64 0]) else none
  | _ => none
theorem md_calls {a b c m : Int} (hc : 0 < c) (hc2 : c < 9223372036854775808) (ha : -9223372036854775808 ≤ a ∧ a ≤ 9223372036854775807) (hb : -9223372036854775808 ≤ b ∧ b ≤ 9223372036854775807)
    (hab : (a.natAbs : Int) * (b.natAbs : Int) ≤ 9223372036854775806) (hm : m = 0 ∨ m = 1) (w : World) (hL : Laid Tryz.prog w) :
    Calls Tryz.prog 67 #[.int .i64 a, .int .i64 b, .int .i64 c, .int .i64 m] w fun e w' => e = .returned (.tuple #[.int .i64 (rnd (a * b) c m), .int .i64 0]) ∧ Below w.heap.size w w' := by
  have hmf : ∀ (fn : Fn) (first cap : Array Value) (w : World), (Instr.makeFunc fn first cap).run Tryz.prog w = .ok (.func fn first cap) w := fun _ _ _ _ => rfl
  have hF := F93_eq hc hc2 ha hb hab hm
  go_enter Tryz.func67, Tryz.ntmps67
  go_wp2_with fail
  obtain ⟨w4, hw4⟩ : ∃ w4, w4 = ((((w.alloc (.cells #[.int .i64 a] 3)).alloc (.cells #[.int .i64 b] 3)).alloc (.cells #[.int .i64 c] 3)).alloc (.cells #[.int .i64 m] 3)) := ⟨_, rfl⟩
  rw [← hw4]
  have b4 : Below w.heap.size w w4 := by
    rw [hw4]
    exact ((((Below.refl _ _).alloc (Nat.le_refl _) _).alloc (by simp) _).alloc (by simp; omega) _).alloc (by simp; omega) _
  have s4 : w4.heap.size = w.heap.size + 4 := by rw [hw4]; simp
  have ca : w4.cell? ⟨w.heap.size, 0, none⟩ = some (.int .i64 a) := by
    rw [hw4, World.cell?_alloc_past _ _ _ (by simp; omega), World.cell?_alloc_past _ _ _ (by simp; omega), World.cell?_alloc_past _ _ _ (by simp)]
    simp
  have cb : w4.cell? ⟨w.heap.size + 1, 0, none⟩ = some (.int .i64 b) := by rw [hw4]; simp [World.cell?_alloc_at, World.cell?_alloc_past]
  have cc : w4.cell? ⟨w.heap.size + 1 + 1, 0, none⟩ = some (.int .i64 c) := by rw [hw4]; simp [World.cell?_alloc_at, World.cell?_alloc_past]
  have cm : w4.cell? ⟨w.heap.size + 1 + 1 + 1, 0, none⟩ = some (.int .i64 m) := by rw [hw4]; simp [World.cell?_alloc_at, World.cell?_alloc_past]
  clear hw4
  refine (calls_sound Tryz.func91 (by kernel_rfl) (by kernel_rfl) sound91 F91_eq w4 (below_laid hL b4) (vs := []) (VL_nil0 _)).mono ?_
  rintro e w5 ⟨v, rfl, b5, hv⟩
  simp only [mdFs, V, VL] at hv
  obtain ⟨cs, rfl, _, _, rfl, ⟨_, _, rfl, rfl, rfl⟩, _, _, rfl, ⟨_, _, rfl, rfl, rfl⟩, _, _, rfl, ⟨_, _, rfl, rfl, rfl⟩, rfl⟩ := hv
  have s5 := b5.size
  have ca5 := (b5.cell (p := ⟨w.heap.size, 0, none⟩) (by simp; omega)).trans ca
  have cb5 := (b5.cell (p := ⟨w.heap.size + 1, 0, none⟩) (by simp; omega)).trans cb
  have cc5 := (b5.cell (p := ⟨w.heap.size + 1 + 1, 0, none⟩) (by simp; omega)).trans cc
  have cm5 := (b5.cell (p := ⟨w.heap.size + 1 + 1 + 1, 0, none⟩) (by simp; omega)).trans cm
  have b05 : Below w.heap.size w w5 := b4.trans (b5.mono (by omega))
  clear ca cb cc cm b5
  have cm6 : ∀ o, (w5.alloc o).cell? ⟨w.heap.size + 1 + 1 + 1, 0, none⟩ = some (.int .i64 m) := fun o => by rw [World.cell?_alloc_past _ _ _ (by omega)]; exact cm5
  have cc6 : ∀ o, (w5.alloc o).cell? ⟨w.heap.size + 1 + 1, 0, none⟩ = some (.int .i64 c) := fun o => by rw [World.cell?_alloc_past _ _ _ (by omega)]; exact cc5
  go_wp2_with fail
  obtain ⟨w6, hw6⟩ : ∃ w6, w6 = w5.alloc (.cells #[.func (.func 118) #[] #[], .func (.func 119) #[] #[], .func (.func 120) #[] #[]] 199) := ⟨_, rfl⟩
  rw [← hw6]
  have b6 : Below w5.heap.size w5 w6 := by rw [hw6]; exact (Below.refl _ _).alloc (Nat.le_refl _) _
  have s6 : w6.heap.size = w5.heap.size + 1 := by rw [hw6]; simp
  have g0 : w6.cell? ⟨w5.heap.size, 0, none⟩ = some (.func (.func 118) #[] #[]) := by rw [hw6]; simp
  have g1 : w6.cell? ⟨w5.heap.size, 1, none⟩ = some (.func (.func 119) #[] #[]) := by rw [hw6]; simp
  have g2 : w6.cell? ⟨w5.heap.size, 2, none⟩ = some (.func (.func 120) #[] #[]) := by rw [hw6]; simp
  have ca6 := (b6.cell (p := ⟨w.heap.size, 0, none⟩) (by simp; omega)).trans ca5
  have cb6 := (b6.cell (p := ⟨w.heap.size + 1, 0, none⟩) (by simp; omega)).trans cb5
  have cc7 := (b6.cell (p := ⟨w.heap.size + 1 + 1, 0, none⟩) (by simp; omega)).trans cc5
  have cm7 := (b6.cell (p := ⟨w.heap.size + 1 + 1 + 1, 0, none⟩) (by simp; omega)).trans cm5
  have b06 : Below w.heap.size w w6 := b05.trans (b6.mono (by omega))
  clear hw6 cm6 cc6
  refine (try_calls _ (rnd (a * b) c m) w6 fun w7 b7 => ?_).mono ?_
  · have s7 := b7.size
    refine (calls_sound Tryz.func93 (by kernel_rfl) (by kernel_rfl) sound93 hF w7 (below_laid (below_laid hL b06) b7) (vs := [.pointer (some ⟨w.heap.size + 1 + 1, 0, none⟩), .pointer (some ⟨w.heap.size, 0, none⟩), .pointer (some ⟨w.heap.size + 1, 0, none⟩), .pointer (some ⟨w5.heap.size, 0, none⟩), .pointer (some ⟨w.heap.size + 1 + 1 + 1, 0, none⟩)]) ?_).mono ?_
    · have va := V_pvo1 (S := fun b => b < w7.heap.size) (b := w.heap.size) (by show w.heap.size < w7.heap.size; omega) ((b7.cell (p := ⟨w.heap.size, 0, none⟩) (by simp; omega)).trans ca6)
      have vb := V_pvo1 (S := fun b => b < w7.heap.size) (b := w.heap.size + 1) (by show w.heap.size + 1 < w7.heap.size; omega) ((b7.cell (p := ⟨w.heap.size + 1, 0, none⟩) (by simp; omega)).trans cb6)
      have vc := V_pvo1 (S := fun b => b < w7.heap.size) (b := w.heap.size + 1 + 1) (by show w.heap.size + 1 + 1 < w7.heap.size; omega) ((b7.cell (p := ⟨w.heap.size + 1 + 1, 0, none⟩) (by simp; omega)).trans cc7)
      have vm := V_pvo1 (S := fun b => b < w7.heap.size) (b := w.heap.size + 1 + 1 + 1) (by show w.heap.size + 1 + 1 + 1 < w7.heap.size; omega) ((b7.cell (p := ⟨w.heap.size + 1 + 1 + 1, 0, none⟩) (by simp; omega)).trans cm7)
      have vf : V (ctx0 w7 fun b => b < w7.heap.size) (.pvo mdFs 0) (.pointer (some ⟨w5.heap.size, 0, none⟩)) := by
        simp only [V, VC, mdFs, VL]
        refine ⟨w5.heap.size, 0, rfl, by show w5.heap.size < w7.heap.size; omega, ?_⟩
        exact ⟨⟨_, (b7.cell (p := ⟨w5.heap.size, 0, none⟩) (by simp; omega)).trans g0, [], [], rfl, rfl, rfl⟩, ⟨_, (b7.cell (p := ⟨w5.heap.size, 1, none⟩) (by simp; omega)).trans g1, [], [], rfl, rfl, rfl⟩, ⟨_, (b7.cell (p := ⟨w5.heap.size, 2, none⟩) (by simp; omega)).trans g2, [], [], rfl, rfl, rfl⟩, trivial⟩
      simp only [VL]
      exact ⟨_, _, rfl, vc, _, _, rfl, va, _, _, rfl, vb, _, _, rfl, vf, _, _, rfl, vm, rfl⟩
    · rintro e w8 ⟨v, rfl, b8, hv⟩
      have hv := V_int hv
      subst hv
      exact ⟨rfl, b8⟩
  · rintro e w8 ⟨rfl, b8⟩
    go_wp2
    go_ret2
    exact ⟨rfl, b06.trans (b8.mono (by omega))⟩
theorem sound67 : Sound Tryz.prog 67 F_md := by
  refine sound_calls Tryz.func67 (by kernel_rfl) (by kernel_rfl) ?_
  intro ys r hr w S vs hS hL hl
  unfold F_md at hr
  split at hr
  · rename_i a b c m
    split at hr
    · rename_i hx
      cases hr
      simp only [VL] at hl
      obtain ⟨u1, _, rfl, e1, u2, _, rfl, e2, u3, _, rfl, e3, u4, _, rfl, e4, rfl⟩ := hl
      have e1 := V_int e1
      have e2 := V_int e2
      have e3 := V_int e3
      have e4 := V_int e4
      subst e1 e2 e3 e4
      obtain ⟨h1, h2, h3, h4, h5⟩ := hx
      refine (md_calls h1.1 h1.2 h2 h3 h4 h5 w hL).mono ?_
      rintro e w' ⟨rfl, hb⟩
      obtain ⟨q1, q2, q3⟩ := env_below hb
      refine ⟨_, rfl, q1, q2, q3, ?_⟩
      simp only [V, VL]
      exact ⟨_, rfl, _, _, rfl, rfl, _, _, rfl, rfl, rfl⟩
    · cases hr
  · cases hr
end Go.Proofs.YtkonpbcnekcjjaaGreatDoor
namespace Go.Proofs.YtkonpbcnekcjjaaGreatDoor.DV
open Go Go.Xec
theorem sq_lt {a b : Int} (h0 : 0 ≤ a) (h : a < b) : a * a < b * b := by
  have h1 : a * a ≤ a * b := Int.mul_le_mul_of_nonneg_left (by omega) h0
  have h2 : a * b < b * b := Int.mul_lt_mul_of_pos_right h (by omega)
  omega
theorem sq_le_sq {a b : Int} (h0 : 0 ≤ b) (h : a * a ≤ b * b) : a ≤ b := by
  refine Classical.byContradiction fun hn => ?_
  have := sq_lt h0 (show b < a by omega)
  omega
theorem isqI_ge {v r : Int} (hv : 0 ≤ v) (h0 : 0 ≤ r) (h : r * r ≤ v) : r ≤ RT.isqI v := by
  obtain ⟨i0, i1, i2⟩ := RT.isqI_spec hv
  refine Classical.byContradiction fun hn => ?_
  have h1 : (RT.isqI v + 1) * (RT.isqI v + 1) ≤ r * r := Int.mul_le_mul (by omega) (by omega) (by omega) (by omega)
  omega
theorem upI_le {v u : Int} (hv : 0 ≤ v) (h0 : 0 ≤ u) (h : v ≤ u * u) : RT.upI v ≤ u := by
  obtain ⟨i0, i1, i2⟩ := RT.isqI_spec hv
  unfold RT.upI
  split
  · rename_i e
    exact sq_le_sq h0 (by omega)
  · rename_i e
    refine Classical.byContradiction fun hn => ?_
    have h1 : u * u ≤ RT.isqI v * RT.isqI v := Int.mul_le_mul (by omega) (by omega) h0 (by omega)
    omega
def rtLo (n d : Int) : Int := RT.isqI (n / d)
def rtUp (n d : Int) : Int := if n % d = 0 then n / d else n / d + 1
def rtHi (n d : Int) : Int := RT.upI (rtUp n d)
theorem rtLo_spec {n d : Int} (hn : 0 ≤ n) (hd : 0 < d) : 0 ≤ rtLo n d ∧ rtLo n d * rtLo n d * d ≤ n ∧ ∀ r, 0 ≤ r → r * r * d ≤ n → r ≤ rtLo n d := by
  have hq : 0 ≤ n / d := Int.ediv_nonneg hn (by omega)
  obtain ⟨i0, i1, i2⟩ := RT.isqI_spec hq
  refine ⟨i0, ?_, fun r h0 h => ?_⟩
  · have h1 : RT.isqI (n / d) * RT.isqI (n / d) * d ≤ n / d * d := Int.mul_le_mul_of_nonneg_right i1 (by omega)
    exact Int.le_trans h1 (Int.ediv_mul_le n (by omega))
  · exact isqI_ge hq h0 (Int.le_ediv_of_mul_le hd h)
theorem rtUp_spec {n d : Int} (hn : 0 ≤ n) (hd : 0 < d) : 0 ≤ rtUp n d ∧ n ≤ rtUp n d * d ∧ ∀ c, n ≤ c * d → rtUp n d ≤ c := by
  have hq : 0 ≤ n / d := Int.ediv_nonneg hn (by omega)
  have e := Int.emod_add_mul_ediv n d
  rw [Int.mul_comm] at e
  have m0 := Int.emod_nonneg n (show d ≠ 0 by omega)
  have m1 := Int.emod_lt_of_pos n hd
  unfold rtUp
  split
  · rename_i h
    refine ⟨hq, by omega, fun c hc => ?_⟩
    have : n / d * d ≤ c * d := by omega
    exact Int.le_of_mul_le_mul_right this hd
  · rename_i h
    refine ⟨by omega, by rw [Int.add_mul, Int.one_mul]; omega, fun c hc => ?_⟩
    have : n / d * d < c * d := by omega
    have := Int.lt_of_mul_lt_mul_right this (by omega)
    omega
theorem rtHi_spec {n d : Int} (hn : 0 ≤ n) (hd : 0 < d) : 0 ≤ rtHi n d ∧ n ≤ rtHi n d * rtHi n d * d ∧ ∀ u, 0 ≤ u → n ≤ u * u * d → rtHi n d ≤ u := by
  obtain ⟨c0, c1, c2⟩ := rtUp_spec hn hd
  obtain ⟨i0, i1, i2⟩ := RT.isqI_spec c0
  have hu := RT.upI_spec c0
  refine ⟨Int.le_trans i0 hu.1, ?_, fun u h0 h => upI_le c0 h0 (c2 _ h)⟩
  exact Int.le_trans c1 (Int.mul_le_mul_of_nonneg_right hu.2 (by omega))
theorem rt_lohi {n d : Int} (hn : 0 ≤ n) (hd : 0 < d) : rtLo n d ≤ rtHi n d := by
  obtain ⟨l0, l1, _⟩ := rtLo_spec hn hd
  obtain ⟨h0, h1, _⟩ := rtHi_spec hn hd
  exact sq_le_sq h0 (Int.le_of_mul_le_mul_right (Int.le_trans l1 h1) hd)
theorem rt_mono {n d n' d' : Int} (hn : 0 ≤ n) (hd : 0 < d) (hn' : 0 ≤ n') (hd' : 0 < d') (h : n * d' ≤ n' * d) : rtLo n d ≤ rtLo n' d' ∧ rtHi n d ≤ rtHi n' d' := by
  obtain ⟨l0, l1, _⟩ := rtLo_spec hn hd
  obtain ⟨_, _, l2⟩ := rtLo_spec hn' hd'
  obtain ⟨_, _, h2⟩ := rtHi_spec hn hd
  obtain ⟨h0, h1, _⟩ := rtHi_spec hn' hd'
  refine ⟨l2 _ l0 (Int.le_of_mul_le_mul_right (a := d) ?_ hd), h2 _ h0 (Int.le_of_mul_le_mul_right (a := d') ?_ hd')⟩
  · have := Int.mul_le_mul_of_nonneg_right l1 (show 0 ≤ d' by omega)
    rw [Int.mul_right_comm]
    omega
  · have := Int.mul_le_mul_of_nonneg_right h1 (show 0 ≤ d by omega)
    rw [Int.mul_right_comm]
    omega
theorem rt_two {n d : Int} (hn : 0 ≤ n) (hd : 0 < d) : 2 * rtLo n d ≤ rtLo (4 * n) d ∧ rtHi (4 * n) d ≤ 2 * rtHi n d := by
  obtain ⟨l0, l1, _⟩ := rtLo_spec hn hd
  obtain ⟨_, _, l2⟩ := rtLo_spec (n := 4 * n) (by omega) hd
  obtain ⟨h0, h1, _⟩ := rtHi_spec hn hd
  obtain ⟨_, _, h2⟩ := rtHi_spec (n := 4 * n) (by omega) hd
  have e : ∀ r : Int, 2 * r * (2 * r) * d = 4 * (r * r * d) := fun r => by
    rw [show 2 * r * (2 * r) = 4 * (r * r) by rw [Int.mul_assoc, Int.mul_left_comm r, ← Int.mul_assoc]; rfl, Int.mul_assoc]
  exact ⟨l2 _ (by omega) (by rw [e]; omega), h2 _ (by omega) (by rw [e]; omega)⟩
end Go.Proofs.YtkonpbcnekcjjaaGreatDoor.DV
namespace Go.Proofs.YtkonpbcnekcjjaaGreatDoor.DV
open Go Go.Xec
attribute [local go_sem] tm0 ne_eq not_false_eq_true List.length_append List.length_replicate List.replicate_succ List.replicate_zero Int.cast_ofNat_Int not_true_eq_false decide_true decide_false ite_self beq_self_eq_true Bool.true_beq Bool.false_beq Bool.not_true Bool.not_false
attribute [local go_sem_proc] Nat.reduceAdd Nat.reduceMul Nat.reduceSub Nat.reduceLeDiff Nat.reduceLT Nat.reduceEqDiff Int.reduceLT Int.reduceLE Int.reduceAdd Int.reduceSub Int.reduceMul Int.reduceToNat Int.reducePow Int.reduceNe Int.reduceMod Int.reduceDiv Int.reduceEq Nat.reducePow Int.reduceNeg
set_option maxRecDepth 10000
noncomputable def CW0 : Cfg := (((C10.add 58 F58).add 59 RT.F59).add 60 RT.F60).add 61 F61
theorem okW0 : CfgOk Tryz.prog CW0 := (((ok10.add sound58).add RT.sound59).add RT.sound60).add sound61
noncomputable def F54 : List AVal → Option AVal := pureF CW0 1 54
theorem sound54 : Sound Tryz.prog 54 F54 := sound_self okW0 1 54
theorem F54_true {e : Int} : F54 [.bool true, .int .i64 e] = some (.tup []) := by
  unfold F54
  refine pureF_of (x := x54) rfl rfl ?_
  rw [x54_eq.1, x54_eq.2.1]
  simp (disch := first | omega | simp only [*, go_sem, ↓reduceIte, dropK_eq]) only [x54b, go_sem, ↓reduceIte, dropK_eq]
  exact Ends_plain rfl rfl
noncomputable def CW : Cfg := CW0.add 54 F54
theorem okW : CfgOk Tryz.prog CW := okW0.add sound54
abbrev u64s (l : List Int) : List AVal := l.map (AVal.int .u64)
def prd (l : List Int) : Int := l.foldl (· * ·) 1
theorem prd_snoc (l : List Int) (x : Int) : prd (l ++ [x]) = prd l * x := by simp [prd]
theorem u64s_ia {l : List Int} {i : Nat} (hi : i < l.length) : iaSA 1 (.slc 1 (u64s l)) (.int .i64 i) = some (.pvo [.int .u64 (l.getD i 0)] 0) := by
  rw [iaSA_slc]
  simp [List.getElem?_map, List.getElem?_eq_getElem hi, cellsOf]
theorem F9_n {p b : Int} (hp : 0 ≤ p ∧ p < big) (hb : U b) (h : p * b < big) : F9 [enc p, W 0 b] = some (.tup [enc (p * b), .bool false]) := by
  have h0 : U 0 := by unfold U; omega
  have hn := Int.mul_nonneg hp.1 hb.1
  have e : val 0 b = b := by unfold val; omega
  rw [F9_eq (U_hi hp) (U_lo p) h0 hb, val_enc, e, Int.emod_eq_of_lt hn h, decide_eq_false (by omega)]
theorem rt_bnd {n d : Int} (hn : 0 ≤ n ∧ n ≤ 1000000000000000000000000000000000000) (hd : 0 < d) : (0 ≤ rtLo n d ∧ rtLo n d ≤ 1000000000000000000) ∧ (0 ≤ rtHi n d ∧ rtHi n d ≤ 1000000000000000000) := by
  obtain ⟨h0, h1, h2⟩ := rtHi_spec hn.1 hd
  have h3 : rtHi n d ≤ 1000000000000000000 := h2 _ (by decide) (by
    have := Int.mul_le_mul_of_nonneg_left (show 1 ≤ d by omega) (show (0 : Int) ≤ 1000000000000000000 * 1000000000000000000 by decide)
    omega)
  have h4 := rt_lohi hn.1 hd
  have h5 := (rtLo_spec hn.1 hd).1
  omega
noncomputable def F31 : List AVal → Option AVal := pureF CW 1 31
theorem sound31 : Sound Tryz.prog 31 F31 := sound_self okW 1 31
theorem F31_eq {s b : Int} {l : List Int} (hs : 0 ≤ s ∧ s < big) (hb : U b) (hl : ∀ x ∈ l, U x) (hll : l.length ≤ 100) (hp : ∀ i, prd (l.take i) ≤ 1000000000000000000000000000000000000) (hd : 0 < s * b ∧ s * b < 18446744073709551616) :
    F31 [enc s, .int .u64 b, .slc 1 (u64s l)] = some (.agg [.int .i64 (rtLo (prd l) (s * b)), .int .i64 (rtHi (prd l) (s * b))]) := by
  have hp0 : ∀ i, 0 ≤ prd (l.take i) := by
    intro i
    induction i with
    | zero => simp [prd]
    | succ i ih =>
      rcases Nat.lt_or_ge i l.length with h | h
      · rw [take_snoc h, prd_snoc]
        refine Int.mul_nonneg ih (hl _ ?_).1
        rw [List.getD_eq_getElem?_getD, List.getElem?_eq_getElem h]
        exact List.getElem_mem h
      · rw [List.take_of_length_le (by omega)]
        rwa [List.take_of_length_le (by omega)] at ih
  have hlenV : lenVA (.slc 1 (u64s l)) = some (.int .i64 l.length) := by simp [lenVA]
  unfold F31
  refine pureF_of (x := x31) rfl rfl ?_
  rw [x31_eq.1, x31_eq.2.1]
  simp (disch := first | omega | simp only [*, go_sem, ↓reduceIte, dropK_eq]) only [x31b, go_sem, ↓reduceIte, dropK_eq, hlenV]
  refine Ev_range (ti := 19) (len := l.length) (J := fun i tm hp nc => hp (31001001, 1) = some (.var [.int .u64 (prd (l.take i) / 18446744073709551616), .int .u64 (prd (l.take i) % 18446744073709551616)]) ∧ hp (31000000, 0) = some (.var [.int .u64 (s / 18446744073709551616), .int .u64 (s % 18446744073709551616)]) ∧ hp (31000001, 0) = some (.var [.int .i64 0, .int .i64 0])) (by omega) (by simp only [go_sem, ↓reduceIte, dropK_eq]) ?_ ?_
  · simp only [go_sem, ↓reduceIte, dropK_eq, List.take_zero, prd, List.foldl_nil]
  rintro i tm hp' nc hi' hc k19 ⟨kq, kr, kt⟩
  have k1 := hc 1 rfl; have k3 := hc 3 rfl; have k6 := hc 6 rfl; have k7 := hc 7 rfl; have k17 := hc 17 rfl; have k18 := hc 18 rfl; simp only [go_sem, ↓reduceIte, dropK_eq] at k1 k3 k6 k7 k17 k18
  rcases Nat.lt_or_ge i l.length with hlt | hge
  · have d1 : decide ((i : Int) < (l.length : Int)) = true := decide_eq_true (by omega)
    have ia := u64s_ia hlt
    have hx : U (l.getD i 0) := hl _ (by rw [List.getD_eq_getElem?_getD, List.getElem?_eq_getElem hlt]; exact List.getElem_mem hlt)
    have hsn : prd (l.take (i + 1)) = prd (l.take i) * l.getD i 0 := by rw [take_snoc hlt, prd_snoc]
    have hb1 := hp i
    have hb2 := hp (i + 1)
    have hb3 := hp0 i
    rw [hsn] at hb2
    have e9 := F9_n (p := prd (l.take i)) (b := l.getD i 0) ⟨hb3, by unfold big; omega⟩ hx (by unfold big; omega)
    rw [← hsn] at e9
    clear hp hp0 hsn hx hb1 hb2 hb3
    generalize l.getD i 0 = y at *
    generalize prd (l.take i) = p0 at *
    generalize prd (l.take (i + 1)) = p1 at *
    simp (disch := first | omega | simp only [*, go_sem, ↓reduceIte, dropK_eq]) only [x31l3, go_sem, ↓reduceIte, dropK_eq, k1, k3, k6, k7, k17, k18, k19, d1, ia, kq, kr, kt, callX_known (C := CW) (g := 9) rfl, ft_call (C := CW) (g := 9) rfl, e9]
    exact ⟨hlt, by simp⟩
  · obtain rfl : i = l.length := by omega
    have d1 : decide ((l.length : Int) < (l.length : Int)) = false := decide_eq_false (by omega)
    have hpb := hp l.length
    have hpn := hp0 l.length
    rw [List.take_length] at *
    have e9 := F9_n (p := s) (b := b) hs hb (by unfold big; omega)
    generalize hD : s * b = D at *
    have e58 := F58_eq (n := prd l) (y := D) ⟨hpn, by unfold big; omega⟩ hd
    have hq : 0 ≤ prd l / D ∧ prd l / D ≤ prd l := ⟨Int.ediv_nonneg hpn (by omega), Int.ediv_le_self D hpn⟩
    have hm0 := Int.emod_nonneg (prd l) (show D ≠ 0 by omega)
    have hm1 := Int.emod_lt_of_pos (prd l) hd.1
    have hqb : 0 ≤ prd l / D ∧ prd l / D < big := by unfold big; omega
    have e59 : RT.F59 [enc (prd l / D)] = some (.int .u64 (rtLo (prd l) D)) := by
      have := RT.F59_eq (U_hi hqb) (U_lo (prd l / D))
      rwa [val_enc] at this
    have e60 : ∀ v, 0 ≤ v ∧ v < big → RT.F60 [enc v] = some (enc (RT.upI v)) := fun v hv => by
      have := RT.F60_eq (U_hi hv) (U_lo v)
      rwa [val_enc] at this
    have e54 := F54_true (e := 6)
    obtain ⟨⟨r0, r1⟩, r2, r3⟩ := rt_bnd ⟨hpn, hpb⟩ hd.1
    have z1 : (prd l % D) / 18446744073709551616 = 0 := Int.ediv_eq_zero_of_lt hm0 (by omega)
    have z2 : (prd l % D) % 18446744073709551616 = prd l % D := Int.emod_eq_of_lt hm0 (by omega)
    have w1 : rtHi (prd l) D % 18446744073709551616 = rtHi (prd l) D := Int.emod_eq_of_lt r2 (by omega)
    by_cases hz : prd l % D = 0
    · have e60' := e60 (prd l / D) hqb
      rw [show RT.upI (prd l / D) = rtHi (prd l) D by unfold rtHi rtUp; rw [if_pos hz]] at e60'
      have d2 : decide (prd l % D = 0) = true := decide_eq_true hz
      clear hz hp hp0 hl e60 hm0 hm1 hq hqb hpb hpn hi'
      generalize rtLo (prd l) D = lo at *
      generalize rtHi (prd l) D = hi at *
      generalize prd l / D = q at *
      generalize prd l % D = m at *
      simp (disch := first | omega | simp only [*, go_sem, ↓reduceIte, dropK_eq]) only [x31l3, go_sem, ↓reduceIte, dropK_eq, k1, k3, k6, k7, k17, k18, k19, d1, kq, kr, kt, callX_known (C := CW) (g := 9) rfl, ft_call (C := CW) (g := 9) rfl, callX_known (C := CW) (g := 54) rfl, ft_call (C := CW) (g := 54) rfl, callX_known (C := CW) (g := 58) rfl, ft_call (C := CW) (g := 58) rfl, callX_known (C := CW) (g := 59) rfl, ft_call (C := CW) (g := 59) rfl, callX_known (C := CW) (g := 60) rfl, ft_call (C := CW) (g := 60) rfl, e9, e58, e54, e59, e60', z1, z2, d2, w1]
      exact Ends_plain rfl rfl
    · have hu : rtUp (prd l) D = prd l / D + 1 := if_neg hz
      have hdm := Int.emod_add_mul_ediv (prd l) D
      have e60' := e60 (prd l / D + 1) (by unfold big; omega)
      rw [show RT.upI (prd l / D + 1) = rtHi (prd l) D by unfold rtHi; rw [hu]] at e60'
      have e10 : F10 [enc (prd l / D), W 0 1] = some (.tup [enc (prd l / D + 1), .bool false]) := F10_q (p := prd l / D) (q := 1) hqb (by decide) (by unfold big; omega)
      have d2 : decide (prd l % D = 0) = false := decide_eq_false hz
      clear hz hp hp0 hl e60 hm0 hm1 hq hqb hpb hpn hi' hu hdm
      generalize rtLo (prd l) D = lo at *
      generalize rtHi (prd l) D = hi at *
      generalize prd l / D + 1 = q1 at *
      generalize prd l / D = q at *
      generalize prd l % D = m at *
      simp (disch := first | omega | simp only [*, go_sem, ↓reduceIte, dropK_eq]) only [x31l3, go_sem, ↓reduceIte, dropK_eq, k1, k3, k6, k7, k17, k18, k19, d1, kq, kr, kt, callX_known (C := CW) (g := 9) rfl, ft_call (C := CW) (g := 9) rfl, callX_known (C := CW) (g := 10) rfl, ft_call (C := CW) (g := 10) rfl, callX_known (C := CW) (g := 54) rfl, ft_call (C := CW) (g := 54) rfl, callX_known (C := CW) (g := 58) rfl, ft_call (C := CW) (g := 58) rfl, callX_known (C := CW) (g := 59) rfl, ft_call (C := CW) (g := 59) rfl, callX_known (C := CW) (g := 60) rfl, ft_call (C := CW) (g := 60) rfl, e9, e10, e58, e54, e59, e60', z1, z2, d2, w1]
      exact Ends_plain rfl rfl
set_option maxRecDepth 10000
noncomputable def F29 : List AVal → Option AVal := pureF CW 1 29
theorem sound29 : Sound Tryz.prog 29 F29 := sound_self okW 1 29
theorem F29_eq {a b k : Int} (ha : -1000000 ≤ a) (hb : b ≤ 1000000) (hab : a < b) (hk : 1 ≤ k ∧ k ≤ 1000) : F29 [.bool true, .int .i64 a, .int .i64 b, .int .i64 k] = some (.tup []) := by
  have d1 := decide_eq_true ha
  have d2 := decide_eq_true hb
  have d3 := decide_eq_true hab
  have d4 := decide_eq_true hk.1
  have d5 := decide_eq_true hk.2
  have e1 := F54_true (e := 1)
  have e3 := F54_true (e := 3)
  clear ha hb hab hk
  unfold F29
  refine pureF_of (x := x29) rfl rfl ?_
  rw [x29_eq.1, x29_eq.2.1]
  simp (disch := first | omega | simp only [*, go_sem, ↓reduceIte, dropK_eq]) only [x29b, go_sem, ↓reduceIte, dropK_eq, callX_known (C := CW) (g := 54) rfl, ft_call (C := CW) (g := 54) rfl, d1, d2, d3, d4, d5, e1, e3]
  exact Ends_plain rfl rfl
structure StG (t : Stt) (S : Int) : Prop where
  n : 0 ≤ t.n ∧ t.n ≤ 100
  s : -10000000 ≤ t.s ∧ t.s ≤ 10000000
  Sb : 0 ≤ S ∧ S ≤ 100000000000000
  e30 : F30 [StK t] = some (.bool true)
  e61 : t.n ≠ 0 → F61 [StK t] = some (.tup [enc S, .int .i64 0])
theorem sqL_c {l : List Int} (h : ∀ x ∈ l, -100000 ≤ x ∧ x ≤ 100000) : (-(l.length * 100000 : Int) ≤ sumL l ∧ sumL l ≤ l.length * 100000) ∧ sqL l ≤ l.length * 10000000000 := by
  induction l using snoc_ind with
  | h0 => decide
  | hs l x ih =>
    have h1 := h x (by simp)
    obtain ⟨⟨i1, i2⟩, i3⟩ := ih (fun y hy => h y (by simp [hy]))
    have h2 := sq_bnd (x := x) (m := 100000) h1
    rw [sqL_snoc, sumL_snoc, List.length_append, List.length_cons, List.length_nil]
    refine ⟨⟨?_, ?_⟩, ?_⟩ <;> omega
theorem stG_of {l : List Int} (h : ∀ x ∈ l, -100000 ≤ x ∧ x ≤ 100000) (hl : l.length ≤ 100) : StG (ofL l) (sprd (ofL l)) := by
  have hin : ∀ x ∈ l, inM x := fun x hx => by have := h x hx; unfold inM; omega
  obtain ⟨h1, h2, h3⟩ := ofL_eq (l := l)
  obtain ⟨⟨i1, i2⟩, i3⟩ := sqL_c h
  have h0 := ofL_sprd l
  refine ⟨by rw [h1]; omega, by rw [h2]; omega, ⟨h0, ?_⟩, F30_eq hin (by omega), fun hn => F61_eq hin (by omega) (fun e => hn (by rw [h1, e]; rfl))⟩
  unfold sprd
  rw [h1, h2, h3]
  have h4 := (sq_bnd (x := sumL l) (m := max (sumL l) (-(sumL l))) (by omega)).1
  have h5 : (l.length : Int) * sqL l ≤ 100 * 1000000000000 := Int.mul_le_mul (by omega) (by omega) (by have := (ofL_bnd hin (by omega)).2.1; exact this) (by decide)
  omega
noncomputable def F32 : List AVal → Option AVal := pureF CW 1 32
theorem sound32 : Sound Tryz.prog 32 F32 := sound_self okW 1 32
theorem F32_eq {t : Stt} {S : Int} (h : StG t S) (hn : 2 ≤ t.n) : F32 [StK t] = some (enc S) := by
  have e61 := h.e61 (by omega)
  have hn2 := h.n.2
  have d1 := decide_eq_true hn
  have d2 : decide (t.n ≤ 1000) = true := decide_eq_true (by omega)
  have e12 := F54_true (e := 12)
  have e2 := F54_true (e := 2)
  clear h hn hn2
  unfold F32
  refine pureF_of (x := x32) rfl rfl ?_
  rw [x32_eq.1, x32_eq.2.1]
  simp (disch := first | omega | simp only [*, go_sem, ↓reduceIte, dropK_eq]) only [x32b, go_sem, ↓reduceIte, dropK_eq, callX_known (C := CW) (g := 54) rfl, ft_call (C := CW) (g := 54) rfl, callX_known (C := CW) (g := 61) rfl, ft_call (C := CW) (g := 61) rfl, d1, d2, e12, e2, e61]
  exact Ends_plain rfl rfl
noncomputable def CV : Cfg := ((CW.add 29 F29).add 31 F31).add 32 F32
theorem okV : CfgOk Tryz.prog CV := ((okW.add sound29).add sound31).add sound32
theorem F31_l {s b : Int} {l : List Int} (hs : 0 ≤ s ∧ s < big) (hb : U b) (hl : ∀ x ∈ l, U x) (hll : l.length ≤ 100) (hp : ∀ i, prd (l.take i) ≤ 1000000000000000000000000000000000000) (hd : 0 < s * b ∧ s * b < 18446744073709551616) {r : Int × Int}
    (hr : r = (rtLo (prd l) (s * b), rtHi (prd l) (s * b))) : F31 [enc s, .int .u64 b, .slc 1 (u64s l)] = some (.agg [.int .i64 r.1, .int .i64 r.2]) := by
  rw [hr]; exact F31_eq hs hb hl hll hp hd
def ppL (w n k : Int) : List Int := [w, w, n, n - 1, k, k]
def ppkL (f n k : Int) : List Int := [f, f, n - 1, k, k]
theorem mul_b {a b m k : Int} (ha : 0 ≤ a ∧ a ≤ m) (hb : 0 ≤ b ∧ b ≤ k) : 0 ≤ a * b ∧ a * b ≤ m * k := ⟨Int.mul_nonneg ha.1 hb.1, Int.mul_le_mul ha.2 hb.2 hb.1 (by omega)⟩
theorem ppL_b {w n k : Int} (hw : 0 ≤ w ∧ w ≤ 3000000) (hn : 1 ≤ n ∧ n ≤ 1000) (hk : 0 ≤ k ∧ k ≤ 1000) : (∀ x ∈ ppL w n k, U x) ∧ ∀ i, prd ((ppL w n k).take i) ≤ 1000000000000000000000000000000000000 := by
  refine ⟨?_, ?_⟩
  · intro x hx
    simp only [ppL, List.mem_cons, List.not_mem_nil, or_false] at hx
    unfold U
    rcases hx with rfl | rfl | rfl | rfl | rfl | rfl <;> omega
  · have h1 := mul_b hw hw
    have h2 := mul_b h1 (show 0 ≤ n ∧ n ≤ 1000 by omega)
    have h3 := mul_b h2 (show 0 ≤ n - 1 ∧ n - 1 ≤ 1000 by omega)
    have h4 := mul_b h3 hk
    have h5 := mul_b h4 hk
    intro i
    rcases i with _ | _ | _ | _ | _ | _ | i
    · show prd [] ≤ _; decide
    · simp only [ppL, List.take_succ_cons, List.take_zero, prd, List.foldl_cons, List.foldl_nil, Int.one_mul]; omega
    · simp only [ppL, List.take_succ_cons, List.take_zero, prd, List.foldl_cons, List.foldl_nil, Int.one_mul]; omega
    · simp only [ppL, List.take_succ_cons, List.take_zero, prd, List.foldl_cons, List.foldl_nil, Int.one_mul]; omega
    · simp only [ppL, List.take_succ_cons, List.take_zero, prd, List.foldl_cons, List.foldl_nil, Int.one_mul]; omega
    · simp only [ppL, List.take_succ_cons, List.take_zero, prd, List.foldl_cons, List.foldl_nil, Int.one_mul]; omega
    · simp only [ppL, List.take_succ_cons, List.take_nil, prd, List.foldl_cons, List.foldl_nil, Int.one_mul]; omega
theorem ppkL_b {w n k : Int} (hw : 0 ≤ w ∧ w ≤ 3000000000) (hn : 1 ≤ n ∧ n ≤ 1000) (hk : 0 ≤ k ∧ k ≤ 1000) : (∀ x ∈ ppkL w n k, U x) ∧ ∀ i, prd ((ppkL w n k).take i) ≤ 1000000000000000000000000000000000000 := by
  refine ⟨?_, ?_⟩
  · intro x hx
    simp only [ppkL, List.mem_cons, List.not_mem_nil, or_false] at hx
    unfold U
    rcases hx with rfl | rfl | rfl | rfl | rfl <;> omega
  · have h1 := mul_b hw hw
    have h3 := mul_b h1 (show 0 ≤ n - 1 ∧ n - 1 ≤ 1000 by omega)
    have h4 := mul_b h3 hk
    have h5 := mul_b h4 hk
    intro i
    rcases i with _ | _ | _ | _ | _ | i
    · show prd [] ≤ _; decide
    · simp only [ppkL, List.take_succ_cons, List.take_zero, prd, List.foldl_cons, List.foldl_nil, Int.one_mul]; omega
    · simp only [ppkL, List.take_succ_cons, List.take_zero, prd, List.foldl_cons, List.foldl_nil, Int.one_mul]; omega
    · simp only [ppkL, List.take_succ_cons, List.take_zero, prd, List.foldl_cons, List.foldl_nil, Int.one_mul]; omega
    · simp only [ppkL, List.take_succ_cons, List.take_zero, prd, List.foldl_cons, List.foldl_nil, Int.one_mul]; omega
    · simp only [ppkL, List.take_succ_cons, List.take_nil, prd, List.foldl_cons, List.foldl_nil, Int.one_mul]; omega
def ppA (S w n k : Int) : Int × Int := (rtLo (prd (ppL w n k)) (S * 36), rtHi (prd (ppL w n k)) (S * 36))
noncomputable def F28 : List AVal → Option AVal := pureF CV 1 28
theorem sound28 : Sound Tryz.prog 28 F28 := sound_self okV 1 28
abbrev p1 (n : Int) : AVal := .pvo [.int .i64 n] 0
theorem F28_eq {t : Stt} {S a b k : Int} (h : StG t S) (hn : 2 ≤ t.n) (hS : S ≠ 0) (ha : -1000000 ≤ a) (hb : b ≤ 1000000) (hab : a < b) (hk : 1 ≤ k ∧ k ≤ 1000) :
    F28 [.pvo (StC t) 0, p1 a, p1 b, p1 k] = some (.agg [.int .i64 (ppA S (b - a) t.n k).1, .int .i64 (ppA S (b - a) t.n k).2]) := by
  have e30 := h.e30
  have e29 := F29_eq ha hb hab hk
  have e32 := F32_eq h hn
  have hn0 := h.n
  have hS0 := h.Sb
  obtain ⟨l1, l2⟩ := ppL_b (w := b - a) (n := t.n) (k := k) (by omega) (by omega) (by omega)
  have e31 : F31 [enc S, .int .u64 36, .slc 1 [.int .u64 (b - a), .int .u64 (b - a), .int .u64 t.n, .int .u64 (t.n - 1), .int .u64 k, .int .u64 k]] = _ := F31_l (s := S) (b := 36) (l := ppL (b - a) t.n k) (by unfold big; omega) (by unfold U; omega) l1 (by simp [ppL]) l2 (by omega) (r := ppA S (b - a) t.n k) rfl
  have m1 : mnxA true (.int .i64 t.n) [.int .i64 1] = some (.int .i64 t.n) := by rw [mnx_max, Int.max_eq_left (by omega)]
  have w1 : (b - a) % 18446744073709551616 = b - a := Int.emod_eq_of_lt (by omega) (by omega)
  have w2 : k % 18446744073709551616 = k := Int.emod_eq_of_lt (by omega) (by omega)
  have w3 : t.n % 18446744073709551616 = t.n := Int.emod_eq_of_lt (by omega) (by omega)
  have w4 : (t.n - 1) % 18446744073709551616 = t.n - 1 := Int.emod_eq_of_lt (by omega) (by omega)
  generalize ppA S (b - a) t.n k = r at *
  clear h l1 l2 hS
  unfold F28
  refine pureF_of (x := x28) rfl rfl ?_
  rw [x28_eq.1, x28_eq.2.1]
  simp (disch := first | omega | simp only [*, go_sem, ↓reduceIte, dropK_eq]) only [x28b, go_sem, ↓reduceIte, dropK_eq, callX_known (C := CV) (g := 29) rfl, ft_call (C := CV) (g := 29) rfl, callX_known (C := CV) (g := 30) rfl, ft_call (C := CV) (g := 30) rfl, callX_known (C := CV) (g := 32) rfl, ft_call (C := CV) (g := 32) rfl, callX_names (C := CV) (g := 31) rfl, ftC_names (C := CV) (g := 31) rfl, e30, e29, e32, e31, m1, w1, w2, w3, w4]
  exact Ends_plain rfl rfl
def nearA (a b s n : Int) : Int := min (b * n - s) (s - a * n)
def ppkA (S f n k : Int) : Int × Int := (rtLo (prd (ppkL f n k)) (S * (9 * n)), rtHi (prd (ppkL f n k)) (S * (9 * n)))
def ppkR (S a b s n k : Int) : Int × Int := if nearA a b s n < 0 then (-(ppkA S (-(nearA a b s n)) n k).2, -(ppkA S (-(nearA a b s n)) n k).1) else ppkA S (nearA a b s n) n k
noncomputable def F33 : List AVal → Option AVal := pureF CV 1 33
theorem sound33 : Sound Tryz.prog 33 F33 := sound_self okV 1 33
theorem near_b {a b s n : Int} (hn : 0 ≤ n ∧ n ≤ 100) (hs : -10000000 ≤ s ∧ s ≤ 10000000) (ha : -1000000 ≤ a) (hb : b ≤ 1000000) (hab : a < b) : (-100000000 ≤ a * n ∧ a * n ≤ 100000000) ∧ (-100000000 ≤ b * n ∧ b * n ≤ 100000000) ∧ -200000000 ≤ nearA a b s n ∧ nearA a b s n ≤ 200000000 := by
  have h1 : -1000000 * n ≤ a * n := Int.mul_le_mul_of_nonneg_right ha (by omega)
  have h2 : a * n ≤ 1000000 * n := Int.mul_le_mul_of_nonneg_right (by omega) (by omega)
  have h3 : -1000000 * n ≤ b * n := Int.mul_le_mul_of_nonneg_right (by omega) (by omega)
  have h4 : b * n ≤ 1000000 * n := Int.mul_le_mul_of_nonneg_right hb (by omega)
  unfold nearA
  omega
theorem ppkA_b {S f n k : Int} (hS : 0 < S ∧ S ≤ 100000000000000) (hf : 0 ≤ f ∧ f ≤ 3000000000) (hn : 2 ≤ n ∧ n ≤ 100) (hk : 1 ≤ k ∧ k ≤ 1000) :
    F31 [enc S, .int .u64 (9 * n), .slc 1 [.int .u64 f, .int .u64 f, .int .u64 (n - 1), .int .u64 k, .int .u64 k]] = some (.agg [.int .i64 (ppkA S f n k).1, .int .i64 (ppkA S f n k).2]) ∧ (0 ≤ (ppkA S f n k).1 ∧ (ppkA S f n k).1 ≤ 1000000000000000000) ∧ (0 ≤ (ppkA S f n k).2 ∧ (ppkA S f n k).2 ≤ 1000000000000000000) := by
  obtain ⟨l1, l2⟩ := ppkL_b (w := f) (n := n) (k := k) hf (by omega) (by omega)
  have h1 : S * (9 * n) ≤ 100000000000000 * 900 := Int.mul_le_mul hS.2 (by omega) (by omega) (by decide)
  have h2 : 0 < S * (9 * n) := Int.mul_pos hS.1 (by omega)
  refine ⟨F31_l (s := S) (b := 9 * n) (l := ppkL f n k) (by unfold big; omega) (by unfold U; omega) l1 (by simp [ppkL]) l2 ⟨h2, by omega⟩ (r := ppkA S f n k) rfl, ?_⟩
  have h3 : 0 ≤ prd (ppkL f n k) := by
    simp only [ppkL, prd, List.foldl_cons, List.foldl_nil, Int.one_mul]
    exact Int.mul_nonneg (Int.mul_nonneg (Int.mul_nonneg (Int.mul_nonneg hf.1 hf.1) (by omega)) (by omega)) (by omega)
  have h4 := l2 5
  simp only [ppkL, List.take_succ_cons, List.take_zero] at h4
  exact rt_bnd ⟨h3, h4⟩ h2
theorem F33_eq {t : Stt} {S a b k : Int} (h : StG t S) (hn : 2 ≤ t.n) (hS : S ≠ 0) (ha : -1000000 ≤ a) (hb : b ≤ 1000000) (hab : a < b) (hk : 1 ≤ k ∧ k ≤ 1000) :
    F33 [.pvo (StC t) 0, p1 a, p1 b, p1 k] = some (.agg [.int .i64 (ppkR S a b t.s t.n k).1, .int .i64 (ppkR S a b t.s t.n k).2]) := by
  have e30 := h.e30
  have e29 := F29_eq ha hb hab hk
  have e32 := F32_eq h hn
  have hn0 := h.n
  have hs0 := h.s
  have hS0 := h.Sb
  obtain ⟨⟨q1, q2⟩, ⟨q3, q4⟩, q5, q6⟩ := near_b (s := t.s) hn0 hs0 ha hb hab
  have m1 : mnxA true (.int .i64 t.n) [.int .i64 1] = some (.int .i64 t.n) := by rw [mnx_max, Int.max_eq_left (by omega)]
  have m2 : mnxA false (.int .i64 (b * t.n - t.s)) [.int .i64 (t.s - a * t.n)] = some (.int .i64 (nearA a b t.s t.n)) := mnx_min
  have w2 : k % 18446744073709551616 = k := Int.emod_eq_of_lt (by omega) (by omega)
  have w3 : t.n % 18446744073709551616 = t.n := Int.emod_eq_of_lt (by omega) (by omega)
  have w4 : (t.n - 1) % 18446744073709551616 = t.n - 1 := Int.emod_eq_of_lt (by omega) (by omega)
  have w5 : 9 * t.n % 18446744073709551616 = 9 * t.n := Int.emod_eq_of_lt (by omega) (by omega)
  unfold ppkR
  generalize nearA a b t.s t.n = nr at *
  have m3 : mnxA true (.int .i64 nr) [.int .i64 (0 - nr)] = some (.int .i64 (max nr (-nr))) := by rw [mnx_max, Int.zero_sub]
  unfold F33
  refine pureF_of (x := x33) rfl rfl ?_
  rw [x33_eq.1, x33_eq.2.1]
  by_cases hneg : nr < 0
  · have d1 := decide_eq_true hneg
    rw [if_pos hneg]
    obtain ⟨e31, ⟨r1, r2⟩, r3, r4⟩ := ppkA_b (S := S) (f := -nr) (n := t.n) (k := k) (by omega) (by omega) (by omega) hk
    rw [Int.max_eq_right (by omega)] at m3
    have w1 : -nr % 18446744073709551616 = -nr := Int.emod_eq_of_lt (by omega) (by omega)
    generalize (ppkA S (-nr) t.n k).1 = lo at *
    generalize (ppkA S (-nr) t.n k).2 = hi at *
    clear h hS hneg
    simp (disch := first | omega | simp only [*, go_sem, ↓reduceIte, dropK_eq]) only [x33b, go_sem, ↓reduceIte, dropK_eq, callX_known (C := CV) (g := 29) rfl, ft_call (C := CV) (g := 29) rfl, callX_known (C := CV) (g := 30) rfl, ft_call (C := CV) (g := 30) rfl, callX_known (C := CV) (g := 32) rfl, ft_call (C := CV) (g := 32) rfl, callX_names (C := CV) (g := 31) rfl, ftC_names (C := CV) (g := 31) rfl, e30, e29, e32, e31, m1, m2, m3, w1, w2, w3, w4, w5, d1]
    exact Ends_plain rfl (by simp only [Int.zero_sub])
  · have d1 := decide_eq_false hneg
    rw [if_neg hneg]
    obtain ⟨e31, ⟨r1, r2⟩, r3, r4⟩ := ppkA_b (S := S) (f := nr) (n := t.n) (k := k) (by omega) (by omega) (by omega) hk
    rw [Int.max_eq_left (by omega)] at m3
    have w1 : nr % 18446744073709551616 = nr := Int.emod_eq_of_lt (by omega) (by omega)
    generalize (ppkA S nr t.n k).1 = lo at *
    generalize (ppkA S nr t.n k).2 = hi at *
    clear h hS hneg
    simp (disch := first | omega | simp only [*, go_sem, ↓reduceIte, dropK_eq]) only [x33b, go_sem, ↓reduceIte, dropK_eq, callX_known (C := CV) (g := 29) rfl, ft_call (C := CV) (g := 29) rfl, callX_known (C := CV) (g := 30) rfl, ft_call (C := CV) (g := 30) rfl, callX_known (C := CV) (g := 32) rfl, ft_call (C := CV) (g := 32) rfl, callX_names (C := CV) (g := 31) rfl, ftC_names (C := CV) (g := 31) rfl, e30, e29, e32, e31, m1, m2, m3, w1, w2, w3, w4, w5, d1]
    exact Ends_plain rfl rfl
end Go.Proofs.YtkonpbcnekcjjaaGreatDoor.DV
namespace Go.Xec
open Go
def SoundP (P : Program) (g : FuncId) (G : List AVal → Option Value) : Prop :=
  ∀ as0 pv, G as0 = some pv → ∀ (w : World) (S : Nat → Prop) (vs : List Value), (∀ b, S b → b < w.heap.size) → Laid P w → VL (ctx0 w S) as0 vs →
    (callFunc g vs.toArray).run P w = .ok (.enter g vs.toArray) w ∧ Calls P g vs.toArray w fun e w' => e = .panicked [{ v := pv, recovered := false }] ∧ w.heap.size ≤ w'.heap.size ∧ (∀ b, b < w.heap.size → w'.heap[b]? = w.heap[b]?) ∧ SameEnv w w'
def KpB (B : Nat) (w w' : World) : Prop := w.heap.size ≤ w'.heap.size ∧ (∀ b, b < B → w'.heap[b]? = w.heap[b]?) ∧ SameEnv w w'
theorem KpB.step {B : Nat} {x y : Ctx} {w' : World} (h : Step B x y) (h' : KpB B y.w w') : KpB B x.w w' :=
  ⟨Nat.le_trans h.size h'.1, fun b hb => (h'.2.1 b hb).trans (h.below b hb), h.env.trans h'.2.2⟩
abbrev PanQ (B : Nat) (w : World) (pv : Value) : Exit → Act → World → Prop := fun e a' w' => e = .panic [{ v := pv, recovered := false }] ∧ a'.defers = [] ∧ KpB B w w'
section
variable (P : Program) (C : Cfg) (inl : Inl) (fid : Nat) (pv : Value)
def Pn (xc : XCode) (st : St) : Prop :=
  ∀ (nt B : Nat) (S0 : Base) (c : Code) (x : Ctx) (a : Act), Laid P S0.w0 → InlOk P B S0 inl → chkCode P nt c xc = true → StOk nt B S0 st x a → c.wp P (PanQ B x.w pv) a x.w
def PCall (f : XArg) (as0 : List XArg) (st : St) : Prop :=
  ∃ g vs vs' ks G, target (arg st.tm f) (as0.map (arg st.tm)) = some (g, vs) ∧ (lendL freeze vs).run st.hp = some (vs', ks) ∧ SoundP P g G ∧ G vs' = some pv
end
section
variable {P : Program} {C : Cfg} {inl : Inl} {fid : Nat} {pv : Value}
theorem Pn_seq (ok : CfgOk P C) {a b : XCode} {st : St} (h : Ev (C := C) (inl := inl) fid a st fun o s => Nx o (fun _ => Pn P inl pv b s) (fun _ => False)) : Pn P inl pv (.seq a b) st := by
  intro nt B S0 c x act hL hin hc hst
  cases c <;> simp only [chkCode, Bool.false_eq_true] at hc
  rename_i c1 c2
  simp only [Bool.and_eq_true] at hc
  unfold Ev Bd at h
  obtain ⟨⟨o, st1⟩, h1, h2⟩ := h
  refine wp_seq (wp_mono (exec_wp ok hin hL a c1 hc.1 st x act o st1 h1 hst) ?_)
  rintro e a' w' ⟨rfl, y, rfl, hy, hstp, hnc, hk⟩
  cases o with
  | nrm =>
    rw [Nx_nrm] at h2
    simp only [Out.conc, Exit.then]
    refine wp_mono (h2 nt B S0 c2 y a' hL hin hc.2 hy) ?_
    rintro e2 a2 w2 ⟨rfl, h3, h4⟩
    exact ⟨rfl, h3, KpB.step hstp h4⟩
  | ext i => rw [Nx_ext] at h2; exact h2.elim
  | ret => rw [Nx_ret] at h2; exact h2.elim
theorem Pn_left {a b : XCode} {st : St} (h : Pn P inl pv a st) : Pn P inl pv (.seq a b) st := by
  intro nt B S0 c x act hL hin hc hst
  cases c <;> simp only [chkCode, Bool.false_eq_true] at hc
  simp only [Bool.and_eq_true] at hc
  refine wp_seq (wp_mono (h nt B S0 _ x act hL hin hc.1 hst) ?_)
  rintro e2 a2 w2 ⟨rfl, h3, h4⟩
  exact ⟨rfl, h3, h4⟩
theorem VL_lent {B : Nat} {S0 : Base} {h : Heap} {nc : Nat} {x : Ctx} (hs : Sim B S0 h nc x) {as0 bs : List AVal} {us : List Value} {ks : List Key} (hl : VL x as0 us) (hln : (lendL freeze as0).run h = some (bs, ks)) :
    ∃ S : Nat → Prop, (∀ b, S b → b < x.w.heap.size) ∧ VL (ctx0 x.w S) bs us := by
  have hlt : ∀ b, x.S b → b < x.w.heap.size := by
    intro b hS
    rw [hs.S] at hS
    rcases hS with hS | ⟨_, h2, _⟩
    · have := hs.s0 _ hS; have := hs.sz; omega
    · exact h2
  let lent : Nat → Prop := fun b => ∃ k ∈ ks, ∃ blk oo, h k = some blk ∧ x.ρ k blk.gen = some (b, oo)
  let y0 : Ctx := { x with S := fun b => x.S b ∨ lent b }
  have g0 : Grow x y0 := ⟨fun b hb => .inl hb, fun _ _ => rfl, fun _ _ _ hp => hp, fun _ => Nat.le_refl _⟩
  obtain ⟨_, hbs, _⟩ := lendL_VL (lend_ok (y := y0) hs g0 rfl (KS := (· ∈ ks)) (fun k hk blk b oo hb hρ => .inr ⟨k, hk, blk, oo, hb, hρ⟩) freeze) hln (fun k hk => hk)
  refine ⟨fun b => x.S b ∨ lent b, ?_, hbs us hl⟩
  rintro b (hb | ⟨k, _, blk, oo, hk, hρ⟩)
  · exact hlt b hb
  · obtain ⟨b', o', h1, _, h2, _⟩ := hs.live k blk hk
    rw [hρ] at h1
    cases h1
    exact h2
theorem pcall_wp {nt B : Nat} {S0 : Base} {st : St} {x : Ctx} {a : Act} (hL : Laid P S0.w0) (hst : StOk nt B S0 st x a) {o : Oper} {f : XArg} {as0 : List XArg} (hc : chkOp P o.op (.call f as0) = true) (h : PCall P pv f as0 st) {K : Act → World → Prop} {Q : Exit → Act → World → Prop} (hQ : ∀ w', KpB B x.w w' → Q (.panic [{ v := pv, recovered := false }]) a w') :
    o.wp P a x.w K Q := by
  obtain ⟨c, f', ho, hcal, hf, hargs⟩ := chkCall hc
  obtain ⟨g, vs, vs', ks, G, h1, h2, h3, h4⟩ := h
  have hfv := hst.args f' f hf
  have hav := chkArgs_ok hst.args hargs
  unfold target at h1
  split at h1
  · rename_i g' first cap e1
    simp only [Option.some.injEq, Prod.mk.injEq] at h1
    obtain ⟨rfl, rfl⟩ := h1
    rw [e1] at hfv
    simp only [V] at hfv
    obtain ⟨fs, cs, hfe, hfs, hcs⟩ := hfv
    have hall : VL x (first ++ as0.map (arg st.tm) ++ cap) (fs ++ c.args.toList.map a.eval ++ cs) := (hfs.append hav).append hcs
    have hrun := run_call (P := P) (w := x.w) ho hcal hfe
    obtain ⟨S, hS, hvl⟩ := VL_lent hst.sim hall h2
    obtain ⟨q1, q2⟩ := h3 _ _ h4 x.w S _ hS (hL.keep fun b hb => hst.sim.inv.2.1 b (by have := hst.sim.inv.1; omega)) hvl
    unfold Oper.wp
    rw [hrun, q1, Oper.upon_enter]
    refine q2.mono ?_
    rintro e w' ⟨rfl, z1, z2, z3⟩
    exact hQ w' ⟨z1, fun b hb => z2 b (by have := hst.sim.sz; omega), z3⟩
  · cases h1
theorem getElem?_of_take {α : Type} {l : List α} {n j : Nat} {y : α} (h : (l.take n)[j]? = some y) : l[j]? = some y ∧ j < n := by
  rw [List.getElem?_take] at h
  split at h
  · exact ⟨h, by assumption⟩
  · cases h
theorem Pn_reg (ok : CfgOk P C) (n : Nat) {id : Nat} {xs : List XOper} {d : Option Nat} {f : XArg} {as0 : List XArg} {tm : Nat → AVal} {hp : Heap} {nc : Nat} (hn : xs[n]? = some ⟨d, none, .call f as0⟩)
    (h : Ro C inl fid id nc 0 (xs.take n) ⟨tm, hp, nc + 1⟩ fun s => PCall P pv f as0 s) : Pn P inl pv (.reg id xs none) ⟨tm, hp, nc⟩ := by
  intro nt B S0 c x a hL hin hc hst
  cases c <;> simp only [chkCode, Bool.false_eq_true] at hc
  rename_i id' ops dr
  simp only [Bool.and_eq_true, beq_iff_eq] at hc
  obtain ⟨⟨rfl, h2⟩, h3⟩ := hc
  cases dr with
  | true => cases h3
  | false =>
    obtain ⟨hlen, hops⟩ := opers_at h2
    simp only [Array.length_toList] at hlen
    have hnl : n < xs.length := by
      rcases Nat.lt_or_ge n xs.length with h' | h'
      · exact h'
      · rw [List.getElem?_eq_none h'] at hn; cases hn
    have hst1 : StOk nt B S0 ⟨tm, hp, nc + 1⟩ x a := ⟨hst.sim.more _ (Nat.le_succ _), hst.sz, hst.tm, hst.dfr⟩
    have hused : UsedOk x fid id' nc (fun j => j < 0) := fun k g p hp hk => absurd hk (Nat.ne_of_lt (hst.sim.dom k g p hp))
    unfold Ro Bd at h
    obtain ⟨stM, hr, hpc⟩ := h
    refine wp_region ?_
    rw [List.range_eq_range', hlen]

    have hgo : ∀ (m i : Nat) (st1 : St) (y : Ctx) (a1 : Act), i + m = n → runOps C inl fid id' nc i ((xs.take n).drop i) st1 = some stM → StOk nt B S0 st1 y a1 → nc < st1.nc → UsedOk y fid id' nc (· < i) → Step B x y →
        wpOps P ops (PanQ B x.w pv) (List.range' i (xs.length - i)) a1 y.w := by
      intro m
      induction m with
      | zero =>
        intro i st1 y a1 hi hr1 hy _ _ hstp
        obtain rfl : i = n := by omega
        rw [List.drop_of_length_le (by simp; omega)] at hr1
        simp only [runOps, Option.some.injEq] at hr1
        subst hr1
        obtain ⟨o, ho, hck⟩ := hops i _ hn
        have ho' : ops[i]? = some o := by simpa using ho
        have hw : Region.wanted o (yielded ops a1.tmps) = true := wanted_of hy hck (b := true) rfl
        unfold chkOper at hck
        simp only [Bool.and_eq_true] at hck
        rw [show xs.length - i = (xs.length - i - 1) + 1 by omega, List.range'_succ, wpOps_cons]
        unfold wpOp
        rw [ho']
        simp only [hw, if_true]
        exact .inl (pcall_wp (K := wpOps P ops (PanQ B x.w pv) (List.range' (i + 1) (xs.length - i - 1))) hL hy hck.2 hpc fun w' hk => ⟨rfl, hy.dfr, KpB.step hstp hk⟩)
      | succ m ih =>
        intro i st1 y a1 hi hr1 hy hnc hu hstp
        have hil : i < (xs.take n).length := by simp; omega
        rw [List.drop_eq_getElem_cons hil] at hr1
        simp only [runOps] at hr1
        cases h1 : stepO C inl (site fid id' i, nc) (xs.take n)[i] st1 with
        | none => rw [h1] at hr1; cases hr1
        | some st2 =>
          rw [h1] at hr1
          simp only [Option.bind_some] at hr1
          have hx : xs[i]? = some (xs.take n)[i] := (getElem?_of_take (List.getElem?_eq_getElem hil)).1
          obtain ⟨o, ho, hck⟩ := hops i _ hx
          rw [show xs.length - i = (xs.length - i - 1) + 1 by omega, List.range'_succ, wpOps_cons]
          refine step_wp ok hin hL (key := (site fid id' i, nc)) (by simpa using ho) hck hy hnc (hu.fresh (by omega)) h1 ?_
          intro a' z hz hzs hρ hnc2
          have := ih (i + 1) st2 z a' (by omega) hr1 hz (by omega) (hu.step hnc (fun j hj => by omega) (by omega) hρ) (hstp.trans hzs)
          rwa [show xs.length - (i + 1) = xs.length - i - 1 by omega] at this
    have := hgo n 0 _ x a (by omega) (by simpa using hr) hst1 (by simp) hused (Step.refl B x)
    simpa using this
theorem soundP_of (ok : CfgOk P C) (d : Nat) {f : FuncId} {xf : XFunc} {G : List AVal → Option Value} (hx : C.xf f = some xf) (hG : ∀ as0 pv, G as0 = some pv → as0.length = xf.np ∧ Pn P (inlD C d) pv xf.body ⟨tm0 as0, fun _ => none, 0⟩) : SoundP P f G := by
  intro as0 pv hg w S vs hS hL hl
  obtain ⟨hlen, hp⟩ := hG as0 pv hg
  obtain ⟨fn, hfn, hck⟩ := ok.xf f xf hx
  unfold chkF at hck
  simp only [Bool.and_eq_true, Bool.not_eq_true', beq_iff_eq, decide_eq_true_eq] at hck
  obtain ⟨⟨⟨⟨⟨hname, hnt⟩, hnp⟩, hle⟩, hres⟩, hbody⟩ := hck
  cases hb : fn.body with
  | none => rw [hb] at hbody; cases hbody
  | some c =>
    rw [hb] at hbody
    have hvl := hl.length
    refine ⟨by simp only [callFunc, Sem.run_bind, run_program, Result.andThen_ok, hfn, hname, hb]; simp, ?_⟩
    let x : Ctx := { w := w, S := mkS w.heap.size ⟨S, w⟩ (fun _ => none) w ρ0, ρ := ρ0 }
    have g0 : Grow (ctx0 w S) x := ⟨fun b hb => .inl hb, fun _ _ => rfl, fun _ _ _ hp => hp, fun _ => Nat.le_refl _⟩
    have hs : Sim w.heap.size ⟨S, w⟩ (fun _ => none) 0 x := ⟨hS, Nat.le_refl _, (fun k blk hk => by cases hk), (fun k k' blk blk' b o o' hk => by cases hk), rfl, (fun k g p hp => by cases hp), (fun k blk g p hk => by cases hk), ⟨rfl, fun _ _ => rfl, SameEnv.refl _⟩⟩
    have hl := VL_grow g0 _ _ hl
    have hst : StOk xf.nt w.heap.size ⟨S, w⟩ ⟨tm0 as0, fun _ => none, 0⟩ x { tmps := vs.toArray ++ Array.replicate (fn.ntmps - vs.toArray.size) undef, defers := [] } := by
      refine ⟨hs, ?_, ?_, rfl⟩
      · simp only [Array.size_append, List.size_toArray, Array.size_replicate]
        omega
      · intro t
        simp only [tm0]
        rw [Array.getD_eq_getD_getElem?]
        by_cases ht : t < as0.length
        · obtain ⟨u, hu, hvu⟩ := hl.get (List.getElem?_eq_getElem ht)
          rw [List.getElem?_eq_getElem ht]
          rw [Array.getElem?_append_left (by simp; omega)]
          have : vs.toArray[t]? = some u := by simpa using hu
          rw [this]
          exact hvu
        · rw [List.getElem?_eq_none (by omega)]
          simp only [Option.getD_none, V]
          rw [Array.getElem?_append_right (by simp; omega)]
          rw [Array.getElem?_replicate]
          split <;> rfl
    refine calls_of_wp hfn hb (wp_mono (hp xf.nt w.heap.size ⟨S, w⟩ c x _ hL (inl_ok (S0 := ⟨S, w⟩) ok hL d) hbody hst) ?_)
    rintro e a' w' ⟨rfl, h1, h2⟩
    exact ⟨h1, rfl, h2⟩
end
end Go.Xec
namespace Go.Proofs.YtkonpbcnekcjjaaGreatDoor.DV
open Go Go.Xec Go.RowKit
attribute [local go_sem] tm0 ne_eq not_false_eq_true List.length_append List.length_replicate List.replicate_succ List.replicate_zero Int.cast_ofNat_Int not_true_eq_false decide_true decide_false ite_self beq_self_eq_true Bool.true_beq Bool.false_beq Bool.not_true Bool.not_false
attribute [local go_sem_proc] Nat.reduceAdd Nat.reduceMul Nat.reduceSub Nat.reduceLeDiff Nat.reduceLT Nat.reduceEqDiff Int.reduceLT Int.reduceLE Int.reduceAdd Int.reduceSub Int.reduceMul Int.reduceToNat Int.reducePow Int.reduceNe Int.reduceMod Int.reduceDiv Int.reduceEq Nat.reducePow Int.reduceNeg
set_option maxRecDepth 10000
abbrev rfu (why : Int) : Value := .iface 120 (.agg #[.int .i64 why])
theorem must_calls (why : Int) (w : World) : Calls Tryz.prog 54 #[.bool false, .int .i64 why] w fun e w' => e = .panicked [{ v := rfu why, recovered := false }] ∧ w' = w := by
  go_enter Tryz.func54, Tryz.ntmps54
  go_wp2
  exact ⟨rfl, rfl, rfl⟩
def G54 : List AVal → Option Value
  | [.bool false, .int .i64 why] => some (rfu why)
  | _ => none
theorem soundP54 : SoundP Tryz.prog 54 G54 := by
  intro ys pv hg w S vs hS hL hl
  unfold G54 at hg
  split at hg
  · rename_i why
    cases hg
    simp only [VL, V] at hl
    obtain ⟨u1, _, rfl, rfl, u2, _, rfl, rfl, rfl⟩ := hl
    refine ⟨by simp only [callFunc, Sem.run_bind, run_program, Result.andThen_ok, Tryz.func54]; rfl, (must_calls why w).mono ?_⟩
    rintro e w' ⟨rfl, rfl⟩
    exact ⟨rfl, Nat.le_refl _, fun _ _ => rfl, SameEnv.refl _⟩
  · cases hg
theorem PCall_of {P : Program} {pv : Value} {f : XArg} {xs : List XArg} {st : St} {g : FuncId} {G : List AVal → Option Value} {vs : List AVal} (h : target (arg st.tm f) (xs.map (arg st.tm)) = some (g, vs)) (hl : plainL 64 vs = true) (hs : SoundP P g G) (hg : G vs = some pv) : PCall P pv f xs st :=
  ⟨g, vs, vs, [], G, h, lendL_plain st.hp vs 64 hl, hs, hg⟩
theorem PCall_names {P : Program} {pv : Value} {f : XArg} {xs : List XArg} {st : St} {g : FuncId} {G : List AVal → Option Value} {vs vs' : List AVal} {ks : List Key} (h : target (arg st.tm f) (xs.map (arg st.tm)) = some (g, vs)) (hl : lendXL 64 vs st.hp = some (vs', ks)) (hs : SoundP P g G) (hg : G vs' = some pv) : PCall P pv f xs st :=
  ⟨g, vs, vs', ks, G, h, hl, hs, hg⟩
def G32 : List AVal → Option Value
  | [.agg [.int .i64 n, .int .i64 s, .int .u64 h, .int .u64 l, .int .i64 a, .int .i64 b]] => if n < 2 then some (rfu 12) else none
  | _ => none
theorem soundP32 : SoundP Tryz.prog 32 G32 := soundP_of okV 0 (xf := x32) rfl (by
  intro ys pv hg
  unfold G32 at hg
  split at hg
  · rename_i n s h l a b
    split at hg
    · rename_i hn
      cases hg
      refine ⟨rfl, ?_⟩
      rw [x32_eq.1]
      have d1 : decide (2 ≤ n) = false := decide_eq_false (by omega)
      refine Pn_seq (fid := 32) okV ?_
      simp (disch := first | omega | simp only [*, go_sem, ↓reduceIte, dropK_eq]) only [go_sem, ↓reduceIte, dropK_eq]
      refine Pn_left (Pn_reg (fid := 32) okV 3 rfl ?_)
      simp (disch := first | omega | simp only [*, go_sem, ↓reduceIte, dropK_eq]) only [go_sem, ↓reduceIte, dropK_eq, d1]
      refine PCall_of (g := 54) (G := G54) (vs := [.bool false, .int .i64 12]) ?_ rfl soundP54 rfl
      simp (disch := first | omega | simp only [*, go_sem, ↓reduceIte, dropK_eq]) only [go_sem, ↓reduceIte, dropK_eq, target]
    · cases hg
  · cases hg)
set_option maxRecDepth 10000
def A31 (ys : List AVal) : Prop := ∃ b l, ys = [W 0 0, .int .u64 b, .slc 1 (u64s l)] ∧ U b ∧ (∀ x ∈ l, U x) ∧ l.length ≤ 100 ∧ ∀ i, prd (l.take i) ≤ 1000000000000000000000000000000000000
open Classical in
noncomputable def G31 (ys : List AVal) : Option Value := if A31 ys then some (rfu 6) else none
theorem F58_wz {a : Int} : F58 [enc a, W 0 0] = some (.tup [W 0 0, W 0 0, .int .i64 4]) := F58_zero
theorem F9_z {b : Int} (hb : U b) : F9 [W 0 0, W 0 b] = some (.tup [W 0 0, .bool false]) := by
  have h := F9_n (p := 0) (b := b) (by decide) hb (by rw [Int.zero_mul]; decide)
  rw [Int.zero_mul] at h
  exact h
set_option maxHeartbeats 1000000 in
theorem soundP31 : SoundP Tryz.prog 31 G31 := soundP_of okV 0 (xf := x31) rfl (by
  intro ys pv hg
  unfold G31 at hg
  split at hg
  · rename_i hx
    cases hg
    obtain ⟨b, l, rfl, hb, hl, hll, hp⟩ := hx
    refine ⟨rfl, ?_⟩
    rw [x31_eq.1]
    have hp0 : ∀ i, 0 ≤ prd (l.take i) := by
      intro i
      induction i with
      | zero => simp [prd]
      | succ i ih =>
        rcases Nat.lt_or_ge i l.length with h | h
        · rw [take_snoc h, prd_snoc]
          refine Int.mul_nonneg ih (hl _ ?_).1
          rw [List.getD_eq_getElem?_getD, List.getElem?_eq_getElem h]
          exact List.getElem_mem h
        · rw [List.take_of_length_le (by omega)]
          rwa [List.take_of_length_le (by omega)] at ih
    have hlenV : lenVA (.slc 1 (u64s l)) = some (.int .i64 l.length) := by simp [lenVA]
    refine Pn_seq (fid := 31) okV ?_
    simp (disch := first | omega | simp only [*, go_sem, ↓reduceIte, dropK_eq]) only [go_sem, ↓reduceIte, dropK_eq]
    refine Pn_seq (fid := 31) okV ?_
    simp (disch := first | omega | simp only [*, go_sem, ↓reduceIte, dropK_eq]) only [go_sem, ↓reduceIte, dropK_eq]
    refine Pn_seq (fid := 31) okV ?_
    simp (disch := first | omega | simp only [*, go_sem, ↓reduceIte, dropK_eq]) only [go_sem, ↓reduceIte, dropK_eq, hlenV]
    refine Ev_range (ti := 19) (len := l.length) (J := fun i tm hp nc => hp (31001001, 1) = some (.var [.int .u64 (prd (l.take i) / 18446744073709551616), .int .u64 (prd (l.take i) % 18446744073709551616)]) ∧ hp (31000000, 0) = some (.var [.int .u64 0, .int .u64 0])) (by omega) (by simp only [go_sem, ↓reduceIte, dropK_eq]) ?_ ?_
    · simp only [go_sem, ↓reduceIte, dropK_eq, List.take_zero, prd, List.foldl_nil]
    rintro i tm hp' nc hi' hc k19 ⟨kq, kr⟩
    have k1 := hc 1 rfl; have k3 := hc 3 rfl; have k7 := hc 7 rfl; have k17 := hc 17 rfl; have k18 := hc 18 rfl; simp only [go_sem, ↓reduceIte, dropK_eq] at k1 k3 k7 k17 k18
    rcases Nat.lt_or_ge i l.length with hlt | hge
    · have d1 : decide ((i : Int) < (l.length : Int)) = true := decide_eq_true (by omega)
      have ia := u64s_ia hlt
      have hx : U (l.getD i 0) := hl _ (by rw [List.getD_eq_getElem?_getD, List.getElem?_eq_getElem hlt]; exact List.getElem_mem hlt)
      have hsn : prd (l.take (i + 1)) = prd (l.take i) * l.getD i 0 := by rw [take_snoc hlt, prd_snoc]
      have hb1 := hp i
      have hb2 := hp (i + 1)
      have hb3 := hp0 i
      rw [hsn] at hb2
      have e9 := F9_n (p := prd (l.take i)) (b := l.getD i 0) ⟨hb3, by unfold big; omega⟩ hx (by unfold big; omega)
      rw [← hsn] at e9
      clear hp hp0 hsn hx hb1 hb2 hb3
      generalize l.getD i 0 = y at *
      generalize prd (l.take i) = p0 at *
      generalize prd (l.take (i + 1)) = p1 at *
      simp (disch := first | omega | simp only [*, go_sem, ↓reduceIte, dropK_eq]) only [x31l3, go_sem, ↓reduceIte, dropK_eq, k1, k3, k7, k17, k18, k19, d1, ia, kq, kr, callX_known (C := CV) (g := 9) rfl, ft_call (C := CV) (g := 9) rfl, e9]
      exact ⟨hlt, by simp⟩
    · obtain rfl : i = l.length := by omega
      have d1 : decide ((l.length : Int) < (l.length : Int)) = false := decide_eq_false (by omega)
      rw [List.take_length] at *
      have e9 := F9_z hb
      have e58 := F58_wz (a := prd l)
      generalize prd l = p at *
      simp (disch := first | omega | simp only [*, go_sem, ↓reduceIte, dropK_eq]) only [x31l3, go_sem, ↓reduceIte, dropK_eq, k1, k3, k7, k17, k18, k19, d1, kq, kr]
      refine Pn_seq (fid := 31) okV ?_
      simp (disch := first | omega | simp only [*, go_sem, ↓reduceIte, dropK_eq]) only [go_sem, ↓reduceIte, dropK_eq, k1, k3, k7, kq, kr, callX_known (C := CV) (g := 9) rfl, ft_call (C := CV) (g := 9) rfl, e9]
      refine Pn_seq (fid := 31) okV ?_
      simp (disch := first | omega | simp only [*, go_sem, ↓reduceIte, dropK_eq]) only [go_sem, ↓reduceIte, dropK_eq, k1, k3, k7, kq, kr, callX_known (C := CV) (g := 58) rfl, ft_call (C := CV) (g := 58) rfl, e58]
      refine Pn_left (Pn_reg (fid := 31) okV 2 rfl ?_)
      simp (disch := first | omega | simp only [*, go_sem, ↓reduceIte, dropK_eq]) only [go_sem, ↓reduceIte, dropK_eq]
      refine PCall_of (g := 54) (G := G54) (vs := [.bool false, .int .i64 6]) ?_ rfl soundP54 rfl
      simp (disch := first | omega | simp only [*, go_sem, ↓reduceIte, dropK_eq]) only [go_sem, ↓reduceIte, dropK_eq, target]
  · cases hg)
set_option maxRecDepth 10000
def Ask (t : Stt) (S a b k : Int) : Prop := StG t S ∧ -1000000 ≤ a ∧ b ≤ 1000000 ∧ a < b ∧ 1 ≤ k ∧ k ≤ 1000
abbrev askV (t : Stt) (a b k : Int) : List AVal := [.pvo (StC t) 0, p1 a, p1 b, p1 k]
def A28a (ys : List AVal) : Prop := ∃ t S a b k, ys = askV t a b k ∧ Ask t S a b k ∧ t.n < 2
def A28b (ys : List AVal) : Prop := ∃ t S a b k, ys = askV t a b k ∧ Ask t S a b k ∧ 2 ≤ t.n ∧ S = 0
open Classical in
noncomputable def G28 (ys : List AVal) : Option Value := if A28a ys then some (rfu 12) else if A28b ys then some (rfu 6) else none
theorem G32_few {t : Stt} (h : t.n < 2) : G32 [StK t] = some (rfu 12) := if_pos h
theorem F32_zero {t : Stt} (h : StG t 0) (hn : 2 ≤ t.n) : F32 [StK t] = some (W 0 0) := F32_eq h hn
theorem soundP28 : SoundP Tryz.prog 28 G28 := soundP_of okV 0 (xf := x28) rfl (by
  intro ys pv hg
  unfold G28 at hg
  split at hg
  · rename_i hx
    cases hg
    obtain ⟨t, S, a, b, k, rfl, hq, hn⟩ := hx
    refine ⟨rfl, ?_⟩
    rw [x28_eq.1]
    obtain ⟨h, ha, hb, hab, hk⟩ := hq
    have e30 := h.e30
    have e29 := F29_eq ha hb hab hk
    have hn0 := h.n
    have g32 := G32_few hn
    obtain ⟨m, hm⟩ : ∃ m, max t.n 1 = m := ⟨_, rfl⟩
    have m1 : mnxA true (.int .i64 t.n) [.int .i64 1] = some (.int .i64 m) := by rw [mnx_max, hm]
    have w3 : m % 18446744073709551616 = m := Int.emod_eq_of_lt (by omega) (by omega)
    clear h hm hn
    have w1 : (b - a) % 18446744073709551616 = b - a := Int.emod_eq_of_lt (by omega) (by omega)
    have w2 : k % 18446744073709551616 = k := Int.emod_eq_of_lt (by omega) (by omega)
    refine Pn_seq (fid := 28) okV ?_
    simp (disch := first | omega | simp only [*, go_sem, ↓reduceIte, dropK_eq]) only [go_sem, ↓reduceIte, dropK_eq]
    refine Pn_seq (fid := 28) okV ?_
    simp (disch := first | omega | simp only [*, go_sem, ↓reduceIte, dropK_eq]) only [go_sem, ↓reduceIte, dropK_eq, callX_known (C := CV) (g := 29) rfl, ft_call (C := CV) (g := 29) rfl, callX_known (C := CV) (g := 30) rfl, ft_call (C := CV) (g := 30) rfl, e29, e30]
    refine Pn_seq (fid := 28) okV ?_
    simp (disch := first | omega | simp only [*, go_sem, ↓reduceIte, dropK_eq]) only [go_sem, ↓reduceIte, dropK_eq, m1, w1, w2, w3]
    refine Pn_left (Pn_reg (fid := 28) okV 1 rfl ?_)
    simp (disch := first | omega | simp only [*, go_sem, ↓reduceIte, dropK_eq]) only [go_sem, ↓reduceIte, dropK_eq]
    refine PCall_of (g := 32) (G := G32) (vs := [StK t]) ?_ rfl soundP32 g32
    simp (disch := first | omega | simp only [*, go_sem, ↓reduceIte, dropK_eq]) only [go_sem, ↓reduceIte, dropK_eq, target]
  · split at hg
    · rename_i hx
      cases hg
      obtain ⟨t, S, a, b, k, rfl, hq, hn, rfl⟩ := hx
      refine ⟨rfl, ?_⟩
      rw [x28_eq.1]
      obtain ⟨h, ha, hb, hab, hk⟩ := hq
      have e30 := h.e30
      have e29 := F29_eq ha hb hab hk
      have hn0 := h.n
      have e32 := F32_zero h hn
      have m1 : mnxA true (.int .i64 t.n) [.int .i64 1] = some (.int .i64 t.n) := by rw [mnx_max, Int.max_eq_left (by omega)]
      have w3 : t.n % 18446744073709551616 = t.n := Int.emod_eq_of_lt (by omega) (by omega)
      have w4 : (t.n - 1) % 18446744073709551616 = t.n - 1 := Int.emod_eq_of_lt (by omega) (by omega)
      obtain ⟨l1, l2⟩ := ppL_b (w := b - a) (n := t.n) (k := k) (by omega) (by omega) (by omega)
      have g31 : G31 [W 0 0, .int .u64 36, .slc 1 [.int .u64 (b - a), .int .u64 (b - a), .int .u64 t.n, .int .u64 (t.n - 1), .int .u64 k, .int .u64 k]] = some (rfu 6) := if_pos ⟨36, ppL (b - a) t.n k, rfl, by decide, l1, by simp [ppL], l2⟩
      clear h l1 l2
      have w1 : (b - a) % 18446744073709551616 = b - a := Int.emod_eq_of_lt (by omega) (by omega)
      have w2 : k % 18446744073709551616 = k := Int.emod_eq_of_lt (by omega) (by omega)
      refine Pn_seq (fid := 28) okV ?_
      simp (disch := first | omega | simp only [*, go_sem, ↓reduceIte, dropK_eq]) only [go_sem, ↓reduceIte, dropK_eq]
      refine Pn_seq (fid := 28) okV ?_
      simp (disch := first | omega | simp only [*, go_sem, ↓reduceIte, dropK_eq]) only [go_sem, ↓reduceIte, dropK_eq, callX_known (C := CV) (g := 29) rfl, ft_call (C := CV) (g := 29) rfl, callX_known (C := CV) (g := 30) rfl, ft_call (C := CV) (g := 30) rfl, e29, e30]
      refine Pn_seq (fid := 28) okV ?_
      simp (disch := first | omega | simp only [*, go_sem, ↓reduceIte, dropK_eq]) only [go_sem, ↓reduceIte, dropK_eq, m1, w1, w2, w3]
      refine Pn_left (Pn_reg (fid := 28) okV 10 rfl ?_)
      simp (disch := first | omega | simp only [*, go_sem, ↓reduceIte, dropK_eq]) only [go_sem, ↓reduceIte, dropK_eq, callX_known (C := CV) (g := 32) rfl, ft_call (C := CV) (g := 32) rfl, e32, w4]
      refine PCall_names (g := 31) (G := G31) (vs := [W 0 0, .int .u64 36, .sl (28003009, 3) 0 1 0 6]) (ks := [(28003009, 3)]) ?_ ?_ soundP31 g31
      · simp (disch := first | omega | simp only [*, go_sem, ↓reduceIte, dropK_eq]) only [go_sem, ↓reduceIte, dropK_eq, target]
      · simp (disch := first | omega | simp only [*, go_sem, ↓reduceIte, dropK_eq]) only [go_sem, ↓reduceIte, dropK_eq]
    · cases hg)
open Classical in
noncomputable def G33 (ys : List AVal) : Option Value := if A28a ys then some (rfu 12) else if A28b ys then some (rfu 6) else none
theorem soundP33 : SoundP Tryz.prog 33 G33 := soundP_of okV 0 (xf := x33) rfl (by
  intro ys pv hg
  unfold G33 at hg
  split at hg
  · rename_i hx
    cases hg
    obtain ⟨t, S, a, b, k, rfl, hq, hn⟩ := hx
    refine ⟨rfl, ?_⟩
    rw [x33_eq.1]
    obtain ⟨h, ha, hb, hab, hk⟩ := hq
    have e30 := h.e30
    have e29 := F29_eq ha hb hab hk
    have hn0 := h.n
    have g32 := G32_few hn
    obtain ⟨m, hm⟩ : ∃ m, max t.n 1 = m := ⟨_, rfl⟩
    have m1 : mnxA true (.int .i64 t.n) [.int .i64 1] = some (.int .i64 m) := by rw [mnx_max, hm]
    have w3 : m % 18446744073709551616 = m := Int.emod_eq_of_lt (by omega) (by omega)
    clear hm hn
    have hs0 := h.s
    obtain ⟨⟨q1, q2⟩, ⟨q3, q4⟩, q5, q6⟩ := near_b (s := t.s) hn0 hs0 ha hb hab
    have m2 : mnxA false (.int .i64 (b * t.n - t.s)) [.int .i64 (t.s - a * t.n)] = some (.int .i64 (nearA a b t.s t.n)) := mnx_min
    generalize nearA a b t.s t.n = nr at *
    have hnr : 0 ≤ max nr (-nr) ∧ max nr (-nr) ≤ 200000000 := by omega
    have m3 : mnxA true (.int .i64 nr) [.int .i64 (0 - nr)] = some (.int .i64 (max nr (-nr))) := by rw [mnx_max, Int.zero_sub]
    generalize max nr (-nr) = f at *
    have w1 : f % 18446744073709551616 = f := Int.emod_eq_of_lt hnr.1 (by omega)
    have w2 : k % 18446744073709551616 = k := Int.emod_eq_of_lt (by omega) (by omega)
    clear h
    refine Pn_seq (fid := 33) okV ?_
    simp (disch := first | omega | simp only [*, go_sem, ↓reduceIte, dropK_eq]) only [go_sem, ↓reduceIte, dropK_eq]
    refine Pn_seq (fid := 33) okV ?_
    simp (disch := first | omega | simp only [*, go_sem, ↓reduceIte, dropK_eq]) only [go_sem, ↓reduceIte, dropK_eq, callX_known (C := CV) (g := 29) rfl, ft_call (C := CV) (g := 29) rfl, callX_known (C := CV) (g := 30) rfl, ft_call (C := CV) (g := 30) rfl, e29, e30]
    refine Pn_seq (fid := 33) okV ?_
    simp (disch := first | omega | simp only [*, go_sem, ↓reduceIte, dropK_eq]) only [go_sem, ↓reduceIte, dropK_eq, m2]
    refine Pn_seq (fid := 33) okV ?_
    simp (disch := first | omega | simp only [*, go_sem, ↓reduceIte, dropK_eq]) only [go_sem, ↓reduceIte, dropK_eq, m1, m3, w1, w2, w3]
    refine Pn_left (Pn_reg (fid := 33) okV 1 rfl ?_)
    simp (disch := first | omega | simp only [*, go_sem, ↓reduceIte, dropK_eq]) only [go_sem, ↓reduceIte, dropK_eq]
    refine PCall_of (g := 32) (G := G32) (vs := [StK t]) ?_ rfl soundP32 g32
    simp (disch := first | omega | simp only [*, go_sem, ↓reduceIte, dropK_eq]) only [go_sem, ↓reduceIte, dropK_eq, target]
  · split at hg
    · rename_i hx
      cases hg
      obtain ⟨t, S, a, b, k, rfl, hq, hn, rfl⟩ := hx
      refine ⟨rfl, ?_⟩
      rw [x33_eq.1]
      obtain ⟨h, ha, hb, hab, hk⟩ := hq
      have e30 := h.e30
      have e29 := F29_eq ha hb hab hk
      have hn0 := h.n
      have e32 := F32_zero h hn
      have m1 : mnxA true (.int .i64 t.n) [.int .i64 1] = some (.int .i64 t.n) := by rw [mnx_max, Int.max_eq_left (by omega)]
      have w3 : t.n % 18446744073709551616 = t.n := Int.emod_eq_of_lt (by omega) (by omega)
      have w4 : (t.n - 1) % 18446744073709551616 = t.n - 1 := Int.emod_eq_of_lt (by omega) (by omega)
      have w5 : 9 * t.n % 18446744073709551616 = 9 * t.n := Int.emod_eq_of_lt (by omega) (by omega)
      have hn1 := hn
      clear hn
      have hs0 := h.s
      obtain ⟨⟨q1, q2⟩, ⟨q3, q4⟩, q5, q6⟩ := near_b (s := t.s) hn0 hs0 ha hb hab
      have m2 : mnxA false (.int .i64 (b * t.n - t.s)) [.int .i64 (t.s - a * t.n)] = some (.int .i64 (nearA a b t.s t.n)) := mnx_min
      generalize nearA a b t.s t.n = nr at *
      have hnr : 0 ≤ max nr (-nr) ∧ max nr (-nr) ≤ 200000000 := by omega
      have m3 : mnxA true (.int .i64 nr) [.int .i64 (0 - nr)] = some (.int .i64 (max nr (-nr))) := by rw [mnx_max, Int.zero_sub]
      generalize max nr (-nr) = f at *
      have w1 : f % 18446744073709551616 = f := Int.emod_eq_of_lt hnr.1 (by omega)
      have w2 : k % 18446744073709551616 = k := Int.emod_eq_of_lt (by omega) (by omega)
      clear h
      refine Pn_seq (fid := 33) okV ?_
      simp (disch := first | omega | simp only [*, go_sem, ↓reduceIte, dropK_eq]) only [go_sem, ↓reduceIte, dropK_eq]
      refine Pn_seq (fid := 33) okV ?_
      simp (disch := first | omega | simp only [*, go_sem, ↓reduceIte, dropK_eq]) only [go_sem, ↓reduceIte, dropK_eq, callX_known (C := CV) (g := 29) rfl, ft_call (C := CV) (g := 29) rfl, callX_known (C := CV) (g := 30) rfl, ft_call (C := CV) (g := 30) rfl, e29, e30]
      refine Pn_seq (fid := 33) okV ?_
      simp (disch := first | omega | simp only [*, go_sem, ↓reduceIte, dropK_eq]) only [go_sem, ↓reduceIte, dropK_eq, m2]
      refine Pn_seq (fid := 33) okV ?_
      simp (disch := first | omega | simp only [*, go_sem, ↓reduceIte, dropK_eq]) only [go_sem, ↓reduceIte, dropK_eq, m1, m3, w1, w2, w3]
      obtain ⟨l1, l2⟩ := ppkL_b (w := f) (n := t.n) (k := k) (by omega) (by omega) (by omega)
      have g31 : G31 [W 0 0, .int .u64 (9 * t.n), .slc 1 [.int .u64 f, .int .u64 f, .int .u64 (t.n - 1), .int .u64 k, .int .u64 k]] = some (rfu 6) := if_pos ⟨9 * t.n, ppkL f t.n k, rfl, by unfold U; omega, l1, by simp [ppkL], l2⟩
      clear l1 l2
      refine Pn_left (Pn_reg (fid := 33) okV 11 rfl ?_)
      simp (disch := first | omega | simp only [*, go_sem, ↓reduceIte, dropK_eq]) only [go_sem, ↓reduceIte, dropK_eq, callX_known (C := CV) (g := 32) rfl, ft_call (C := CV) (g := 32) rfl, e32, w4, w5]
      refine PCall_names (g := 31) (G := G31) (vs := [W 0 0, .int .u64 (9 * t.n), .sl (33004010, 4) 0 1 0 5]) (ks := [(33004010, 4)]) ?_ ?_ soundP31 g31
      · simp (disch := first | omega | simp only [*, go_sem, ↓reduceIte, dropK_eq]) only [go_sem, ↓reduceIte, dropK_eq, target]
      · simp (disch := first | omega | simp only [*, go_sem, ↓reduceIte, dropK_eq]) only [go_sem, ↓reduceIte, dropK_eq]
    · cases hg)
end Go.Proofs.YtkonpbcnekcjjaaGreatDoor.DV
namespace Go.Proofs.YtkonpbcnekcjjaaGreatDoor.DV
open Go Go.Xec Go.RowKit
theorem cells_set {W : World} {B i : Nat} {cs : Array Value} {t : TypeId} (h : W.heap[B]? = some (.cells cs t (0, 0))) (v : Value) : (W.setCell ⟨B, i, none⟩ v).heap[B]? = some (.cells (cs.setIfInBounds i v) t (0, 0)) := by
  obtain ⟨hlt, hk⟩ := Array.getElem?_eq_some_iff.1 h
  show (W.heap.modify B _)[B]? = _
  rw [Array.getElem?_eq_getElem (by rw [Array.size_modify]; exact hlt), Array.getElem_modify_self, hk]
  rfl
theorem cell_other {W : World} {B b i : Nat} (v : Value) (h : b ≠ B) : (W.setCell ⟨B, i, none⟩ v).heap[b]? = W.heap[b]? := Below.heap_setCell W ⟨B, i, none⟩ v b h
theorem told_idle (p q : Addr) (w : World) :
    CallsD Tryz.prog 53 #[.pointer (some p), .pointer (some q)] .returning w fun e u' w' => e = .returned (.tuple #[]) ∧ u' = .returning ∧ w' = w := by
  refine callsD_of_wpS Tryz.func53 rfl fun c₀ cs hu => ?_
  apply wpS_seq
  apply wpS_region
  simp [wpOpsS, go_sem, recoverD, hu, Tryz.ntmps53, Exit.thenS]
  apply wpS_seq
  apply wpS_region
  simp [wpOpsS, go_sem, Exit.thenS]
  refine wpS_cond (t := false) (by simp [Act.eval, Array.replicate]) ?_
  simp only [Bool.false_eq_true, if_false]
  refine wpS_of_wp (wp_skip ?_)
  cases c₀
  simp_all [bodyPostS, results, Tryz.results53]
theorem run_ta (why : Int) (w : World) : (Instr.typeAssert (rfu why) 20 120 true).run Tryz.prog w = .ok (.tuple #[.agg #[.int .i64 why], .bool true]) w := by kernel_rfl
set_option maxHeartbeats 1000000 in
set_option maxRecDepth 100000 in

theorem told_caught (p q : Nat) (why x0 x1 x2 : Int) (older : List PanicEntry) (w : World) (hp : w.heap[p]? = some (.cells #[.int .i64 x0, .int .i64 x1] 37 (0, 0))) (hq : w.heap[q]? = some (.cells #[.int .i64 x2] 29 (0, 0))) (hpq : p ≠ q) :
    CallsD Tryz.prog 53 #[.pointer (some ⟨p, 0, none⟩), .pointer (some ⟨q, 0, none⟩)] (.panicking ({ v := rfu why, recovered := false } :: older)) w fun e u' w' => e = .returned (.tuple #[]) ∧ u' = .panicking ({ v := rfu why, recovered := true } :: older) ∧
      Below (min p q) w w' ∧ w'.heap[p]? = some (.cells #[.int .i64 0, .int .i64 0] 37 (0, 0)) ∧ w'.heap[q]? = some (.cells #[.int .i64 why] 29 (0, 0)) := by
  refine callsD_of_wpS Tryz.func53 rfl fun c₀ cs hu => ?_
  apply wpS_seq
  apply wpS_region
  simp [wpOpsS, go_sem, recoverD, hu, Tryz.ntmps53, Exit.thenS]
  apply wpS_seq
  apply wpS_region
  simp [wpOpsS, go_sem, Exit.thenS]
  refine wpS_cond (t := true) (by simp [Act.eval, Array.replicate]) ?_
  simp only [if_true]
  apply wpS_seq
  apply wpS_region
  simp [wpOpsS, go_sem, Exit.thenS, run_ta]
  apply wpS_seq
  apply wpS_seq
  apply wpS_region
  simp [wpOpsS, go_sem, Exit.thenS]
  refine wpS_cond (t := false) (by simp [Act.eval, Array.replicate]) ?_
  simp only [Bool.false_eq_true, if_false]
  refine wpS_of_wp (wp_skip ?_)
  simp only [Exit.thenS]
  refine wpS_of_wp ?_
  obtain ⟨W, hW⟩ : ∃ W, W = w.alloc (.cells #[.int .i64 why] 120) := ⟨_, rfl⟩
  rw [← hW]
  have hr : W.cell? ⟨w.heap.size, 0, none⟩ = some (.int .i64 why) := by rw [hW]; simp
  simp [Array.replicate]
  have hps := (Array.getElem?_eq_some_iff.1 hp).1
  have hqs := (Array.getElem?_eq_some_iff.1 hq).1
  have gp : W.heap[p]? = some (.cells #[.int .i64 x0, .int .i64 x1] 37 (0, 0)) := by rw [hW]; exact (Below.heap_alloc _ _ _ hps).trans hp
  have gq : W.heap[q]? = some (.cells #[.int .i64 x2] 29 (0, 0)) := by rw [hW]; exact (Below.heap_alloc _ _ _ hqs).trans hq
  have p0 : W.cell? ⟨p, 0, none⟩ = some (.int .i64 x0) := by simp [World.cell?, gp]
  have p1 : W.cell? ⟨p, 1, none⟩ = some (.int .i64 x1) := by simp [World.cell?, gp]
  have q0 : W.cell? ⟨q, 0, none⟩ = some (.int .i64 x2) := by simp [World.cell?, gq]
  have pf0 : W.frozen? ⟨p, 0, none⟩ = false := by simp [World.frozen?, gp]
  have pf1 : W.frozen? ⟨p, 1, none⟩ = false := by simp [World.frozen?, gp]
  have qf0 : W.frozen? ⟨q, 0, none⟩ = false := by simp [World.frozen?, gq]
  have hqp : q ≠ p := fun e => hpq e.symm
  have hpn : p ≠ w.heap.size := by omega
  have hqn : q ≠ w.heap.size := by omega
  have hnp : w.heap.size ≠ p := by omega
  have hnq : w.heap.size ≠ q := by omega
  have hb : Below (min p q) w W := by rw [hW]; exact (Below.refl _ _).alloc (by omega) _
  clear hps hqs hp hq hW
  go_region
  have g1 := cells_set (i := 1) (cells_set (i := 0) gp (.int .i64 0)) (.int .i64 0)
  have g2 := (cell_other (i := 0) (.int .i64 why) hpq).trans g1
  have h1 := (cell_other (W := W) (B := p) (b := q) (i := 0) (.int .i64 0) hqp).trans gq
  have h2 := (cell_other (B := p) (b := q) (i := 1) (.int .i64 0) hqp).trans h1
  have h3 := cells_set (i := 0) h2 (.int .i64 why)
  have hb2 := ((((hb.setCell (p := ⟨p, 0, none⟩) (by simp; omega) (.int .i64 0)).setCell (p := ⟨p, 1, none⟩) (by simp; omega) (.int .i64 0)).setCell (p := ⟨q, 0, none⟩) (by simp; omega) (.int .i64 why))).drew
  cases c₀
  simp_all [bodyPostS, results, Tryz.results53]
  exact ⟨g2, h3⟩
theorem alloc_new (w : World) (o : Obj) : (w.alloc o).heap[w.heap.size]? = some o := by
  show (w.heap.push o)[w.heap.size]? = _
  simp
abbrev tW (w : World) : World := (w.alloc (.cells #[.int .i64 0, .int .i64 0] 37)).alloc (.cells #[.int .i64 0] 29)
theorem tW_below (w : World) : Below w.heap.size w (tW w) := ((Below.refl _ _).alloc (Nat.le_refl _) _).alloc (by simp) _
theorem tW_at (w : World) : (tW w).heap[w.heap.size]? = some (.cells #[.int .i64 0, .int .i64 0] 37 (0, 0)) ∧ (tW w).heap[w.heap.size + 1]? = some (.cells #[.int .i64 0] 29 (0, 0)) ∧ (tW w).heap.size = w.heap.size + 2 := by
  refine ⟨?_, ?_, by simp [tW]⟩
  · exact (Below.heap_alloc _ _ _ (by simp)).trans (alloc_new w _)
  · have := alloc_new (w.alloc (.cells #[.int .i64 0, .int .i64 0] 37)) (.cells #[.int .i64 0] 29)
    rwa [World.size_alloc] at this
theorem told_ok28 (caps : Array Value) (lo hi : Int) (w : World) (h : ∀ w', Below w.heap.size w w' → Calls Tryz.prog 28 caps w' fun e w'' => e = .returned (.agg #[.int .i64 lo, .int .i64 hi]) ∧ Below w'.heap.size w' w'') :
    Calls Tryz.prog 27 #[.func (.func 28) #[] caps] w fun e w' => e = .returned (.tuple #[.agg #[.int .i64 lo, .int .i64 hi], .int .i64 0]) ∧ Below w.heap.size w w' := by
  have hmf : ∀ (fn : Fn) (first cap : Array Value) (w : World), (Instr.makeFunc fn first cap).run Tryz.prog w = .ok (.func fn first cap) w := fun _ _ _ _ => rfl
  go_enter_defers Tryz.func27, Tryz.ntmps27
  go_wp2_with fail
  obtain ⟨t0, t1, t2⟩ := tW_at w
  refine (h _ (tW_below w)).mono ?_
  rintro e w2 ⟨rfl, hb⟩
  have hsz := hb.size
  rw [t2] at hsz
  have g0 := (hb.block _ (by rw [t2]; omega)).trans t0
  have g1 := (hb.block _ (by rw [t2]; omega)).trans t1
  have c0 : w2.cell? ⟨w.heap.size, 0, none⟩ = some (.int .i64 0) := by simp [World.cell?, g0]
  have c1 : w2.cell? ⟨w.heap.size, 1, none⟩ = some (.int .i64 0) := by simp [World.cell?, g0]
  have c2 : w2.cell? ⟨w.heap.size + 1, 0, none⟩ = some (.int .i64 0) := by simp [World.cell?, g1]
  have f0 : w2.frozen? ⟨w.heap.size, 0, none⟩ = false := by simp [World.frozen?, g0]
  have f1 : w2.frozen? ⟨w.heap.size, 1, none⟩ = false := by simp [World.frozen?, g0]
  have f2 : w2.frozen? ⟨w.heap.size + 1, 0, none⟩ = false := by simp [World.frozen?, g1]
  go_wp2
  have b2 : Below w.heap.size w (((w2.setCell ⟨w.heap.size, 0, none⟩ (.int .i64 lo)).setCell ⟨w.heap.size, 1, none⟩ (.int .i64 hi)).setCell ⟨w.heap.size + 1, 0, none⟩ (.int .i64 0)) :=
    (((((tW_below w).trans (hb.mono (by rw [t2]; omega))).setCell (by simp) _).setCell (by simp) _).setCell (by simp) _)
  have k0 := (cell_other (i := 0) (.int .i64 0) (show w.heap.size ≠ w.heap.size + 1 by omega)).trans (cells_set (i := 1) (cells_set (i := 0) g0 (.int .i64 lo)) (.int .i64 hi))
  have k1 := cells_set (i := 0) ((cell_other (W := w2.setCell ⟨w.heap.size, 0, none⟩ (.int .i64 lo)) (i := 1) (.int .i64 hi) (show w.heap.size + 1 ≠ w.heap.size by omega)).trans ((cell_other (i := 0) (.int .i64 lo) (show w.heap.size + 1 ≠ w.heap.size by omega)).trans g1)) (.int .i64 0)
  generalize (((w2.setCell ⟨w.heap.size, 0, none⟩ (.int .i64 lo)).setCell ⟨w.heap.size, 1, none⟩ (.int .i64 hi)).setCell ⟨w.heap.size + 1, 0, none⟩ (.int .i64 0)) = w3 at *
  have d0 : w3.cell? ⟨w.heap.size, 0, none⟩ = some (.int .i64 lo) := by simp [World.cell?, k0]
  have d1 : w3.cell? ⟨w.heap.size, 1, none⟩ = some (.int .i64 hi) := by simp [World.cell?, k0]
  have d2 : w3.cell? ⟨w.heap.size + 1, 0, none⟩ = some (.int .i64 0) := by simp [World.cell?, k1]
  refine leaves_cons (f := 53) (args := #[.pointer (some ⟨w.heap.size, 0, none⟩), .pointer (some ⟨w.heap.size + 1, 0, none⟩)]) (by simp) (by simp [go_sem]) ?_
  refine (told_idle ⟨w.heap.size, 0, none⟩ ⟨w.heap.size + 1, 0, none⟩ _).mono ?_
  rintro e u' w'' ⟨rfl, rfl, rfl⟩
  simp [Leaves, settle, results, Tryz.results27, go_sem, d0, d1, d2]
  exact b2
theorem told_bad28 (caps : Array Value) (why : Int) (w : World) (h : ∀ w', Below w.heap.size w w' → Calls Tryz.prog 28 caps w' fun e w'' => e = .panicked [{ v := rfu why, recovered := false }] ∧ Below w'.heap.size w' w'') :
    Calls Tryz.prog 27 #[.func (.func 28) #[] caps] w fun e w' => e = .returned (.tuple #[.agg #[.int .i64 0, .int .i64 0], .int .i64 why]) ∧ Below w.heap.size w w' := by
  have hmf : ∀ (fn : Fn) (first cap : Array Value) (w : World), (Instr.makeFunc fn first cap).run Tryz.prog w = .ok (.func fn first cap) w := fun _ _ _ _ => rfl
  go_enter_defers Tryz.func27, Tryz.ntmps27
  go_wp2_with fail
  obtain ⟨t0, t1, t2⟩ := tW_at w
  refine (h _ (tW_below w)).mono ?_
  rintro e w2 ⟨rfl, hb⟩
  have hsz := hb.size
  rw [t2] at hsz
  have g0 := (hb.block _ (by rw [t2]; omega)).trans t0
  have g1 := (hb.block _ (by rw [t2]; omega)).trans t1
  go_wp2
  refine leaves_cons (f := 53) (args := #[.pointer (some ⟨w.heap.size, 0, none⟩), .pointer (some ⟨w.heap.size + 1, 0, none⟩)]) (by simp) (by simp [go_sem]) ?_
  refine (told_caught w.heap.size (w.heap.size + 1) why 0 0 0 [] _ g0 g1 (by omega)).mono ?_
  rintro e u' w3 ⟨rfl, rfl, hb3, k0, k1⟩
  have b2 : Below w.heap.size w w3 := ((tW_below w).trans (hb.mono (by rw [t2]; omega))).trans (hb3.mono (by omega))
  have d0 : w3.cell? ⟨w.heap.size, 0, none⟩ = some (.int .i64 0) := by simp [World.cell?, k0]
  have d1 : w3.cell? ⟨w.heap.size, 1, none⟩ = some (.int .i64 0) := by simp [World.cell?, k0]
  have d2 : w3.cell? ⟨w.heap.size + 1, 0, none⟩ = some (.int .i64 why) := by simp [World.cell?, k1]
  simp [Leaves, settle, results, Tryz.results27, go_sem, d0, d1, d2]
  exact b2
theorem told_ok33 (caps : Array Value) (lo hi : Int) (w : World) (h : ∀ w', Below w.heap.size w w' → Calls Tryz.prog 33 caps w' fun e w'' => e = .returned (.agg #[.int .i64 lo, .int .i64 hi]) ∧ Below w'.heap.size w' w'') :
    Calls Tryz.prog 27 #[.func (.func 33) #[] caps] w fun e w' => e = .returned (.tuple #[.agg #[.int .i64 lo, .int .i64 hi], .int .i64 0]) ∧ Below w.heap.size w w' := by
  have hmf : ∀ (fn : Fn) (first cap : Array Value) (w : World), (Instr.makeFunc fn first cap).run Tryz.prog w = .ok (.func fn first cap) w := fun _ _ _ _ => rfl
  go_enter_defers Tryz.func27, Tryz.ntmps27
  go_wp2_with fail
  obtain ⟨t0, t1, t2⟩ := tW_at w
  refine (h _ (tW_below w)).mono ?_
  rintro e w2 ⟨rfl, hb⟩
  have hsz := hb.size
  rw [t2] at hsz
  have g0 := (hb.block _ (by rw [t2]; omega)).trans t0
  have g1 := (hb.block _ (by rw [t2]; omega)).trans t1
  have c0 : w2.cell? ⟨w.heap.size, 0, none⟩ = some (.int .i64 0) := by simp [World.cell?, g0]
  have c1 : w2.cell? ⟨w.heap.size, 1, none⟩ = some (.int .i64 0) := by simp [World.cell?, g0]
  have c2 : w2.cell? ⟨w.heap.size + 1, 0, none⟩ = some (.int .i64 0) := by simp [World.cell?, g1]
  have f0 : w2.frozen? ⟨w.heap.size, 0, none⟩ = false := by simp [World.frozen?, g0]
  have f1 : w2.frozen? ⟨w.heap.size, 1, none⟩ = false := by simp [World.frozen?, g0]
  have f2 : w2.frozen? ⟨w.heap.size + 1, 0, none⟩ = false := by simp [World.frozen?, g1]
  go_wp2
  have b2 : Below w.heap.size w (((w2.setCell ⟨w.heap.size, 0, none⟩ (.int .i64 lo)).setCell ⟨w.heap.size, 1, none⟩ (.int .i64 hi)).setCell ⟨w.heap.size + 1, 0, none⟩ (.int .i64 0)) :=
    (((((tW_below w).trans (hb.mono (by rw [t2]; omega))).setCell (by simp) _).setCell (by simp) _).setCell (by simp) _)
  have k0 := (cell_other (i := 0) (.int .i64 0) (show w.heap.size ≠ w.heap.size + 1 by omega)).trans (cells_set (i := 1) (cells_set (i := 0) g0 (.int .i64 lo)) (.int .i64 hi))
  have k1 := cells_set (i := 0) ((cell_other (W := w2.setCell ⟨w.heap.size, 0, none⟩ (.int .i64 lo)) (i := 1) (.int .i64 hi) (show w.heap.size + 1 ≠ w.heap.size by omega)).trans ((cell_other (i := 0) (.int .i64 lo) (show w.heap.size + 1 ≠ w.heap.size by omega)).trans g1)) (.int .i64 0)
  generalize (((w2.setCell ⟨w.heap.size, 0, none⟩ (.int .i64 lo)).setCell ⟨w.heap.size, 1, none⟩ (.int .i64 hi)).setCell ⟨w.heap.size + 1, 0, none⟩ (.int .i64 0)) = w3 at *
  have d0 : w3.cell? ⟨w.heap.size, 0, none⟩ = some (.int .i64 lo) := by simp [World.cell?, k0]
  have d1 : w3.cell? ⟨w.heap.size, 1, none⟩ = some (.int .i64 hi) := by simp [World.cell?, k0]
  have d2 : w3.cell? ⟨w.heap.size + 1, 0, none⟩ = some (.int .i64 0) := by simp [World.cell?, k1]
  refine leaves_cons (f := 53) (args := #[.pointer (some ⟨w.heap.size, 0, none⟩), .pointer (some ⟨w.heap.size + 1, 0, none⟩)]) (by simp) (by simp [go_sem]) ?_
  refine (told_idle ⟨w.heap.size, 0, none⟩ ⟨w.heap.size + 1, 0, none⟩ _).mono ?_
  rintro e u' w'' ⟨rfl, rfl, rfl⟩
  simp [Leaves, settle, results, Tryz.results27, go_sem, d0, d1, d2]
  exact b2
theorem told_bad33 (caps : Array Value) (why : Int) (w : World) (h : ∀ w', Below w.heap.size w w' → Calls Tryz.prog 33 caps w' fun e w'' => e = .panicked [{ v := rfu why, recovered := false }] ∧ Below w'.heap.size w' w'') :
    Calls Tryz.prog 27 #[.func (.func 33) #[] caps] w fun e w' => e = .returned (.tuple #[.agg #[.int .i64 0, .int .i64 0], .int .i64 why]) ∧ Below w.heap.size w w' := by
  have hmf : ∀ (fn : Fn) (first cap : Array Value) (w : World), (Instr.makeFunc fn first cap).run Tryz.prog w = .ok (.func fn first cap) w := fun _ _ _ _ => rfl
  go_enter_defers Tryz.func27, Tryz.ntmps27
  go_wp2_with fail
  obtain ⟨t0, t1, t2⟩ := tW_at w
  refine (h _ (tW_below w)).mono ?_
  rintro e w2 ⟨rfl, hb⟩
  have hsz := hb.size
  rw [t2] at hsz
  have g0 := (hb.block _ (by rw [t2]; omega)).trans t0
  have g1 := (hb.block _ (by rw [t2]; omega)).trans t1
  go_wp2
  refine leaves_cons (f := 53) (args := #[.pointer (some ⟨w.heap.size, 0, none⟩), .pointer (some ⟨w.heap.size + 1, 0, none⟩)]) (by simp) (by simp [go_sem]) ?_
  refine (told_caught w.heap.size (w.heap.size + 1) why 0 0 0 [] _ g0 g1 (by omega)).mono ?_
  rintro e u' w3 ⟨rfl, rfl, hb3, k0, k1⟩
  have b2 : Below w.heap.size w w3 := ((tW_below w).trans (hb.mono (by rw [t2]; omega))).trans (hb3.mono (by omega))
  have d0 : w3.cell? ⟨w.heap.size, 0, none⟩ = some (.int .i64 0) := by simp [World.cell?, k0]
  have d1 : w3.cell? ⟨w.heap.size, 1, none⟩ = some (.int .i64 0) := by simp [World.cell?, k0]
  have d2 : w3.cell? ⟨w.heap.size + 1, 0, none⟩ = some (.int .i64 why) := by simp [World.cell?, k1]
  simp [Leaves, settle, results, Tryz.results27, go_sem, d0, d1, d2]
  exact b2
end Go.Proofs.YtkonpbcnekcjjaaGreatDoor.DV
namespace Go.Proofs.YtkonpbcnekcjjaaGreatDoor
open Go Go.RowKit Go.Shelf
def Abid {α : Type} (Z : Nat → Prop) (J : List α → World → Prop) : Prop := ∀ s W b i v, Z b → J s W → J s (W.setCell ⟨b, i, none⟩ v)
def SeqF {α : Type} (F : Fence) (n : Nat) (P : Program) (g : Nat) (lb : Array Value) (encs : α → Array Value) (Kp : World → World → Prop) (S : List α → Prop) (Z : Nat → Prop) (w : World) : Prop :=
  ∀ (l : Nat) (J : List α → World → Prop) (W : World), Below w.heap.size w W → AbidesFrom W.heap.size J → Abid Z J →
    (∀ pre x W1, J pre W1 → YieldAt F (n - 1) P l (encs x) W1 fun e W' => e = .returned (.bool true) ∧ J (pre ++ [x]) W' ∧ Kp W1 W') →
    J [] W →
    CallsIn F n P g (#[.func (.yield l) #[] #[]] ++ lb) W fun e W' => (∃ v, e = .returned v) ∧ ∃ xs, S xs ∧ J xs W'
def goesOn {α : Type} (B : Nat) (Kp : World → World → Prop) (I : List α → World → Prop) (xs : List α) (W : World) : Exit → Act → World → Prop
  | .normal, _, W' => KeepsFrom B W W' ∧ Kp W W' ∧ I xs W'
  | _, _, _ => False
theorem box_other {W : World} {Bf b i : Nat} (v : Value) (h : b ≠ Bf) : (W.setCell ⟨Bf, i, none⟩ v).heap[b]? = W.heap[b]? := Below.heap_setCell W ⟨Bf, i, none⟩ v b h
section
variable {α : Type} {F : Fence} {n : Nat} {P : Program} {g : Operand} {ps : Array Tmp} {assign body : Code} {Q : Exit → Act → World → Prop} {a : Act} {w : World}
theorem range_first (hro : F.round = none) (h1 : 1 ≤ n) {gf : Nat} {Z : Nat → Prop} {lb : Array Value} (hg : a.eval g = .func (.func gf) #[] lb) (hFg : F.fn gf) (eg : ∀ args w, (callFunc gf args).run P w = .ok (.enter gf args) w)
    {encs : α → Array Value} {Kp : World → World → Prop} {S : List α → Prop} (hseq : SeqF F (n - 1) P gf lb encs Kp S Z w) (hBf : ∀ b, Z b → b < w.heap.size)
    (hKt : ∀ {A B C : World}, Kp A B → Kp B C → Kp A C) (hKb : ∀ (W : World) (l : Nat) (o o' : Obj), w.heap.size ≤ l → W.heap[l]? = some o → o.isCells = false → Kp W (W.putObj l o')) (hps : ∀ x, (encs x).size = ps.size)
    (I : List α → World → Prop) (hI : OwnFrom w.heap.size I) (hIf : Abid Z I) (h0 : I [] w) (Ax : α → Act → World → Prop) (hAx : ∀ x a', OwnFrom w.heap.size (fun (_ : Unit) W => Ax x a' W))
    (hassign : ∀ (l : Nat) (pre : List α) (x : α) (W : World) (K : Act → World → Prop), I pre W → (∀ a' W', KeepsFrom w.heap.size W W' → Kp W W' → I pre W' → Ax x a' W' → K a' W') →
      assign.wpIn (F.inRound l) (n - 1 - 1) P (Exit.then K (fun _ _ _ => False)) { tmps := (ps.zip (encs x)).foldl (fun t (p, v) => t.setIfInBounds p v) a.tmps, defers := [] } W)
    (hbody : ∀ (l : Nat) (pre : List α) (x : α) (a' : Act) (W : World), w.heap.size ≤ l → I pre W → Ax x a' W → body.wpIn (F.inRound l) (n - 1 - 1) P (goesOn w.heap.size Kp I (pre ++ [x]) W) a' W)
    (hdone : ∀ (D : Nat) (xs : List α) (W : World), w.heap.size ≤ D → S xs → I xs W → W.heap[D]? = some (.deferred (some [])) → Q .normal { a with defers := { target := .collected D, args := #[] } :: a.defers } W) :
    (Code.rangeFunc g ps assign body).wpIn F n P Q a w := by
  refine wpIn_rangeFunc ?_
  intro fn hfn
  rw [hro]

  obtain ⟨r, hr⟩ : ∃ r : LoopState → Option Code → Loop, r = fun st pe => { state := st, pending := pe, fn, tmps := a.tmps, params := ps, assign, body, defers := w.heap.size } := ⟨_, rfl⟩
  obtain ⟨V, hV⟩ : ∃ V, (w.alloc (.deferred (some []))).alloc (.loop (r .ready none)) = V := ⟨_, rfl⟩
  have hl0 : V.heap[w.heap.size + 1]? = some (.loop (r .ready none)) := by
    have := World.alloc_heap_new (w.alloc (.deferred (some []))) (.loop (r .ready none))
    rw [World.size_alloc] at this
    rw [← hV]
    exact this
  have hd0 : V.heap[w.heap.size]? = some (.deferred (some [])) := by
    rw [← hV]
    exact (Below.heap_alloc _ _ _ (by simp)).trans (World.alloc_heap_new w _)
  have hi0 : I [] V := by rw [← hV]; exact hI.alloc _ (hI.alloc _ h0)
  have hbV : Below w.heap.size w V := by rw [← hV]; exact ((Below.refl _ w).alloc (Nat.le_refl _) _).alloc (by simp) _
  have hsV : V.heap.size = w.heap.size + 2 := by rw [← hV]; simp
  refine ⟨w.heap.size + 1, [{ target := .collected w.heap.size, args := #[] }], V, { target := .fn (.func gf) lb, args := #[.func (.yield (w.heap.size + 1)) #[] #[]] }, V, gf, #[.func (.yield (w.heap.size + 1)) #[] #[]] ++ lb, V, ?_, ?_, ?_, ?_, fun _ => h1, ?_⟩
  · rw [← hV, hr]
    exact run_enterLoop_outer _ _ _ _ _
  · simp only [resolve, hg]
    simp [go_sem]
  · intro f' hf'
    simp [Target.leads] at hf'
    subst hf'
    exact hFg
  · simp [invoke, go_sem, eg]
  refine (hseq (w.heap.size + 1) (fun pre W => I pre W ∧ W.heap[w.heap.size + 1]? = some (.loop (r .ready none)) ∧ W.heap[w.heap.size]? = some (.deferred (some []))) V hbV ?_ ?_ ?_ ⟨hi0, hl0, hd0⟩).mono ?_
  · intro s A B row hs hg' hrow
    refine ⟨hI s A B row hs.1 hg' (fun q e => ?_), (grownBy_keeps hg' (fun q e => (hrow q e).2) hs.2.1 rfl).trans hs.2.1, (grownBy_keeps hg' (fun q e => (hrow q e).2) hs.2.2 rfl).trans hs.2.2⟩
    obtain ⟨hB, o, ho, hw⟩ := hrow q e
    exact ⟨by omega, o, ho, Obj.not_cells_of_walk hw⟩
  · intro s W b i v hb hs
    have hlt := hBf b hb
    exact ⟨hIf s W b i v hb hs.1, (box_other v (by omega)).trans hs.2.1, (box_other v (by omega)).trans hs.2.2⟩
  · rintro pre x W ⟨hi, hl, hd⟩
    have hy := run_yield (P := P) (args := encs x) hl (by rw [hr]; exact hps x)
    rw [hr] at hy
    refine ⟨fn, _, assign, body, hy, roundIn_of_wpIn hfn (hassign _ pre x W _ hi ?_)⟩
    clear hy
    intro a' Wa hk1 hp1 hi1 hax
    have hla := hk1.same _ _ (by omega) hl rfl
    have hda := hk1.same _ _ (Nat.le_refl _) hd rfl
    have hlt := (Array.getElem?_eq_some_iff.1 hla).1
    refine ⟨_, run_beginRound hla (by rw [hr]), ?_⟩
    have hl2 : (Wa.putObj (w.heap.size + 1) (.loop { r .ready none with state := .busy })).heap[w.heap.size + 1]? = some (.loop { r .ready none with state := .busy }) := World.putObj_heap_same hlt
    have hd2 : (Wa.putObj (w.heap.size + 1) (.loop { r .ready none with state := .busy })).heap[w.heap.size]? = some (.deferred (some [])) := (World.putObj_heap_other (by omega)).trans hda
    have hp2 := hKb Wa _ _ (.loop { r .ready none with state := .busy }) (by omega : w.heap.size ≤ w.heap.size + 1) hla rfl
    refine wpIn_mono (hbody _ pre x a' _ (by omega) (hI.putObj _ hi1 (by omega) hla rfl) ((hAx x a').putObj (s := ()) _ hax (by omega) hla rfl)) ?_
    rintro e a3 W3 hp
    cases e with
    | normal =>
      obtain ⟨hk3, hp3, hi3⟩ := hp
      have hl3 := hk3.same _ _ (by omega) hl2 rfl
      have hd3 := hk3.same _ _ (Nat.le_refl _) hd2 rfl
      have he := run_endRound (P := P) none hl3
      rw [hr] at he
      refine ⟨_, _, he, rfl, ⟨hI.putObj _ hi3 (by omega) hl3 rfl, ?_, (World.putObj_heap_other (by omega)).trans hd3⟩, hKt hp1 (hKt (hKt hp2 hp3) (hKb _ _ _ _ (by omega) hl3 rfl))⟩
      rw [hr]
      exact World.putObj_heap_same (Array.getElem?_eq_some_iff.1 hl3).1
    | _ => exact hp.elim
  · rintro e W2 ⟨⟨v, rfl⟩, xs, hS, hi, hl, hd⟩
    exact ⟨none, _, by have := run_endLoop (P := P) hl (by rw [hr]; simp); rw [hr] at this; exact this, hdone _ xs _ (Nat.le_refl _) hS (hI.putObj _ hi (by omega) hl rfl) ((World.putObj_heap_other (by omega)).trans hd)⟩
end
end Go.Proofs.YtkonpbcnekcjjaaGreatDoor
namespace Go.Proofs.YtkonpbcnekcjjaaGreatDoor.DV
open Go Go.Xec Go.RowKit Go.Shelf
def eu : Nat → Int → Int → List Int
  | 0, _, _ => []
  | n + 1, a, b => if b = 0 then [] else b :: eu n b (a % b)
def lastI (a : Int) (l : List Int) : Int := l.getLastD a
def gcdI (a b : Int) : Int := (Nat.gcd a.toNat b.toNat : Nat)
theorem gcdI_zero {a : Int} (h : 0 ≤ a) : gcdI a 0 = a := by
  unfold gcdI
  rw [Int.toNat_zero, Nat.gcd_zero_right]
  omega
theorem gcdI_step {a b : Int} (ha : 0 ≤ a) (hb : 0 < b) : gcdI b (a % b) = gcdI a b := by
  unfold gcdI
  obtain ⟨m, rfl⟩ : ∃ m : Nat, a = m := ⟨a.toNat, by omega⟩
  obtain ⟨k, rfl⟩ : ∃ k : Nat, b = k := ⟨b.toNat, by omega⟩
  rw [← Int.natCast_emod]
  simp only [Int.toNat_natCast]
  rw [Nat.gcd_comm m k, Nat.gcd_rec k m, Nat.gcd_comm]
theorem eu_gcd : ∀ (n : Nat) (a b : Int), 0 ≤ a → 0 ≤ b → b < n → lastI a (eu n a b) = gcdI a b
  | 0, a, b, ha, hb, h => by omega
  | n + 1, a, b, ha, hb, h => by
    rw [eu]
    split
    · rename_i e
      subst e
      rw [gcdI_zero ha]; rfl
    · rename_i e
      have h1 := Int.emod_nonneg a e
      have h2 := Int.emod_lt_of_pos a (show 0 < b by omega)
      have := eu_gcd n b (a % b) hb h1 (by omega)
      rw [gcdI_step ha (by omega)] at this
      rw [← this]
      unfold lastI
      rw [List.getLastD_cons]
theorem eu_fuel : ∀ (n m : Nat) (a b : Int), 0 ≤ b → b < n → b < m → eu n a b = eu m a b
  | 0, m, a, b, hb, h, _ => by omega
  | n + 1, 0, a, b, hb, h, h' => by omega
  | n + 1, m + 1, a, b, hb, h, h' => by
    rw [eu, eu]
    split
    · rfl
    · rename_i e
      have h1 := Int.emod_nonneg a e
      have h2 := Int.emod_lt_of_pos a (show 0 < b by omega)
      rw [eu_fuel n m b (a % b) h1 (by omega) (by omega)]
theorem lastI_snoc (a : Int) (l : List Int) (x : Int) : lastI a (l ++ [x]) = x := by simp [lastI]
theorem F58_w {a b : Int} (ha : U a) (hb : U b) (h : b ≠ 0) : F58 [W 0 a, W 0 b] = some (.tup [W 0 (a / b), W 0 (a % b), .int .i64 0]) := by
  have h1 := F58_eq (n := a) (y := b) ⟨ha.1, by have := ha.2; unfold big; omega⟩ ⟨by have := hb.1; omega, hb.2⟩
  have z0 : ∀ x : Int, U x → x / 18446744073709551616 = 0 ∧ x % 18446744073709551616 = x := fun x hx => ⟨Int.ediv_eq_zero_of_lt hx.1 hx.2, Int.emod_eq_of_lt hx.1 hx.2⟩
  have hq : U (a / b) := ⟨Int.ediv_nonneg ha.1 hb.1, Int.lt_of_le_of_lt (Int.ediv_le_self b ha.1) ha.2⟩
  have hm : U (a % b) := ⟨Int.emod_nonneg a h, Int.lt_trans (Int.emod_lt_of_pos a (by have := hb.1; omega)) hb.2⟩
  simp only [enc, (z0 a ha).1, (z0 a ha).2, (z0 b hb).1, (z0 b hb).2, (z0 _ hq).1, (z0 _ hq).2, (z0 _ hm).1, (z0 _ hm).2] at h1
  exact h1
theorem F58_w0 {a : Int} (ha : U a) : F58 [W 0 a, W 0 0] = some (.tup [W 0 0, W 0 0, .int .i64 4]) := by
  have h1 : F58 [enc a, W 0 0] = some (.tup [W 0 0, W 0 0, .int .i64 4]) := F58_zero
  simp only [enc, Int.ediv_eq_zero_of_lt ha.1 ha.2, Int.emod_eq_of_lt ha.1 ha.2] at h1
  exact h1
abbrev bxW (x : Int) : Array Value := #[.int .u64 0, .int .u64 x]
abbrev encW (x : Int) : Array Value := #[.agg (bxW x)]
def KpA (n₀ Bc : Nat) (A A' : World) : Prop := Below n₀ A A' ∧ ∀ b cs T f, b ≠ Bc → A.heap[b]? = some (.cells cs T f) → A'.heap[b]? = some (.cells cs T f)
theorem div_calls {a b : Int} (ha : U a) (hb : U b) (w : World) (hL : Laid Tryz.prog w) : Calls Tryz.prog 58 #[.agg (bxW a), .agg (bxW b)] w fun e w' =>
    (b = 0 → e = .returned (.tuple #[.agg (bxW 0), .agg (bxW 0), .int .i64 4])) ∧ (b ≠ 0 → e = .returned (.tuple #[.agg (bxW (a / b)), .agg (bxW (a % b)), .int .i64 0])) ∧ Below w.heap.size w w' := by
  have hvl : VL (ctx0 w fun b => b < w.heap.size) [W 0 a, W 0 b] [.agg (bxW a), .agg (bxW b)] := by
    simp only [VL, V]
    exact ⟨_, _, rfl, ⟨_, rfl, _, _, rfl, rfl, _, _, rfl, rfl, rfl⟩, _, _, rfl, ⟨_, rfl, _, _, rfl, rfl, _, _, rfl, rfl, rfl⟩, rfl⟩
  by_cases h : b = 0
  · subst h
    refine (calls_sound Tryz.func58 (by kernel_rfl) (by kernel_rfl) sound58 (F58_w0 ha) w hL hvl).mono ?_
    rintro e w' ⟨v, rfl, hb', hv⟩
    simp only [V, VL] at hv
    obtain ⟨_, rfl, _, _, rfl, ⟨_, rfl, _, _, rfl, rfl, _, _, rfl, rfl, rfl⟩, _, _, rfl, ⟨_, rfl, _, _, rfl, rfl, _, _, rfl, rfl, rfl⟩, _, _, rfl, rfl, rfl⟩ := hv
    exact ⟨fun _ => rfl, fun h => absurd rfl h, hb'⟩
  · refine (calls_sound Tryz.func58 (by kernel_rfl) (by kernel_rfl) sound58 (F58_w ha hb h) w hL hvl).mono ?_
    rintro e w' ⟨v, rfl, hb', hv⟩
    simp only [V, VL] at hv
    obtain ⟨_, rfl, _, _, rfl, ⟨_, rfl, _, _, rfl, rfl, _, _, rfl, rfl, rfl⟩, _, _, rfl, ⟨_, rfl, _, _, rfl, rfl, _, _, rfl, rfl, rfl⟩, _, _, rfl, rfl, rfl⟩ := hv
    exact ⟨fun h' => absurd h' h, fun _ => rfl, hb'⟩
attribute [local go_sem] Oper.semAt_some
abbrev loOf (w : World) (b : Nat) : Nat := match w.cell? ⟨b, 1, none⟩ with | some (.int _ n) => n.toNat | _ => 0
def At0 (l Ba Bb Bc : Nat) (w0 : World) (J : List Int → World → Prop) (tot : List Int) (x y : Int) (pre : List Int) (a' : Act) (w' : World) : Prop :=
  (∃ u3 u4 u5 u6 u7 u8 u9 u10 u11 u12 u13 u14 u15 u16 u17 u18 u19 u20 u21 u22 u23 : Value, a' = { tmps := #[.func (.yield l) #[] #[], .pointer (some ⟨Ba, 0, none⟩), .pointer (some ⟨Bb, 0, none⟩), u3, u4, u5, u6, u7, u8, u9, u10, u11, u12, u13, u14, u15, u16, u17, u18, u19, u20, u21, u22, u23], defers := [] }) ∧
    w'.heap[Ba]? = some (.cells (bxW x) 26 (0, 0)) ∧ w'.heap[Bb]? = some (.cells (bxW y) 26 (0, 0)) ∧ U x ∧ U y ∧ pre ++ eu (y.toNat + 1) x y = tot ∧ J pre w' ∧ Below w0.heap.size w0 w' ∧ Bc < w'.heap.size
def digS : Option Code → Option Code
  | some (.scope (.seq _ c)) => some c
  | _ => none
theorem eu_next {pre tot : List Int} {x y : Int} (hx : U x) (hy : U y) (h0 : y ≠ 0) (h : pre ++ eu (y.toNat + 1) x y = tot) : (pre ++ [y]) ++ eu ((x % y).toNat + 1) y (x % y) = tot := by
  have h1 := Int.emod_nonneg x h0
  have h2 := Int.emod_lt_of_pos x (show 0 < y by have := hy.1; omega)
  have e : eu (y.toNat + 1) x y = y :: eu y.toNat y (x % y) := by rw [eu, if_neg h0]
  rw [← h, e, List.append_assoc, List.singleton_append, eu_fuel y.toNat ((x % y).toNat + 1) y (x % y) h1 (by omega) (by omega)]
set_option maxRecDepth 100000 in
set_option maxHeartbeats 2000000 in
theorem st_pass (n l Ba Bb Bc : Nat) (w0 : World) (hL : Laid Tryz.prog w0) (hab : Ba ≠ Bb) (hna : w0.heap.size ≤ Ba) (hnb : w0.heap.size ≤ Bb) (hac : Ba ≠ Bc) (hbc : Bb ≠ Bc)
    (J : List Int → World → Prop) (hJg : ∀ s A B, J s A → Below A.heap.size A B → J s B) (hJz : Abid (fun k => k = Ba ∨ k = Bb) J)
    (hY : ∀ pre x W1, J pre W1 → YieldAt Fence.wide n Tryz.prog l (encW x) W1 fun e W' => e = .returned (.bool true) ∧ J (pre ++ [x]) W' ∧ KpA w0.heap.size Bc W1 W')
    {tot : List Int} {rest : Code} (hcode : digS Tryz.f115.body = some rest) (Jm : Act → World → Prop) {x y : Int} {pre : List Int} {a' : Act} {w' : World} (hat : At0 l Ba Bb Bc w0 J tot x y pre a' w')
    (hm : ∀ a'' w'', (∃ x' y' pre', At0 l Ba Bb Bc w0 J tot x' y' pre' a'' w'') → loOf w'' Bb < loOf w' Bb → Jm a'' w'') :
    rest.wp Tryz.prog (Exit.jump 0 Jm (bodyPost Tryz.prog Tryz.f115 fun e W' => (∃ v, e = .returned v) ∧ ∃ xs, xs = tot ∧ J xs W')) a' w' := by
  simp only [Tryz.f115, digS, Option.some.injEq] at hcode
  subst hcode
  obtain ⟨⟨u3, u4, u5, u6, u7, u8, u9, u10, u11, u12, u13, u14, u15, u16, u17, u18, u19, u20, u21, u22, u23, rfl⟩, hx, hy, hxU, hyU, hpe, hj, hbw, hcw⟩ := hat
  have cx0 : w'.cell? ⟨Ba, 0, none⟩ = some (.int .u64 0) := by simp [World.cell?, hx]
  have cx1 : w'.cell? ⟨Ba, 1, none⟩ = some (.int .u64 x) := by simp [World.cell?, hx]
  have cy0 : w'.cell? ⟨Bb, 0, none⟩ = some (.int .u64 0) := by simp [World.cell?, hy]
  have cy1 : w'.cell? ⟨Bb, 1, none⟩ = some (.int .u64 y) := by simp [World.cell?, hy]
  have hcy1 := cy1
  refine wpIn_wide (n := n + 1).1 ?_
  have hdiv := callsIn_wide (n := n).2 (div_calls hxU hyU w' (below_laid hL hbw))
  gi_wp2_with fail
  refine ⟨trivial, hdiv.mono ?_⟩
  rintro e w2 ⟨h1, h2, hb2⟩
  clear hdiv
  by_cases hy0 : y = 0
  · subst hy0
    obtain rfl := h1 rfl
    have hpe' : pre = tot := by rw [← hpe, Int.toNat_zero, eu, if_pos rfl, List.append_nil]
    have hbz : Below w'.heap.size w' ((w2.alloc (.cells #[.int .u64 0, .int .u64 0] 26)).alloc (.cells #[.int .u64 0, .int .u64 0] 26)) := hb2.trans (((Below.refl _ _).alloc hb2.size _).alloc (by have := hb2.size; simp; omega) _)
    have hjz := hJg _ _ _ hj hbz
    gi_wp2_with fail
    refine ⟨fun _ h => (by cases h), ?_⟩
    gi_wp2_with fail
    exact ⟨rfl, .tuple #[], by simp [results, Tryz.results115], ⟨_, rfl⟩, pre, hpe', hjz⟩
  · obtain rfl := h2 hy0
    clear h1 h2
    have cy02 : w2.cell? ⟨Bb, 0, none⟩ = some (.int .u64 0) := by simp [World.cell?, hb2.block _ (Array.getElem?_eq_some_iff.1 hy).1, hy]
    have cy12 : w2.cell? ⟨Bb, 1, none⟩ = some (.int .u64 y) := by simp [World.cell?, hb2.block _ (Array.getElem?_eq_some_iff.1 hy).1, hy]
    have hlt2 := Nat.lt_of_lt_of_le (Array.getElem?_eq_some_iff.1 hy).1 hb2.size
    clear cx0 cx1 cy0 cy1
    obtain ⟨w3, hw3⟩ : ∃ w3, w3 = (w2.alloc (.cells #[.int .u64 0, .int .u64 (x / y)] 26)).alloc (.cells #[.int .u64 0, .int .u64 (x % y)] 26) := ⟨_, rfl⟩
    have hz3 : w2.heap.size + 2 = w3.heap.size := by rw [hw3]; simp
    have hb23 : Below w2.heap.size w2 w3 := by rw [hw3]; exact ((Below.refl _ _).alloc (Nat.le_refl _) _).alloc (by simp) _
    have hb3 : Below w'.heap.size w' w3 := hb2.trans (hb23.mono hb2.size)
    have hj3 := hJg _ _ _ hj hb3
    obtain ⟨fn, tmps, assign, body, hyl, hR⟩ := hY pre y w3 hj3
    dsimp only [encW, bxW] at hyl
    have g5 : w3.heap[w2.heap.size + 1]? = some (.cells #[.int .u64 0, .int .u64 (x % y)] 26 (0, 0)) := by
      rw [hw3]
      have := World.alloc_heap_new (w2.alloc (.cells #[.int .u64 0, .int .u64 (x / y)] 26)) (.cells #[.int .u64 0, .int .u64 (x % y)] 26)
      rwa [World.size_alloc] at this
    rw [hw3] at hyl
    gi_wp2_with fail
    rw [← hw3] at *
    have g4 : w3.heap[Bb]? = some (.cells (bxW y) 26 (0, 0)) := (hb3.block _ (Array.getElem?_eq_some_iff.1 hy).1).trans hy
    have g3 : w3.heap[Ba]? = some (.cells (bxW x) 26 (0, 0)) := (hb3.block _ (Array.getElem?_eq_some_iff.1 hx).1).trans hx
    refine hR.mono ?_
    rintro e w4 ⟨rfl, hj4, hk1, hk2⟩
    have hz2 := hb2.size
    have q5 := hk2 _ _ _ _ (by omega) g5
    have q4 := hk2 _ _ _ _ hbc g4
    have q3 := hk2 _ _ _ _ hac g3
    have hbw4 : Below w0.heap.size w0 w4 := (hbw.trans (hb3.mono hbw.size)).trans hk1
    have hz4 := hk1.size
    have r0 : w4.cell? ⟨Bb, 0, none⟩ = some (.int .u64 0) := by simp [World.cell?, q4]
    have r1 : w4.cell? ⟨Bb, 1, none⟩ = some (.int .u64 y) := by simp [World.cell?, q4]
    have s0 : w4.cell? ⟨Ba, 0, none⟩ = some (.int .u64 0) := by simp [World.cell?, q3]
    have s1 : w4.cell? ⟨Ba, 1, none⟩ = some (.int .u64 x) := by simp [World.cell?, q3]
    have v0 : w4.cell? ⟨w2.heap.size + 1, 0, none⟩ = some (.int .u64 0) := by simp [World.cell?, q5]
    have v1 : w4.cell? ⟨w2.heap.size + 1, 1, none⟩ = some (.int .u64 (x % y)) := by simp [World.cell?, q5]
    have fr0 : w4.frozen? ⟨Bb, 0, none⟩ = false := by simp [World.frozen?, q4]
    have fr1 : w4.frozen? ⟨Bb, 1, none⟩ = false := by simp [World.frozen?, q4]
    have fs0 : w4.frozen? ⟨Ba, 0, none⟩ = false := by simp [World.frozen?, q3]
    have fs1 : w4.frozen? ⟨Ba, 1, none⟩ = false := by simp [World.frozen?, q3]
    have hba : Bb ≠ Ba := fun e => hab e.symm
    have hn1 : w2.heap.size + 1 ≠ Ba := by have := (Array.getElem?_eq_some_iff.1 hx).1; omega
    have hn2 : w2.heap.size + 1 ≠ Bb := by omega
    have hn3 : Ba ≠ w2.heap.size + 1 := fun e => hn1 e.symm
    have hn4 : Bb ≠ w2.heap.size + 1 := fun e => hn2 e.symm
    clear hyl hR
    gi_wp2_with fail
    refine wpIn_wide.2 ?_
    go_region
    have g6 := (cell_other (B := Bb) (b := Ba) (i := 1) (.int .u64 (x % y)) hab).trans ((cell_other (B := Bb) (b := Ba) (i := 0) (.int .u64 0) hab).trans (cells_set (i := 1) (cells_set (i := 0) q3 (.int .u64 0)) (.int .u64 y)))
    have g7 := cells_set (i := 1) (cells_set (i := 0) ((cell_other (W := w4.setCell ⟨Ba, 0, none⟩ (.int .u64 0)) (B := Ba) (b := Bb) (i := 1) (.int .u64 y) hba).trans ((cell_other (B := Ba) (b := Bb) (i := 0) (.int .u64 0) hba).trans q4)) (.int .u64 0)) (.int .u64 (x % y))
    have hj7 := hJz _ _ Bb 1 (.int .u64 (x % y)) (.inr rfl) (hJz _ _ Bb 0 (.int .u64 0) (.inr rfl) (hJz _ _ Ba 1 (.int .u64 y) (.inl rfl) (hJz _ _ Ba 0 (.int .u64 0) (.inl rfl) hj4)))
    have hb7 := (((hbw4.setCell (p := ⟨Ba, 0, none⟩) hna (.int .u64 0)).setCell (p := ⟨Ba, 1, none⟩) hna (.int .u64 y)).setCell (p := ⟨Bb, 0, none⟩) hnb (.int .u64 0)).setCell (p := ⟨Bb, 1, none⟩) hnb (.int .u64 (x % y))
    have hz7 : ((((w4.setCell ⟨Ba, 0, none⟩ (.int .u64 0)).setCell ⟨Ba, 1, none⟩ (.int .u64 y)).setCell ⟨Bb, 0, none⟩ (.int .u64 0)).setCell ⟨Bb, 1, none⟩ (.int .u64 (x % y))).heap.size = w4.heap.size := by simp
    generalize ((((w4.setCell ⟨Ba, 0, none⟩ (.int .u64 0)).setCell ⟨Ba, 1, none⟩ (.int .u64 y)).setCell ⟨Bb, 0, none⟩ (.int .u64 0)).setCell ⟨Bb, 1, none⟩ (.int .u64 (x % y))) = w7 at *
    have hj8 := hJg _ _ w7.drew hj7 (Below.refl _ _).drew
    have g8 : w7.drew.heap[Ba]? = some (.cells #[.int .u64 0, .int .u64 y] 26 (0, 0)) := g6
    have g9 : w7.drew.heap[Bb]? = some (.cells #[.int .u64 0, .int .u64 (x % y)] 26 (0, 0)) := g7
    have hb9 := hb7.drew
    have hz9 : w7.drew.heap.size = w4.heap.size := hz7
    generalize w7.drew = w9 at *
    simp only [Exit.then]
    gi_wp2_with fail
    have h1 := Int.emod_nonneg x hy0
    have h2 := Int.emod_lt_of_pos x (show 0 < y by have := hyU.1; omega)
    refine wpIn_goto ⟨rfl, hm _ _ ⟨y, x % y, pre ++ [y], ⟨_, _, _, _, _, _, _, _, _, _, _, _, _, _, _, _, _, _, _, _, _, rfl⟩, g8, g9, hyU, ⟨h1, Int.lt_trans h2 hyU.2⟩, eu_next hxU hyU hy0 hpe, hj8, hb9, by omega⟩ ?_⟩
    have l1 : w9.cell? ⟨Bb, 1, none⟩ = some (.int .u64 (x % y)) := by simp [World.cell?, g9]
    simp only [loOf, l1, hcy1]
    omega
theorem st_in (n l Ba Bb Bc : Nat) (w0 : World) (hL : Laid Tryz.prog w0) {a b : Int} (ha : U a) (hb : U b) (hab : Ba ≠ Bb) (hna : w0.heap.size ≤ Ba) (hnb : w0.heap.size ≤ Bb) (hac : Ba ≠ Bc) (hbc : Bb ≠ Bc)
    (J : List Int → World → Prop) (hJg : ∀ s A B, J s A → Below A.heap.size A B → J s B) (hJz : Abid (fun k => k = Ba ∨ k = Bb) J)
    (hY : ∀ pre x W1, J pre W1 → YieldAt Fence.wide n Tryz.prog l (encW x) W1 fun e W' => e = .returned (.bool true) ∧ J (pre ++ [x]) W' ∧ KpA w0.heap.size Bc W1 W')
    (W : World) (hW : Below w0.heap.size w0 W) (hcW : Bc < W.heap.size) (hBa : W.heap[Ba]? = some (.cells (bxW a) 26 (0, 0))) (hBb : W.heap[Bb]? = some (.cells (bxW b) 26 (0, 0))) (h0 : J [] W) :
    CallsIn Fence.wide (n + 1) Tryz.prog 115 #[.func (.yield l) #[] #[], .pointer (some ⟨Ba, 0, none⟩), .pointer (some ⟨Bb, 0, none⟩)] W fun e W' => (∃ v, e = .returned v) ∧ ∃ xs, xs = eu (b.toNat + 1) a b ∧ J xs W' := by
  refine callsIn_of_wp Tryz.func115 rfl trivial ?_ rfl
  simp only [Tryz.ntmps115, List.size_toArray, List.length_cons, List.length_nil, Nat.reduceAdd, Nat.reduceSub, Array.replicate_succ, Array.replicate_zero, List.push_toArray, List.append_toArray, List.nil_append, List.cons_append]
  refine wpIn_wide.2 ?_
  have hat : At0 l Ba Bb Bc w0 J (eu (b.toNat + 1) a b) a b [] { tmps := #[.func (.yield l) #[] #[], .pointer (some ⟨Ba, 0, none⟩), .pointer (some ⟨Bb, 0, none⟩), undef, undef, undef, undef, undef, undef, undef, undef, undef, undef, undef, undef, undef, undef, undef, undef, undef, undef, undef, undef, undef], defers := [] } W :=
    ⟨⟨_, _, _, _, _, _, _, _, _, _, _, _, _, _, _, _, _, _, _, _, _, rfl⟩, hBa, hBb, ha, hb, rfl, h0, hW, hcW⟩
  refine wp_scope_jumps 0 (fun a' w' => ∃ x y pre, At0 l Ba Bb Bc w0 J (eu (b.toNat + 1) a b) x y pre a' w') (fun _ w' => loOf w' Bb) rfl ?_ ?_
  · refine wp_seq (wp_label ?_)
    exact st_pass n l Ba Bb Bc w0 hL hab hna hnb hac hbc J hJg hJz hY rfl (fun a' w' => ∃ x y pre, At0 l Ba Bb Bc w0 J (eu (b.toNat + 1) a b) x y pre a' w') hat (fun a'' w'' h _ => h)
  · rintro a' w' ⟨x, y, pre, h⟩
    refine wp_seq (wp_skip ?_)
    exact st_pass n l Ba Bb Bc w0 hL hab hna hnb hac hbc J hJg hJz hY rfl (fun a'' w'' => (∃ x y pre, At0 l Ba Bb Bc w0 J (eu (b.toNat + 1) a b) x y pre a'' w'') ∧ loOf w'' Bb < loOf w' Bb) h (fun a'' w'' h1 h2 => ⟨h1, h2⟩)
end Go.Proofs.YtkonpbcnekcjjaaGreatDoor.DV
namespace Go.Proofs.YtkonpbcnekcjjaaGreatDoor.DV
open Go Go.Xec Go.RowKit
def ansA (n S : Int) (r : Int × Int) : Int × Int × Int := if n < 2 then (0, 0, 12) else if S = 0 then (0, 0, 6) else (r.1, r.2, 0)
abbrev tupA (x : Int × Int × Int) : Value := .tuple #[.agg #[.int .i64 x.1, .int .i64 x.2.1], .int .i64 x.2.2]
abbrev avA (x : Int × Int × Int) : AVal := .tup [.agg [.int .i64 x.1, .int .i64 x.2.1], .int .i64 x.2.2]
abbrev stCs (t : Stt) : Array Value := #[.int .i64 t.n, .int .i64 t.s, .int .u64 (t.q / 18446744073709551616), .int .u64 (t.q % 18446744073709551616), .int .i64 t.lo, .int .i64 t.hi]
abbrev askW (cs : Array Value) (T : TypeId) (a b k : Int) (w : World) : World := ((((w.alloc (.cells cs T)).alloc (.cells #[.int .i64 a] 3)).alloc (.cells #[.int .i64 b] 3)).alloc (.cells #[.int .i64 k] 3)).alloc (.cells #[.int .i64 0, .int .i64 0] 37)
theorem heap_alloc2 (w : World) (o : Obj) (b : Nat) : (w.alloc o).heap[b]? = if b = w.heap.size then some o else w.heap[b]? := by
  show (w.heap.push o)[b]? = _
  rw [Array.getElem?_push]
theorem askW_at (cs : Array Value) (T : TypeId) (a b k : Int) (w : World) : Below w.heap.size w (askW cs T a b k w) ∧ (askW cs T a b k w).heap.size = w.heap.size + 5 ∧ (askW cs T a b k w).heap[w.heap.size]? = some (.cells cs T (0, 0)) ∧
    (askW cs T a b k w).heap[w.heap.size + 1]? = some (.cells #[.int .i64 a] 3 (0, 0)) ∧ (askW cs T a b k w).heap[w.heap.size + 1 + 1]? = some (.cells #[.int .i64 b] 3 (0, 0)) ∧
    (askW cs T a b k w).heap[w.heap.size + 1 + 1 + 1]? = some (.cells #[.int .i64 k] 3 (0, 0)) ∧ (askW cs T a b k w).heap[w.heap.size + 1 + 1 + 1 + 1]? = some (.cells #[.int .i64 0, .int .i64 0] 37 (0, 0)) := by
  refine ⟨(((((Below.refl _ _).alloc (Nat.le_refl _) _).alloc (by simp) _).alloc (by simp; omega) _).alloc (by simp; omega) _).alloc (by simp; omega) _, by simp [askW], ?_, ?_, ?_, ?_, ?_⟩ <;> (simp only [askW, heap_alloc2, World.size_alloc]; repeat (first | rw [if_pos trivial] | rw [if_pos (by omega)] | rw [if_neg (by omega)]))
theorem V_p1 {W : World} {S : Nat → Prop} {n : Int} {b : Nat} {T : TypeId} (hS : S b) (h : W.heap[b]? = some (.cells #[.int .i64 n] T (0, 0))) : V (ctx0 W S) (p1 n) (.pointer (some ⟨b, 0, none⟩)) := by
  have hc : W.cell? ⟨b, 0, none⟩ = some (.int .i64 n) := by simp [World.cell?, h]
  simp only [V, VC]
  exact ⟨b, 0, rfl, hS, ⟨_, hc, rfl⟩, trivial⟩
theorem V_pst {W : World} {S : Nat → Prop} {t : Stt} {b : Nat} {T : TypeId} (hS : S b) (h : W.heap[b]? = some (.cells (stCs t) T (0, 0))) : V (ctx0 W S) (.pvo (StC t) 0) (.pointer (some ⟨b, 0, none⟩)) := by
  have hc : ∀ i v, (stCs t)[i]? = some v → W.cell? ⟨b, i, none⟩ = some v := fun i v hv => by
    simp only [World.cell?, h]
    exact hv
  simp only [V, VC]
  exact ⟨b, 0, rfl, hS, ⟨_, hc 0 _ rfl, rfl⟩, ⟨_, hc 1 _ rfl, rfl⟩, ⟨_, hc 2 _ rfl, rfl⟩, ⟨_, hc 3 _ rfl, rfl⟩, ⟨_, hc 4 _ rfl, rfl⟩, ⟨_, hc 5 _ rfl, rfl⟩, trivial⟩
theorem calls_soundP {f : FuncId} {G : List AVal → Option Value} (hs : SoundP Tryz.prog f G) {ys : List AVal} {r : Value} (hF : G ys = some r) (w : World) (hL : Laid Tryz.prog w) {vs : List Value} (hl : VL (ctx0 w fun b => b < w.heap.size) ys vs) :
    Calls Tryz.prog f vs.toArray w fun e w' => e = .panicked [{ v := r, recovered := false }] ∧ Below w.heap.size w w' := by
  refine (hs ys r hF w _ vs (fun _ h => h) hL hl).2.mono ?_
  rintro e w' ⟨rfl, h1, h2, h3⟩
  exact ⟨rfl, ⟨h3.1, h3.2.1, h3.2.2, h1, h2⟩⟩
theorem stG_un {t : Stt} {S S' : Int} (h : StG t S) (h' : StG t S') (hn : t.n ≠ 0) : S = S' := by
  have e := (h.e61 hn).symm.trans (h'.e61 hn)
  simp only [Option.some.injEq, AVal.tup.injEq, List.cons.injEq, AVal.agg.injEq, AVal.int.injEq, true_and, and_true] at e
  rw [← val_enc S, ← val_enc S', e.1, e.2]
theorem clo28 {t : Stt} {S a b k : Int} (hq : Ask t S a b k) (T : TypeId) (w W : World) (hL : Laid Tryz.prog w) (hW : Below (askW (stCs t) T a b k w).heap.size (askW (stCs t) T a b k w) W) :
    (2 ≤ t.n → S ≠ 0 → Calls Tryz.prog 28 #[.pointer (some ⟨w.heap.size, 0, none⟩), .pointer (some ⟨w.heap.size + 1, 0, none⟩), .pointer (some ⟨w.heap.size + 1 + 1, 0, none⟩), .pointer (some ⟨w.heap.size + 1 + 1 + 1, 0, none⟩)] W fun e W' => e = .returned (.agg #[.int .i64 (ppA S (b - a) t.n k).1, .int .i64 (ppA S (b - a) t.n k).2]) ∧ Below W.heap.size W W') ∧
    (∀ why, ((t.n < 2 ∧ why = 12) ∨ (2 ≤ t.n ∧ S = 0 ∧ why = 6)) → Calls Tryz.prog 28 #[.pointer (some ⟨w.heap.size, 0, none⟩), .pointer (some ⟨w.heap.size + 1, 0, none⟩), .pointer (some ⟨w.heap.size + 1 + 1, 0, none⟩), .pointer (some ⟨w.heap.size + 1 + 1 + 1, 0, none⟩)] W fun e W' => e = .panicked [{ v := rfu why, recovered := false }] ∧ Below W.heap.size W W') := by
  obtain ⟨hb, hz, a0, a1, a2, a3, a4⟩ := askW_at (stCs t) T a b k w
  have hLW := below_laid (below_laid hL hb) hW
  have hsz := hW.size
  rw [hz] at hsz
  have c0 := (hW.block _ (by rw [hz]; omega)).trans a0
  have c1 := (hW.block _ (by rw [hz]; omega)).trans a1
  have c2 := (hW.block _ (by rw [hz]; omega)).trans a2
  have c3 := (hW.block _ (by rw [hz]; omega)).trans a3
  have hvl : VL (ctx0 W fun b => b < W.heap.size) (askV t a b k) [.pointer (some ⟨w.heap.size, 0, none⟩), .pointer (some ⟨w.heap.size + 1, 0, none⟩), .pointer (some ⟨w.heap.size + 1 + 1, 0, none⟩), .pointer (some ⟨w.heap.size + 1 + 1 + 1, 0, none⟩)] := by
    simp only [VL]
    exact ⟨_, _, rfl, V_pst (by show w.heap.size < W.heap.size; omega) c0, _, _, rfl, V_p1 (by show w.heap.size + 1 < W.heap.size; omega) c1, _, _, rfl, V_p1 (by show w.heap.size + 1 + 1 < W.heap.size; omega) c2, _, _, rfl, V_p1 (by show w.heap.size + 1 + 1 + 1 < W.heap.size; omega) c3, rfl⟩
  refine ⟨fun h1 h2 => ?_, fun why h1 => ?_⟩
  · refine (calls_sound Tryz.func28 (by kernel_rfl) (by kernel_rfl) sound28 (F28_eq hq.1 h1 h2 hq.2.1 hq.2.2.1 hq.2.2.2.1 hq.2.2.2.2) W hLW hvl).mono ?_
    rintro e W' ⟨v, rfl, hb', hv⟩
    simp only [V, VL] at hv
    obtain ⟨_, rfl, _, _, rfl, rfl, _, _, rfl, rfl, rfl⟩ := hv
    exact ⟨rfl, hb'⟩
  · have hG : G28 (askV t a b k) = some (rfu why) := by
      unfold G28
      rcases h1 with ⟨h1, rfl⟩ | ⟨h1, h2, rfl⟩
      · rw [if_pos ⟨t, S, a, b, k, rfl, hq, h1⟩]
      · rw [if_neg, if_pos ⟨t, S, a, b, k, rfl, hq, h1, h2⟩]
        rintro ⟨t', S', a', b', k', he, _, h3⟩
        simp only [askV, StC, List.cons.injEq, AVal.pvo.injEq, AVal.int.injEq, true_and] at he
        omega
    exact calls_soundP soundP28 hG W hLW hvl
theorem c11_calls {t : Stt} {S a b k : Int} (hq : Ask t S a b k) (w : World) (hL : Laid Tryz.prog w) :
    Calls Tryz.prog 11 #[.agg (stCs t), .int .i64 a, .int .i64 b, .int .i64 k] w fun e w' => e = .returned (tupA (ansA t.n S (ppA S (b - a) t.n k))) ∧ Below w.heap.size w w' := by
  have hmf : ∀ (fn : Fn) (first cap : Array Value) (w : World), (Instr.makeFunc fn first cap).run Tryz.prog w = .ok (.func fn first cap) w := fun _ _ _ _ => rfl
  have hcl := clo28 hq 28 w
  obtain ⟨hb, hz, a0, a1, a2, a3, a4⟩ := askW_at (stCs t) 28 a b k w
  have htold : Calls Tryz.prog 27 #[.func (.func 28) #[] #[.pointer (some ⟨w.heap.size, 0, none⟩), .pointer (some ⟨w.heap.size + 1, 0, none⟩), .pointer (some ⟨w.heap.size + 1 + 1, 0, none⟩), .pointer (some ⟨w.heap.size + 1 + 1 + 1, 0, none⟩)]] (askW (stCs t) 28 a b k w) fun e w' => e = .returned (tupA (ansA t.n S (ppA S (b - a) t.n k))) ∧ Below (askW (stCs t) 28 a b k w).heap.size (askW (stCs t) 28 a b k w) w' := by
    unfold ansA
    by_cases h1 : t.n < 2
    · rw [if_pos h1]
      exact told_bad28 _ 12 _ fun W hW => (hcl W hL hW).2 12 (.inl ⟨h1, rfl⟩)
    · rw [if_neg h1]
      by_cases h2 : S = 0
      · rw [if_pos h2]
        exact told_bad28 _ 6 _ fun W hW => (hcl W hL hW).2 6 (.inr ⟨by omega, h2, rfl⟩)
      · rw [if_neg h2]
        exact told_ok28 _ _ _ _ fun W hW => (hcl W hL hW).1 (by omega) h2
  generalize ansA t.n S (ppA S (b - a) t.n k) = x at *
  go_enter Tryz.func11, Tryz.ntmps11
  go_wp2_with fail
  refine htold.mono ?_
  rintro e W ⟨rfl, hW⟩
  have hsz := hW.size
  rw [hz] at hsz
  have g0 := (hW.block _ (by rw [hz]; omega)).trans a4
  have c0 : W.cell? ⟨w.heap.size + 1 + 1 + 1 + 1, 0, none⟩ = some (.int .i64 0) := by simp [World.cell?, g0]
  have c1 : W.cell? ⟨w.heap.size + 1 + 1 + 1 + 1, 1, none⟩ = some (.int .i64 0) := by simp [World.cell?, g0]
  have f0 : W.frozen? ⟨w.heap.size + 1 + 1 + 1 + 1, 0, none⟩ = false := by simp [World.frozen?, g0]
  have f1 : W.frozen? ⟨w.heap.size + 1 + 1 + 1 + 1, 1, none⟩ = false := by simp [World.frozen?, g0]
  clear htold hcl
  go_wp2
  have hV : Below w.heap.size w ((W.setCell ⟨w.heap.size + 1 + 1 + 1 + 1, 0, none⟩ (.int .i64 x.1)).setCell ⟨w.heap.size + 1 + 1 + 1 + 1, 1, none⟩ (.int .i64 x.2.1)) :=
    ((hb.trans (hW.mono (by rw [hz]; omega))).setCell (by simp; omega) _).setCell (by simp; omega) _
  have k0 := cells_set (i := 1) (cells_set (i := 0) g0 (.int .i64 x.1)) (.int .i64 x.2.1)
  clear hW c0 c1 f0 f1 g0 hsz
  generalize ((W.setCell ⟨w.heap.size + 1 + 1 + 1 + 1, 0, none⟩ (.int .i64 x.1)).setCell ⟨w.heap.size + 1 + 1 + 1 + 1, 1, none⟩ (.int .i64 x.2.1)) = V at *
  have d0 : V.cell? ⟨w.heap.size + 1 + 1 + 1 + 1, 0, none⟩ = some (.int .i64 x.1) := by simp [World.cell?, k0]
  have d1 : V.cell? ⟨w.heap.size + 1 + 1 + 1 + 1, 1, none⟩ = some (.int .i64 x.2.1) := by simp [World.cell?, k0]
  refine ⟨rfl, tupA x, ?_, rfl, hV⟩
  simp [results, Tryz.results11, go_sem, d0, d1]
def R11 (ys : List AVal) (r : AVal) : Prop := ∃ t S a b k, ys = [StK t, .int .i64 a, .int .i64 b, .int .i64 k] ∧ Ask t S a b k ∧ r = avA (ansA t.n S (ppA S (b - a) t.n k))
open Classical in
noncomputable def F11 (ys : List AVal) : Option AVal := if h : ∃ r, R11 ys r then some h.choose else none
theorem sound11 : Sound Tryz.prog 11 F11 := by
  refine sound_calls Tryz.func11 (by kernel_rfl) (by kernel_rfl) ?_
  intro ys r hr w S vs hS hL hl
  unfold F11 at hr
  split at hr
  · rename_i hx
    have hsp := hx.choose_spec
    cases hr
    generalize hx.choose = r at *
    obtain ⟨t, S0, a, b, k, rfl, hq, rfl⟩ := hsp
    simp only [VL, V] at hl
    obtain ⟨_, _, rfl, ⟨_, rfl, _, _, rfl, rfl, _, _, rfl, rfl, _, _, rfl, rfl, _, _, rfl, rfl, _, _, rfl, rfl, _, _, rfl, rfl, rfl⟩, _, _, rfl, rfl, _, _, rfl, rfl, _, _, rfl, rfl, rfl⟩ := hl
    refine (c11_calls hq w hL).mono ?_
    rintro e w' ⟨rfl, hb⟩
    obtain ⟨q1, q2, q3⟩ := env_below hb
    refine ⟨_, rfl, q1, q2, q3, ?_⟩
    simp only [V, VL]
    exact ⟨_, rfl, _, _, rfl, ⟨_, rfl, _, _, rfl, rfl, _, _, rfl, rfl, rfl⟩, _, _, rfl, rfl, rfl⟩
  · cases hr
theorem F11_eq {t : Stt} {S a b k : Int} (hq : Ask t S a b k) : F11 [StK t, .int .i64 a, .int .i64 b, .int .i64 k] = some (avA (ansA t.n S (ppA S (b - a) t.n k))) := by
  have hx : ∃ r, R11 [StK t, .int .i64 a, .int .i64 b, .int .i64 k] r := ⟨_, t, S, a, b, k, rfl, hq, rfl⟩
  unfold F11
  rw [dif_pos hx]
  have hsp := hx.choose_spec
  generalize hx.choose = r at *
  obtain ⟨t', S', a', b', k', he, hq', rfl⟩ := hsp
  simp only [List.cons.injEq, AVal.agg.injEq, AVal.int.injEq, true_and, and_true] at he
  obtain ⟨⟨e1, e2, e3, e4, e5, e6⟩, rfl, rfl, rfl⟩ := he
  have e7 : t' = t := by
    obtain ⟨n, s, q, lo, hi⟩ := t
    obtain ⟨n', s', q', lo', hi'⟩ := t'
    simp only at *
    have : q' = q := by rw [← val_enc q, ← val_enc q', e3, e4]
    simp only [Stt.mk.injEq]
    exact ⟨e1.symm, e2.symm, this, e5.symm, e6.symm⟩
  subst e7
  by_cases hn : t'.n = 0
  · have : ∀ (S1 S2 : Int) (r1 r2 : Int × Int), ansA t'.n S1 r1 = ansA t'.n S2 r2 := fun S1 S2 r1 r2 => by unfold ansA; rw [if_pos (by omega), if_pos (by omega)]
    exact congrArg (fun x => some (avA x)) (this _ _ _ _)
  · rw [stG_un hq'.1 hq.1 hn]
theorem clo33 {t : Stt} {S a b k : Int} (hq : Ask t S a b k) (T : TypeId) (w W : World) (hL : Laid Tryz.prog w) (hW : Below (askW (stCs t) T a b k w).heap.size (askW (stCs t) T a b k w) W) :
    (2 ≤ t.n → S ≠ 0 → Calls Tryz.prog 33 #[.pointer (some ⟨w.heap.size, 0, none⟩), .pointer (some ⟨w.heap.size + 1, 0, none⟩), .pointer (some ⟨w.heap.size + 1 + 1, 0, none⟩), .pointer (some ⟨w.heap.size + 1 + 1 + 1, 0, none⟩)] W fun e W' => e = .returned (.agg #[.int .i64 (ppkR S a b t.s t.n k).1, .int .i64 (ppkR S a b t.s t.n k).2]) ∧ Below W.heap.size W W') ∧
    (∀ why, ((t.n < 2 ∧ why = 12) ∨ (2 ≤ t.n ∧ S = 0 ∧ why = 6)) → Calls Tryz.prog 33 #[.pointer (some ⟨w.heap.size, 0, none⟩), .pointer (some ⟨w.heap.size + 1, 0, none⟩), .pointer (some ⟨w.heap.size + 1 + 1, 0, none⟩), .pointer (some ⟨w.heap.size + 1 + 1 + 1, 0, none⟩)] W fun e W' => e = .panicked [{ v := rfu why, recovered := false }] ∧ Below W.heap.size W W') := by
  obtain ⟨hb, hz, a0, a1, a2, a3, a4⟩ := askW_at (stCs t) T a b k w
  have hLW := below_laid (below_laid hL hb) hW
  have hsz := hW.size
  rw [hz] at hsz
  have c0 := (hW.block _ (by rw [hz]; omega)).trans a0
  have c1 := (hW.block _ (by rw [hz]; omega)).trans a1
  have c2 := (hW.block _ (by rw [hz]; omega)).trans a2
  have c3 := (hW.block _ (by rw [hz]; omega)).trans a3
  have hvl : VL (ctx0 W fun b => b < W.heap.size) (askV t a b k) [.pointer (some ⟨w.heap.size, 0, none⟩), .pointer (some ⟨w.heap.size + 1, 0, none⟩), .pointer (some ⟨w.heap.size + 1 + 1, 0, none⟩), .pointer (some ⟨w.heap.size + 1 + 1 + 1, 0, none⟩)] := by
    simp only [VL]
    exact ⟨_, _, rfl, V_pst (by show w.heap.size < W.heap.size; omega) c0, _, _, rfl, V_p1 (by show w.heap.size + 1 < W.heap.size; omega) c1, _, _, rfl, V_p1 (by show w.heap.size + 1 + 1 < W.heap.size; omega) c2, _, _, rfl, V_p1 (by show w.heap.size + 1 + 1 + 1 < W.heap.size; omega) c3, rfl⟩
  refine ⟨fun h1 h2 => ?_, fun why h1 => ?_⟩
  · refine (calls_sound Tryz.func33 (by kernel_rfl) (by kernel_rfl) sound33 (F33_eq hq.1 h1 h2 hq.2.1 hq.2.2.1 hq.2.2.2.1 hq.2.2.2.2) W hLW hvl).mono ?_
    rintro e W' ⟨v, rfl, hb', hv⟩
    simp only [V, VL] at hv
    obtain ⟨_, rfl, _, _, rfl, rfl, _, _, rfl, rfl, rfl⟩ := hv
    exact ⟨rfl, hb'⟩
  · have hG : G33 (askV t a b k) = some (rfu why) := by
      unfold G33
      rcases h1 with ⟨h1, rfl⟩ | ⟨h1, h2, rfl⟩
      · rw [if_pos ⟨t, S, a, b, k, rfl, hq, h1⟩]
      · rw [if_neg, if_pos ⟨t, S, a, b, k, rfl, hq, h1, h2⟩]
        rintro ⟨t', S', a', b', k', he, _, h3⟩
        simp only [askV, StC, List.cons.injEq, AVal.pvo.injEq, AVal.int.injEq, true_and] at he
        omega
    exact calls_soundP soundP33 hG W hLW hvl
theorem c12_calls {t : Stt} {S a b k : Int} (hq : Ask t S a b k) (w : World) (hL : Laid Tryz.prog w) :
    Calls Tryz.prog 12 #[.agg (stCs t), .int .i64 a, .int .i64 b, .int .i64 k] w fun e w' => e = .returned (tupA (ansA t.n S (ppkR S a b t.s t.n k))) ∧ Below w.heap.size w w' := by
  have hmf : ∀ (fn : Fn) (first cap : Array Value) (w : World), (Instr.makeFunc fn first cap).run Tryz.prog w = .ok (.func fn first cap) w := fun _ _ _ _ => rfl
  have hcl := clo33 hq 28 w
  obtain ⟨hb, hz, a0, a1, a2, a3, a4⟩ := askW_at (stCs t) 28 a b k w
  have htold : Calls Tryz.prog 27 #[.func (.func 33) #[] #[.pointer (some ⟨w.heap.size, 0, none⟩), .pointer (some ⟨w.heap.size + 1, 0, none⟩), .pointer (some ⟨w.heap.size + 1 + 1, 0, none⟩), .pointer (some ⟨w.heap.size + 1 + 1 + 1, 0, none⟩)]] (askW (stCs t) 28 a b k w) fun e w' => e = .returned (tupA (ansA t.n S (ppkR S a b t.s t.n k))) ∧ Below (askW (stCs t) 28 a b k w).heap.size (askW (stCs t) 28 a b k w) w' := by
    unfold ansA
    by_cases h1 : t.n < 2
    · rw [if_pos h1]
      exact told_bad33 _ 12 _ fun W hW => (hcl W hL hW).2 12 (.inl ⟨h1, rfl⟩)
    · rw [if_neg h1]
      by_cases h2 : S = 0
      · rw [if_pos h2]
        exact told_bad33 _ 6 _ fun W hW => (hcl W hL hW).2 6 (.inr ⟨by omega, h2, rfl⟩)
      · rw [if_neg h2]
        exact told_ok33 _ _ _ _ fun W hW => (hcl W hL hW).1 (by omega) h2
  generalize ansA t.n S (ppkR S a b t.s t.n k) = x at *
  go_enter Tryz.func12, Tryz.ntmps12
  go_wp2_with fail
  refine htold.mono ?_
  rintro e W ⟨rfl, hW⟩
  have hsz := hW.size
  rw [hz] at hsz
  have g0 := (hW.block _ (by rw [hz]; omega)).trans a4
  have c0 : W.cell? ⟨w.heap.size + 1 + 1 + 1 + 1, 0, none⟩ = some (.int .i64 0) := by simp [World.cell?, g0]
  have c1 : W.cell? ⟨w.heap.size + 1 + 1 + 1 + 1, 1, none⟩ = some (.int .i64 0) := by simp [World.cell?, g0]
  have f0 : W.frozen? ⟨w.heap.size + 1 + 1 + 1 + 1, 0, none⟩ = false := by simp [World.frozen?, g0]
  have f1 : W.frozen? ⟨w.heap.size + 1 + 1 + 1 + 1, 1, none⟩ = false := by simp [World.frozen?, g0]
  clear htold hcl
  go_wp2
  have hV : Below w.heap.size w ((W.setCell ⟨w.heap.size + 1 + 1 + 1 + 1, 0, none⟩ (.int .i64 x.1)).setCell ⟨w.heap.size + 1 + 1 + 1 + 1, 1, none⟩ (.int .i64 x.2.1)) :=
    ((hb.trans (hW.mono (by rw [hz]; omega))).setCell (by simp; omega) _).setCell (by simp; omega) _
  have k0 := cells_set (i := 1) (cells_set (i := 0) g0 (.int .i64 x.1)) (.int .i64 x.2.1)
  clear hW c0 c1 f0 f1 g0 hsz
  generalize ((W.setCell ⟨w.heap.size + 1 + 1 + 1 + 1, 0, none⟩ (.int .i64 x.1)).setCell ⟨w.heap.size + 1 + 1 + 1 + 1, 1, none⟩ (.int .i64 x.2.1)) = V at *
  have d0 : V.cell? ⟨w.heap.size + 1 + 1 + 1 + 1, 0, none⟩ = some (.int .i64 x.1) := by simp [World.cell?, k0]
  have d1 : V.cell? ⟨w.heap.size + 1 + 1 + 1 + 1, 1, none⟩ = some (.int .i64 x.2.1) := by simp [World.cell?, k0]
  refine ⟨rfl, tupA x, ?_, rfl, hV⟩
  simp [results, Tryz.results12, go_sem, d0, d1]
def R12 (ys : List AVal) (r : AVal) : Prop := ∃ t S a b k, ys = [StK t, .int .i64 a, .int .i64 b, .int .i64 k] ∧ Ask t S a b k ∧ r = avA (ansA t.n S (ppkR S a b t.s t.n k))
open Classical in
noncomputable def F12 (ys : List AVal) : Option AVal := if h : ∃ r, R12 ys r then some h.choose else none
theorem sound12 : Sound Tryz.prog 12 F12 := by
  refine sound_calls Tryz.func12 (by kernel_rfl) (by kernel_rfl) ?_
  intro ys r hr w S vs hS hL hl
  unfold F12 at hr
  split at hr
  · rename_i hx
    have hsp := hx.choose_spec
    cases hr
    generalize hx.choose = r at *
    obtain ⟨t, S0, a, b, k, rfl, hq, rfl⟩ := hsp
    simp only [VL, V] at hl
    obtain ⟨_, _, rfl, ⟨_, rfl, _, _, rfl, rfl, _, _, rfl, rfl, _, _, rfl, rfl, _, _, rfl, rfl, _, _, rfl, rfl, _, _, rfl, rfl, rfl⟩, _, _, rfl, rfl, _, _, rfl, rfl, _, _, rfl, rfl, rfl⟩ := hl
    refine (c12_calls hq w hL).mono ?_
    rintro e w' ⟨rfl, hb⟩
    obtain ⟨q1, q2, q3⟩ := env_below hb
    refine ⟨_, rfl, q1, q2, q3, ?_⟩
    simp only [V, VL]
    exact ⟨_, rfl, _, _, rfl, ⟨_, rfl, _, _, rfl, rfl, _, _, rfl, rfl, rfl⟩, _, _, rfl, rfl, rfl⟩
  · cases hr
theorem F12_eq {t : Stt} {S a b k : Int} (hq : Ask t S a b k) : F12 [StK t, .int .i64 a, .int .i64 b, .int .i64 k] = some (avA (ansA t.n S (ppkR S a b t.s t.n k))) := by
  have hx : ∃ r, R12 [StK t, .int .i64 a, .int .i64 b, .int .i64 k] r := ⟨_, t, S, a, b, k, rfl, hq, rfl⟩
  unfold F12
  rw [dif_pos hx]
  have hsp := hx.choose_spec
  generalize hx.choose = r at *
  obtain ⟨t', S', a', b', k', he, hq', rfl⟩ := hsp
  simp only [List.cons.injEq, AVal.agg.injEq, AVal.int.injEq, true_and, and_true] at he
  obtain ⟨⟨e1, e2, e3, e4, e5, e6⟩, rfl, rfl, rfl⟩ := he
  have e7 : t' = t := by
    obtain ⟨n, s, q, lo, hi⟩ := t
    obtain ⟨n', s', q', lo', hi'⟩ := t'
    simp only at *
    have : q' = q := by rw [← val_enc q, ← val_enc q', e3, e4]
    simp only [Stt.mk.injEq]
    exact ⟨e1.symm, e2.symm, this, e5.symm, e6.symm⟩
  subst e7
  by_cases hn : t'.n = 0
  · have : ∀ (S1 S2 : Int) (r1 r2 : Int × Int), ansA t'.n S1 r1 = ansA t'.n S2 r2 := fun S1 S2 r1 r2 => by unfold ansA; rw [if_pos (by omega), if_pos (by omega)]
    exact congrArg (fun x => some (avA x)) (this _ _ _ _)
  · rw [stG_un hq'.1 hq.1 hn]
end Go.Proofs.YtkonpbcnekcjjaaGreatDoor.DV
namespace Go.Proofs.YtkonpbcnekcjjaaGreatDoor.DV
open Go Go.Xec Go.RowKit Go.Shelf
attribute [local go_sem] Oper.semAt_some
theorem steps_in (n : Nat) (a b : Int) (w : World) :
    CallsIn Fence.wide n Tryz.prog 87 #[.agg (bxW a), .agg (bxW b)] w fun e w' => e = .returned (.func (.func 115) #[] #[.pointer (some ⟨w.heap.size, 0, none⟩), .pointer (some ⟨w.heap.size + 1, 0, none⟩)]) ∧ w' = (w.alloc (.cells (bxW a) 26)).alloc (.cells (bxW b) 26) := by
  refine callsIn_of_wp Tryz.func87 rfl trivial ?_ rfl
  simp only [Tryz.ntmps87, List.size_toArray, List.length_cons, List.length_nil, Nat.reduceAdd, Nat.reduceSub, Array.replicate_succ, Array.replicate_zero, List.push_toArray, List.append_toArray, List.nil_append, List.cons_append]
  have hmf : ∀ (fn : Fn) (first cap : Array Value) (w : World), (Instr.makeFunc fn first cap).run Tryz.prog w = .ok (.func fn first cap) w := fun _ _ _ _ => rfl
  gi_wp2
  go_ret
  exact ⟨rfl, rfl⟩
theorem st_stops (n Ba Bb Bc : Nat) (w0 : World) (hL : Laid Tryz.prog w0) {a b : Int} (ha : U a) (hb : U b) (hab : Ba ≠ Bb) (hna : w0.heap.size ≤ Ba) (hnb : w0.heap.size ≤ Bb) (hac : Ba ≠ Bc) (hbc : Bb ≠ Bc)
    (w : World) (hw : Below w0.heap.size w0 w) (hcw : Bc < w.heap.size) (haw : Ba < w.heap.size) (hbw : Bb < w.heap.size) (hBa : w.heap[Ba]? = some (.cells (bxW a) 26 (0, 0))) (hBb : w.heap[Bb]? = some (.cells (bxW b) 26 (0, 0))) :
    SeqF Fence.wide (n + 1) Tryz.prog 115 #[.pointer (some ⟨Ba, 0, none⟩), .pointer (some ⟨Bb, 0, none⟩)] encW (KpA w0.heap.size Bc) (fun xs => xs = eu (b.toNat + 1) a b) (fun k => k = Ba ∨ k = Bb) w := by
  intro l J W hW hJ hJz hY h0
  refine st_in n l Ba Bb Bc w0 hL ha hb hab hna hnb hac hbc J ?_ hJz hY W (hw.trans (hW.mono hw.size)) (Nat.lt_of_lt_of_le hcw hW.size) ((hW.block _ haw).trans hBa) ((hW.block _ hbw).trans hBb) h0
  intro s A B hs hAB
  exact hJ s A B none hs ⟨hAB.os, hAB.tape, hAB.output, hAB.size, fun k hk _ => hAB.block k hk⟩ (fun r e => by cases e)
theorem cells2_own (B : Nat) (t : TypeId) (cs : Array Value) : Own (fun (_ : Unit) W => W.heap[B]? = some (.cells cs t (0, 0))) := by
  intro _ X Y row hs hg hrow
  refine (hg.block B (Array.getElem?_eq_some_iff.1 hs).1 (fun e' => ?_)).trans hs
  obtain ⟨o, ho, hc⟩ := hrow B e'.symm
  rw [hs] at ho; cases ho; cases hc
theorem gcdW_at (ca cb : Array Value) (w W0 : World)
    (h : W0 = ((((w.alloc (.cells ca 26)).alloc (.cells cb 26)).alloc (.cells #[.int .u64 0, .int .u64 0] 26)).alloc (.cells ca 26)).alloc (.cells cb 26)) :
    Below w.heap.size w W0 ∧ W0.heap.size = w.heap.size + 5 ∧ W0.heap[w.heap.size]? = some (.cells ca 26 (0, 0)) ∧ W0.heap[w.heap.size + 1]? = some (.cells cb 26 (0, 0)) ∧
    W0.heap[w.heap.size + 1 + 1]? = some (.cells #[.int .u64 0, .int .u64 0] 26 (0, 0)) ∧ W0.heap[w.heap.size + 1 + 1 + 1]? = some (.cells ca 26 (0, 0)) ∧ W0.heap[w.heap.size + 1 + 1 + 1 + 1]? = some (.cells cb 26 (0, 0)) := by
  subst h
  refine ⟨(((((Below.refl _ _).alloc (Nat.le_refl _) _).alloc (by simp) _).alloc (by simp; omega) _).alloc (by simp; omega) _).alloc (by simp; omega) _, by simp, ?_, ?_, ?_, ?_, ?_⟩ <;> (simp only [heap_alloc2, World.size_alloc]; repeat (first | rw [if_pos trivial] | rw [if_pos (by omega)] | rw [if_neg (by omega)]))
set_option maxRecDepth 100000 in
set_option maxHeartbeats 4000000 in
theorem gcd_calls {a b : Int} (ha : U a) (hb : U b) (w : World) (hL : Laid Tryz.prog w) :
    Calls Tryz.prog 64 #[.agg (bxW a), .agg (bxW b)] w fun e w' => e = .returned (.agg (bxW (gcdI a b))) ∧ Below w.heap.size w w' := by
  refine (callsIn_wide (n := 6)).1 ?_
  refine callsIn_of_wp_marks Tryz.func64 rfl trivial ?_ rfl
  simp only [Tryz.ntmps64, List.size_toArray, List.length_cons, List.length_nil, Nat.reduceAdd, Nat.reduceSub, Array.replicate_succ, Array.replicate_zero, List.push_toArray, List.append_toArray, List.nil_append, List.cons_append]
  gi_wp2_with fail
  refine ⟨trivial, (steps_in _ a b _).mono ?_⟩
  rintro e W0 ⟨rfl, hW0⟩
  obtain ⟨hbW, hsz, m0, m1, m2, m3, m4⟩ := gcdW_at (bxW a) (bxW b) w W0 hW0
  clear hW0
  gi_wp2_with fail
  refine range_first rfl (by omega) rfl trivial (enters_of Tryz.func115 (by kernel_rfl) rfl) (st_stops 4 (w.heap.size + 1 + 1 + 1) (w.heap.size + 1 + 1 + 1 + 1) w.heap.size w hL ha hb (by omega) (by omega) (by omega) (by omega) (by omega) W0 hbW (by omega) (by omega) (by omega) m3 m4) ?hBf ?hKt ?hKb (fun _ => rfl)
    (fun pre W => W.heap[w.heap.size]? = some (.cells (bxW (lastI a pre)) 26 (0, 0)) ∧ W.heap[w.heap.size + 1 + 1]? = some (.cells (bxW 0) 26 (0, 0)) ∧ Below w.heap.size w W ∧ W0.heap.size ≤ W.heap.size)
    ?hI ?hIf ?h0
    (fun x a' W => ∃ Bx, W0.heap.size ≤ Bx ∧ W.heap[Bx]? = some (.cells (bxW x) 26 (0, 0)) ∧ a' = { tmps := #[.agg (bxW a), .agg (bxW b), .pointer (some ⟨w.heap.size, 0, none⟩), .pointer (some ⟨w.heap.size + 1, 0, none⟩), .pointer (some ⟨w.heap.size + 1 + 1, 0, none⟩), .pointer (some ⟨Bx, 0, none⟩), .agg #[.int .u64 0, .int .u64 a], .agg #[.int .u64 0, .int .u64 b], .func (.func 115) #[] #[.pointer (some ⟨w.heap.size + 1 + 1 + 1, 0, none⟩), .pointer (some ⟨w.heap.size + 1 + 1 + 1 + 1, 0, none⟩)], .agg (bxW x), undef, undef], defers := [] })
    ?hAx ?assign ?body ?done
  case hBf => rintro k (rfl | rfl) <;> omega
  case hKt => rintro A B C ⟨h1, h2⟩ ⟨g1, g2⟩; exact ⟨h1.trans g1, fun k cs T f hne h => g2 k cs T f hne (h2 k cs T f hne h)⟩
  case hKb =>
    intro W l o o' hl hc hnc
    refine ⟨(Below.refl _ W).grown (grownBy_putObj' W l o') (by have := (Array.getElem?_eq_some_iff.1 hc).1; omega) (fun k e => by cases e; omega), fun k cs T f hne h => ?_⟩
    refine (World.putObj_heap_other (fun e => ?_)).trans h
    subst e
    rw [h] at hc; cases hc; cases hnc
  case hI =>
    refine OwnFrom.and (Own.from (fun pre X Y row hs hg hr => cells2_own w.heap.size 26 (bxW (lastI a pre)) () X Y row hs hg hr) _) (OwnFrom.and (Own.from (fun pre X Y row hs hg hr => cells2_own (w.heap.size + 1 + 1) 26 (bxW 0) () X Y row hs hg hr) _) (OwnFrom.and (ownFrom_below (Nat.le_refl _) (by omega)) ?_))
    intro _ X Y row hs hg _
    exact Nat.le_trans hs hg.size
  case hIf =>
    rintro pre W k i v hk ⟨h1, h2, h3, h4⟩
    have hk1 : w.heap.size + 1 + 1 + 1 ≤ k := by rcases hk with rfl | rfl <;> omega
    exact ⟨(cell_other v (by omega)).trans h1, (cell_other v (by omega)).trans h2, h3.setCell (p := ⟨k, i, none⟩) (by simp; omega) v, by simpa using h4⟩
  case h0 => exact ⟨m0, m2, hbW, Nat.le_refl _⟩
  case hAx =>
    rintro x a' _ X Y row ⟨Bx, h1, h2, h3⟩ hg hr
    exact ⟨Bx, h1, cells2_own Bx 26 _ () X Y row h2 hg (fun r e => (hr r e).2), h3⟩
  case assign =>
    rintro l pre x W K ⟨h1, h2, h3, h4⟩ hK
    gi_wp2_with fail
    refine hK _ _ ((KeepsOthers.alloc _ _).from _) ⟨(Below.refl _ W).alloc (by omega) _, fun k cs T f hne h => (Below.heap_alloc _ _ _ (Array.getElem?_eq_some_iff.1 h).1).trans h⟩ ⟨(Below.heap_alloc _ _ _ (by omega)).trans h1, (Below.heap_alloc _ _ _ (by omega)).trans h2, h3.alloc (by omega) _, by simp; omega⟩ ⟨W.heap.size, h4, World.alloc_heap_new _ _, rfl⟩
  case body =>
    rintro l pre x a' W hl ⟨h1, h2, h3, h4⟩ ⟨Bx, hB1, hB2, rfl⟩
    have cx0 : W.cell? ⟨Bx, 0, none⟩ = some (.int .u64 0) := by simp [World.cell?, hB2]
    have cx1 : W.cell? ⟨Bx, 1, none⟩ = some (.int .u64 x) := by simp [World.cell?, hB2]
    have ca0 : W.cell? ⟨w.heap.size, 0, none⟩ = some (.int .u64 0) := by simp [World.cell?, h1]
    have ca1 : W.cell? ⟨w.heap.size, 1, none⟩ = some (.int .u64 (lastI a pre)) := by simp [World.cell?, h1]
    have fa0 : W.frozen? ⟨w.heap.size, 0, none⟩ = false := by simp [World.frozen?, h1]
    have fa1 : W.frozen? ⟨w.heap.size, 1, none⟩ = false := by simp [World.frozen?, h1]
    gi_wp2_with fail
    refine ⟨((KeepsOthers.setCell _ _ _).trans (KeepsOthers.setCell _ _ _)).from _, ⟨((Below.refl _ W).setCell (p := ⟨w.heap.size, 0, none⟩) (Nat.le_refl _) _).setCell (p := ⟨w.heap.size, 1, none⟩) (Nat.le_refl _) _, fun k cs T f hne h => (cell_other _ hne).trans ((cell_other _ hne).trans h)⟩, ?_, ?_, ?_, ?_⟩
    · rw [lastI_snoc]; exact cells_set (i := 1) (cells_set (i := 0) h1 (.int .u64 0)) (.int .u64 x)
    · exact (cell_other _ (by omega)).trans ((cell_other _ (by omega)).trans h2)
    · exact (h3.setCell (p := ⟨w.heap.size, 0, none⟩) (Nat.le_refl _) _).setCell (p := ⟨w.heap.size, 1, none⟩) (Nat.le_refl _) _
    · simpa using h4
  case done =>
    rintro D xs W hD rfl ⟨h1, h2, h3, h4⟩ hd
    rw [eu_gcd _ a b ha.1 hb.1 (by have := hb.1; omega)] at h1
    obtain ⟨g, hg⟩ : ∃ g, gcdI a b = g := ⟨_, rfl⟩
    rw [hg] at h1
    have ca0 : W.cell? ⟨w.heap.size, 0, none⟩ = some (.int .u64 0) := by simp [World.cell?, h1]
    have ca1 : W.cell? ⟨w.heap.size, 1, none⟩ = some (.int .u64 g) := by simp [World.cell?, h1]
    have cr0 : W.cell? ⟨w.heap.size + 1 + 1, 0, none⟩ = some (.int .u64 0) := by simp [World.cell?, h2]
    have cr1 : W.cell? ⟨w.heap.size + 1 + 1, 1, none⟩ = some (.int .u64 0) := by simp [World.cell?, h2]
    have fr0 : W.frozen? ⟨w.heap.size + 1 + 1, 0, none⟩ = false := by simp [World.frozen?, h2]
    have fr1 : W.frozen? ⟨w.heap.size + 1 + 1, 1, none⟩ = false := by simp [World.frozen?, h2]
    simp only [Exit.inBlock, Exit.then]
    gi_wp2_with fail
    rw [hg]
    have hV : Below w.heap.size w ((W.setCell ⟨w.heap.size + 1 + 1, 0, none⟩ (.int .u64 0)).setCell ⟨w.heap.size + 1 + 1, 1, none⟩ (.int .u64 g)) := (h3.setCell (p := ⟨w.heap.size + 1 + 1, 0, none⟩) (by simp; omega) _).setCell (p := ⟨w.heap.size + 1 + 1, 1, none⟩) (by simp; omega) _
    have k2 := cells_set (i := 1) (cells_set (i := 0) h2 (.int .u64 0)) (.int .u64 g)
    have kD : ((W.setCell ⟨w.heap.size + 1 + 1, 0, none⟩ (.int .u64 0)).setCell ⟨w.heap.size + 1 + 1, 1, none⟩ (.int .u64 g)).heap[D]? = some (.deferred (some [])) := (cell_other _ (by omega)).trans ((cell_other _ (by omega)).trans hd)
    generalize ((W.setCell ⟨w.heap.size + 1 + 1, 0, none⟩ (.int .u64 0)).setCell ⟨w.heap.size + 1 + 1, 1, none⟩ (.int .u64 g)) = V at *
    have hVD : Below w.heap.size w (V.putObj D (.deferred none)) := hV.grown (grownBy_putObj' V D (.deferred none)) (by have := hV.size; omega) (fun k e => by cases e; omega)
    have k3 : (V.putObj D (.deferred none)).heap[w.heap.size + 1 + 1]? = some (.cells (bxW g) 26 (0, 0)) := (World.putObj_heap_other (by omega)).trans k2
    have d0 : (V.putObj D (.deferred none)).cell? ⟨w.heap.size + 1 + 1, 0, none⟩ = some (.int .u64 0) := by simp [World.cell?, k3]
    have d1 : (V.putObj D (.deferred none)).cell? ⟨w.heap.size + 1 + 1, 1, none⟩ = some (.int .u64 g) := by simp [World.cell?, k3]
    refine ⟨by simp, .inl ⟨_, _, rfl, run_takeDeferred kD, ?_⟩⟩
    refine ⟨.agg (bxW g), ?_, rfl, hVD⟩
    simp [results, Tryz.results64, go_sem, d0, d1]
def F64 : List AVal → Option AVal
  | [.agg [.int .u64 h1, .int .u64 a], .agg [.int .u64 h2, .int .u64 b]] => if h1 = 0 ∧ h2 = 0 ∧ U a ∧ U b then some (W 0 (gcdI a b)) else none
  | _ => none
theorem sound64 : Sound Tryz.prog 64 F64 := by
  refine sound_calls Tryz.func64 (by kernel_rfl) (by kernel_rfl) ?_
  intro ys r hr w S vs hS hL hl
  unfold F64 at hr
  split at hr
  · rename_i h1 a h2 b
    split at hr
    · rename_i hx
      obtain ⟨rfl, rfl, ha, hb⟩ := hx
      cases hr
      simp only [VL, V] at hl
      obtain ⟨_, _, rfl, ⟨_, rfl, _, _, rfl, rfl, _, _, rfl, rfl, rfl⟩, _, _, rfl, ⟨_, rfl, _, _, rfl, rfl, _, _, rfl, rfl, rfl⟩, rfl⟩ := hl
      refine (gcd_calls ha hb w hL).mono ?_
      rintro e w' ⟨rfl, hb⟩
      obtain ⟨q1, q2, q3⟩ := env_below hb
      refine ⟨_, rfl, q1, q2, q3, ?_⟩
      simp only [V, VL]
      exact ⟨_, rfl, _, _, rfl, rfl, _, _, rfl, rfl, rfl⟩
    · cases hr
  · cases hr
theorem F64_eq {a b : Int} (ha : U a) (hb : U b) : F64 [W 0 a, W 0 b] = some (W 0 (gcdI a b)) := if_pos ⟨rfl, rfl, ha, hb⟩
end Go.Proofs.YtkonpbcnekcjjaaGreatDoor.DV
namespace Go.Proofs.YtkonpbcnekcjjaaGreatDoor.DV
open Go Go.Xec
attribute [local go_sem] tm0 ne_eq not_false_eq_true List.length_append List.length_replicate List.replicate_succ List.replicate_zero Int.cast_ofNat_Int not_true_eq_false decide_true decide_false ite_self beq_self_eq_true Bool.true_beq Bool.false_beq Bool.not_true Bool.not_false
attribute [local go_sem_proc] Nat.reduceAdd Nat.reduceMul Nat.reduceSub Nat.reduceLeDiff Nat.reduceLT Nat.reduceEqDiff Int.reduceLT Int.reduceLE Int.reduceAdd Int.reduceSub Int.reduceMul Int.reduceToNat Int.reducePow Int.reduceNe Int.reduceMod Int.reduceDiv Int.reduceEq Nat.reducePow Int.reduceNeg
set_option maxRecDepth 10000
theorem gcdI_pos {a b : Int} (hb : 0 < b) : 0 < gcdI a b := by
  unfold gcdI
  have := Nat.gcd_pos_of_pos_right a.toNat (show 0 < b.toNat by omega)
  omega
theorem gcdI_left {a b : Int} (ha : 0 ≤ a) : a / gcdI a b * gcdI a b = a := by
  obtain ⟨m, rfl⟩ : ∃ m : Nat, a = m := ⟨a.toNat, by omega⟩
  unfold gcdI
  rw [Int.toNat_natCast]
  have := Nat.div_mul_cancel (Nat.gcd_dvd_left m b.toNat)
  exact_mod_cast this
theorem gcdI_right {a b : Int} (hb : 0 ≤ b) : b / gcdI a b * gcdI a b = b := by
  obtain ⟨m, rfl⟩ : ∃ m : Nat, b = m := ⟨b.toNat, by omega⟩
  unfold gcdI
  rw [Int.toNat_natCast]
  have := Nat.div_mul_cancel (Nat.gcd_dvd_right a.toNat m)
  exact_mod_cast this
theorem gcdI_le {a b : Int} (hb : 0 < b) : gcdI a b ≤ b := by
  unfold gcdI
  have := Nat.gcd_le_right (n := b.toNat) a.toNat (by omega)
  omega
theorem gcdI_one {a b : Int} (ha : 0 ≤ a) (hb : 0 < b) : gcdI (a / gcdI a b) (b / gcdI a b) = 1 := by
  obtain ⟨m, rfl⟩ : ∃ m : Nat, a = m := ⟨a.toNat, by omega⟩
  obtain ⟨k, rfl⟩ : ∃ k : Nat, b = k := ⟨b.toNat, by omega⟩
  have h := Nat.coprime_div_gcd_div_gcd (m := m) (n := k) (Nat.gcd_pos_of_pos_right m (by omega))
  unfold gcdI
  simp only [Int.toNat_natCast]
  rw [← Int.natCast_ediv, ← Int.natCast_ediv]
  simp only [Int.toNat_natCast]
  have h : (m / m.gcd k).gcd (k / m.gcd k) = 1 := h
  rw [h]
  rfl
theorem div_le {a g : Int} (ha : 0 ≤ a) (hg : 0 < g) : 0 ≤ a / g ∧ a / g ≤ a := ⟨Int.ediv_nonneg ha (by omega), Int.ediv_le_self g ha⟩
noncomputable def CG : Cfg := (CV.add 64 F64).add 58 F58
theorem okG : CfgOk Tryz.prog CG := (okV.add sound64).add sound58
noncomputable def F62 : List AVal → Option AVal := pureF CG 1 62
theorem sound62 : Sound Tryz.prog 62 F62 := sound_self okG 1 62
theorem F62_eq {a b : Int} (ha : U a) (hb : U b) (h0 : b ≠ 0) : F62 [W 0 a, W 0 b] = some (.tup [W 0 (a / gcdI a b), W 0 (b / gcdI a b), .int .i64 0]) := by
  have hbp : 0 < b := by have := hb.1; omega
  have hg := gcdI_pos (a := a) hbp
  have hgl := gcdI_le (a := a) hbp
  have hgU : U (gcdI a b) := ⟨by omega, by have := hb.2; omega⟩
  have e64 := F64_eq ha hb
  have e1 := F58_w ha hgU (by omega)
  have e2 := F58_w hb hgU (by omega)
  have d0 : decide (b = 0) = false := decide_eq_false h0
  clear hg hgl hgU hbp h0
  generalize gcdI a b = g at *
  unfold F62
  refine pureF_of (x := x62) rfl rfl ?_
  rw [x62_eq.1, x62_eq.2.1]
  simp (disch := first | omega | simp only [*, go_sem, ↓reduceIte, dropK_eq]) only [x62b, go_sem, ↓reduceIte, dropK_eq, callX_known (C := CG) (g := 58) rfl, ft_call (C := CG) (g := 58) rfl, callX_known (C := CG) (g := 64) rfl, ft_call (C := CG) (g := 64) rfl, e64, e1, e2, d0]
  exact Ends_plain rfl rfl
noncomputable def F63 : List AVal → Option AVal := pureF CG 1 63
theorem sound63 : Sound Tryz.prog 63 F63 := sound_self okG 1 63
def sgn (below : Bool) (m : Int) : Int := if below then -m else m
theorem F63_eq {s : Bool} {m : Int} (h : 0 ≤ m ∧ m ≤ 9223372036854775807) : F63 [.agg [.bool s, .int .u64 0, .int .u64 m]] = some (.tup [.int .i64 (sgn s m), .bool true]) := by
  have d1 := decide_eq_true h.2
  have h1 := h.1
  have h2 := h.2
  unfold F63 sgn
  refine pureF_of (x := x63) rfl rfl ?_
  rw [x63_eq.1, x63_eq.2.1]
  cases s
  · simp (disch := first | omega | simp only [*, go_sem, ↓reduceIte, dropK_eq]) only [x63b, go_sem, ↓reduceIte, dropK_eq, d1]
    exact Ends_plain rfl rfl
  · simp (disch := first | omega | simp only [*, go_sem, ↓reduceIte, dropK_eq]) only [x63b, go_sem, ↓reduceIte, dropK_eq, d1]
    exact Ends_plain rfl (by simp only [if_true, Int.zero_sub])
noncomputable def CH : Cfg := (CG.add 62 F62).add 63 F63
theorem okH : CfgOk Tryz.prog CH := (okG.add sound62).add sound63
noncomputable def F34 : List AVal → Option AVal := pureF CH 1 34
theorem sound34 : Sound Tryz.prog 34 F34 := sound_self okH 1 34
theorem F34_eq {s : Bool} {a b : Int} (ha : 0 ≤ a ∧ a ≤ 9223372036854775807) (hb : 0 < b ∧ b ≤ 9223372036854775807) :
    F34 [.agg [.bool s, .int .u64 0, .int .u64 a], W 0 b] = some (.tup [.agg [.int .i64 (sgn s (a / gcdI a b)), .int .i64 (b / gcdI a b)], .int .i64 0]) := by
  have e62 := F62_eq (a := a) (b := b) ⟨ha.1, by omega⟩ ⟨by omega, by omega⟩ (by omega)
  have hg := gcdI_pos (a := a) hb.1
  have h1 := div_le ha.1 hg
  have h2 := div_le (show 0 ≤ b by omega) hg
  have e1 := F63_eq (s := s) (m := a / gcdI a b) (by omega)
  have e2 : F63 [.agg [.bool false, .int .u64 0, .int .u64 (b / gcdI a b)]] = some (.tup [.int .i64 (b / gcdI a b), .bool true]) := F63_eq (s := false) (m := b / gcdI a b) (by omega)
  clear h1 h2 hg
  generalize sgn s (a / gcdI a b) = sa at *
  generalize a / gcdI a b = a' at *
  generalize b / gcdI a b = b' at *
  unfold F34
  refine pureF_of (x := x34) rfl rfl ?_
  rw [x34_eq.1, x34_eq.2.1]
  simp (disch := first | omega | simp only [*, go_sem, ↓reduceIte, dropK_eq]) only [x34b, go_sem, ↓reduceIte, dropK_eq, callX_known (C := CH) (g := 62) rfl, ft_call (C := CH) (g := 62) rfl, callX_known (C := CH) (g := 63) rfl, ft_call (C := CH) (g := 63) rfl, e62, e1, e2]
  exact Ends_plain rfl rfl
noncomputable def F35 : List AVal → Option AVal := pureF CH 1 35
theorem sound35 : Sound Tryz.prog 35 F35 := sound_self okH 1 35
def absI (x : Int) : Int := if x < 0 then -x else x
theorem absI_b {x : Int} (h : -9223372036854775807 ≤ x ∧ x ≤ 9223372036854775807) : 0 ≤ absI x ∧ absI x ≤ 9223372036854775807 := by unfold absI; split <;> omega
theorem F35_eq {x : Int} (h : -9223372036854775807 ≤ x ∧ x ≤ 9223372036854775807) : F35 [.int .i64 x] = some (.int .u64 (absI x)) := by
  have h1 := h.1
  have h2 := h.2
  unfold F35 absI
  refine pureF_of (x := x35) rfl rfl ?_
  rw [x35_eq.1, x35_eq.2.1]
  by_cases hx : x < 0
  · have d1 := decide_eq_true hx
    have w1 : (0 - x % 18446744073709551616) % 18446744073709551616 = -x := by omega
    rw [if_pos hx]
    simp (disch := first | omega | simp only [*, go_sem, ↓reduceIte, dropK_eq]) only [x35b, go_sem, ↓reduceIte, dropK_eq, d1, w1]
    exact Ends_plain rfl rfl
  · have d1 := decide_eq_false hx
    have w1 : x % 18446744073709551616 = x := by omega
    rw [if_neg hx]
    simp (disch := first | omega | simp only [*, go_sem, ↓reduceIte, dropK_eq]) only [x35b, go_sem, ↓reduceIte, dropK_eq, d1, w1]
    exact Ends_plain rfl rfl
noncomputable def CI : Cfg := (CH.add 34 F34).add 35 F35
theorem okI : CfgOk Tryz.prog CI := (okH.add sound34).add sound35
def newN (n d : Int) : Int := sgn (decide (n < 0)) (absI n / gcdI (absI n) d)
def newD (n d : Int) : Int := d / gcdI (absI n) d
noncomputable def F13 : List AVal → Option AVal := pureF CI 1 13
theorem sound13 : Sound Tryz.prog 13 F13 := sound_self okI 1 13
theorem F13_eq {n d : Int} (hn : -9223372036854775807 ≤ n ∧ n ≤ 9223372036854775807) (hd : 0 < d ∧ d ≤ 9223372036854775807) : F13 [.int .i64 n, .int .i64 d] = some (.tup [.agg [.int .i64 (newN n d), .int .i64 (newD n d)], .int .i64 0]) := by
  have e1 := F35_eq hn
  have e2 : F35 [.int .i64 d] = some (.int .u64 d) := by
    have := F35_eq (x := d) (by omega)
    rwa [show absI d = d by unfold absI; rw [if_neg (by omega)]] at this
  have e3 := F34_eq (s := decide (n < 0)) (absI_b hn) hd
  have d0 : decide (d = 0) = false := decide_eq_false (by omega)
  have d1 : decide (d < 0) = false := decide_eq_false (by omega)
  unfold newN newD
  generalize absI n = m at *
  unfold F13
  refine pureF_of (x := x13) rfl rfl ?_
  rw [x13_eq.1, x13_eq.2.1]
  generalize sgn (decide (n < 0)) (m / gcdI m d) = sm at *
  by_cases h : n < 0
  · have d2 := decide_eq_true h
    rw [d2] at e3
    simp (disch := first | omega | simp only [*, go_sem, ↓reduceIte, dropK_eq]) only [x13b, go_sem, ↓reduceIte, dropK_eq, callX_known (C := CI) (g := 34) rfl, ft_call (C := CI) (g := 34) rfl, callX_known (C := CI) (g := 35) rfl, ft_call (C := CI) (g := 35) rfl, e1, e2, e3, d0, d1, d2]
    exact Ends_plain rfl rfl
  · have d2 := decide_eq_false h
    rw [d2] at e3
    simp (disch := first | omega | simp only [*, go_sem, ↓reduceIte, dropK_eq]) only [x13b, go_sem, ↓reduceIte, dropK_eq, callX_known (C := CI) (g := 34) rfl, ft_call (C := CI) (g := 34) rfl, callX_known (C := CI) (g := 35) rfl, ft_call (C := CI) (g := 35) rfl, e1, e2, e3, d0, d1, d2]
    exact Ends_plain rfl rfl
set_option maxRecDepth 10000
noncomputable def F36 : List AVal → Option AVal := pureF CI 1 36
theorem sound36 : Sound Tryz.prog 36 F36 := sound_self okI 1 36
theorem F35_n {x : Int} (h : 0 ≤ x ∧ x ≤ 9223372036854775807) : F35 [.int .i64 x] = some (.int .u64 x) := by
  have := F35_eq (x := x) (by omega)
  rwa [show absI x = x by unfold absI; rw [if_neg (by omega)]] at this
theorem F36_eq {p q : Int} (hp : 0 ≤ p ∧ p ≤ 9223372036854775807) (hq : 0 < q ∧ q ≤ 9223372036854775807) (hg : gcdI p q = 1) : F36 [.agg [.int .i64 p, .int .i64 q]] = some (.bool true) := by
  have e1 := F35_n hp
  have e2 := F35_n (x := q) (by omega)
  have e64 := F64_eq (a := p) (b := q) ⟨hp.1, by omega⟩ ⟨by omega, by omega⟩
  rw [hg] at e64
  have d0 : decide (1 ≤ q) = true := decide_eq_true (by omega)
  clear hp hq hg
  unfold F36
  refine pureF_of (x := x36) rfl rfl ?_
  rw [x36_eq.1, x36_eq.2.1]
  simp (disch := first | omega | simp only [*, go_sem, ↓reduceIte, dropK_eq]) only [x36b, go_sem, ↓reduceIte, dropK_eq, callX_known (C := CI) (g := 35) rfl, ft_call (C := CI) (g := 35) rfl, callX_known (C := CI) (g := 64) rfl, ft_call (C := CI) (g := 64) rfl, e1, e2, e64, d0]
  exact Ends_plain rfl rfl
noncomputable def F37 : List AVal → Option AVal := pureF CI 1 37
theorem sound37 : Sound Tryz.prog 37 F37 := sound_self okI 1 37
abbrev szd (v : Int) : AVal := .agg [.bool false, .int .u64 (v / 18446744073709551616), .int .u64 (v % 18446744073709551616)]
theorem F37_eq {a b : Int} (ha : 0 ≤ a ∧ a ≤ 9223372036854775807) (hb : 0 ≤ b ∧ b ≤ 9223372036854775807) : F37 [.int .i64 a, .int .i64 b] = some (szd (a * b)) := by
  have e1 := F35_n ha
  have e2 := F35_n hb
  have e24 := F24_eq (a := a) (b := b) ⟨ha.1, by omega⟩ ⟨hb.1, by omega⟩
  have d1 : decide (a < 0) = false := decide_eq_false (by omega)
  have d2 : decide (b < 0) = false := decide_eq_false (by omega)
  clear ha hb
  generalize a * b = v at *
  unfold F37
  refine pureF_of (x := x37) rfl rfl ?_
  rw [x37_eq.1, x37_eq.2.1]
  simp (disch := first | omega | simp only [*, go_sem, ↓reduceIte, dropK_eq]) only [x37b, go_sem, ↓reduceIte, dropK_eq, callX_known (C := CI) (g := 24) rfl, ft_call (C := CI) (g := 24) rfl, callX_known (C := CI) (g := 35) rfl, ft_call (C := CI) (g := 35) rfl, e1, e2, e24, d1, d2]
  exact Ends_plain rfl rfl
noncomputable def F38 : List AVal → Option AVal := pureF CI 1 38
theorem sound38 : Sound Tryz.prog 38 F38 := sound_self okI 1 38
theorem F38_eq {p q : Int} : F38 [szd p, szd q] = some (.bool (decide (p < q))) := by
  have e55 := F55_q (p := p) (q := q)
  unfold F38
  refine pureF_of (x := x38) rfl rfl ?_
  rw [x38_eq.1, x38_eq.2.1]
  simp (disch := first | omega | simp only [*, go_sem, ↓reduceIte, dropK_eq]) only [x38b, go_sem, ↓reduceIte, dropK_eq, callX_known (C := CI) (g := 55) rfl, ft_call (C := CI) (g := 55) rfl, e55]
  exact Ends_plain rfl rfl
noncomputable def CJ : Cfg := ((CI.add 36 F36).add 37 F37).add 38 F38
theorem okJ : CfgOk Tryz.prog CJ := ((okI.add sound36).add sound37).add sound38
noncomputable def F14 : List AVal → Option AVal := pureF CJ 1 14
theorem sound14 : Sound Tryz.prog 14 F14 := sound_self okJ 1 14
theorem F14_eq {p q : Int} (hp : 0 ≤ p ∧ p ≤ 1000000000000000000) (hq : 0 < q ∧ q ≤ 1000000000000000000) (hg : gcdI p q = 1) (h : p ≤ 2 * q) :
    F14 [.agg [.int .i64 p, .int .i64 q], .agg [.int .i64 2, .int .i64 1]] = some (.tup [.int .i64 (if p < 2 * q then -1 else 0), .int .i64 0]) := by
  have e1 := F36_eq (p := p) (q := q) (by omega) (by omega) hg
  have e2 := F36_eq (p := 2) (q := 1) (by decide) (by decide) (by decide)
  have e3 : F37 [.int .i64 p, .int .i64 1] = some (szd p) := by have := F37_eq (a := p) (b := 1) (by omega) (by decide); rwa [Int.mul_one] at this
  have e4 := F37_eq (a := 2) (b := q) (by decide) (by omega)
  have e5 := F38_eq (p := p) (q := 2 * q)
  have e6 := F38_eq (p := 2 * q) (q := p)
  rw [decide_eq_false (show ¬ 2 * q < p by omega)] at e6
  clear hp hq hg
  generalize 2 * q = v at *
  unfold F14
  refine pureF_of (x := x14) rfl rfl ?_
  rw [x14_eq.1, x14_eq.2.1]
  by_cases hlt : p < v
  · rw [decide_eq_true hlt] at e5
    rw [if_pos hlt]
    clear h hlt
    simp (disch := first | omega | simp only [*, go_sem, ↓reduceIte, dropK_eq]) only [x14b, go_sem, ↓reduceIte, dropK_eq, callX_known (C := CJ) (g := 36) rfl, ft_call (C := CJ) (g := 36) rfl, callX_known (C := CJ) (g := 37) rfl, ft_call (C := CJ) (g := 37) rfl, callX_known (C := CJ) (g := 38) rfl, ft_call (C := CJ) (g := 38) rfl, e1, e2, e3, e4, e5, e6]
    exact Ends_plain rfl rfl
  · rw [decide_eq_false hlt] at e5
    rw [if_neg hlt]
    clear h hlt
    simp (disch := first | omega | simp only [*, go_sem, ↓reduceIte, dropK_eq]) only [x14b, go_sem, ↓reduceIte, dropK_eq, callX_known (C := CJ) (g := 36) rfl, ft_call (C := CJ) (g := 36) rfl, callX_known (C := CJ) (g := 37) rfl, ft_call (C := CJ) (g := 37) rfl, callX_known (C := CJ) (g := 38) rfl, ft_call (C := CJ) (g := 38) rfl, e1, e2, e3, e4, e5, e6]
    exact Ends_plain rfl rfl
set_option maxRecDepth 10000
theorem prd_ppL (w n k : Int) : prd (ppL w n k) = w * w * n * (n - 1) * k * k := by simp [prd, ppL]
theorem prd_ppkL (f n k : Int) : prd (ppkL f n k) = f * f * (n - 1) * k * k := by simp [prd, ppkL]
theorem ppL_nn {w n k : Int} (hw : 0 ≤ w) (hn : 1 ≤ n) (hk : 0 ≤ k) : 0 ≤ prd (ppL w n k) := by
  rw [prd_ppL]
  exact Int.mul_nonneg (Int.mul_nonneg (Int.mul_nonneg (Int.mul_nonneg (Int.mul_nonneg hw hw) (by omega)) (by omega)) hk) hk
theorem ppkL_nn {w n k : Int} (hw : 0 ≤ w) (hn : 1 ≤ n) (hk : 0 ≤ k) : 0 ≤ prd (ppkL w n k) := by
  rw [prd_ppkL]
  exact Int.mul_nonneg (Int.mul_nonneg (Int.mul_nonneg (Int.mul_nonneg hw hw) (by omega)) hk) hk
theorem worth_two {S w n k : Int} (hS : 0 < S) (hw : 0 ≤ w) (hn : 1 ≤ n) (hk : 0 ≤ k) : 2 * (ppA S w n k).1 ≤ (ppA S (2 * w) n k).1 ∧ (ppA S (2 * w) n k).2 ≤ 2 * (ppA S w n k).2 := by
  have e : prd (ppL (2 * w) n k) = 4 * prd (ppL w n k) := by
    rw [prd_ppL, prd_ppL, show 2 * w * (2 * w) = 4 * (w * w) by rw [Int.mul_assoc, Int.mul_left_comm w, ← Int.mul_assoc]; rfl]
    simp only [Int.mul_assoc]
  unfold ppA
  rw [e]
  exact rt_two (ppL_nn hw hn hk) (by omega)
theorem worth_le {S w n k f : Int} (hS : 0 < S) (hw : 0 ≤ w) (hn : 1 ≤ n) (hk : 0 ≤ k) (hf : 0 ≤ f) (h : 2 * f ≤ n * w) : (ppkA S f n k).1 ≤ (ppA S w n k).1 ∧ (ppkA S f n k).2 ≤ (ppA S w n k).2 := by
  unfold ppkA ppA
  refine rt_mono (ppkL_nn hf hn hk) (Int.mul_pos hS (by omega)) (ppL_nn hw hn hk) (by omega) ?_
  rw [prd_ppL, prd_ppkL]
  have h2 : 2 * f * (2 * f) ≤ n * w * (n * w) := Int.mul_le_mul h h (by omega) (Int.mul_nonneg (by omega) hw)
  have hX : 0 ≤ (n - 1) * k * k * S * 9 := Int.mul_nonneg (Int.mul_nonneg (Int.mul_nonneg (Int.mul_nonneg (by omega) hk) hk) (by omega)) (by decide)
  have h3 := Int.mul_le_mul_of_nonneg_right h2 hX
  have e1 : f * f * (n - 1) * k * k * (S * 36) = 2 * f * (2 * f) * ((n - 1) * k * k * S * 9) := by
    rw [show (36 : Int) = 2 * (2 * 9) by decide]
    ac_rfl
  have e2 : w * w * n * (n - 1) * k * k * (S * (9 * n)) = n * w * (n * w) * ((n - 1) * k * k * S * 9) := by ac_rfl
  rw [e1, e2]
  exact h3
theorem ppA_nn {S w n k : Int} (hS : 0 < S) (hw : 0 ≤ w) (hn : 1 ≤ n) (hk : 0 ≤ k) : 0 ≤ (ppA S w n k).1 ∧ (ppA S w n k).1 ≤ (ppA S w n k).2 := by
  unfold ppA
  exact ⟨(rtLo_spec (ppL_nn hw hn hk) (by omega)).1, rt_lohi (ppL_nn hw hn hk) (by omega)⟩
theorem worth_near {S a b s n k : Int} (hS : 0 < S) (hab : a < b) (hn : 1 ≤ n) (hk : 0 ≤ k) : (ppkR S a b s n k).1 ≤ (ppA S (b - a) n k).1 ∧ (ppkR S a b s n k).2 ≤ (ppA S (b - a) n k).2 := by
  have hp := ppA_nn (S := S) (w := b - a) (n := n) (k := k) hS (by omega) hn hk
  unfold ppkR
  split
  · rename_i h
    have h1 : 0 ≤ (ppkA S (-(nearA a b s n)) n k).1 := (rtLo_spec (ppkL_nn (by omega) hn hk) (Int.mul_pos hS (by omega))).1
    have h2 : (ppkA S (-(nearA a b s n)) n k).1 ≤ (ppkA S (-(nearA a b s n)) n k).2 := rt_lohi (ppkL_nn (by omega) hn hk) (Int.mul_pos hS (by omega))
    dsimp only
    omega
  · rename_i h
    refine worth_le hS (by omega) hn hk (by omega) ?_
    have e : n * (b - a) = b * n - a * n := by rw [Int.mul_comm, Int.sub_mul]
    have : nearA a b s n ≤ b * n - s ∧ nearA a b s n ≤ s - a * n := by unfold nearA; omega
    omega
theorem ppA_b {S w n k : Int} (hS : 0 < S) (hw : 0 ≤ w ∧ w ≤ 3000000) (hn : 1 ≤ n ∧ n ≤ 1000) (hk : 0 ≤ k ∧ k ≤ 1000) : (ppA S w n k).2 ≤ 1000000000000000000 := by
  have h := (ppL_b hw hn hk).2 6
  rw [show (ppL w n k).take 6 = ppL w n k from rfl] at h
  exact (rt_bnd ⟨ppL_nn hw.1 hn.1 hk.1, h⟩ (show 0 < S * 36 by omega)).2.2
noncomputable def C4 (F8 : List AVal → Option AVal) : Cfg := ((((((CJ.add 6 F6).add 7 F7).add 8 F8).add 11 F11).add 12 F12).add 13 F13).add 14 F14
theorem law4 {F8 : List AVal → Option AVal} (e8 : F8 [] = some (.bool true)) {a : AVal} {l : List Int} {x y : Int} (ha : Rw a l) (hl : l.length ≤ 100000000000000) (hx : -9223372036854775808 ≤ x ∧ x ≤ 9223372036854775807) (hy : -9223372036854775808 ≤ y ∧ y ≤ 9223372036854775807) :
    pureF (C4 F8) 1 4 [a, .int .i64 x, .int .i64 y] = some (.bool true) := by
  have e6 : F6 [a, .int .i64 100] = _ := F6_eq (m := 100) ha hl (by decide)
  have hap := ha.plain
  have hin : ∀ x ∈ (l.take (min l.length 100)).map clip, -100000 ≤ x ∧ x ≤ 100000 := fun x hx => by obtain ⟨y, _, rfl⟩ := List.mem_map.1 hx; unfold clip; omega
  have hL : ((l.take (min l.length 100)).map clip).length ≤ 100 := by rw [List.length_map, List.length_take]; omega
  generalize (l.take (min l.length 100)).map clip = L at *
  have hrw := rowN_rw L
  have hinM : ∀ x ∈ L, inM x := fun x hx => by have := hin x hx; unfold inM; omega
  have e7 := F7_eq hrw (by omega) hinM
  have hLp := hrw.plain
  have hG := stG_of hin hL
  generalize sprd (ofL L) = S at *
  generalize ofL L = t at *
  have r1 := Int.lt_tmod_of_pos x (show (0 : Int) < 100000 by decide)
  have r2 := Int.tmod_lt_of_pos x (show (0 : Int) < 100000 by decide)
  have r3 := Int.lt_tmod_of_pos y (show (0 : Int) < 100000 by decide)
  have r4 := Int.tmod_lt_of_pos y (show (0 : Int) < 100000 by decide)
  generalize hT1 : x.tmod 100000 = p at *
  generalize hT2 : y.tmod 100000 = q at *
  obtain ⟨a, ha⟩ : ∃ a, min p q - 1 = a := ⟨_, rfl⟩
  obtain ⟨b, hb⟩ : ∃ b, max p q + 1 = b := ⟨_, rfl⟩
  have m1 : mnxA false (.int .i64 p) [.int .i64 q] = some (.int .i64 (min p q)) := mnx_min
  have m2 : mnxA true (.int .i64 p) [.int .i64 q] = some (.int .i64 (max p q)) := mnx_max
  have w0 : -9223372036854775808 ≤ min p q - 1 := by omega
  have hab : a < b ∧ -100002 ≤ a ∧ b ≤ 100002 := by omega
  have hA1 : Ask t S a b 100 := ⟨hG, by omega, by omega, hab.1, by decide, by decide⟩
  have hA2 : Ask t S a (b + (b - a)) 100 := ⟨hG, by omega, by omega, by omega, by decide, by decide⟩
  have e1 := F11_eq hA1
  have e2 := F12_eq hA1
  have e3 := F11_eq hA2
  rw [show b + (b - a) - a = 2 * (b - a) by omega] at e3
  have hn := hG.n
  have hS := hG.Sb
  refine pureF_of (x := x4) rfl rfl ?_
  rw [x4_eq.1, x4_eq.2.1]
  by_cases h1 : t.n < 2
  · have hans : ∀ r, ansA t.n S r = (0, 0, 12) := fun r => by unfold ansA; rw [if_pos h1]
    rw [hans] at e1 e2 e3
    clear h1 hn hS hG hA1 hA2
    simp (disch := first | omega | simp only [*, go_sem, ↓reduceIte, dropK_eq]) only [x4b, go_sem, ↓reduceIte, dropK_eq, callX_known (C := C4 F8) (g := 6) rfl, ft_call (C := C4 F8) (g := 6) rfl, callX_known (C := C4 F8) (g := 7) rfl, ft_call (C := C4 F8) (g := 7) rfl, callX_known (C := C4 F8) (g := 8) rfl, ft_call (C := C4 F8) (g := 8) rfl, callX_known (C := C4 F8) (g := 11) rfl, ft_call (C := C4 F8) (g := 11) rfl, callX_known (C := C4 F8) (g := 12) rfl, ft_call (C := C4 F8) (g := 12) rfl, callX_known (C := C4 F8) (g := 13) rfl, ft_call (C := C4 F8) (g := 13) rfl, callX_known (C := C4 F8) (g := 14) rfl, ft_call (C := C4 F8) (g := 14) rfl, e6, e7, e8, hap, hLp, hT1, hT2, m1, m2, ha, hb, e1, e2, e3]
    exact Ends_plain rfl rfl
  by_cases h2 : S = 0
  · have hans : ∀ r, ansA t.n S r = (0, 0, 6) := fun r => by unfold ansA; rw [if_neg h1, if_pos h2]
    rw [hans] at e1 e2 e3
    clear h1 h2 hn hS hG hA1 hA2
    simp (disch := first | omega | simp only [*, go_sem, ↓reduceIte, dropK_eq]) only [x4b, go_sem, ↓reduceIte, dropK_eq, callX_known (C := C4 F8) (g := 6) rfl, ft_call (C := C4 F8) (g := 6) rfl, callX_known (C := C4 F8) (g := 7) rfl, ft_call (C := C4 F8) (g := 7) rfl, callX_known (C := C4 F8) (g := 8) rfl, ft_call (C := C4 F8) (g := 8) rfl, callX_known (C := C4 F8) (g := 11) rfl, ft_call (C := C4 F8) (g := 11) rfl, callX_known (C := C4 F8) (g := 12) rfl, ft_call (C := C4 F8) (g := 12) rfl, callX_known (C := C4 F8) (g := 13) rfl, ft_call (C := C4 F8) (g := 13) rfl, callX_known (C := C4 F8) (g := 14) rfl, ft_call (C := C4 F8) (g := 14) rfl, e6, e7, e8, hap, hLp, hT1, hT2, m1, m2, ha, hb, e1, e2, e3]
    exact Ends_plain rfl rfl
  have hans : ∀ r, ansA t.n S r = (r.1, r.2, 0) := fun r => by unfold ansA; rw [if_neg h1, if_neg h2]
  rw [hans] at e1 e2 e3
  obtain ⟨g1, g2⟩ := worth_near (S := S) (a := a) (b := b) (s := t.s) (n := t.n) (k := 100) (by omega) hab.1 (by omega) (by decide)
  obtain ⟨g3, g4⟩ := worth_two (S := S) (w := b - a) (n := t.n) (k := 100) (by omega) (by omega) (by omega) (by decide)
  obtain ⟨g5, g6⟩ := ppA_nn (S := S) (w := b - a) (n := t.n) (k := 100) (by omega) (by omega) (by omega) (by decide)
  obtain ⟨g7, g8⟩ := ppA_nn (S := S) (w := 2 * (b - a)) (n := t.n) (k := 100) (by omega) (by omega) (by omega) (by decide)
  have g9 := ppA_b (S := S) (w := b - a) (n := t.n) (k := 100) (by omega) (by omega) (by omega) (by decide)
  have g10 := ppA_b (S := S) (w := 2 * (b - a)) (n := t.n) (k := 100) (by omega) (by omega) (by omega) (by decide)
  generalize (ppA S (b - a) t.n 100).1 = pl at *
  generalize (ppA S (b - a) t.n 100).2 = ph at *
  generalize (ppA S (2 * (b - a)) t.n 100).1 = dl at *
  generalize (ppA S (2 * (b - a)) t.n 100).2 = dh at *
  generalize (ppkR S a b t.s t.n 100).1 = ql at *
  generalize (ppkR S a b t.s t.n 100).2 = qh at *
  clear h1 h2 hn hS hG hA1 hA2 hans
  have d1 : decide (ph < qh) = false := decide_eq_false (by omega)
  have d2 : decide (pl < ql) = false := decide_eq_false (by omega)
  have d3 : decide (dl < 2 * pl) = false := decide_eq_false (by omega)
  have d4 : decide (2 * ph < dh) = false := decide_eq_false (by omega)
  have hm : 1 ≤ max ph 1 ∧ max ph 1 ≤ 1000000000000000000 ∧ dl ≤ 2 * max ph 1 := by omega
  have m3 : mnxA true (.int .i64 ph) [.int .i64 1] = some (.int .i64 (max ph 1)) := mnx_max
  generalize max ph 1 = mx at *
  have e13 := F13_eq (n := dl) (d := mx) (by omega) (by omega)
  have habs : absI dl = dl := by unfold absI; rw [if_neg (by omega)]
  have hgp := gcdI_pos (a := dl) (b := mx) (by omega)
  have hN : newN dl mx = dl / gcdI dl mx := by unfold newN; rw [habs, decide_eq_false (by omega)]; rfl
  have hD : newD dl mx = mx / gcdI dl mx := by unfold newD; rw [habs]
  rw [hN, hD] at e13
  have hg1 := gcdI_one (a := dl) (b := mx) (by omega) (by omega)
  have hl1 := gcdI_left (a := dl) (b := mx) (by omega)
  have hr1 := gcdI_right (a := dl) (b := mx) (by omega)
  have hdl := div_le (a := dl) (g := gcdI dl mx) (by omega) hgp
  have hdr := div_le (a := mx) (g := gcdI dl mx) (by omega) hgp
  have hpos : 0 < mx / gcdI dl mx := by
    refine Classical.byContradiction fun hc => ?_
    have : mx / gcdI dl mx = 0 := by omega
    rw [this, Int.zero_mul] at hr1
    omega
  have hle : dl / gcdI dl mx ≤ 2 * (mx / gcdI dl mx) := by
    refine Int.le_of_mul_le_mul_right (a := gcdI dl mx) ?_ hgp
    rw [Int.mul_assoc, hl1, hr1]
    exact hm.2.2
  have e14 := F14_eq (p := dl / gcdI dl mx) (q := mx / gcdI dl mx) (by omega) (by omega) hg1 hle
  have d5 : decide ((if dl / gcdI dl mx < 2 * (mx / gcdI dl mx) then (-1 : Int) else 0) ≤ 0) = true := by
    refine decide_eq_true ?_
    split <;> decide
  generalize (if dl / gcdI dl mx < 2 * (mx / gcdI dl mx) then (-1 : Int) else 0) = kk at *
  clear hg1 hl1 hr1 hdl hdr hpos hle hgp hN hD habs
  generalize dl / gcdI dl mx = num at *
  generalize mx / gcdI dl mx = den at *
  simp (disch := first | omega | simp only [*, go_sem, ↓reduceIte, dropK_eq]) only [x4b, go_sem, ↓reduceIte, dropK_eq, callX_known (C := C4 F8) (g := 6) rfl, ft_call (C := C4 F8) (g := 6) rfl, callX_known (C := C4 F8) (g := 7) rfl, ft_call (C := C4 F8) (g := 7) rfl, callX_known (C := C4 F8) (g := 8) rfl, ft_call (C := C4 F8) (g := 8) rfl, callX_known (C := C4 F8) (g := 11) rfl, ft_call (C := C4 F8) (g := 11) rfl, callX_known (C := C4 F8) (g := 12) rfl, ft_call (C := C4 F8) (g := 12) rfl, callX_known (C := C4 F8) (g := 13) rfl, ft_call (C := C4 F8) (g := 13) rfl, callX_known (C := C4 F8) (g := 14) rfl, ft_call (C := C4 F8) (g := 14) rfl, e6, e7, e8, hap, hLp, hT1, hT2, m1, m2, ha, hb, e1, e2, e3, d1, d2, d3, d4, m3, e13, e14, d5]
  exact Ends_plain rfl rfl
theorem law4w {F8 : List AVal → Option AVal} (e8 : F8 [] = some (.bool true)) (xs : List AVal) (h : WTL [.slice 1 8 (.int .i64), .int .i64, .int .i64] xs) : pureF (C4 F8) 1 4 xs = some (.bool true) := by
  simp only [WTL] at h
  obtain ⟨q, _, rfl, hq, a, _, rfl, ha, b, _, rfl, hb, rfl⟩ := h
  rw [WT] at ha hb
  obtain ⟨n, rfl, hn1, hn2⟩ := ha
  obtain ⟨m, rfl, hm1, hm2⟩ := hb
  obtain ⟨l, hl, hl2, hl3⟩ := wt_ints hq
  exact law4 e8 hl (by omega) ⟨hn1, hn2⟩ ⟨hm1, hm2⟩
end Go.Proofs.YtkonpbcnekcjjaaGreatDoor.DV
