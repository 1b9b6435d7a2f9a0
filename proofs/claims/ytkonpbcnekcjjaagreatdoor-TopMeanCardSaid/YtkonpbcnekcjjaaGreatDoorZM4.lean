/-
  Laid together: part 4.
-/
import Derived.Test.YtkonpbcnekcjjaaGreatDoorZM3
set_option linter.unusedVariables false
set_option linter.unusedSimpArgs false
namespace Go.Proofs.YtkonpbcnekcjjaaGreatDoor
open Go Go.Xec
structure Kn (a b u d q r : Int) : Prop where
  b0 : 0 ≤ b ∧ b < 4294967296
  a0 : 2147483648 ≤ a ∧ a < 4294967296
  u0 : 0 ≤ u ∧ u < a * 4294967296 + b
  d0 : 0 ≤ d ∧ d < 4294967296
  r0 : 0 ≤ r
  e : q * a + r = u
  t : (u * 4294967296 + d) / (a * 4294967296 + b) ≤ q
def knT (a b u d : Int) : Int := (u * 4294967296 + d) / (a * 4294967296 + b)
theorem knT_spec {a b u d : Int} (hb : 0 ≤ b ∧ b < 4294967296) (ha : 2147483648 ≤ a) (hu : 0 ≤ u ∧ u < a * 4294967296 + b) (hd : 0 ≤ d ∧ d < 4294967296) :
    0 ≤ knT a b u d ∧ knT a b u d < 4294967296 ∧ knT a b u d * (a * 4294967296 + b) ≤ u * 4294967296 + d ∧ u * 4294967296 + d < knT a b u d * (a * 4294967296 + b) + (a * 4294967296 + b) := by
  have hy : 0 < a * 4294967296 + b := by omega
  unfold knT
  generalize hY : a * 4294967296 + b = y at *
  have h1 := Int.ediv_mul_le (u * 4294967296 + d) (show y ≠ 0 by omega)
  have h2 := Int.lt_ediv_add_one_mul_self (u * 4294967296 + d) hy
  have h3 : 0 ≤ (u * 4294967296 + d) / y := Int.ediv_nonneg (by omega) (by omega)
  have h4 : (u * 4294967296 + d) / y < 4294967296 := by
    rw [Int.ediv_lt_iff_lt_mul hy]
    have : (u + 1) * 4294967296 ≤ y * 4294967296 := Int.mul_le_mul_of_nonneg_right (by omega) (by decide)
    omega
  rw [Int.add_mul, Int.one_mul] at h2
  exact ⟨h3, h4, h1, h2⟩
theorem kn_mul {a b q y : Int} (hY : a * 4294967296 + b = y) : q * y = 4294967296 * (q * a) + q * b := by
  rw [← hY, Int.mul_add, ← Int.mul_assoc]; omega
theorem kn_le {p q y : Int} (hy : 0 < y) (h : p * y < q * y) : p < q := Int.lt_of_mul_lt_mul_right h (by omega)
theorem kn_first {a b u d : Int} (hb : 0 ≤ b ∧ b < 4294967296) (ha : 2147483648 ≤ a ∧ a < 4294967296) (hu : 0 ≤ u ∧ u < a * 4294967296 + b) (hd : 0 ≤ d ∧ d < 4294967296) : Kn a b u d (u / a) (u % a) := by
  obtain ⟨t0, t1, t2, t3⟩ := knT_spec hb ha.1 hu hd
  have e1 : u / a * a + u % a = u := by have := Int.emod_add_mul_ediv u a; rw [Int.mul_comm a] at this; omega
  have r0 := Int.emod_nonneg u (show a ≠ 0 by omega)
  have r1 := Int.emod_lt_of_pos u (show 0 < a by omega)
  refine ⟨hb, ha, hu, hd, r0, e1, ?_⟩
  change knT a b u d ≤ u / a
  generalize hY : a * 4294967296 + b = y at *
  have hy : 0 < y := by omega
  refine Classical.byContradiction fun hn => ?_
  have h1 : (u / a + 1) * y ≤ knT a b u d * y := Int.mul_le_mul_of_nonneg_right (by omega) (by omega)
  have h2 := kn_mul (q := u / a + 1) hY
  have h3 : (u / a + 1) * a = u / a * a + a := by rw [Int.add_mul, Int.one_mul]
  have h4 : 0 ≤ (u / a + 1) * b := Int.mul_nonneg (by have := Int.ediv_nonneg (a := u) (b := a) hu.1 (by omega); omega) hb.1
  omega
theorem kn_more {a b u d q r : Int} (h : Kn a b u d q r) (hc : 4294967296 ≤ q ∨ 4294967296 * r + d < q * b) : knT a b u d ≤ q - 1 := by
  obtain ⟨t0, t1, t2, t3⟩ := knT_spec h.b0 h.a0.1 h.u0 h.d0
  have ha := h.a0
  have hb := h.b0
  have he := h.e
  have ht : knT a b u d ≤ q := h.t
  generalize hY : a * 4294967296 + b = y at *
  have hy : 0 < y := by omega
  rcases hc with hc | hc
  · omega
  · have h2 := kn_mul (q := q) hY
    have : knT a b u d < q := kn_le hy (by omega)
    omega
theorem kn_next {a b u d q r : Int} (h : Kn a b u d q r) (hc : 4294967296 ≤ q ∨ 4294967296 * r + d < q * b) : Kn a b u d (q - 1) (r + a) := by
  have h1 := kn_more h hc
  have ha := h.a0
  have hr := h.r0
  refine ⟨h.b0, h.a0, h.u0, h.d0, by omega, ?_, h1⟩
  have he := h.e
  have : (q - 1) * a = q * a - a := by rw [Int.sub_mul, Int.one_mul]
  omega
theorem kn_done {a b u d q r : Int} (h : Kn a b u d q r) (hq : q < 4294967296) (hc : q * b ≤ 4294967296 * r + d) : q = knT a b u d := by
  obtain ⟨t0, t1, t2, t3⟩ := knT_spec h.b0 h.a0.1 h.u0 h.d0
  have ha := h.a0
  have hb := h.b0
  have he := h.e
  have ht : knT a b u d ≤ q := h.t
  generalize hY : a * 4294967296 + b = y at *
  have hy : 0 < y := by omega
  have h2 := kn_mul (q := q) hY
  have h3 : q * y < (knT a b u d + 1) * y := by rw [Int.add_mul, Int.one_mul]; omega
  have := kn_le hy h3
  omega
theorem kn_big {a b u d q r : Int} (h : Kn a b u d q r) (hr : 4294967296 ≤ r) : q = knT a b u d := by
  have ha := h.a0
  have hb := h.b0
  have hd := h.d0
  have he := h.e
  have hu := h.u0
  have ht : knT a b u d ≤ q := h.t
  obtain ⟨t0, t1, t2, t3⟩ := knT_spec h.b0 h.a0.1 h.u0 h.d0
  have h0 : 0 ≤ q := by omega
  have hq : q < 4294967296 := by
    have : q * a < 4294967296 * a := by omega
    exact kn_le (by omega) this
  refine kn_done h hq ?_
  have : q * b ≤ 4294967296 * 4294967296 := Int.mul_le_mul (by omega) (by omega) hb.1 (by omega)
  omega
theorem kn_rest {a b u d : Int} (hb : 0 ≤ b ∧ b < 4294967296) (ha : 2147483648 ≤ a ∧ a < 4294967296) (hu : 0 ≤ u ∧ u < a * 4294967296 + b) (hd : 0 ≤ d ∧ d < 4294967296) :
    0 ≤ u * 4294967296 + d - knT a b u d * (a * 4294967296 + b) ∧ u * 4294967296 + d - knT a b u d * (a * 4294967296 + b) < a * 4294967296 + b := by
  obtain ⟨t0, t1, t2, t3⟩ := knT_spec hb ha.1 hu hd
  omega
end Go.Proofs.YtkonpbcnekcjjaaGreatDoor
namespace Go.Proofs.YtkonpbcnekcjjaaGreatDoor
open Go Go.Xec
attribute [local go_sem] tm0 ne_eq not_false_eq_true List.length_append List.length_replicate List.replicate_succ List.replicate_zero Int.cast_ofNat_Int not_true_eq_false decide_true decide_false ite_self beq_self_eq_true Bool.true_beq Bool.false_beq Bool.not_true Bool.not_false
attribute [local go_sem_proc] Nat.reduceAdd Nat.reduceMul Nat.reduceSub Nat.reduceLeDiff Nat.reduceLT Nat.reduceEqDiff Int.reduceLT Int.reduceLE Int.reduceAdd Int.reduceSub Int.reduceMul Int.reduceToNat Int.reducePow Int.reduceNe Int.reduceMod Int.reduceDiv Int.reduceEq Nat.reducePow Int.reduceNeg
set_option maxRecDepth 10000
theorem knT_t {a b u d q r : Int} (h : Kn a b u d q r) : knT a b u d ≤ q := h.t
theorem kn_loop17 {inl : Inl} {tm : Nat → AVal} {hp : Heap} {nc : Nat} {C : Cfg} {a b u d q0 r0 : Int} (hk : Kn a b u d q0 r0) (hr0 : r0 < 4294967296) (hq0 : q0 < 1099511627776)
    (k9 : tm 9 = .int .u64 a) (k10 : tm 10 = .int .u64 b) (k13 : tm 13 = .int .u64 d) (k15 : tm 15 = .int .u64 q0) (k16 : tm 16 = .int .u64 r0) :
    Ev (C := C) (inl := inl) 81 (.loop x81l17) ⟨tm, hp, nc⟩ fun o s => o = .ext 0 ∧ s.hp = hp ∧ s.tm 15 = .int .u64 (knT a b u d) := by
  have hb := hk.b0
  have ha := hk.a0
  have hd := hk.d0
  obtain ⟨t0, t1, t2, t3⟩ := knT_spec hk.b0 hk.a0.1 hk.u0 hk.d0
  refine Ev_loopW (I := fun n tm' hp' nc' => hp' = hp ∧ ∃ q r, Kn a b u d q r ∧ r < 4294967296 ∧ q < 1099511627776 ∧ tm' 15 = .int .u64 q ∧ tm' 16 = .int .u64 r ∧ q - knT a b u d < (n : Int)) (n := (q0 - knT a b u d).toNat + 1) ?_ ?_ ?_
  · exact ⟨rfl, q0, r0, hk, hr0, hq0, k15, k16, by have := knT_t hk; omega⟩
  · have := knT_t hk
    omega
  rintro n tm' hp' nc' hc ⟨rfl, q, r, hi, hr, hq, j15, j16, hn⟩
  have j9 := hc 9 rfl; have j10 := hc 10 rfl; have j13 := hc 13 rfl
  rw [k9] at j9; rw [k10] at j10; rw [k13] at j13
  have ht := knT_t hi
  have hr1 := hi.r0
  have w2 : 4294967296 * r % 18446744073709551616 = 4294967296 * r := Int.emod_eq_of_lt (by omega) (by omega)
  have w3 : (4294967296 * r + d) % 18446744073709551616 = 4294967296 * r + d := Int.emod_eq_of_lt (by omega) (by omega)
  by_cases h1 : 4294967296 ≤ q
  · have d1 := decide_eq_true h1
    have hcc : 4294967296 ≤ q ∨ 4294967296 * r + d < q * b := .inl h1
    have hnx := kn_next hi hcc
    have hmo := kn_more hi hcc
    have w5 : (q - 1) % 18446744073709551616 = q - 1 := Int.emod_eq_of_lt (by omega) (by omega)
    have w6 : (r + a) % 18446744073709551616 = r + a := Int.emod_eq_of_lt (by omega) (by omega)
    by_cases h3 : 4294967296 ≤ r + a
    · have d3 := decide_eq_true h3
      have hq2 := kn_big hnx h3
      clear hnx hmo hi hcc h3
      simp (disch := first | omega | simp only [*, go_sem, ↓reduceIte, dropK_eq]) only [x81l17, go_sem, ↓reduceIte, dropK_eq, j9, j10, j13, j15, j16, w2, w3, d1, w5, w6, d3]
      rw [hq2]
    · have d3 := decide_eq_false h3
      clear hi hcc
      simp (disch := first | omega | simp only [*, go_sem, ↓reduceIte, dropK_eq]) only [x81l17, go_sem, ↓reduceIte, dropK_eq, j9, j10, j13, j15, j16, w2, w3, d1, w5, w6, d3]
      exact ⟨n - 1, by omega, q - 1, r + a, hnx, by omega, by omega, rfl, rfl, by omega⟩
  have d1 := decide_eq_false h1
  have hqb : 0 ≤ q * b ∧ q * b ≤ 4294967295 * 4294967295 := ⟨Int.mul_nonneg (by omega) hb.1, Int.mul_le_mul (by omega) (by omega) hb.1 (by omega)⟩
  have w4 : q * b % 18446744073709551616 = q * b := Int.emod_eq_of_lt hqb.1 (by omega)
  by_cases h2 : 4294967296 * r + d < q * b
  · have d2 := decide_eq_true h2
    have hcc : 4294967296 ≤ q ∨ 4294967296 * r + d < q * b := .inr h2
    have hnx := kn_next hi hcc
    have hmo := kn_more hi hcc
    have w5 : (q - 1) % 18446744073709551616 = q - 1 := Int.emod_eq_of_lt (by omega) (by omega)
    have w6 : (r + a) % 18446744073709551616 = r + a := Int.emod_eq_of_lt (by omega) (by omega)
    by_cases h3 : 4294967296 ≤ r + a
    · have d3 := decide_eq_true h3
      have hq2 := kn_big hnx h3
      clear hnx hmo hi hcc h3
      simp (disch := first | omega | simp only [*, go_sem, ↓reduceIte, dropK_eq]) only [x81l17, go_sem, ↓reduceIte, dropK_eq, j9, j10, j13, j15, j16, w2, w3, d1, d2, w4, w5, w6, d3]
      rw [hq2]
    · have d3 := decide_eq_false h3
      clear hi hcc
      simp (disch := first | omega | simp only [*, go_sem, ↓reduceIte, dropK_eq]) only [x81l17, go_sem, ↓reduceIte, dropK_eq, j9, j10, j13, j15, j16, w2, w3, d1, d2, w4, w5, w6, d3]
      exact ⟨n - 1, by omega, q - 1, r + a, hnx, by omega, by omega, rfl, rfl, by omega⟩
  · have d2 := decide_eq_false h2
    have hq2 := kn_done hi (by omega) (by omega)
    clear hi h1 h2
    simp (disch := first | omega | simp only [*, go_sem, ↓reduceIte, dropK_eq]) only [x81l17, go_sem, ↓reduceIte, dropK_eq, j9, j10, j13, j15, j16, w2, w3, w4, d1, d2]
    rw [← hq2]
theorem kn_loop25 {inl : Inl} {tm : Nat → AVal} {hp : Heap} {nc : Nat} {C : Cfg} {a b u d q0 r0 : Int} (hk : Kn a b u d q0 r0) (hr0 : r0 < 4294967296) (hq0 : q0 < 1099511627776)
    (k9 : tm 9 = .int .u64 a) (k10 : tm 10 = .int .u64 b) (k14 : tm 14 = .int .u64 d) (k18 : tm 18 = .int .u64 q0) (k16 : tm 16 = .int .u64 r0) :
    Ev (C := C) (inl := inl) 81 (.loop x81l25) ⟨tm, hp, nc⟩ fun o s => o = .ext 2 ∧ s.hp = hp ∧ s.tm 18 = .int .u64 (knT a b u d) := by
  have hb := hk.b0
  have ha := hk.a0
  have hd := hk.d0
  obtain ⟨t0, t1, t2, t3⟩ := knT_spec hk.b0 hk.a0.1 hk.u0 hk.d0
  refine Ev_loopW (I := fun n tm' hp' nc' => hp' = hp ∧ ∃ q r, Kn a b u d q r ∧ r < 4294967296 ∧ q < 1099511627776 ∧ tm' 18 = .int .u64 q ∧ tm' 16 = .int .u64 r ∧ q - knT a b u d < (n : Int)) (n := (q0 - knT a b u d).toNat + 1) ?_ ?_ ?_
  · exact ⟨rfl, q0, r0, hk, hr0, hq0, k18, k16, by have := knT_t hk; omega⟩
  · have := knT_t hk
    omega
  rintro n tm' hp' nc' hc ⟨rfl, q, r, hi, hr, hq, j18, j16, hn⟩
  have j9 := hc 9 rfl; have j10 := hc 10 rfl; have j14 := hc 14 rfl
  rw [k9] at j9; rw [k10] at j10; rw [k14] at j14
  have ht := knT_t hi
  have hr1 := hi.r0
  have w2 : 4294967296 * r % 18446744073709551616 = 4294967296 * r := Int.emod_eq_of_lt (by omega) (by omega)
  have w3 : (4294967296 * r + d) % 18446744073709551616 = 4294967296 * r + d := Int.emod_eq_of_lt (by omega) (by omega)
  by_cases h1 : 4294967296 ≤ q
  · have d1 := decide_eq_true h1
    have hcc : 4294967296 ≤ q ∨ 4294967296 * r + d < q * b := .inl h1
    have hnx := kn_next hi hcc
    have hmo := kn_more hi hcc
    have w5 : (q - 1) % 18446744073709551616 = q - 1 := Int.emod_eq_of_lt (by omega) (by omega)
    have w6 : (r + a) % 18446744073709551616 = r + a := Int.emod_eq_of_lt (by omega) (by omega)
    by_cases h3 : 4294967296 ≤ r + a
    · have d3 := decide_eq_true h3
      have hq2 := kn_big hnx h3
      clear hnx hmo hi hcc h3
      simp (disch := first | omega | simp only [*, go_sem, ↓reduceIte, dropK_eq]) only [x81l25, go_sem, ↓reduceIte, dropK_eq, j9, j10, j14, j18, j16, w2, w3, d1, w5, w6, d3]
      rw [hq2]
    · have d3 := decide_eq_false h3
      clear hi hcc
      simp (disch := first | omega | simp only [*, go_sem, ↓reduceIte, dropK_eq]) only [x81l25, go_sem, ↓reduceIte, dropK_eq, j9, j10, j14, j18, j16, w2, w3, d1, w5, w6, d3]
      exact ⟨n - 1, by omega, q - 1, r + a, hnx, by omega, by omega, rfl, rfl, by omega⟩
  have d1 := decide_eq_false h1
  have hqb : 0 ≤ q * b ∧ q * b ≤ 4294967295 * 4294967295 := ⟨Int.mul_nonneg (by omega) hb.1, Int.mul_le_mul (by omega) (by omega) hb.1 (by omega)⟩
  have w4 : q * b % 18446744073709551616 = q * b := Int.emod_eq_of_lt hqb.1 (by omega)
  by_cases h2 : 4294967296 * r + d < q * b
  · have d2 := decide_eq_true h2
    have hcc : 4294967296 ≤ q ∨ 4294967296 * r + d < q * b := .inr h2
    have hnx := kn_next hi hcc
    have hmo := kn_more hi hcc
    have w5 : (q - 1) % 18446744073709551616 = q - 1 := Int.emod_eq_of_lt (by omega) (by omega)
    have w6 : (r + a) % 18446744073709551616 = r + a := Int.emod_eq_of_lt (by omega) (by omega)
    by_cases h3 : 4294967296 ≤ r + a
    · have d3 := decide_eq_true h3
      have hq2 := kn_big hnx h3
      clear hnx hmo hi hcc h3
      simp (disch := first | omega | simp only [*, go_sem, ↓reduceIte, dropK_eq]) only [x81l25, go_sem, ↓reduceIte, dropK_eq, j9, j10, j14, j18, j16, w2, w3, d1, d2, w4, w5, w6, d3]
      rw [hq2]
    · have d3 := decide_eq_false h3
      clear hi hcc
      simp (disch := first | omega | simp only [*, go_sem, ↓reduceIte, dropK_eq]) only [x81l25, go_sem, ↓reduceIte, dropK_eq, j9, j10, j14, j18, j16, w2, w3, d1, d2, w4, w5, w6, d3]
      exact ⟨n - 1, by omega, q - 1, r + a, hnx, by omega, by omega, rfl, rfl, by omega⟩
  · have d2 := decide_eq_false h2
    have hq2 := kn_done hi (by omega) (by omega)
    clear hi h1 h2
    simp (disch := first | omega | simp only [*, go_sem, ↓reduceIte, dropK_eq]) only [x81l25, go_sem, ↓reduceIte, dropK_eq, j9, j10, j14, j18, j16, w2, w3, w4, d1, d2]
    rw [← hq2]
end Go.Proofs.YtkonpbcnekcjjaaGreatDoor
namespace Go.Proofs.YtkonpbcnekcjjaaGreatDoor.RT
open Go Go.Xec
attribute [local go_sem] tm0 ne_eq not_false_eq_true List.length_append List.length_replicate List.replicate_succ List.replicate_zero Int.cast_ofNat_Int not_true_eq_false decide_true decide_false ite_self beq_self_eq_true Bool.true_beq Bool.false_beq Bool.not_true Bool.not_false
attribute [local go_sem_proc] Nat.reduceAdd Nat.reduceMul Nat.reduceSub Nat.reduceLeDiff Nat.reduceLT Nat.reduceEqDiff Int.reduceLT Int.reduceLE Int.reduceAdd Int.reduceSub Int.reduceMul Int.reduceToNat Int.reducePow Int.reduceNe Int.reduceMod Int.reduceDiv Int.reduceEq Nat.reducePow Int.reduceNeg
set_option maxRecDepth 10000
theorem enc_w {n : Int} (h : 0 ≤ n ∧ n < big) : U (n / 18446744073709551616) ∧ U (n % 18446744073709551616) := by
  simp only [U, big] at *
  omega
theorem val_enc (n : Int) : val (n / 18446744073709551616) (n % 18446744073709551616) = n := by
  simp only [val]
  omega
noncomputable def F84 : List AVal → Option AVal := pureF C3 1 84
theorem sound84 : Sound Tryz.prog 84 F84 := sound_self ok3 1 84
theorem F84_eq {x h l : Int} (hx : U x) (hl : U l) : F84 [.int .u64 x, .pvo [.int .u64 h, .int .u64 l] 0] = some (.bool (decide (x * x ≤ val h l))) := by
  have hxx : 0 ≤ x * x ∧ x * x ≤ 18446744073709551615 * 18446744073709551615 := mul_bound hx.1 (by omega) hx.1 (by omega)
  have e55 := F24_eq hx hx
  have e101 := F55_eq (ah := h) (al := l) (bh := x * x / 18446744073709551616) (bl := x * x % 18446744073709551616) hl (enc_w (by simp only [big]; omega)).2
  rw [val_enc] at e101
  simp only [enc] at e55
  unfold F84
  refine pureF_of (x := x84) rfl rfl ?_
  rw [x84_eq.1, x84_eq.2.1]
  simp (disch := first | omega | simp only [go_sem, ↓reduceIte, dropK_eq]) only [x84b, go_sem, ↓reduceIte, dropK_eq, callX_known (C := C3) (g := 24) rfl, ft_call (C := C3) (g := 24) rfl, callX_known (C := C3) (g := 55) rfl, ft_call (C := C3) (g := 55) rfl, e55, e101]
  refine Ends_plain rfl ?_
  congr 1
  by_cases h1 : x * x ≤ val h l
  · rw [decide_eq_true h1, decide_eq_false (by omega)]; rfl
  · rw [decide_eq_false h1, decide_eq_true (by omega)]; rfl
noncomputable def C4 : Cfg := C3.add 84 F84
theorem ok4 : CfgOk Tryz.prog C4 := ok3.add sound84
def blen (n : Nat) : Nat := if n = 0 then 0 else Nat.log2 n + 1
theorem blen_spec {n r : Nat} (h : (n = 0 ∧ r = 0) ∨ (1 ≤ r ∧ 2 ^ (r - 1) ≤ n ∧ n < 2 ^ r)) : blen n = r := by
  unfold blen
  rcases h with ⟨rfl, rfl⟩ | ⟨h1, h2, h3⟩
  · rfl
  · have hn : n ≠ 0 := by have : 0 < 2 ^ (r - 1) := Nat.two_pow_pos _; omega
    rw [if_neg hn]
    have h4 : Nat.log2 n < r := (Nat.log2_lt hn).2 h3
    have h5 : r - 1 ≤ Nat.log2 n := (Nat.le_log2 hn).2 h2
    omega
theorem blen_of {n : Nat} (hn : n ≠ 0) : 1 ≤ blen n ∧ 2 ^ (blen n - 1) ≤ n ∧ n < 2 ^ blen n := by
  unfold blen
  rw [if_neg hn]
  exact ⟨by omega, by simpa using Nat.log2_self_le hn, Nat.lt_log2_self⟩
theorem blen_shift {n k : Nat} (h : 2 ^ k ≤ n) : blen n = k + blen (n / 2 ^ k) := by
  have hp : 0 < 2 ^ k := Nat.two_pow_pos k
  have hq : n / 2 ^ k ≠ 0 := by
    have := Nat.div_pos h hp
    omega
  obtain ⟨h1, h2, h3⟩ := blen_of hq
  refine blen_spec (.inr ⟨by omega, ?_, ?_⟩)
  · rw [show k + blen (n / 2 ^ k) - 1 = (blen (n / 2 ^ k) - 1) + k by omega, Nat.pow_add]
    exact (Nat.le_div_iff_mul_le hp).1 h2
  · rw [Nat.add_comm, Nat.pow_add]
    exact (Nat.div_lt_iff_lt_mul hp).1 h3
def len8 : ByteArray := Lib.len8tab
theorem len8_at : ∀ y < 256, len8[y]? = some (UInt8.ofNat (blen y)) := by decide +kernel
theorem ix_len8 {y : Int} (h : 0 ≤ y ∧ y < 256) : ixSA (.str Lib.len8tab) (.int .u8 y) = some (.int .u8 (blen y.toNat)) := by
  have h1 := len8_at y.toNat (by omega)
  have h2 : blen y.toNat ≤ 8 := by
    by_cases h0 : y.toNat = 0
    · rw [h0]; decide
    · obtain ⟨_, h3, _⟩ := blen_of h0
      refine Nat.le_of_not_lt fun h4 => ?_
      have : 2 ^ 8 ≤ 2 ^ (blen y.toNat - 1) := Nat.pow_le_pow_right (by decide) (by omega)
      omega
  show ixSA (.str len8) (.int .u8 y) = _
  simp only [ixSA, h.1, if_true, h1, Option.map_some]
  congr 2
  simp
  omega
noncomputable def F85 : List AVal → Option AVal := pureF C4 1 85
theorem sound85 : Sound Tryz.prog 85 F85 := sound_self ok4 1 85
theorem blen_8 {n : Nat} (h : n < 256) : blen n ≤ 8 := by
  by_cases h0 : n = 0
  · rw [h0]; decide
  · obtain ⟨_, h3, _⟩ := blen_of h0
    refine Nat.le_of_not_lt fun h4 => ?_
    have : 2 ^ 8 ≤ 2 ^ (blen n - 1) := Nat.pow_le_pow_right (by decide) (by omega)
    omega
theorem F85_eq {x : Int} (hx : U x) : F85 [.int .u64 x] = some (.int .i64 (blen x.toNat)) := by
  obtain ⟨m, rfl⟩ : ∃ m : Nat, x = m := ⟨x.toNat, by have := hx.1; omega⟩
  rw [Int.toNat_natCast]
  have hm : m < 18446744073709551616 := by have := hx.2; omega
  have s1 : ∀ a : Nat, binA .shr (.int .u64 (a : Int)) (.int .u64 32) = some (.int .u64 ((a / 4294967296 : Nat) : Int)) := fun a => by rw [binA_shr]; simp
  have s2 : ∀ a : Nat, binA .shr (.int .u64 (a : Int)) (.int .u64 16) = some (.int .u64 ((a / 65536 : Nat) : Int)) := fun a => by rw [binA_shr_u64 _ _ (by decide) (by decide)]; simp
  have s3 : ∀ a : Nat, binA .shr (.int .u64 (a : Int)) (.int .u64 8) = some (.int .u64 ((a / 256 : Nat) : Int)) := fun a => by rw [binA_shr_u64 _ _ (by decide) (by decide)]; simp
  clear hx
  unfold F85
  refine pureF_of (x := x85) rfl rfl ?_
  rw [x85_eq.1, x85_eq.2.1]
  by_cases c1 : 4294967296 ≤ m
  · have d1 : decide ((4294967296 : Int) ≤ ((m : Nat) : Int)) = true := decide_eq_true (by omega)
    have g1 : blen m = 32 + blen (m / 4294967296) := blen_shift (k := 32) c1
    have b1 : (m / 4294967296) < 4294967296 := by omega
    by_cases c2 : 65536 ≤ (m / 4294967296)
    · have d2 : decide ((65536 : Int) ≤ (((m / 4294967296) : Nat) : Int)) = true := decide_eq_true (by omega)
      have g2 : blen (m / 4294967296) = 16 + blen ((m / 4294967296) / 65536) := blen_shift (k := 16) c2
      have b2 : ((m / 4294967296) / 65536) < 65536 := by omega
      by_cases c3 : 256 ≤ ((m / 4294967296) / 65536)
      · have d3 : decide ((256 : Int) ≤ ((((m / 4294967296) / 65536) : Nat) : Int)) = true := decide_eq_true (by omega)
        have g3 : blen ((m / 4294967296) / 65536) = 8 + blen (((m / 4294967296) / 65536) / 256) := blen_shift (k := 8) c3
        have b3 : (((m / 4294967296) / 65536) / 256) < 256 := by omega
        have hc : (((m / 4294967296) / 65536) / 256) < 256 := by omega
        have h8 := blen_8 hc
        have i8 : ixSA (.str Lib.len8tab) (.int .u8 (((((m / 4294967296) / 65536) / 256) : Nat) : Int)) = some (.int .u8 (blen (((m / 4294967296) / 65536) / 256))) := by have := ix_len8 (y := (((((m / 4294967296) / 65536) / 256) : Nat) : Int)) (by omega); rwa [Int.toNat_natCast] at this
        have em : (((((m / 4294967296) / 65536) / 256) : Nat) : Int) % 256 = (((((m / 4294967296) / 65536) / 256) : Nat) : Int) := by omega
        simp (disch := first | omega | simp only [*, go_sem, ↓reduceIte, dropK_eq]) only [x85b, go_sem, ↓reduceIte, dropK_eq, s1, s2, s3, d1, d2, d3, em, i8]
        refine Ends_plain rfl ?_
        congr 1
        rw [g1]
        rw [g2]
        rw [g3]
        omega
      · have d3 : decide ((256 : Int) ≤ ((((m / 4294967296) / 65536) : Nat) : Int)) = false := decide_eq_false (by omega)
        have hc : ((m / 4294967296) / 65536) < 256 := by omega
        have h8 := blen_8 hc
        have i8 : ixSA (.str Lib.len8tab) (.int .u8 ((((m / 4294967296) / 65536) : Nat) : Int)) = some (.int .u8 (blen ((m / 4294967296) / 65536))) := by have := ix_len8 (y := ((((m / 4294967296) / 65536) : Nat) : Int)) (by omega); rwa [Int.toNat_natCast] at this
        have em : ((((m / 4294967296) / 65536) : Nat) : Int) % 256 = ((((m / 4294967296) / 65536) : Nat) : Int) := by omega
        simp (disch := first | omega | simp only [*, go_sem, ↓reduceIte, dropK_eq]) only [x85b, go_sem, ↓reduceIte, dropK_eq, s1, s2, s3, d1, d2, d3, em, i8]
        refine Ends_plain rfl ?_
        congr 1
        rw [g1]
        rw [g2]
        omega
    · have d2 : decide ((65536 : Int) ≤ (((m / 4294967296) : Nat) : Int)) = false := decide_eq_false (by omega)
      by_cases c3 : 256 ≤ (m / 4294967296)
      · have d3 : decide ((256 : Int) ≤ (((m / 4294967296) : Nat) : Int)) = true := decide_eq_true (by omega)
        have g3 : blen (m / 4294967296) = 8 + blen ((m / 4294967296) / 256) := blen_shift (k := 8) c3
        have b3 : ((m / 4294967296) / 256) < 256 := by omega
        have hc : ((m / 4294967296) / 256) < 256 := by omega
        have h8 := blen_8 hc
        have i8 : ixSA (.str Lib.len8tab) (.int .u8 ((((m / 4294967296) / 256) : Nat) : Int)) = some (.int .u8 (blen ((m / 4294967296) / 256))) := by have := ix_len8 (y := ((((m / 4294967296) / 256) : Nat) : Int)) (by omega); rwa [Int.toNat_natCast] at this
        have em : ((((m / 4294967296) / 256) : Nat) : Int) % 256 = ((((m / 4294967296) / 256) : Nat) : Int) := by omega
        simp (disch := first | omega | simp only [*, go_sem, ↓reduceIte, dropK_eq]) only [x85b, go_sem, ↓reduceIte, dropK_eq, s1, s2, s3, d1, d2, d3, em, i8]
        refine Ends_plain rfl ?_
        congr 1
        rw [g1]
        rw [g3]
        omega
      · have d3 : decide ((256 : Int) ≤ (((m / 4294967296) : Nat) : Int)) = false := decide_eq_false (by omega)
        have hc : (m / 4294967296) < 256 := by omega
        have h8 := blen_8 hc
        have i8 : ixSA (.str Lib.len8tab) (.int .u8 (((m / 4294967296) : Nat) : Int)) = some (.int .u8 (blen (m / 4294967296))) := by have := ix_len8 (y := (((m / 4294967296) : Nat) : Int)) (by omega); rwa [Int.toNat_natCast] at this
        have em : (((m / 4294967296) : Nat) : Int) % 256 = (((m / 4294967296) : Nat) : Int) := by omega
        simp (disch := first | omega | simp only [*, go_sem, ↓reduceIte, dropK_eq]) only [x85b, go_sem, ↓reduceIte, dropK_eq, s1, s2, s3, d1, d2, d3, em, i8]
        refine Ends_plain rfl ?_
        congr 1
        rw [g1]
        omega
  · have d1 : decide ((4294967296 : Int) ≤ ((m : Nat) : Int)) = false := decide_eq_false (by omega)
    by_cases c2 : 65536 ≤ m
    · have d2 : decide ((65536 : Int) ≤ ((m : Nat) : Int)) = true := decide_eq_true (by omega)
      have g2 : blen m = 16 + blen (m / 65536) := blen_shift (k := 16) c2
      have b2 : (m / 65536) < 65536 := by omega
      by_cases c3 : 256 ≤ (m / 65536)
      · have d3 : decide ((256 : Int) ≤ (((m / 65536) : Nat) : Int)) = true := decide_eq_true (by omega)
        have g3 : blen (m / 65536) = 8 + blen ((m / 65536) / 256) := blen_shift (k := 8) c3
        have b3 : ((m / 65536) / 256) < 256 := by omega
        have hc : ((m / 65536) / 256) < 256 := by omega
        have h8 := blen_8 hc
        have i8 : ixSA (.str Lib.len8tab) (.int .u8 ((((m / 65536) / 256) : Nat) : Int)) = some (.int .u8 (blen ((m / 65536) / 256))) := by have := ix_len8 (y := ((((m / 65536) / 256) : Nat) : Int)) (by omega); rwa [Int.toNat_natCast] at this
        have em : ((((m / 65536) / 256) : Nat) : Int) % 256 = ((((m / 65536) / 256) : Nat) : Int) := by omega
        simp (disch := first | omega | simp only [*, go_sem, ↓reduceIte, dropK_eq]) only [x85b, go_sem, ↓reduceIte, dropK_eq, s1, s2, s3, d1, d2, d3, em, i8]
        refine Ends_plain rfl ?_
        congr 1
        rw [g2]
        rw [g3]
        omega
      · have d3 : decide ((256 : Int) ≤ (((m / 65536) : Nat) : Int)) = false := decide_eq_false (by omega)
        have hc : (m / 65536) < 256 := by omega
        have h8 := blen_8 hc
        have i8 : ixSA (.str Lib.len8tab) (.int .u8 (((m / 65536) : Nat) : Int)) = some (.int .u8 (blen (m / 65536))) := by have := ix_len8 (y := (((m / 65536) : Nat) : Int)) (by omega); rwa [Int.toNat_natCast] at this
        have em : (((m / 65536) : Nat) : Int) % 256 = (((m / 65536) : Nat) : Int) := by omega
        simp (disch := first | omega | simp only [*, go_sem, ↓reduceIte, dropK_eq]) only [x85b, go_sem, ↓reduceIte, dropK_eq, s1, s2, s3, d1, d2, d3, em, i8]
        refine Ends_plain rfl ?_
        congr 1
        rw [g2]
        omega
    · have d2 : decide ((65536 : Int) ≤ ((m : Nat) : Int)) = false := decide_eq_false (by omega)
      by_cases c3 : 256 ≤ m
      · have d3 : decide ((256 : Int) ≤ ((m : Nat) : Int)) = true := decide_eq_true (by omega)
        have g3 : blen m = 8 + blen (m / 256) := blen_shift (k := 8) c3
        have b3 : (m / 256) < 256 := by omega
        have hc : (m / 256) < 256 := by omega
        have h8 := blen_8 hc
        have i8 : ixSA (.str Lib.len8tab) (.int .u8 (((m / 256) : Nat) : Int)) = some (.int .u8 (blen (m / 256))) := by have := ix_len8 (y := (((m / 256) : Nat) : Int)) (by omega); rwa [Int.toNat_natCast] at this
        have em : (((m / 256) : Nat) : Int) % 256 = (((m / 256) : Nat) : Int) := by omega
        simp (disch := first | omega | simp only [*, go_sem, ↓reduceIte, dropK_eq]) only [x85b, go_sem, ↓reduceIte, dropK_eq, s1, s2, s3, d1, d2, d3, em, i8]
        refine Ends_plain rfl ?_
        congr 1
        rw [g3]
        omega
      · have d3 : decide ((256 : Int) ≤ ((m : Nat) : Int)) = false := decide_eq_false (by omega)
        have hc : m < 256 := by omega
        have h8 := blen_8 hc
        have i8 : ixSA (.str Lib.len8tab) (.int .u8 ((m : Nat) : Int)) = some (.int .u8 (blen m)) := by have := ix_len8 (y := ((m : Nat) : Int)) (by omega); rwa [Int.toNat_natCast] at this
        have em : ((m : Nat) : Int) % 256 = ((m : Nat) : Int) := by omega
        simp (disch := first | omega | simp only [*, go_sem, ↓reduceIte, dropK_eq]) only [x85b, go_sem, ↓reduceIte, dropK_eq, s1, s2, s3, d1, d2, d3, em, i8]
        refine Ends_plain rfl ?_
        congr 1
        omega
set_option maxRecDepth 10000
theorem or_ones {m : Nat} (h : m < 2 ^ 32) : 2 ^ 32 - 1 ||| m = 2 ^ 32 - 1 := by
  apply Nat.eq_of_testBit_eq
  intro i
  rw [Nat.testBit_or, Nat.testBit_two_pow_sub_one]
  by_cases hi : i < 32
  · simp [hi]
  · have : m.testBit i = false := Nat.testBit_lt_two_pow (Nat.lt_of_lt_of_le h (Nat.pow_le_pow_right (by decide) (by omega)))
    simp [hi, this]
theorem binA_or32 {y : Int} (h : 0 ≤ y ∧ y < 4294967296) : binA .or (.int .u64 4294967295) (.int .u64 y) = some (.int .u64 4294967295) := by
  obtain ⟨m, rfl⟩ : ∃ m : Nat, y = m := ⟨y.toNat, by omega⟩
  have e1 : (BitVec.ofInt 64 4294967295 ||| BitVec.ofInt 64 (m : Int)).toNat = 4294967295 := by
    rw [BitVec.toNat_or]
    have e2 : (BitVec.ofInt 64 4294967295).toNat = 2 ^ 32 - 1 := by decide
    have e3 : (BitVec.ofInt 64 (m : Int)).toNat = m := by
      rw [BitVec.toNat_ofInt]
      omega
    rw [e2, e3]
    exact or_ones (by omega)
  simp only [binA, isShift, intBin, Bool.false_eq_true, if_false, if_true]
  rw [show (BitVec.ofInt IntKind.u64.bits 4294967295 ||| BitVec.ofInt IntKind.u64.bits (m : Int)).toNat = 4294967295 from e1]
  rfl
theorem callX_caps {C : Cfg} {inl : Inl} {g : FuncId} {F : List AVal → Option AVal} {fs cs xs : List AVal} {hp : Heap} {nc : Nat} (hg : C.Γ g = some F) :
    callX C inl (.fn (.func g) fs cs) xs hp nc = (lendXL 64 (fs ++ xs ++ cs) hp).bind fun r => (F r.1).map fun v => (v, dropK v r.2 hp, nc) := by
  have h := callX_names (C := C) (inl := inl) (g := g) (F := F) (xs := fs ++ xs ++ cs) (hp := hp) (nc := nc) hg
  rw [← h]
  simp only [callX, target, List.nil_append, List.append_nil]
def isq : Nat → Nat
  | 0 => 0
  | n + 1 => if (isq n + 1) * (isq n + 1) ≤ n + 1 then isq n + 1 else isq n
theorem isq_spec : ∀ n, isq n * isq n ≤ n ∧ n < (isq n + 1) * (isq n + 1)
  | 0 => by decide
  | n + 1 => by
    have ih := isq_spec n
    rw [isq]
    split
    · rename_i h
      refine ⟨h, ?_⟩
      have : (isq n + 1 + 1) * (isq n + 1 + 1) = (isq n + 1) * (isq n + 1) + 2 * isq n + 3 := by
        simp only [Nat.add_mul, Nat.mul_add]; omega
      omega
    · rename_i h
      exact ⟨by omega, by omega⟩
theorem isq_un {n r : Nat} (h1 : r * r ≤ n) (h2 : n < (r + 1) * (r + 1)) : isq n = r := by
  obtain ⟨h3, h4⟩ := isq_spec n
  rcases Nat.lt_trichotomy (isq n) r with h | h | h
  · have := Nat.mul_le_mul (show isq n + 1 ≤ r by omega) (show isq n + 1 ≤ r by omega)
    omega
  · exact h
  · have := Nat.mul_le_mul (show r + 1 ≤ isq n by omega) (show r + 1 ≤ isq n by omega)
    omega
theorem isq_int {v r : Int} (h0 : 0 ≤ r) (h1 : r * r ≤ v) (h2 : v < (r + 1) * (r + 1)) : ((isq v.toNat : Nat) : Int) = r := by
  obtain ⟨k, rfl⟩ : ∃ k : Nat, r = k := ⟨r.toNat, by omega⟩
  have hk : 0 ≤ (k : Int) * k := Int.mul_nonneg h0 h0
  obtain ⟨n, rfl⟩ : ∃ n : Nat, v = n := ⟨v.toNat, by omega⟩
  rw [Int.toNat_natCast]
  congr 1
  refine isq_un ?_ ?_
  · exact_mod_cast h1
  · exact_mod_cast h2
noncomputable def C5 : Cfg := C4.add 85 F85
theorem ok5 : CfgOk Tryz.prog C5 := ok4.add sound85
noncomputable def F59 : List AVal → Option AVal := pureF C5 1 59
theorem sound59 : Sound Tryz.prog 59 F59 := sound_self ok5 1 59
theorem F59_eq {h l : Int} (h1 : U h) (h2 : U l) : F59 [W h l] = some (.int .u64 (isq (val h l).toNat)) := by
  have hv : 0 ≤ val h l ∧ val h l < big := by simp only [val, big, U] at *; omega
  have e172 := F85_eq h1
  have eb : blen h.toNat = 0 ↔ h = 0 := by
    constructor
    · intro e
      refine Classical.byContradiction fun hn => ?_
      have := blen_of (n := h.toNat) (by have := h1.1; omega)
      omega
    · rintro rfl; rfl
  unfold F59
  refine pureF_of (x := x59) rfl rfl ?_
  rw [x59_eq.1, x59_eq.2.1]
  by_cases hh : h = 0
  · have d : decide ((blen h.toNat : Int) = 0) = true := decide_eq_true (by omega)
    have o32 : binA .or (.int .u64 4294967295) (.int .u64 (l / 4294967296)) = some (.int .u64 4294967295) := binA_or32 (by have := h2.1; have := h2.2; omega)
    simp (disch := first | omega | simp only [*, go_sem, ↓reduceIte, dropK_eq]) only [x59b, go_sem, ↓reduceIte, dropK_eq, callX_known (C := C5) (g := 85) rfl, ft_call (C := C5) (g := 85) rfl, e172, d, o32]
    refine Ev_loopW (I := fun n tm hp nc => ∃ lo hi : Int, 0 ≤ lo ∧ lo ≤ hi ∧ hi ≤ 18446744073709551615 ∧ hi - lo < 2 ^ n ∧ lo * lo ≤ val h l ∧ val h l < (hi + 1) * (hi + 1) ∧ tm 4 = .int .u64 lo ∧ tm 5 = .int .u64 hi ∧ hp (59000000, 0) = some (.var [.int .u64 h, .int .u64 l])) (n := 64) ?_ (by decide) ?_
    · refine ⟨0, 4294967295, by decide, by decide, by decide, by decide, by omega, ?_, ?_, ?_, ?_⟩
      · simp only [val, big, U] at *; omega
      · simp only [go_sem, ↓reduceIte, dropK_eq]
      · simp only [go_sem, ↓reduceIte, dropK_eq]
      · simp only [go_sem, ↓reduceIte, dropK_eq]
    · rintro n tm hp nc hc ⟨lo, hi, g0, g1, g2, g3, g4, g5, k4, k5, hv1⟩
      have k3 := hc 3 rfl; simp only [go_sem, ↓reduceIte, dropK_eq] at k3
      by_cases he : lo = hi
      · subst he
        have d1 : decide (lo = lo) = true := decide_eq_true rfl
        have er := isq_int g0 g4 g5
        simp (disch := first | omega | simp only [*, go_sem, ↓reduceIte, dropK_eq]) only [x59l6, go_sem, ↓reduceIte, dropK_eq, k3, k4, k5, d1]
        rw [er]
        exact Ends_plain rfl rfl
      · have d1 : decide (lo = hi) = false := decide_eq_false he
        have hq : (hi - lo).tdiv 2 = (hi - lo) / 2 := Int.tdiv_eq_ediv_of_nonneg (by omega)
        have w1 : (hi - lo) % 18446744073709551616 = hi - lo := by omega
        have w2 : (hi - lo) / 2 % 18446744073709551616 = (hi - lo) / 2 := by omega
        have w3 : (hi - (hi - lo) / 2) % 18446744073709551616 = hi - (hi - lo) / 2 := by omega
        obtain ⟨m, hm⟩ : ∃ m, hi - (hi - lo) / 2 = m := ⟨_, rfl⟩
        rw [hm] at w3
        have m1 : lo < m ∧ m ≤ hi := by omega
        have hmU : U m := by simp only [U]; omega
        have e241 := F84_eq (x := m) (h := h) (l := l) hmU h2
        cases n with
        | zero => simp at g3; omega
        | succ n =>
          have g3' : hi - lo < 2 * 2 ^ n := by rw [Int.pow_succ] at g3; omega
          by_cases hb : m * m ≤ val h l
          · rw [decide_eq_true hb] at e241
            simp (disch := first | omega | simp only [*, go_sem, ↓reduceIte, dropK_eq]) only [x59l6, go_sem, ↓reduceIte, dropK_eq, k3, k4, k5, d1, w1, hq, w2, hm, w3, hv1, callX_caps (C := C5) (g := 84) rfl, List.nil_append, List.cons_append, e241]
            exact ⟨n, by omega, m, hi, by omega, by omega, by omega, by omega, hb, g5, rfl, rfl⟩
          · rw [decide_eq_false hb] at e241
            simp (disch := first | omega | simp only [*, go_sem, ↓reduceIte, dropK_eq]) only [x59l6, go_sem, ↓reduceIte, dropK_eq, k3, k4, k5, d1, w1, hq, w2, hm, w3, hv1, callX_caps (C := C5) (g := 84) rfl, List.nil_append, List.cons_append, e241]
            exact ⟨n, by omega, lo, m - 1, g0, by omega, by omega, by omega, g4, by rw [show m - 1 + 1 = m by omega]; omega, rfl, by rw [show (m - 1) % 18446744073709551616 = m - 1 by omega]⟩
  · have d : decide ((blen h.toNat : Int) = 0) = false := decide_eq_false (by omega)
    simp (disch := first | omega | simp only [*, go_sem, ↓reduceIte, dropK_eq]) only [x59b, go_sem, ↓reduceIte, dropK_eq, callX_known (C := C5) (g := 85) rfl, ft_call (C := C5) (g := 85) rfl, e172, d]
    refine Ev_loopW (I := fun n tm hp nc => ∃ lo hi : Int, 0 ≤ lo ∧ lo ≤ hi ∧ hi ≤ 18446744073709551615 ∧ hi - lo < 2 ^ n ∧ lo * lo ≤ val h l ∧ val h l < (hi + 1) * (hi + 1) ∧ tm 4 = .int .u64 lo ∧ tm 5 = .int .u64 hi ∧ hp (59000000, 0) = some (.var [.int .u64 h, .int .u64 l])) (n := 64) ?_ (by decide) ?_
    · refine ⟨0, 18446744073709551615, by decide, by decide, by decide, by decide, by omega, ?_, ?_, ?_, ?_⟩
      · simp only [val, big, U] at *; omega
      · simp only [go_sem, ↓reduceIte, dropK_eq]
      · simp only [go_sem, ↓reduceIte, dropK_eq]
      · simp only [go_sem, ↓reduceIte, dropK_eq]
    · rintro n tm hp nc hc ⟨lo, hi, g0, g1, g2, g3, g4, g5, k4, k5, hv1⟩
      have k3 := hc 3 rfl; simp only [go_sem, ↓reduceIte, dropK_eq] at k3
      by_cases he : lo = hi
      · subst he
        have d1 : decide (lo = lo) = true := decide_eq_true rfl
        have er := isq_int g0 g4 g5
        simp (disch := first | omega | simp only [*, go_sem, ↓reduceIte, dropK_eq]) only [x59l6, go_sem, ↓reduceIte, dropK_eq, k3, k4, k5, d1]
        rw [er]
        exact Ends_plain rfl rfl
      · have d1 : decide (lo = hi) = false := decide_eq_false he
        have hq : (hi - lo).tdiv 2 = (hi - lo) / 2 := Int.tdiv_eq_ediv_of_nonneg (by omega)
        have w1 : (hi - lo) % 18446744073709551616 = hi - lo := by omega
        have w2 : (hi - lo) / 2 % 18446744073709551616 = (hi - lo) / 2 := by omega
        have w3 : (hi - (hi - lo) / 2) % 18446744073709551616 = hi - (hi - lo) / 2 := by omega
        obtain ⟨m, hm⟩ : ∃ m, hi - (hi - lo) / 2 = m := ⟨_, rfl⟩
        rw [hm] at w3
        have m1 : lo < m ∧ m ≤ hi := by omega
        have hmU : U m := by simp only [U]; omega
        have e241 := F84_eq (x := m) (h := h) (l := l) hmU h2
        cases n with
        | zero => simp at g3; omega
        | succ n =>
          have g3' : hi - lo < 2 * 2 ^ n := by rw [Int.pow_succ] at g3; omega
          by_cases hb : m * m ≤ val h l
          · rw [decide_eq_true hb] at e241
            simp (disch := first | omega | simp only [*, go_sem, ↓reduceIte, dropK_eq]) only [x59l6, go_sem, ↓reduceIte, dropK_eq, k3, k4, k5, d1, w1, hq, w2, hm, w3, hv1, callX_caps (C := C5) (g := 84) rfl, List.nil_append, List.cons_append, e241]
            exact ⟨n, by omega, m, hi, by omega, by omega, by omega, by omega, hb, g5, rfl, rfl⟩
          · rw [decide_eq_false hb] at e241
            simp (disch := first | omega | simp only [*, go_sem, ↓reduceIte, dropK_eq]) only [x59l6, go_sem, ↓reduceIte, dropK_eq, k3, k4, k5, d1, w1, hq, w2, hm, w3, hv1, callX_caps (C := C5) (g := 84) rfl, List.nil_append, List.cons_append, e241]
            exact ⟨n, by omega, lo, m - 1, g0, by omega, by omega, by omega, g4, by rw [show m - 1 + 1 = m by omega]; omega, rfl, by rw [show (m - 1) % 18446744073709551616 = m - 1 by omega]⟩
set_option maxRecDepth 10000
noncomputable def C6 : Cfg := C5.add 59 F59
theorem ok6 : CfgOk Tryz.prog C6 := ok5.add sound59
abbrev isqI (v : Int) : Int := (isq v.toNat : Nat)
theorem isqI_spec {v : Int} (h : 0 ≤ v) : 0 ≤ isqI v ∧ isqI v * isqI v ≤ v ∧ v < (isqI v + 1) * (isqI v + 1) := by
  obtain ⟨n, rfl⟩ : ∃ n : Nat, v = n := ⟨v.toNat, by omega⟩
  obtain ⟨h1, h2⟩ := isq_spec n
  simp only [isqI, Int.toNat_natCast]
  refine ⟨by omega, ?_, ?_⟩
  · exact_mod_cast h1
  · exact_mod_cast h2
theorem isqI_u {v : Int} (h : 0 ≤ v ∧ v < big) : U (isqI v) := by
  obtain ⟨h0, h1, h2⟩ := isqI_spec h.1
  refine ⟨h0, ?_⟩
  refine Int.not_le.1 fun hc => ?_
  have := Int.mul_le_mul hc hc (by decide) h0
  simp only [big] at h
  omega
theorem val_bnd {h l : Int} (h1 : U h) (h2 : U l) : 0 ≤ val h l ∧ val h l < big := by simp only [val, big, U] at *; omega
theorem pair_eq {h l : Int} (hl : U l) (q : Int) : (q / 18446744073709551616 = h ∧ q % 18446744073709551616 = l) ↔ q = val h l := by
  simp only [U] at hl
  simp only [val]
  omega
noncomputable def F86 : List AVal → Option AVal := pureF C6 1 86
theorem sound86 : Sound Tryz.prog 86 F86 := sound_self ok6 1 86
theorem F86_eq {h l : Int} (h1 : U h) (h2 : U l) : F86 [W h l] = some (.bool (decide (isqI (val h l) * isqI (val h l) = val h l))) := by
  have e231 := F59_eq h1 h2
  have hu := isqI_u (val_bnd h1 h2)
  have e55 := F24_eq hu hu
  have hv := val_bnd h1 h2
  have hs := isqI_spec hv.1
  simp only [enc] at e55
  unfold F86
  refine pureF_of (x := x86) rfl rfl ?_
  rw [x86_eq.1, x86_eq.2.1]
  simp (disch := first | omega | simp only [go_sem, ↓reduceIte, dropK_eq]) only [x86b, go_sem, ↓reduceIte, dropK_eq, callX_known (C := C6) (g := 24) rfl, ft_call (C := C6) (g := 24) rfl, callX_known (C := C6) (g := 59) rfl, ft_call (C := C6) (g := 59) rfl, e231, e55, eqAA_agg, eqCells_cons, eqCells_nil]
  refine Ends_plain rfl ?_
  refine congrArg AVal.bool ?_
  rw [← Bool.decide_and]
  refine decide_eq_decide.2 ?_
  exact pair_eq h2 _
noncomputable def C7 : Cfg := C6.add 86 F86
theorem ok7 : CfgOk Tryz.prog C7 := ok6.add sound86
def upI (v : Int) : Int := if isqI v * isqI v = v then isqI v else isqI v + 1
theorem upI_spec {v : Int} (h : 0 ≤ v) : isqI v ≤ upI v ∧ v ≤ upI v * upI v := by
  obtain ⟨h0, h1, h2⟩ := isqI_spec h
  unfold upI
  split
  · omega
  · omega
noncomputable def F60 : List AVal → Option AVal := pureF C7 1 60
theorem sound60 : Sound Tryz.prog 60 F60 := sound_self ok7 1 60
theorem F60_eq {h l : Int} (h1 : U h) (h2 : U l) : F60 [W h l] = some (enc (upI (val h l))) := by
  have e231 := F59_eq h1 h2
  have hv := val_bnd h1 h2
  have hu := isqI_u hv
  have e242 := F86_eq h1 h2
  have e243 := F10_eq (ah := 0) (al := isqI (val h l)) (bh := 0) (bl := 1) (by decide) hu (by decide) (by decide)
  have hs := isqI_spec hv.1
  unfold F60 upI
  refine pureF_of (x := x60) rfl rfl ?_
  rw [x60_eq.1, x60_eq.2.1]
  by_cases hq : isqI (val h l) * isqI (val h l) = val h l
  · rw [decide_eq_true hq] at e242
    rw [if_pos hq]
    simp (disch := first | omega | simp only [go_sem, ↓reduceIte, dropK_eq]) only [x60b, go_sem, ↓reduceIte, dropK_eq, callX_known (C := C7) (g := 59) rfl, ft_call (C := C7) (g := 59) rfl, callX_known (C := C7) (g := 86) rfl, ft_call (C := C7) (g := 86) rfl, callX_known (C := C7) (g := 10) rfl, ft_call (C := C7) (g := 10) rfl, e231, e242]
    refine Ends_plain rfl ?_
    simp only [U] at hu
    simp only [enc]
    rw [show isqI (val h l) / 18446744073709551616 = 0 by omega, show isqI (val h l) % 18446744073709551616 = isqI (val h l) by omega]
  · rw [decide_eq_false hq] at e242
    rw [if_neg hq]
    simp only [enc] at e243
    simp (disch := first | omega | simp only [go_sem, ↓reduceIte, dropK_eq]) only [x60b, go_sem, ↓reduceIte, dropK_eq, callX_known (C := C7) (g := 59) rfl, ft_call (C := C7) (g := 59) rfl, callX_known (C := C7) (g := 86) rfl, ft_call (C := C7) (g := 86) rfl, callX_known (C := C7) (g := 10) rfl, ft_call (C := C7) (g := 10) rfl, e231, e242, e243]
    refine Ends_plain rfl ?_
    have e : (val 0 (isqI (val h l)) + val 0 1) % big = isqI (val h l) + 1 := by
      have := hu
      simp only [U] at this
      clear e231 e242 e243 hv hs hu hq
      generalize isqI (val h l) = r at *
      simp only [val, big]
      omega
    rw [e]
end Go.Proofs.YtkonpbcnekcjjaaGreatDoor.RT
namespace Go.Proofs.YtkonpbcnekcjjaaGreatDoor
open Go Go.Xec
set_option maxRecDepth 10000
theorem binA_shr_le {a b : Int} (h0 : 0 ≤ b) (h1 : b ≤ 64) : binA .shr (.int .u64 a) (.int .u64 b) = some (.int .u64 (a / 2 ^ b.toNat)) := by
  simp only [binA, isShift, if_true, shiftBin, if_neg (Int.not_lt.2 h0)]
  have e : min b.toNat IntKind.u64.bits = b.toNat := by
    have : IntKind.u64.bits = 64 := rfl
    omega
  rw [e, Int.fdiv_eq_ediv_of_nonneg _ (Int.pow_nonneg (by decide))]
theorem binA_shl_u {a b : Int} (h0 : 0 ≤ b) (h1 : b ≤ 64) : binA .shl (.int .u64 a) (.int .u64 b) = some (.int .u64 (a * 2 ^ b.toNat % 18446744073709551616)) := by
  simp only [binA, isShift, if_true, shiftBin, if_neg (Int.not_lt.2 h0)]
  have e : min b.toNat IntKind.u64.bits = b.toNat := by
    have : IntKind.u64.bits = 64 := rfl
    omega
  rw [e]
  refine congrArg (fun z => some (AVal.int .u64 z)) ?_
  simp [IntKind.wrap, IntKind.signed, IntKind.bits]
theorem or_add {h l s : Nat} (hl : l < 2 ^ s) (hb : 2 ^ s * h + l < 18446744073709551616) : binA .or (.int .u64 ((2 ^ s * h : Nat) : Int)) (.int .u64 (l : Int)) = some (.int .u64 ((2 ^ s * h + l : Nat) : Int)) := by
  have e3 : ∀ m : Nat, m < 18446744073709551616 → (BitVec.ofInt 64 (m : Int)).toNat = m := fun m hm => by
    rw [BitVec.toNat_ofInt]
    omega
  have e1 : (BitVec.ofInt 64 ((2 ^ s * h : Nat) : Int) ||| BitVec.ofInt 64 (l : Int)).toNat = 2 ^ s * h + l := by
    rw [BitVec.toNat_or, e3 _ (by omega), e3 _ (by omega), Nat.two_pow_add_eq_or_of_lt hl]
  simp only [binA, isShift, intBin, Bool.false_eq_true, if_false, if_true]
  have w : ∀ m : Nat, m < 18446744073709551616 → IntKind.u64.wrap (m : Int) = (m : Int) := fun m hm => by
    simp only [IntKind.wrap, IntKind.signed, IntKind.bits]
    simp
    omega
  refine congrArg (fun z => some (AVal.int .u64 z)) ?_
  exact (congrArg (fun n : Nat => IntKind.u64.wrap (n : Int)) e1).trans (w _ hb)
theorem two_digits {a b n q1 q0 u21 d1 d0 u : Int} {P y N : Int} (hP : 0 < P) (hy : 0 < y) (hY : a * 4294967296 + b = y * P) (hN : N * P = (u * 4294967296 + d1) * 4294967296 + d0)
    (h1 : u21 = u * 4294967296 + d1 - q1 * (a * 4294967296 + b)) (h0 : 0 ≤ u21 * 4294967296 + d0 - q0 * (a * 4294967296 + b) ∧ u21 * 4294967296 + d0 - q0 * (a * 4294967296 + b) < a * 4294967296 + b) :
    N / y = q1 * 4294967296 + q0 ∧ u21 * 4294967296 + d0 - q0 * (a * 4294967296 + b) = N % y * P := by
  rw [hY] at h1 h0 ⊢
  have e1 : N * P = (q1 * 4294967296 + q0) * (y * P) + (u21 * 4294967296 + d0 - q0 * (y * P)) := by
    rw [hN, h1, Int.add_mul (q1 * 4294967296), Int.mul_right_comm q1]
    omega
  generalize hR : u21 * 4294967296 + d0 - q0 * (y * P) = R at *
  generalize q1 * 4294967296 + q0 = q at *
  have e2 : (N - q * y) * P = R := by
    rw [Int.sub_mul, Int.mul_assoc q y P]; omega
  have h3 : 0 ≤ N - q * y := by
    refine Classical.byContradiction fun hn => ?_
    have : (N - q * y) * P < 0 := Int.mul_neg_of_neg_of_pos (by omega) hP
    omega
  have h4 : N - q * y < y := by
    have : (N - q * y) * P < y * P := by omega
    exact Int.lt_of_mul_lt_mul_right this (by omega)
  have h5 : N / y = q := by
    have e : N = (N - q * y) + q * y := by omega
    rw [e, Int.add_mul_ediv_right _ _ (by omega), Int.ediv_eq_zero_of_lt h3 h4]
    omega
  refine ⟨h5, ?_⟩
  have := Int.emod_add_mul_ediv N y
  rw [h5, Int.mul_comm] at this
  rw [← e2, show N - q * y = N % y by omega]
end Go.Proofs.YtkonpbcnekcjjaaGreatDoor
namespace Go.Proofs.YtkonpbcnekcjjaaGreatDoor.DV
open Go Go.Xec
attribute [local go_sem] tm0 ne_eq not_false_eq_true List.length_append List.length_replicate List.replicate_succ List.replicate_zero Int.cast_ofNat_Int not_true_eq_false decide_true decide_false ite_self beq_self_eq_true Bool.true_beq Bool.false_beq Bool.not_true Bool.not_false
attribute [local go_sem_proc] Nat.reduceAdd Nat.reduceMul Nat.reduceSub Nat.reduceLeDiff Nat.reduceLT Nat.reduceEqDiff Int.reduceLT Int.reduceLE Int.reduceAdd Int.reduceSub Int.reduceMul Int.reduceToNat Int.reducePow Int.reduceNe Int.reduceMod Int.reduceDiv Int.reduceEq Nat.reducePow Int.reduceNeg
set_option maxRecDepth 10000
noncomputable def C11 : Cfg := C3.add 85 RT.F85
theorem ok11 : CfgOk Tryz.prog C11 := ok3.add RT.sound85
noncomputable def F82 : List AVal → Option AVal := pureF C11 1 82
theorem sound82 : Sound Tryz.prog 82 F82 := sound_self ok11 1 82
theorem F82_eq {y : Int} (hy : U y) {s : Nat} (hs : RT.blen y.toNat + s = 64) : F82 [.int .u64 y] = some (.int .i64 (s : Int)) := by
  have e85 := RT.F85_eq hy
  have hb : (RT.blen y.toNat : Int) = 64 - (s : Int) := by omega
  rw [hb] at e85
  have h1 : (s : Int) ≤ 64 := by omega
  unfold F82
  refine pureF_of (x := x82) rfl rfl ?_
  rw [x82_eq.1, x82_eq.2.1]
  simp (disch := first | omega | simp only [*, go_sem, ↓reduceIte, dropK_eq]) only [x82b, go_sem, ↓reduceIte, dropK_eq, callX_known (C := C11) (g := 85) rfl, ft_call (C := C11) (g := 85) rfl, e85]
  exact Ends_plain rfl (by congr 1; omega)
noncomputable def C12 : Cfg := C11.add 82 F82
theorem ok12 : CfgOk Tryz.prog C12 := ok11.add sound82
noncomputable def F81 : List AVal → Option AVal := pureF C12 1 81
theorem sound81 : Sound Tryz.prog 81 F81 := sound_self ok12 1 81
theorem dig_two {p q : Int} (hp : 0 ≤ p ∧ p < 4294967296) (hq : 0 ≤ q ∧ q < 4294967296) : (p * 4294967296 % 18446744073709551616 + q) % 18446744073709551616 = p * 4294967296 + q := by omega
theorem F81_high {h l y : Int} (hh : 0 < h ∧ h < y) (hl : U l) (hy : y < 18446744073709551616) :
    F81 [.int .u64 h, .int .u64 l, .int .u64 y] = some (.tup [.int .u64 ((h * 18446744073709551616 + l) / y), .int .u64 ((h * 18446744073709551616 + l) % y)]) := by
  obtain ⟨b1, b2, b3⟩ := RT.blen_of (n := y.toNat) (by omega)
  have b4 : RT.blen y.toNat ≤ 64 := by
    refine Classical.byContradiction fun hn => ?_
    have : 2 ^ 64 ≤ 2 ^ (RT.blen y.toNat - 1) := Nat.pow_le_pow_right (by decide) (by omega)
    omega
  obtain ⟨s, hs⟩ : ∃ s, RT.blen y.toNat + s = 64 := ⟨64 - RT.blen y.toNat, by omega⟩
  have hs63 : s ≤ 63 := by omega
  have e82 := F82_eq (y := y) ⟨by omega, hy⟩ hs

  obtain ⟨P, hP⟩ : ∃ P : Int, P = 2 ^ s := ⟨_, rfl⟩
  obtain ⟨R, hR⟩ : ∃ R : Int, R = 2 ^ (64 - s) := ⟨_, rfl⟩
  have hP0 : 0 < P := by rw [hP]; exact Int.pow_pos (by decide)
  have hR0 : 0 < R := by rw [hR]; exact Int.pow_pos (by decide)
  have hPR : P * R = 18446744073709551616 := by
    rw [hP, hR, ← Int.pow_add, show s + (64 - s) = 64 by omega]; rfl
  have hYn : 2 ^ 63 ≤ y.toNat * 2 ^ s ∧ y.toNat * 2 ^ s < 2 ^ 64 := by
    constructor
    · have : 2 ^ 63 = 2 ^ (RT.blen y.toNat - 1) * 2 ^ s := by rw [← Nat.pow_add, show RT.blen y.toNat - 1 + s = 63 by omega]
      rw [this]
      exact Nat.mul_le_mul_right _ b2
    · have : 2 ^ 64 = 2 ^ (RT.blen y.toNat) * 2 ^ s := by rw [← Nat.pow_add, hs]
      rw [this]
      exact Nat.mul_lt_mul_of_pos_right b3 (Nat.pow_pos (by decide))
  have hY : 9223372036854775808 ≤ y * P ∧ y * P < 18446744073709551616 := by
    have e : ((y.toNat * 2 ^ s : Nat) : Int) = y * P := by
      rw [Int.natCast_mul, hP, Int.toNat_of_nonneg (by omega)]; norm_cast
    rw [← e]
    constructor
    · have := hYn.1; omega
    · have := hYn.2; omega
  have hlR : 0 ≤ l / R ∧ l / R < P := by
    refine ⟨Int.ediv_nonneg hl.1 (by omega), ?_⟩
    rw [Int.ediv_lt_iff_lt_mul hR0, hPR]
    exact hl.2
  have hhP : 0 ≤ h * P ∧ h * P + P ≤ y * P := by
    refine ⟨Int.mul_nonneg (by omega) (by omega), ?_⟩
    have : (h + 1) * P ≤ y * P := Int.mul_le_mul_of_nonneg_right (by omega) (by omega)
    rwa [Int.add_mul, Int.one_mul] at this
  have hlP : 0 ≤ l * P := Int.mul_nonneg hl.1 (by omega)
  have sh1 : binA .shl (.int .u64 y) (.int .u64 s) = some (.int .u64 (y * P)) := by
    rw [binA_shl_u (by omega) (by omega), Int.toNat_natCast, ← hP, Int.emod_eq_of_lt (by omega) (by omega)]
  have sh2 : binA .shl (.int .u64 h) (.int .u64 s) = some (.int .u64 (h * P)) := by
    rw [binA_shl_u (by omega) (by omega), Int.toNat_natCast, ← hP, Int.emod_eq_of_lt (by omega) (by omega)]
  have sh3 : binA .shr (.int .u64 l) (.int .u64 (64 - s)) = some (.int .u64 (l / R)) := by
    rw [binA_shr_le (by omega) (by omega), show (64 - (s : Int)).toNat = 64 - s by omega, ← hR]
  have sh4 : binA .shl (.int .u64 l) (.int .u64 s) = some (.int .u64 (l * P % 18446744073709551616)) := by
    rw [binA_shl_u (by omega) (by omega), Int.toNat_natCast, ← hP]
  have eP : ((2 ^ s : Nat) : Int) = P := by rw [hP]; norm_cast
  have or1 : binA .or (.int .u64 (h * P)) (.int .u64 (l / R)) = some (.int .u64 (h * P + l / R)) := by
    have e1 : ((2 ^ s * h.toNat : Nat) : Int) = h * P := by rw [Int.natCast_mul, eP, Int.toNat_of_nonneg (by omega), Int.mul_comm]
    have e2 : (((l / R).toNat : Nat) : Int) = l / R := Int.toNat_of_nonneg hlR.1
    have e3 : ((2 ^ s * h.toNat + (l / R).toNat : Nat) : Int) = h * P + l / R := by rw [Int.natCast_add, e1, e2]
    have := or_add (h := h.toNat) (l := (l / R).toNat) (s := s) (by have : (((l / R).toNat : Nat) : Int) < ((2 ^ s : Nat) : Int) := (by rw [e2, eP]; exact hlR.2); omega) (by omega)
    rwa [e1, e2, e3] at this
  have hN : (h * 18446744073709551616 + l) * P = (h * P + l / R) * 18446744073709551616 + l * P % 18446744073709551616 := by
    have e1 : l * P / 18446744073709551616 = l / R := by
      rw [← hPR, Int.mul_comm l P, Int.mul_ediv_mul_of_pos _ _ hP0]
    have e2 : (h * 18446744073709551616 + l) * P = h * P * 18446744073709551616 + l * P := by
      rw [Int.add_mul, Int.mul_right_comm]
    rw [e2]
    generalize h * P = hp' at *
    generalize l * P = lp at *
    omega
  have hv : 0 ≤ l * P % 18446744073709551616 ∧ l * P % 18446744073709551616 < 18446744073709551616 := by omega
  have hu : 0 ≤ h * P + l / R ∧ h * P + l / R < y * P := by omega
  have w1 : (s : Int) % 18446744073709551616 = (s : Int) := Int.emod_eq_of_lt (by omega) (by omega)
  have w2 : (64 - (s : Int)) % 18446744073709551616 = 64 - (s : Int) := Int.emod_eq_of_lt (by omega) (by omega)
  have c1 : decide (y = 0) = false := decide_eq_false (by omega)
  have c2 : decide (y ≤ h) = false := decide_eq_false (by omega)
  have c3 : decide (h = 0) = false := decide_eq_false (by omega)
  generalize h * P + l / R = u at *
  generalize l * P % 18446744073709551616 = v at *
  have hYP := rfl (a := y * P)
  generalize hYd : y * P = Y at *
  have sh5 : ∀ x : Int, binA .shr (.int .u64 x) (.int .u64 s) = some (.int .u64 (x / P)) := fun x => by
    rw [binA_shr_le (by omega) (by omega), Int.toNat_natCast, ← hP]
  have e1 : Y / 4294967296 * 4294967296 + Y % 4294967296 = Y := by omega
  have a1 : 2147483648 ≤ Y / 4294967296 ∧ Y / 4294967296 < 4294967296 := by omega
  have b1' : 0 ≤ Y % 4294967296 ∧ Y % 4294967296 < 4294967296 := by omega
  have v1 : 0 ≤ v / 4294967296 ∧ v / 4294967296 < 4294967296 := by omega
  have v0 : 0 ≤ v % 4294967296 ∧ v % 4294967296 < 4294967296 := by omega
  have hv2 : v = v / 4294967296 * 4294967296 + v % 4294967296 := by omega
  generalize hD1 : v / 4294967296 = d1 at *
  generalize hD0 : v % 4294967296 = d0 at *
  generalize hA : Y / 4294967296 = a at *
  generalize hB : Y % 4294967296 = b at *
  have hk1 := kn_first (a := a) (b := b) (u := u) (d := d1) b1' a1 (by omega) v1
  have hr1 := kn_rest (a := a) (b := b) (u := u) (d := d1) b1' a1 (by omega) v1
  obtain ⟨t0, t1, t2, t3⟩ := knT_spec (a := a) (b := b) (u := u) (d := d1) b1' a1.1 (by omega) v1
  have q1b : u / a < 1099511627776 := by rw [Int.ediv_lt_iff_lt_mul (by omega)]; omega
  have ha0 : a ≠ 0 := by omega
  have fq : ∀ z : Int, 0 ≤ z → z < 18446744073709551616 → z.tdiv a = z / a ∧ z / a % 18446744073709551616 = z / a ∧ z / a * a % 18446744073709551616 = z / a * a ∧ (z - z / a * a) % 18446744073709551616 = z % a ∧ z % a < a := by
    intro z hz0 hz1
    have hq0 : 0 ≤ z / a := Int.ediv_nonneg hz0 (by omega)
    have m1 : z / a * a = z - z % a := by have := Int.emod_add_mul_ediv z a; rw [Int.mul_comm a] at this; omega
    have m0 : 0 ≤ z / a * a := Int.mul_nonneg hq0 (by omega)
    have r0 := Int.emod_nonneg z ha0
    have r1 := Int.emod_lt_of_pos z (show 0 < a by omega)
    have hle : z / a ≤ z := Int.ediv_le_self a hz0
    refine ⟨Int.tdiv_eq_ediv_of_nonneg hz0, Int.emod_eq_of_lt hq0 (by omega), Int.emod_eq_of_lt m0 (by omega), ?_, r1⟩
    rw [m1, show z - (z - z % a) = z % a by omega]
    exact Int.emod_eq_of_lt r0 (by omega)
  obtain ⟨f1, f2, f3, f4, f5⟩ := fq u hu.1 (by omega)
  unfold F81
  refine pureF_of (x := x81) rfl rfl ?_
  rw [x81_eq.1, x81_eq.2.1]
  simp (disch := first | omega | simp only [*, go_sem, ↓reduceIte, dropK_eq]) only [x81b, go_sem, ↓reduceIte, dropK_eq, callX_known (C := C12) (g := 82) rfl, ft_call (C := C12) (g := 82) rfl, e82, c1, c2, c3, w1, w2, sh1, sh2, sh3, sh4, or1, binA_shr, binA_and32, hA, hB, hD1, hD0, f1, f2, f3, f4]
  refine (kn_loop17 hk1 (by omega) q1b ?_ ?_ ?_ ?_ ?_).and_tm.mono ?_
  · simp only [go_sem, ↓reduceIte, dropK_eq]
  · simp only [go_sem, ↓reduceIte, dropK_eq]
  · simp only [go_sem, ↓reduceIte, dropK_eq]
  · simp only [go_sem, ↓reduceIte, dropK_eq]
  · simp only [go_sem, ↓reduceIte, dropK_eq]
  rintro o ⟨tm1, hp1, nc1⟩ ⟨⟨rfl, rfl, k15⟩, hc⟩
  have k15 : tm1 15 = .int .u64 (knT a b u d1) := k15
  have k2 := hc 2 rfl; have k8 := hc 8 rfl; have k9 := hc 9 rfl; have k10 := hc 10 rfl; have k11 := hc 11 rfl; have k13 := hc 13 rfl; have k14 := hc 14 rfl; simp only [go_sem, ↓reduceIte, dropK_eq] at k2 k8 k9 k10 k11 k13 k14
  clear hc hk1
  generalize knT a b u d1 = q1 at *
  rw [e1] at hr1 t2 t3
  obtain ⟨u21, hu21⟩ : ∃ x, u * 4294967296 + d1 - q1 * Y = x := ⟨_, rfl⟩
  rw [hu21] at hr1
  have g0 : 0 ≤ q1 * Y := Int.mul_nonneg t0 (by omega)
  have e21 : ((u * 4294967296 % 18446744073709551616 + d1) % 18446744073709551616 - q1 * Y % 18446744073709551616) % 18446744073709551616 = u21 := by omega
  have hk2 := kn_first (a := a) (b := b) (u := u21) (d := d0) b1' a1 (by omega) v0
  have hr2 := kn_rest (a := a) (b := b) (u := u21) (d := d0) b1' a1 (by omega) v0
  obtain ⟨s0, s1, s2, s3⟩ := knT_spec (a := a) (b := b) (u := u21) (d := d0) b1' a1.1 (by omega) v0
  have q2b : u21 / a < 1099511627776 := by rw [Int.ediv_lt_iff_lt_mul (by omega)]; omega
  obtain ⟨i1, i2, i3, i4, i5⟩ := fq u21 hr1.1 (by omega)
  simp (disch := first | omega | simp only [*, go_sem, ↓reduceIte, dropK_eq]) only [go_sem, ↓reduceIte, dropK_eq, k2, k8, k9, k10, k11, k13, k14, k15, e21, i1, i2, i3, i4]
  refine (kn_loop25 hk2 (by omega) q2b ?_ ?_ ?_ ?_ ?_).and_tm.mono ?_
  · simp only [go_sem, ↓reduceIte, dropK_eq, k9]
  · simp only [go_sem, ↓reduceIte, dropK_eq, k10]
  · simp only [go_sem, ↓reduceIte, dropK_eq, k14]
  · simp only [go_sem, ↓reduceIte, dropK_eq]
  · simp only [go_sem, ↓reduceIte, dropK_eq]
  rintro o ⟨tm2, hp2, nc2⟩ ⟨⟨rfl, rfl, k18⟩, hc⟩
  have k18 : tm2 18 = .int .u64 (knT a b u21 d0) := k18
  have j2 := hc 2 rfl; have j8 := hc 8 rfl; have j14 := hc 14 rfl; have j15 := hc 15 rfl; have j17 := hc 17 rfl; simp only [go_sem, ↓reduceIte, dropK_eq, k2, k8, k14, k15] at j2 j8 j14 j15 j17
  clear hc hk2
  have hNd : (h * 18446744073709551616 + l) * P = (u * 4294967296 + d1) * 4294967296 + d0 := by
    clear hu21 hr1 hr2 s2 s3 g0 e21 t2 t3 hlP hhP hYn hPR
    omega
  have hYd' : a * 4294967296 + b = y * P := e1.trans hYd.symm
  have hdd := two_digits (a := a) (b := b) (n := 0) (q1 := q1) (q0 := knT a b u21 d0) (u21 := u21) (d1 := d1) (d0 := d0) (u := u) (P := P) (y := y) (N := h * 18446744073709551616 + l) hP0 (by omega) hYd' hNd (by rw [e1]; exact hu21.symm) hr2
  generalize knT a b u21 d0 = q0 at *
  rw [e1] at hr2 s2 s3 hdd
  have g1 : 0 ≤ q0 * Y := Int.mul_nonneg s0 (by omega)
  obtain ⟨z, hz⟩ : ∃ x, u21 * 4294967296 + d0 - q0 * Y = x := ⟨_, rfl⟩
  rw [hz] at hr2 hdd
  have e28 : ((u21 * 4294967296 % 18446744073709551616 + d0) % 18446744073709551616 - q0 * Y % 18446744073709551616) % 18446744073709551616 = z := by omega
  have e29 : (q1 * 4294967296 % 18446744073709551616 + q0) % 18446744073709551616 = q1 * 4294967296 + q0 := by
    exact dig_two ⟨t0, t1⟩ ⟨s0, s1⟩
  have e30 : z / P = (h * 18446744073709551616 + l) % y := by rw [hdd.2]; exact Int.mul_ediv_cancel _ (by omega)
  simp (disch := first | omega | simp only [*, go_sem, ↓reduceIte, dropK_eq]) only [go_sem, ↓reduceIte, dropK_eq, j2, j8, j14, j15, j17, k18, e28, e29, sh5, e30]
  rw [hdd.1]
  exact Ends_plain rfl rfl
end Go.Proofs.YtkonpbcnekcjjaaGreatDoor.DV
namespace Go.Proofs.YtkonpbcnekcjjaaGreatDoor
open Go Go.Xec
attribute [local go_sem] tm0 ne_eq not_false_eq_true List.length_append List.length_replicate List.replicate_succ List.replicate_zero Int.cast_ofNat_Int not_true_eq_false decide_true decide_false ite_self beq_self_eq_true Bool.true_beq Bool.false_beq Bool.not_true Bool.not_false
attribute [local go_sem_proc] Nat.reduceAdd Nat.reduceMul Nat.reduceSub Nat.reduceLeDiff Nat.reduceLT Nat.reduceEqDiff Int.reduceLT Int.reduceLE Int.reduceAdd Int.reduceSub Int.reduceMul Int.reduceToNat Int.reducePow Int.reduceNe Int.reduceMod Int.reduceDiv Int.reduceEq Nat.reducePow Int.reduceNeg
set_option maxRecDepth 10000
theorem take_snoc {l : List Int} {i : Nat} (hi : i < l.length) : l.take (i + 1) = l.take i ++ [l.getD i 0] := by
  rw [List.take_add_one, List.getElem?_eq_getElem hi, List.getD_eq_getElem?_getD, List.getElem?_eq_getElem hi]
  rfl
def clip (x : Int) : Int := min (max x (-100000)) 100000
noncomputable def F6 : List AVal → Option AVal := pureF C5 1 6
theorem sound6 : Sound Tryz.prog 6 F6 := sound_self ok5 1 6
theorem F6_eq {a : AVal} {l : List Int} {m : Nat} (ha : Rw a l) (hl : l.length ≤ 100000000000000) (hm : m ≤ 1000000) : F6 [a, .int .i64 m] = some (rowN 1 (i64s ((l.take (min l.length m)).map clip))) := by
  have htk := ha.sliceTo (n := min l.length m) (by omega)
  have hta := ha.take (min l.length m)
  have hlt := hta.len
  have hl2 : (l.take (min l.length m)).length ≤ m := by rw [List.length_take]; omega
  have hmn : mnxA false (.int .i64 (l.length : Int)) [.int .i64 (m : Int)] = some (.int .i64 ((min l.length m : Nat) : Int)) := by
    rw [mnx_min]; refine congrArg (fun z => some (AVal.int .i64 z)) ?_; omega
  have hlen := ha.len
  generalize l.take (min l.length m) = l2 at *
  generalize rwTake (min l.length m) a = a2 at *
  unfold F6
  refine pureF_of (x := x6) rfl rfl ?_
  rw [x6_eq.1, x6_eq.2.1]
  simp (disch := first | omega | simp only [*, go_sem, ↓reduceIte, dropK_eq]) only [x6b, go_sem, ↓reduceIte, dropK_eq, hlen, hmn, htk, hlt]
  refine Ev_range (ti := 15) (len := l2.length) (J := fun i tm hp nc => Xec.Own [6005005] 1 hp (tm 5) (i64s ((l2.take i).map clip)) ∧ (i64s ((l2.take i).map clip) = [] → tm 5 = .nils)) (by omega) (by simp only [go_sem, ↓reduceIte, dropK_eq]) ?_ ?_
  · simp only [go_sem, ↓reduceIte, dropK_eq]
    exact ⟨Xec.Own.nils _ _ _, fun _ => trivial⟩
  rintro i tm hp nc hi' hc k15 ⟨ho, h0⟩
  have k13 := hc 13 rfl; have k14 := hc 14 rfl; simp only [go_sem, ↓reduceIte, dropK_eq] at k13 k14
  rcases Nat.lt_or_ge i l2.length with hlt2 | hge
  · have d1 : decide ((i : Int) < (l2.length : Int)) = true := decide_eq_true (by omega)
    have ia := hta.ia hlt2
    have hts := take_snoc hlt2
    generalize l2.getD i 0 = y at *
    have m1 : mnxA true (.int .i64 y) [.int .i64 (-100000)] = some (.int .i64 (max y (-100000))) := mnx_max
    have m2 : mnxA false (.int .i64 (max y (-100000))) [.int .i64 100000] = some (.int .i64 (clip y)) := mnx_min
    obtain ⟨V, H, hA, hO⟩ := ho.push (s0 := 6005005) (s1 := 6005004) (z := .int .i64 (clip y)) (bytes := 8) (by simp) (by simp) (plain_int _ _ _) rfl (by simp [i64s]; omega)
    simp (disch := first | omega | simp only [*, go_sem, ↓reduceIte, dropK_eq]) only [x6l3, go_sem, ↓reduceIte, dropK_eq, k13, k14, k15, d1, ia, m1, m2, hA]
    refine ⟨hlt2, by simp, ?_, ?_⟩
    · rw [hts, List.map_append, i64s, List.map_append]; exact (hO _ _).1
    · rw [hts]; intro h; simp [i64s] at h
  · obtain rfl : i = l2.length := by omega
    have d1 : decide ((l2.length : Int) < (l2.length : Int)) = false := decide_eq_false (by omega)
    rw [List.take_length] at *
    simp (disch := first | omega | simp only [*, go_sem, ↓reduceIte, dropK_eq]) only [x6l3, go_sem, ↓reduceIte, dropK_eq, k13, k14, k15, d1]
    rw [Ends_eq]
    exact ho.lendN h0 63 (plainL_ints 63 _ _) (fun _ _ => rfl)
noncomputable def F7 : List AVal → Option AVal := pureF C5 1 7
theorem sound7 : Sound Tryz.prog 7 F7 := sound_self ok5 1 7
theorem F7_eq {a : AVal} {l : List Int} (ha : Rw a l) (hl : l.length ≤ 1000000) (hin : ∀ x ∈ l, inM x) : F7 [a] = some (.tup [StK (ofL l), .int .i64 0]) := by
  have hlen := ha.len
  unfold F7
  refine pureF_of (x := x7) rfl rfl ?_
  rw [x7_eq.1, x7_eq.2.1]
  simp (disch := first | omega | simp only [*, go_sem, ↓reduceIte, dropK_eq]) only [x7b, go_sem, ↓reduceIte, dropK_eq, hlen]
  refine Ev_range (ti := 9) (len := l.length) (J := fun i tm hp nc => hp (7001000, 1) = some (.var (StC (ofL (l.take i)))) ∧ hp (7000000, 0) = some (.var (StC St0))) (by omega) (by simp only [go_sem, ↓reduceIte, dropK_eq]) ?_ ?_
  · simp only [go_sem, ↓reduceIte, dropK_eq, List.take_zero, ofL, List.foldl_nil]
    rfl
  rintro i tm hp nc hi' hc k9 ⟨kq, kr⟩
  have k2 := hc 2 rfl; have k4 := hc 4 rfl; have k7 := hc 7 rfl; have k8 := hc 8 rfl; simp only [go_sem, ↓reduceIte, dropK_eq] at k2 k4 k7 k8
  rcases Nat.lt_or_ge i l.length with hlt | hge
  · have d1 : decide ((i : Int) < (l.length : Int)) = true := decide_eq_true (by omega)
    have ia := ha.ia hlt
    have hsn := ofL_snoc (l.take i) (l.getD i 0)
    rw [← take_snoc hlt] at hsn
    have hx : inM (l.getD i 0) := hin _ (by rw [List.getD_eq_getElem?_getD, List.getElem?_eq_getElem hlt]; exact List.getElem_mem hlt)
    have hB := ofL_stB (l := l.take i) (fun x hx => hin x (List.mem_of_mem_take hx)) (by rw [List.length_take]; omega)
    generalize l.getD i 0 = y at *
    have hy := sq_le hx
    have hB1 : stB (one1 y) := by
      have h1 := hx.1
      have h2 := hx.2
      unfold stB one1
      refine ⟨⟨?_, ?_⟩, ⟨?_, ?_⟩, ?_, ?_⟩ <;> (dsimp only; omega)
    have e20 := F20_eq hx
    have e22 := F22_eq hx
    have e21 := F21_eq hB hB1
    rw [← hsn] at e21
    generalize one1 y = o at *
    generalize ofL (l.take i) = t0 at *
    generalize ofL (l.take (i + 1)) = t1 at *
    simp (disch := first | omega | simp only [*, go_sem, ↓reduceIte, dropK_eq]) only [x7l3, go_sem, ↓reduceIte, dropK_eq, k2, k4, k7, k8, k9, d1, ia, kq, kr, callX_known (C := C5) (g := 20) rfl, ft_call (C := C5) (g := 20) rfl, callX_known (C := C5) (g := 21) rfl, ft_call (C := C5) (g := 21) rfl, callX_known (C := C5) (g := 22) rfl, ft_call (C := C5) (g := 22) rfl, e20, e21, e22]
    exact ⟨hlt, by simp⟩
  · obtain rfl : i = l.length := by omega
    have d1 : decide ((l.length : Int) < (l.length : Int)) = false := decide_eq_false (by omega)
    rw [List.take_length] at *
    simp (disch := first | omega | simp only [*, go_sem, ↓reduceIte, dropK_eq]) only [x7l3, go_sem, ↓reduceIte, dropK_eq, k2, k4, k7, k8, k9, d1, kq, kr]
    exact Ends_plain rfl rfl
set_option maxRecDepth 10000
theorem F48_gen {x : Int} (h : -4611686018427387904 ≤ x ∧ x ≤ 4611686018427387904) : F48 [.int .i64 x] = some (.int .u64 (max x (-x))) := by
  have m1 : mnxA true (.int .i64 x) [.int .i64 (0 - x)] = some (.int .i64 (max x (-x))) := by rw [mnx_max, Int.zero_sub]
  have h1 := h.1
  have h2 := h.2
  have h3 : 0 ≤ max x (-x) ∧ max x (-x) ≤ 4611686018427387904 := by omega
  have h4 := h3.1
  have h5 := h3.2
  unfold F48
  refine pureF_of (x := x48) rfl rfl ?_
  rw [x48_eq.1, x48_eq.2.1]
  generalize max x (-x) = m at *
  simp (disch := first | omega | simp only [*, go_sem, ↓reduceIte, dropK_eq]) only [x48b, go_sem, ↓reduceIte, dropK_eq, m1]
  exact Ends_plain rfl (by rw [Int.emod_eq_of_lt (by omega) (by omega)])
def sprd (t : Stt) : Int := t.n * t.q - t.s * t.s
theorem F9_nq {n q : Int} (hn : 0 ≤ n ∧ n ≤ 1000000) (hq : 0 ≤ q ∧ q ≤ 1000000000000000000) : F9 [W 0 n, enc q] = some (.tup [enc (n * q), .bool false]) := by
  have h0 : U 0 := by unfold U; omega
  have h1 := Int.mul_nonneg hn.1 hq.1
  have h2 : n * q ≤ 1000000 * 1000000000000000000 := Int.mul_le_mul hn.2 hq.2 hq.1 (by omega)
  have e : val 0 n = n := by unfold val; omega
  rw [F9_eq h0 (by unfold U; omega) (U_hi (by unfold big; omega)) (U_lo q), val_enc, e, Int.emod_eq_of_lt h1 (by unfold big; omega), decide_eq_false (by unfold big; omega)]
theorem F80_q {a b : Int} (ha : 0 ≤ a ∧ a < big) (hb : 0 ≤ b ∧ b ≤ a) : F80 [enc a, enc b] = some (.tup [enc (a - b), .bool false]) := by
  rw [F80_eq (U_hi ha) (U_lo a) (U_hi ⟨hb.1, by omega⟩) (U_lo b), val_enc, val_enc, Int.emod_eq_of_lt (by omega) (by omega), decide_eq_false (by omega)]
theorem sq_bnd {x m : Int} (h : -m ≤ x ∧ x ≤ m) : 0 ≤ x * x ∧ x * x ≤ m * m := by
  rcases Int.le_total 0 x with h1 | h1
  · exact ⟨Int.mul_nonneg h1 h1, Int.mul_le_mul h.2 h.2 h1 (by omega)⟩
  · rw [← Int.neg_mul_neg x x]
    exact ⟨Int.mul_nonneg (by omega) (by omega), Int.mul_le_mul (by omega) (by omega) (by omega) (by omega)⟩
noncomputable def F57 : List AVal → Option AVal := pureF C5 1 57
theorem sound57 : Sound Tryz.prog 57 F57 := sound_self ok5 1 57
theorem F57_eq {t : Stt} (h : stB t) (hs : 0 ≤ sprd t) : F57 [StK t] = some (.tup [enc (sprd t), .bool false]) := by
  obtain ⟨⟨a1, a2⟩, ⟨a3, a4⟩, a5, a6⟩ := h
  have e9 := F9_nq ⟨a1, a2⟩ ⟨a5, a6⟩
  have h1 := Int.mul_nonneg a1 a5
  have h2 : t.n * t.q ≤ 1000000 * 1000000000000000000 := Int.mul_le_mul a2 a6 a5 (by omega)
  have h3 := sq_bnd (x := t.s) (m := 1000000000000) ⟨by omega, a4⟩
  have e48 := F48_gen (x := t.s) (by omega)
  have hu : U (max t.s (-t.s)) := by unfold U; omega
  have e24 := F24_eq hu hu
  rw [sq_max] at e24
  unfold sprd at hs ⊢
  have e80 := F80_q (a := t.n * t.q) (b := t.s * t.s) ⟨h1, by unfold big; omega⟩ ⟨h3.1, by omega⟩
  have hw : t.n % 18446744073709551616 = t.n := Int.emod_eq_of_lt a1 (by omega)
  unfold F57
  refine pureF_of (x := x57) rfl rfl ?_
  rw [x57_eq.1, x57_eq.2.1]
  generalize t.n * t.q = nq at *
  generalize t.s * t.s = ss at *
  simp (disch := first | omega | simp only [*, go_sem, ↓reduceIte, dropK_eq]) only [x57b, go_sem, ↓reduceIte, dropK_eq, callX_known (C := C5) (g := 9) rfl, ft_call (C := C5) (g := 9) rfl, callX_known (C := C5) (g := 48) rfl, ft_call (C := C5) (g := 48) rfl, callX_known (C := C5) (g := 24) rfl, ft_call (C := C5) (g := 24) rfl, callX_known (C := C5) (g := 80) rfl, ft_call (C := C5) (g := 80) rfl, hw, e9, e48, e24, e80]
  exact Ends_plain rfl rfl
theorem dev_nn (l : List Int) (x : Int) : 0 ≤ sqL l - 2 * (x * sumL l) + (l.length : Int) * (x * x) := by
  induction l using snoc_ind with
  | h0 => simp [sqL, sumL]
  | hs l y ih =>
    rw [sqL_snoc, sumL_snoc, List.length_append, List.length_cons, List.length_nil]
    have h1 := (sq_bnd (x := y - x) (m := max (y - x) (-(y - x))) (by omega)).1
    have e1 : (y - x) * (y - x) = y * y - 2 * (x * y) + x * x := by
      rw [Int.sub_mul, Int.mul_sub, Int.mul_sub, Int.mul_comm y x]; omega
    have e2 : ((l.length + (0 + 1) : Nat) : Int) * (x * x) = (l.length : Int) * (x * x) + x * x := by
      rw [show ((l.length + (0 + 1) : Nat) : Int) = (l.length : Int) + 1 by omega, Int.add_mul, Int.one_mul]
    rw [e2, Int.mul_add x]
    omega
theorem sprd_nn (l : List Int) : 0 ≤ (l.length : Int) * sqL l - sumL l * sumL l := by
  induction l using snoc_ind with
  | h0 => simp [sqL, sumL]
  | hs l x ih =>
    have h := dev_nn l x
    rw [sqL_snoc, sumL_snoc, List.length_append, List.length_cons, List.length_nil]
    have e2 : ((l.length + (0 + 1) : Nat) : Int) * (sqL l + x * x) = (l.length : Int) * sqL l + (l.length : Int) * (x * x) + sqL l + x * x := by
      rw [show ((l.length + (0 + 1) : Nat) : Int) = (l.length : Int) + 1 by omega, Int.add_mul, Int.one_mul, Int.mul_add]; omega
    have e3 : (sumL l + x) * (sumL l + x) = sumL l * sumL l + 2 * (x * sumL l) + x * x := by
      rw [Int.add_mul, Int.mul_add, Int.mul_add, Int.mul_comm (sumL l) x]; omega
    rw [e2, e3]
    omega
theorem ofL_sprd (l : List Int) : 0 ≤ sprd (ofL l) := by
  obtain ⟨h1, h2, h3⟩ := ofL_eq (l := l)
  unfold sprd
  rw [h1, h2, h3]
  exact sprd_nn l
theorem ofL_ends {l : List Int} (h : ∀ x ∈ l, inM x) (hne : l ≠ []) : inM (ofL l).lo ∧ inM (ofL l).hi ∧ (ofL l).lo ≤ (ofL l).hi ∧ (l.length : Int) * (ofL l).lo ≤ sumL l ∧ sumL l ≤ (l.length : Int) * (ofL l).hi := by
  induction l using snoc_ind with
  | h0 => exact absurd rfl hne
  | hs l x ih =>
    have hx := h x (by simp)
    rw [ofL_snoc, sumL_snoc, List.length_append, List.length_cons, List.length_nil]
    unfold join2
    by_cases h0 : (ofL l).n = 0
    · rw [if_pos h0]
      have : l = [] := by rw [(ofL_eq (l := l)).1] at h0; exact List.length_eq_zero_iff.1 (by omega)
      subst this
      simp only [one1, sumL, List.foldl_nil, List.length_nil]
      refine ⟨hx, hx, Int.le_refl _, ?_, ?_⟩ <;> omega
    · rw [if_neg h0, if_neg (show ¬ (one1 x).n = 0 by show ¬ (1 : Int) = 0; decide)]
      have hl : l ≠ [] := by rintro rfl; exact h0 rfl
      obtain ⟨i1, i2, i3, i4, i5⟩ := ih (fun y hy => h y (by simp [hy])) hl
      simp only [one1]
      generalize (ofL l).lo = lo at *
      generalize (ofL l).hi = hi at *
      have k1 : ((l.length : Int)) * min lo x ≤ (l.length : Int) * lo := Int.mul_le_mul_of_nonneg_left (by omega) (by omega)
      have k2 : (l.length : Int) * hi ≤ ((l.length : Int)) * max hi x := Int.mul_le_mul_of_nonneg_left (by omega) (by omega)
      have e : ∀ y : Int, ((l.length + (0 + 1) : Nat) : Int) * y = (l.length : Int) * y + y := fun y => by
        rw [show ((l.length + (0 + 1) : Nat) : Int) = (l.length : Int) + 1 by omega, Int.add_mul, Int.one_mul]
      rw [e, e]
      unfold inM at *
      refine ⟨by omega, by omega, by omega, by omega, by omega⟩
set_option maxRecDepth 10000
noncomputable def F56 : List AVal → Option AVal := pureF C5 1 56
theorem sound56 : Sound Tryz.prog 56 F56 := sound_self ok5 1 56
theorem F56_eq {n : Int} (h : 0 ≤ n ∧ n ≤ 1000000) : F56 [.int .i64 n] = some (enc (n * 1000000000000)) := by
  have e24 := F24_eq (a := n) (b := 1000000000000) (by unfold U; omega) (by unfold U; omega)
  have hw : n % 18446744073709551616 = n := Int.emod_eq_of_lt h.1 (by omega)
  unfold F56
  refine pureF_of (x := x56) rfl rfl ?_
  rw [x56_eq.1, x56_eq.2.1]
  simp (disch := first | omega | simp only [*, go_sem, ↓reduceIte, dropK_eq]) only [x56b, go_sem, ↓reduceIte, dropK_eq, callX_known (C := C5) (g := 24) rfl, ft_call (C := C5) (g := 24) rfl, hw, e24]
  exact Ends_plain rfl rfl
theorem F55_q {p q : Int} : F55 [enc p, enc q] = some (.bool (decide (p < q))) := by
  rw [F55_eq (U_lo p) (U_lo q), val_enc, val_enc]
noncomputable def C9 : Cfg := (C5.add 56 F56).add 57 F57
theorem ok9 : CfgOk Tryz.prog C9 := (ok5.add sound56).add sound57
noncomputable def F30 : List AVal → Option AVal := pureF C9 1 30
theorem sound30 : Sound Tryz.prog 30 F30 := sound_self ok9 1 30
theorem F30_nil : F30 [StK (ofL [])] = some (.bool true) := by
  unfold F30
  refine pureF_of (x := x30) rfl rfl ?_
  rw [x30_eq.1, x30_eq.2.1]
  simp (disch := first | omega | simp only [*, go_sem, ↓reduceIte, dropK_eq]) only [x30b, go_sem, ↓reduceIte, dropK_eq, ofL, List.foldl_nil, Int.zero_ediv, Int.zero_emod]
  exact Ends_plain rfl rfl
theorem F30_eq {l : List Int} (h : ∀ x ∈ l, inM x) (hl : l.length ≤ 1000000) : F30 [StK (ofL l)] = some (.bool true) := by
  by_cases hne : l = []
  · subst hne
    exact F30_nil
  have hB := ofL_stB h hl
  have e57 := F57_eq hB (ofL_sprd l)
  obtain ⟨h1, h2, h3⟩ := ofL_eq (l := l)
  obtain ⟨i1, i2, i3, i4, i5⟩ := ofL_ends h hne
  obtain ⟨_, j1, j2⟩ := ofL_bnd h hl
  have hn1 : 1 ≤ (ofL l).n := by
    rw [h1]
    have : l.length ≠ 0 := fun e => hne (List.length_eq_zero_iff.1 e)
    omega
  have e56 := F56_eq (n := (ofL l).n) (by have := hB.1; omega)
  have e55 := F55_q (p := (ofL l).n * 1000000000000) (q := (ofL l).q)
  rw [decide_eq_false (by rw [h1, h3]; omega)] at e55
  rw [← h1, ← h2] at i4 i5
  have b1 := hB.1.1
  have b2 := hB.1.2
  have l1 := i1.1
  have l2 := i1.2
  have l3 := i2.1
  have l4 := i2.2
  have w1 := sq_bnd (x := (ofL l).lo) (m := 1000000) i1
  have m1 : -1000000000000 ≤ (ofL l).n * (ofL l).lo ∧ (ofL l).n * (ofL l).lo ≤ 1000000000000 := by
    have g1 : (ofL l).n * (ofL l).lo ≤ (ofL l).n * 1000000 := Int.mul_le_mul_of_nonneg_left l2 b1
    have g2 : (ofL l).n * (-1000000) ≤ (ofL l).n * (ofL l).lo := Int.mul_le_mul_of_nonneg_left l1 b1
    omega
  have m2 : -1000000000000 ≤ (ofL l).n * (ofL l).hi ∧ (ofL l).n * (ofL l).hi ≤ 1000000000000 := by
    have g1 : (ofL l).n * (ofL l).hi ≤ (ofL l).n * 1000000 := Int.mul_le_mul_of_nonneg_left l4 b1
    have g2 : (ofL l).n * (-1000000) ≤ (ofL l).n * (ofL l).hi := Int.mul_le_mul_of_nonneg_left l3 b1
    omega
  have e20a := F20_eq i1
  have e20b := F20_eq i2
  have d0 : decide ((ofL l).n = 0) = false := decide_eq_false (by omega)
  have d1 : decide ((ofL l).n < 1) = false := decide_eq_false (by omega)
  have d2 : decide (1000000000 < (ofL l).n) = false := decide_eq_false (by omega)
  have d3 : decide ((ofL l).hi < (ofL l).lo) = false := decide_eq_false (by omega)
  have d4 : decide ((ofL l).s < (ofL l).n * (ofL l).lo) = false := decide_eq_false (by omega)
  have d5 : decide ((ofL l).n * (ofL l).hi < (ofL l).s) = false := decide_eq_false (by omega)
  clear h1 h2 h3 h hB hne j1 j2 i1 i2 w1
  generalize hP1 : (ofL l).n * (ofL l).lo = p1 at *
  generalize hP2 : (ofL l).n * (ofL l).hi = p2 at *
  generalize (ofL l).n * 1000000000000 = p3 at *
  generalize sprd (ofL l) = sp at *
  generalize ofL l = t at *
  unfold F30
  refine pureF_of (x := x30) rfl rfl ?_
  rw [x30_eq.1, x30_eq.2.1]
  simp (disch := first | omega | simp only [*, go_sem, ↓reduceIte, dropK_eq]) only [x30b, go_sem, ↓reduceIte, dropK_eq, callX_known (C := C9) (g := 20) rfl, ft_call (C := C9) (g := 20) rfl, callX_known (C := C9) (g := 55) rfl, ft_call (C := C9) (g := 55) rfl, callX_known (C := C9) (g := 56) rfl, ft_call (C := C9) (g := 56) rfl, callX_known (C := C9) (g := 57) rfl, ft_call (C := C9) (g := 57) rfl, e20a, e20b, e55, e56, e57, d0, d1, d2, d3, d4, d5, hP1, hP2]
  exact Ends_plain rfl rfl
set_option maxRecDepth 10000
noncomputable def C10 : Cfg := C9.add 30 F30
theorem ok10 : CfgOk Tryz.prog C10 := ok9.add sound30
noncomputable def F61 : List AVal → Option AVal := pureF C10 1 61
theorem sound61 : Sound Tryz.prog 61 F61 := sound_self ok10 1 61
theorem F61_eq {l : List Int} (h : ∀ x ∈ l, inM x) (hl : l.length ≤ 1000000) (hne : l ≠ []) : F61 [StK (ofL l)] = some (.tup [enc (sprd (ofL l)), .int .i64 0]) := by
  have e30 := F30_eq h hl
  have hB := ofL_stB h hl
  have e57 := F57_eq hB (ofL_sprd l)
  have hn : ¬ (ofL l).n = 0 := by rw [(ofL_eq (l := l)).1]; intro e; exact hne (List.length_eq_zero_iff.1 (by omega))
  have d1 := decide_eq_false hn
  clear hn hB h hl hne
  generalize sprd (ofL l) = sp at *
  generalize ofL l = t at *
  unfold F61
  refine pureF_of (x := x61) rfl rfl ?_
  rw [x61_eq.1, x61_eq.2.1]
  simp (disch := first | omega | simp only [*, go_sem, ↓reduceIte, dropK_eq]) only [x61b, go_sem, ↓reduceIte, dropK_eq, callX_known (C := C10) (g := 30) rfl, ft_call (C := C10) (g := 30) rfl, callX_known (C := C10) (g := 57) rfl, ft_call (C := C10) (g := 57) rfl, e30, e57, d1]
  exact Ends_plain rfl rfl
end Go.Proofs.YtkonpbcnekcjjaaGreatDoor
namespace Go.Proofs.YtkonpbcnekcjjaaGreatDoor.DV
open Go Go.Xec
attribute [local go_sem] tm0 ne_eq not_false_eq_true List.length_append List.length_replicate List.replicate_succ List.replicate_zero Int.cast_ofNat_Int not_true_eq_false decide_true decide_false ite_self beq_self_eq_true Bool.true_beq Bool.false_beq Bool.not_true Bool.not_false
attribute [local go_sem_proc] Nat.reduceAdd Nat.reduceMul Nat.reduceSub Nat.reduceLeDiff Nat.reduceLT Nat.reduceEqDiff Int.reduceLT Int.reduceLE Int.reduceAdd Int.reduceSub Int.reduceMul Int.reduceToNat Int.reducePow Int.reduceNe Int.reduceMod Int.reduceDiv Int.reduceEq Nat.reducePow Int.reduceNeg
set_option maxRecDepth 10000
theorem F81_low {l y : Int} (hl : U l) (hy : 0 < y) (hy2 : y < 18446744073709551616) : F81 [.int .u64 0, .int .u64 l, .int .u64 y] = some (.tup [.int .u64 (l / y), .int .u64 (l % y)]) := by
  have d1 : decide (y = 0) = false := decide_eq_false (by omega)
  have d2 : decide (y ≤ 0) = false := decide_eq_false (by omega)
  have hq : l.tdiv y = l / y := Int.tdiv_eq_ediv_of_nonneg hl.1
  have hr : l.tmod y = l % y := Int.tmod_eq_emod_of_nonneg hl.1
  have hb : l / y ≤ l := Int.ediv_le_self y hl.1
  have hb0 : 0 ≤ l / y := Int.ediv_nonneg hl.1 (by omega)
  have w1 : l / y % 18446744073709551616 = l / y := by have := hl.2; omega
  have hy0 : y ≠ 0 := by omega
  unfold F81
  refine pureF_of (x := x81) rfl rfl ?_
  rw [x81_eq.1, x81_eq.2.1]
  simp (disch := first | omega | simp only [*, go_sem, ↓reduceIte, dropK_eq]) only [x81b, go_sem, ↓reduceIte, dropK_eq, d1, d2, hq, hr, w1]
  exact Ends_plain rfl rfl
theorem F81_eq {h l y : Int} (hh : 0 ≤ h ∧ h < y) (hl : U l) (hy : y < 18446744073709551616) :
    F81 [.int .u64 h, .int .u64 l, .int .u64 y] = some (.tup [.int .u64 ((h * 18446744073709551616 + l) / y), .int .u64 ((h * 18446744073709551616 + l) % y)]) := by
  by_cases h0 : h = 0
  · subst h0
    rw [F81_low hl hh.2 hy, Int.zero_mul, Int.zero_add]
  · exact F81_high ⟨by omega, hh.2⟩ hl hy
noncomputable def C13 : Cfg := C12.add 81 F81
theorem ok13 : CfgOk Tryz.prog C13 := ok12.add sound81
noncomputable def F58 : List AVal → Option AVal := pureF C13 1 58
theorem sound58 : Sound Tryz.prog 58 F58 := sound_self ok13 1 58
theorem F58_eq {n y : Int} (hn : 0 ≤ n ∧ n < big) (hy : 0 < y ∧ y < 18446744073709551616) : F58 [enc n, enc y] = some (.tup [enc (n / y), enc (n % y), .int .i64 0]) := by
  have hU := U_hi hn
  have hL := U_lo n
  obtain ⟨h, l, rfl, hh, hl⟩ : ∃ h l : Int, n = h * 18446744073709551616 + l ∧ n / 18446744073709551616 = h ∧ n % 18446744073709551616 = l := ⟨_, _, by omega, rfl, rfl⟩
  have y1 : y / 18446744073709551616 = 0 := Int.ediv_eq_zero_of_lt (by omega) hy.2
  have y2 : y % 18446744073709551616 = y := Int.emod_eq_of_lt (by omega) hy.2
  have d1 : decide (y = 0) = false := decide_eq_false (by omega)
  rw [hh] at hU
  rw [hl] at hL
  have e1 := F81_low hU hy.1 hy.2
  have m0 := Int.emod_nonneg h (show y ≠ 0 by omega)
  have m1 := Int.emod_lt_of_pos h hy.1
  have e2 := F81_eq ⟨m0, m1⟩ hL hy.2
  have hd := Int.emod_add_mul_ediv h y

  have hN : h * 18446744073709551616 + l = (h % y * 18446744073709551616 + l) + h / y * 18446744073709551616 * y := by
    rw [Int.mul_right_comm, Int.mul_comm (h / y) y]
    omega
  have q0 : 0 ≤ (h % y * 18446744073709551616 + l) / y := Int.ediv_nonneg (by have := hL.1; omega) (by omega)
  have q1 : (h % y * 18446744073709551616 + l) / y < 18446744073709551616 := by
    rw [Int.ediv_lt_iff_lt_mul hy.1]
    have : (h % y + 1) * 18446744073709551616 ≤ y * 18446744073709551616 := Int.mul_le_mul_of_nonneg_right (by omega) (by decide)
    have := hL.2
    omega
  have r0 := Int.emod_nonneg (h % y * 18446744073709551616 + l) (show y ≠ 0 by omega)
  have r1 := Int.emod_lt_of_pos (h % y * 18446744073709551616 + l) hy.1
  have eq1 : (h * 18446744073709551616 + l) / y = (h % y * 18446744073709551616 + l) / y + h / y * 18446744073709551616 := by
    conv => lhs; rw [hN]
    exact Int.add_mul_ediv_right _ _ (by omega)
  have eq2 : (h * 18446744073709551616 + l) % y = (h % y * 18446744073709551616 + l) % y := by
    conv => lhs; rw [hN]
    exact Int.add_mul_emod_self_right _ _ _
  rw [eq1, eq2]
  have z1 : ((h % y * 18446744073709551616 + l) / y + h / y * 18446744073709551616) / 18446744073709551616 = h / y := by omega
  have z2 : ((h % y * 18446744073709551616 + l) / y + h / y * 18446744073709551616) % 18446744073709551616 = (h % y * 18446744073709551616 + l) / y := by omega
  have z3 : (h % y * 18446744073709551616 + l) % y / 18446744073709551616 = 0 := Int.ediv_eq_zero_of_lt r0 (by omega)
  have z4 : (h % y * 18446744073709551616 + l) % y % 18446744073709551616 = (h % y * 18446744073709551616 + l) % y := Int.emod_eq_of_lt r0 (by omega)
  clear hN eq1 eq2 hn hd q0 q1 r0 r1
  unfold F58
  refine pureF_of (x := x58) rfl rfl ?_
  rw [x58_eq.1, x58_eq.2.1]
  simp (disch := first | omega | simp only [*, go_sem, ↓reduceIte, dropK_eq]) only [x58b, go_sem, ↓reduceIte, dropK_eq, callX_known (C := C13) (g := 81) rfl, ft_call (C := C13) (g := 81) rfl, hh, hl, y1, y2, d1, e1, e2]
  refine Ends_plain rfl ?_
  show _ = AVal.tup [W (_ / 18446744073709551616) (_ % 18446744073709551616), W (_ / 18446744073709551616) (_ % 18446744073709551616), _]
  rw [z1, z2, z3, z4]
theorem F58_zero {n : Int} : F58 [enc n, enc 0] = some (.tup [enc 0, enc 0, .int .i64 4]) := by
  unfold F58
  refine pureF_of (x := x58) rfl rfl ?_
  rw [x58_eq.1, x58_eq.2.1]
  simp (disch := first | omega | simp only [*, go_sem, ↓reduceIte, dropK_eq]) only [x58b, go_sem, ↓reduceIte, dropK_eq, callX_known (C := C13) (g := 81) rfl, ft_call (C := C13) (g := 81) rfl, Int.zero_ediv, Int.zero_emod]
  exact Ends_plain rfl rfl
end Go.Proofs.YtkonpbcnekcjjaaGreatDoor.DV
namespace Go.Proofs.YtkonpbcnekcjjaaGreatDoor.DV
open Go Go.Xec
theorem sq_lt {a b : Int} (h0 : 0 ≤ a) (h : a < b) : a * a < b * b := by
  have h1 : a * a ≤ a * b := Int.mul_le_mul_of_nonneg_left (by omega) h0
  have h2 : a * b < b * b := Int.mul_lt_mul_of_pos_right h (by omega)
  omega
theorem sq_le_sq {a b : Int} (h0 : 0 ≤ b) (h : a * a ≤ b * b) : a ≤ b := by
  refine Classical.byContradiction fun hn => ?_
  have := sq_lt h0 (show b < a by omega)
  omega
theorem isqI_ge {v r : Int} (hv : 0 ≤ v) (h0 : 0 ≤ r) (h : r * r ≤ v) : r ≤ RT.isqI v := by
  obtain ⟨i0, i1, i2⟩ := RT.isqI_spec hv
  refine Classical.byContradiction fun hn => ?_
  have h1 : (RT.isqI v + 1) * (RT.isqI v + 1) ≤ r * r := Int.mul_le_mul (by omega) (by omega) (by omega) (by omega)
  omega
theorem upI_le {v u : Int} (hv : 0 ≤ v) (h0 : 0 ≤ u) (h : v ≤ u * u) : RT.upI v ≤ u := by
  obtain ⟨i0, i1, i2⟩ := RT.isqI_spec hv
  unfold RT.upI
  split
  · rename_i e
    exact sq_le_sq h0 (by omega)
  · rename_i e
    refine Classical.byContradiction fun hn => ?_
    have h1 : u * u ≤ RT.isqI v * RT.isqI v := Int.mul_le_mul (by omega) (by omega) h0 (by omega)
    omega
def rtLo (n d : Int) : Int := RT.isqI (n / d)
def rtUp (n d : Int) : Int := if n % d = 0 then n / d else n / d + 1
def rtHi (n d : Int) : Int := RT.upI (rtUp n d)
theorem rtLo_spec {n d : Int} (hn : 0 ≤ n) (hd : 0 < d) : 0 ≤ rtLo n d ∧ rtLo n d * rtLo n d * d ≤ n ∧ ∀ r, 0 ≤ r → r * r * d ≤ n → r ≤ rtLo n d := by
  have hq : 0 ≤ n / d := Int.ediv_nonneg hn (by omega)
  obtain ⟨i0, i1, i2⟩ := RT.isqI_spec hq
  refine ⟨i0, ?_, fun r h0 h => ?_⟩
  · have h1 : RT.isqI (n / d) * RT.isqI (n / d) * d ≤ n / d * d := Int.mul_le_mul_of_nonneg_right i1 (by omega)
    exact Int.le_trans h1 (Int.ediv_mul_le n (by omega))
  · exact isqI_ge hq h0 (Int.le_ediv_of_mul_le hd h)
theorem rtUp_spec {n d : Int} (hn : 0 ≤ n) (hd : 0 < d) : 0 ≤ rtUp n d ∧ n ≤ rtUp n d * d ∧ ∀ c, n ≤ c * d → rtUp n d ≤ c := by
  have hq : 0 ≤ n / d := Int.ediv_nonneg hn (by omega)
  have e := Int.emod_add_mul_ediv n d
  rw [Int.mul_comm] at e
  have m0 := Int.emod_nonneg n (show d ≠ 0 by omega)
  have m1 := Int.emod_lt_of_pos n hd
  unfold rtUp
  split
  · rename_i h
    refine ⟨hq, by omega, fun c hc => ?_⟩
    have : n / d * d ≤ c * d := by omega
    exact Int.le_of_mul_le_mul_right this hd
  · rename_i h
    refine ⟨by omega, by rw [Int.add_mul, Int.one_mul]; omega, fun c hc => ?_⟩
    have : n / d * d < c * d := by omega
    have := Int.lt_of_mul_lt_mul_right this (by omega)
    omega
theorem rtHi_spec {n d : Int} (hn : 0 ≤ n) (hd : 0 < d) : 0 ≤ rtHi n d ∧ n ≤ rtHi n d * rtHi n d * d ∧ ∀ u, 0 ≤ u → n ≤ u * u * d → rtHi n d ≤ u := by
  obtain ⟨c0, c1, c2⟩ := rtUp_spec hn hd
  obtain ⟨i0, i1, i2⟩ := RT.isqI_spec c0
  have hu := RT.upI_spec c0
  refine ⟨Int.le_trans i0 hu.1, ?_, fun u h0 h => upI_le c0 h0 (c2 _ h)⟩
  exact Int.le_trans c1 (Int.mul_le_mul_of_nonneg_right hu.2 (by omega))
theorem rt_lohi {n d : Int} (hn : 0 ≤ n) (hd : 0 < d) : rtLo n d ≤ rtHi n d := by
  obtain ⟨l0, l1, _⟩ := rtLo_spec hn hd
  obtain ⟨h0, h1, _⟩ := rtHi_spec hn hd
  exact sq_le_sq h0 (Int.le_of_mul_le_mul_right (Int.le_trans l1 h1) hd)
theorem rt_mono {n d n' d' : Int} (hn : 0 ≤ n) (hd : 0 < d) (hn' : 0 ≤ n') (hd' : 0 < d') (h : n * d' ≤ n' * d) : rtLo n d ≤ rtLo n' d' ∧ rtHi n d ≤ rtHi n' d' := by
  obtain ⟨l0, l1, _⟩ := rtLo_spec hn hd
  obtain ⟨_, _, l2⟩ := rtLo_spec hn' hd'
  obtain ⟨_, _, h2⟩ := rtHi_spec hn hd
  obtain ⟨h0, h1, _⟩ := rtHi_spec hn' hd'
  refine ⟨l2 _ l0 (Int.le_of_mul_le_mul_right (a := d) ?_ hd), h2 _ h0 (Int.le_of_mul_le_mul_right (a := d') ?_ hd')⟩
  · have := Int.mul_le_mul_of_nonneg_right l1 (show 0 ≤ d' by omega)
    rw [Int.mul_right_comm]
    omega
  · have := Int.mul_le_mul_of_nonneg_right h1 (show 0 ≤ d by omega)
    rw [Int.mul_right_comm]
    omega
end Go.Proofs.YtkonpbcnekcjjaaGreatDoor.DV
namespace Go.Proofs.YtkonpbcnekcjjaaGreatDoor.DV
open Go Go.Xec
attribute [local go_sem] tm0 ne_eq not_false_eq_true List.length_append List.length_replicate List.replicate_succ List.replicate_zero Int.cast_ofNat_Int not_true_eq_false decide_true decide_false ite_self beq_self_eq_true Bool.true_beq Bool.false_beq Bool.not_true Bool.not_false
attribute [local go_sem_proc] Nat.reduceAdd Nat.reduceMul Nat.reduceSub Nat.reduceLeDiff Nat.reduceLT Nat.reduceEqDiff Int.reduceLT Int.reduceLE Int.reduceAdd Int.reduceSub Int.reduceMul Int.reduceToNat Int.reducePow Int.reduceNe Int.reduceMod Int.reduceDiv Int.reduceEq Nat.reducePow Int.reduceNeg
set_option maxRecDepth 10000
noncomputable def CW0 : Cfg := (((C10.add 58 F58).add 59 RT.F59).add 60 RT.F60).add 61 F61
theorem okW0 : CfgOk Tryz.prog CW0 := (((ok10.add sound58).add RT.sound59).add RT.sound60).add sound61
noncomputable def F54 : List AVal → Option AVal := pureF CW0 1 54
theorem sound54 : Sound Tryz.prog 54 F54 := sound_self okW0 1 54
theorem F54_true {e : Int} : F54 [.bool true, .int .i64 e] = some (.tup []) := by
  unfold F54
  refine pureF_of (x := x54) rfl rfl ?_
  rw [x54_eq.1, x54_eq.2.1]
  simp (disch := first | omega | simp only [*, go_sem, ↓reduceIte, dropK_eq]) only [x54b, go_sem, ↓reduceIte, dropK_eq]
  exact Ends_plain rfl rfl
noncomputable def CW : Cfg := CW0.add 54 F54
theorem okW : CfgOk Tryz.prog CW := okW0.add sound54
abbrev u64s (l : List Int) : List AVal := l.map (AVal.int .u64)
def prd (l : List Int) : Int := l.foldl (· * ·) 1
theorem prd_snoc (l : List Int) (x : Int) : prd (l ++ [x]) = prd l * x := by simp [prd]
theorem u64s_ia {l : List Int} {i : Nat} (hi : i < l.length) : iaSA 1 (.slc 1 (u64s l)) (.int .i64 i) = some (.pvo [.int .u64 (l.getD i 0)] 0) := by
  rw [iaSA_slc]
  simp [List.getElem?_map, List.getElem?_eq_getElem hi, cellsOf]
theorem F9_n {p b : Int} (hp : 0 ≤ p ∧ p < big) (hb : U b) (h : p * b < big) : F9 [enc p, W 0 b] = some (.tup [enc (p * b), .bool false]) := by
  have h0 : U 0 := by unfold U; omega
  have hn := Int.mul_nonneg hp.1 hb.1
  have e : val 0 b = b := by unfold val; omega
  rw [F9_eq (U_hi hp) (U_lo p) h0 hb, val_enc, e, Int.emod_eq_of_lt hn h, decide_eq_false (by omega)]
theorem rt_bnd {n d : Int} (hn : 0 ≤ n ∧ n ≤ 1000000000000000000000000000000000000) (hd : 0 < d) : (0 ≤ rtLo n d ∧ rtLo n d ≤ 1000000000000000000) ∧ (0 ≤ rtHi n d ∧ rtHi n d ≤ 1000000000000000000) := by
  obtain ⟨h0, h1, h2⟩ := rtHi_spec hn.1 hd
  have h3 : rtHi n d ≤ 1000000000000000000 := h2 _ (by decide) (by
    have := Int.mul_le_mul_of_nonneg_left (show 1 ≤ d by omega) (show (0 : Int) ≤ 1000000000000000000 * 1000000000000000000 by decide)
    omega)
  have h4 := rt_lohi hn.1 hd
  have h5 := (rtLo_spec hn.1 hd).1
  omega
noncomputable def F31 : List AVal → Option AVal := pureF CW 1 31
theorem sound31 : Sound Tryz.prog 31 F31 := sound_self okW 1 31
theorem F31_eq {s b : Int} {l : List Int} (hs : 0 ≤ s ∧ s < big) (hb : U b) (hl : ∀ x ∈ l, U x) (hll : l.length ≤ 100) (hp : ∀ i, prd (l.take i) ≤ 1000000000000000000000000000000000000) (hd : 0 < s * b ∧ s * b < 18446744073709551616) :
    F31 [enc s, .int .u64 b, .slc 1 (u64s l)] = some (.agg [.int .i64 (rtLo (prd l) (s * b)), .int .i64 (rtHi (prd l) (s * b))]) := by
  have hp0 : ∀ i, 0 ≤ prd (l.take i) := by
    intro i
    induction i with
    | zero => simp [prd]
    | succ i ih =>
      rcases Nat.lt_or_ge i l.length with h | h
      · rw [take_snoc h, prd_snoc]
        refine Int.mul_nonneg ih (hl _ ?_).1
        rw [List.getD_eq_getElem?_getD, List.getElem?_eq_getElem h]
        exact List.getElem_mem h
      · rw [List.take_of_length_le (by omega)]
        rwa [List.take_of_length_le (by omega)] at ih
  have hlenV : lenVA (.slc 1 (u64s l)) = some (.int .i64 l.length) := by simp [lenVA]
  unfold F31
  refine pureF_of (x := x31) rfl rfl ?_
  rw [x31_eq.1, x31_eq.2.1]
  simp (disch := first | omega | simp only [*, go_sem, ↓reduceIte, dropK_eq]) only [x31b, go_sem, ↓reduceIte, dropK_eq, hlenV]
  refine Ev_range (ti := 19) (len := l.length) (J := fun i tm hp nc => hp (31001001, 1) = some (.var [.int .u64 (prd (l.take i) / 18446744073709551616), .int .u64 (prd (l.take i) % 18446744073709551616)]) ∧ hp (31000000, 0) = some (.var [.int .u64 (s / 18446744073709551616), .int .u64 (s % 18446744073709551616)]) ∧ hp (31000001, 0) = some (.var [.int .i64 0, .int .i64 0])) (by omega) (by simp only [go_sem, ↓reduceIte, dropK_eq]) ?_ ?_
  · simp only [go_sem, ↓reduceIte, dropK_eq, List.take_zero, prd, List.foldl_nil]
  rintro i tm hp' nc hi' hc k19 ⟨kq, kr, kt⟩
  have k1 := hc 1 rfl; have k3 := hc 3 rfl; have k6 := hc 6 rfl; have k7 := hc 7 rfl; have k17 := hc 17 rfl; have k18 := hc 18 rfl; simp only [go_sem, ↓reduceIte, dropK_eq] at k1 k3 k6 k7 k17 k18
  rcases Nat.lt_or_ge i l.length with hlt | hge
  · have d1 : decide ((i : Int) < (l.length : Int)) = true := decide_eq_true (by omega)
    have ia := u64s_ia hlt
    have hx : U (l.getD i 0) := hl _ (by rw [List.getD_eq_getElem?_getD, List.getElem?_eq_getElem hlt]; exact List.getElem_mem hlt)
    have hsn : prd (l.take (i + 1)) = prd (l.take i) * l.getD i 0 := by rw [take_snoc hlt, prd_snoc]
    have hb1 := hp i
    have hb2 := hp (i + 1)
    have hb3 := hp0 i
    rw [hsn] at hb2
    have e9 := F9_n (p := prd (l.take i)) (b := l.getD i 0) ⟨hb3, by unfold big; omega⟩ hx (by unfold big; omega)
    rw [← hsn] at e9
    clear hp hp0 hsn hx hb1 hb2 hb3
    generalize l.getD i 0 = y at *
    generalize prd (l.take i) = p0 at *
    generalize prd (l.take (i + 1)) = p1 at *
    simp (disch := first | omega | simp only [*, go_sem, ↓reduceIte, dropK_eq]) only [x31l3, go_sem, ↓reduceIte, dropK_eq, k1, k3, k6, k7, k17, k18, k19, d1, ia, kq, kr, kt, callX_known (C := CW) (g := 9) rfl, ft_call (C := CW) (g := 9) rfl, e9]
    exact ⟨hlt, by simp⟩
  · obtain rfl : i = l.length := by omega
    have d1 : decide ((l.length : Int) < (l.length : Int)) = false := decide_eq_false (by omega)
    have hpb := hp l.length
    have hpn := hp0 l.length
    rw [List.take_length] at *
    have e9 := F9_n (p := s) (b := b) hs hb (by unfold big; omega)
    generalize hD : s * b = D at *
    have e58 := F58_eq (n := prd l) (y := D) ⟨hpn, by unfold big; omega⟩ hd
    have hq : 0 ≤ prd l / D ∧ prd l / D ≤ prd l := ⟨Int.ediv_nonneg hpn (by omega), Int.ediv_le_self D hpn⟩
    have hm0 := Int.emod_nonneg (prd l) (show D ≠ 0 by omega)
    have hm1 := Int.emod_lt_of_pos (prd l) hd.1
    have hqb : 0 ≤ prd l / D ∧ prd l / D < big := by unfold big; omega
    have e59 : RT.F59 [enc (prd l / D)] = some (.int .u64 (rtLo (prd l) D)) := by
      have := RT.F59_eq (U_hi hqb) (U_lo (prd l / D))
      rwa [val_enc] at this
    have e60 : ∀ v, 0 ≤ v ∧ v < big → RT.F60 [enc v] = some (enc (RT.upI v)) := fun v hv => by
      have := RT.F60_eq (U_hi hv) (U_lo v)
      rwa [val_enc] at this
    have e54 := F54_true (e := 6)
    obtain ⟨⟨r0, r1⟩, r2, r3⟩ := rt_bnd ⟨hpn, hpb⟩ hd.1
    have z1 : (prd l % D) / 18446744073709551616 = 0 := Int.ediv_eq_zero_of_lt hm0 (by omega)
    have z2 : (prd l % D) % 18446744073709551616 = prd l % D := Int.emod_eq_of_lt hm0 (by omega)
    have w1 : rtHi (prd l) D % 18446744073709551616 = rtHi (prd l) D := Int.emod_eq_of_lt r2 (by omega)
    by_cases hz : prd l % D = 0
    · have e60' := e60 (prd l / D) hqb
      rw [show RT.upI (prd l / D) = rtHi (prd l) D by unfold rtHi rtUp; rw [if_pos hz]] at e60'
      have d2 : decide (prd l % D = 0) = true := decide_eq_true hz
      clear hz hp hp0 hl e60 hm0 hm1 hq hqb hpb hpn hi'
      generalize rtLo (prd l) D = lo at *
      generalize rtHi (prd l) D = hi at *
      generalize prd l / D = q at *
      generalize prd l % D = m at *
      simp (disch := first | omega | simp only [*, go_sem, ↓reduceIte, dropK_eq]) only [x31l3, go_sem, ↓reduceIte, dropK_eq, k1, k3, k6, k7, k17, k18, k19, d1, kq, kr, kt, callX_known (C := CW) (g := 9) rfl, ft_call (C := CW) (g := 9) rfl, callX_known (C := CW) (g := 54) rfl, ft_call (C := CW) (g := 54) rfl, callX_known (C := CW) (g := 58) rfl, ft_call (C := CW) (g := 58) rfl, callX_known (C := CW) (g := 59) rfl, ft_call (C := CW) (g := 59) rfl, callX_known (C := CW) (g := 60) rfl, ft_call (C := CW) (g := 60) rfl, e9, e58, e54, e59, e60', z1, z2, d2, w1]
      exact Ends_plain rfl rfl
    · have hu : rtUp (prd l) D = prd l / D + 1 := if_neg hz
      have hdm := Int.emod_add_mul_ediv (prd l) D
      have e60' := e60 (prd l / D + 1) (by unfold big; omega)
      rw [show RT.upI (prd l / D + 1) = rtHi (prd l) D by unfold rtHi; rw [hu]] at e60'
      have e10 : F10 [enc (prd l / D), W 0 1] = some (.tup [enc (prd l / D + 1), .bool false]) := F10_q (p := prd l / D) (q := 1) hqb (by decide) (by unfold big; omega)
      have d2 : decide (prd l % D = 0) = false := decide_eq_false hz
      clear hz hp hp0 hl e60 hm0 hm1 hq hqb hpb hpn hi' hu hdm
      generalize rtLo (prd l) D = lo at *
      generalize rtHi (prd l) D = hi at *
      generalize prd l / D + 1 = q1 at *
      generalize prd l / D = q at *
      generalize prd l % D = m at *
      simp (disch := first | omega | simp only [*, go_sem, ↓reduceIte, dropK_eq]) only [x31l3, go_sem, ↓reduceIte, dropK_eq, k1, k3, k6, k7, k17, k18, k19, d1, kq, kr, kt, callX_known (C := CW) (g := 9) rfl, ft_call (C := CW) (g := 9) rfl, callX_known (C := CW) (g := 10) rfl, ft_call (C := CW) (g := 10) rfl, callX_known (C := CW) (g := 54) rfl, ft_call (C := CW) (g := 54) rfl, callX_known (C := CW) (g := 58) rfl, ft_call (C := CW) (g := 58) rfl, callX_known (C := CW) (g := 59) rfl, ft_call (C := CW) (g := 59) rfl, callX_known (C := CW) (g := 60) rfl, ft_call (C := CW) (g := 60) rfl, e9, e10, e58, e54, e59, e60', z1, z2, d2, w1]
      exact Ends_plain rfl rfl
set_option maxRecDepth 10000
noncomputable def F29 : List AVal → Option AVal := pureF CW 1 29
theorem sound29 : Sound Tryz.prog 29 F29 := sound_self okW 1 29
theorem F29_eq {a b k : Int} (ha : -1000000 ≤ a) (hb : b ≤ 1000000) (hab : a < b) (hk : 1 ≤ k ∧ k ≤ 1000) : F29 [.bool true, .int .i64 a, .int .i64 b, .int .i64 k] = some (.tup []) := by
  have d1 := decide_eq_true ha
  have d2 := decide_eq_true hb
  have d3 := decide_eq_true hab
  have d4 := decide_eq_true hk.1
  have d5 := decide_eq_true hk.2
  have e1 := F54_true (e := 1)
  have e3 := F54_true (e := 3)
  clear ha hb hab hk
  unfold F29
  refine pureF_of (x := x29) rfl rfl ?_
  rw [x29_eq.1, x29_eq.2.1]
  simp (disch := first | omega | simp only [*, go_sem, ↓reduceIte, dropK_eq]) only [x29b, go_sem, ↓reduceIte, dropK_eq, callX_known (C := CW) (g := 54) rfl, ft_call (C := CW) (g := 54) rfl, d1, d2, d3, d4, d5, e1, e3]
  exact Ends_plain rfl rfl
structure StG (t : Stt) (S : Int) : Prop where
  n : 0 ≤ t.n ∧ t.n ≤ 100
  s : -10000000 ≤ t.s ∧ t.s ≤ 10000000
  Sb : 0 ≤ S ∧ S ≤ 100000000000000
  e30 : F30 [StK t] = some (.bool true)
  e61 : t.n ≠ 0 → F61 [StK t] = some (.tup [enc S, .int .i64 0])
theorem sqL_c {l : List Int} (h : ∀ x ∈ l, -100000 ≤ x ∧ x ≤ 100000) : (-(l.length * 100000 : Int) ≤ sumL l ∧ sumL l ≤ l.length * 100000) ∧ sqL l ≤ l.length * 10000000000 := by
  induction l using snoc_ind with
  | h0 => decide
  | hs l x ih =>
    have h1 := h x (by simp)
    obtain ⟨⟨i1, i2⟩, i3⟩ := ih (fun y hy => h y (by simp [hy]))
    have h2 := sq_bnd (x := x) (m := 100000) h1
    rw [sqL_snoc, sumL_snoc, List.length_append, List.length_cons, List.length_nil]
    refine ⟨⟨?_, ?_⟩, ?_⟩ <;> omega
theorem stG_of {l : List Int} (h : ∀ x ∈ l, -100000 ≤ x ∧ x ≤ 100000) (hl : l.length ≤ 100) : StG (ofL l) (sprd (ofL l)) := by
  have hin : ∀ x ∈ l, inM x := fun x hx => by have := h x hx; unfold inM; omega
  obtain ⟨h1, h2, h3⟩ := ofL_eq (l := l)
  obtain ⟨⟨i1, i2⟩, i3⟩ := sqL_c h
  have h0 := ofL_sprd l
  refine ⟨by rw [h1]; omega, by rw [h2]; omega, ⟨h0, ?_⟩, F30_eq hin (by omega), fun hn => F61_eq hin (by omega) (fun e => hn (by rw [h1, e]; rfl))⟩
  unfold sprd
  rw [h1, h2, h3]
  have h4 := (sq_bnd (x := sumL l) (m := max (sumL l) (-(sumL l))) (by omega)).1
  have h5 : (l.length : Int) * sqL l ≤ 100 * 1000000000000 := Int.mul_le_mul (by omega) (by omega) (by have := (ofL_bnd hin (by omega)).2.1; exact this) (by decide)
  omega
noncomputable def F32 : List AVal → Option AVal := pureF CW 1 32
theorem sound32 : Sound Tryz.prog 32 F32 := sound_self okW 1 32
theorem F32_eq {t : Stt} {S : Int} (h : StG t S) (hn : 2 ≤ t.n) : F32 [StK t] = some (enc S) := by
  have e61 := h.e61 (by omega)
  have hn2 := h.n.2
  have d1 := decide_eq_true hn
  have d2 : decide (t.n ≤ 1000) = true := decide_eq_true (by omega)
  have e12 := F54_true (e := 12)
  have e2 := F54_true (e := 2)
  clear h hn hn2
  unfold F32
  refine pureF_of (x := x32) rfl rfl ?_
  rw [x32_eq.1, x32_eq.2.1]
  simp (disch := first | omega | simp only [*, go_sem, ↓reduceIte, dropK_eq]) only [x32b, go_sem, ↓reduceIte, dropK_eq, callX_known (C := CW) (g := 54) rfl, ft_call (C := CW) (g := 54) rfl, callX_known (C := CW) (g := 61) rfl, ft_call (C := CW) (g := 61) rfl, d1, d2, e12, e2, e61]
  exact Ends_plain rfl rfl
noncomputable def CV : Cfg := ((CW.add 29 F29).add 31 F31).add 32 F32
theorem okV : CfgOk Tryz.prog CV := ((okW.add sound29).add sound31).add sound32
theorem F31_l {s b : Int} {l : List Int} (hs : 0 ≤ s ∧ s < big) (hb : U b) (hl : ∀ x ∈ l, U x) (hll : l.length ≤ 100) (hp : ∀ i, prd (l.take i) ≤ 1000000000000000000000000000000000000) (hd : 0 < s * b ∧ s * b < 18446744073709551616) {r : Int × Int}
    (hr : r = (rtLo (prd l) (s * b), rtHi (prd l) (s * b))) : F31 [enc s, .int .u64 b, .slc 1 (u64s l)] = some (.agg [.int .i64 r.1, .int .i64 r.2]) := by
  rw [hr]; exact F31_eq hs hb hl hll hp hd
def ppL (w n k : Int) : List Int := [w, w, n, n - 1, k, k]
def ppkL (f n k : Int) : List Int := [f, f, n - 1, k, k]
theorem mul_b {a b m k : Int} (ha : 0 ≤ a ∧ a ≤ m) (hb : 0 ≤ b ∧ b ≤ k) : 0 ≤ a * b ∧ a * b ≤ m * k := ⟨Int.mul_nonneg ha.1 hb.1, Int.mul_le_mul ha.2 hb.2 hb.1 (by omega)⟩
theorem ppL_b {w n k : Int} (hw : 0 ≤ w ∧ w ≤ 3000000) (hn : 1 ≤ n ∧ n ≤ 1000) (hk : 0 ≤ k ∧ k ≤ 1000) : (∀ x ∈ ppL w n k, U x) ∧ ∀ i, prd ((ppL w n k).take i) ≤ 1000000000000000000000000000000000000 := by
  refine ⟨?_, ?_⟩
  · intro x hx
    simp only [ppL, List.mem_cons, List.not_mem_nil, or_false] at hx
    unfold U
    rcases hx with rfl | rfl | rfl | rfl | rfl | rfl <;> omega
  · have h1 := mul_b hw hw
    have h2 := mul_b h1 (show 0 ≤ n ∧ n ≤ 1000 by omega)
    have h3 := mul_b h2 (show 0 ≤ n - 1 ∧ n - 1 ≤ 1000 by omega)
    have h4 := mul_b h3 hk
    have h5 := mul_b h4 hk
    intro i
    rcases i with _ | _ | _ | _ | _ | _ | i
    · show prd [] ≤ _; decide
    · simp only [ppL, List.take_succ_cons, List.take_zero, prd, List.foldl_cons, List.foldl_nil, Int.one_mul]; omega
    · simp only [ppL, List.take_succ_cons, List.take_zero, prd, List.foldl_cons, List.foldl_nil, Int.one_mul]; omega
    · simp only [ppL, List.take_succ_cons, List.take_zero, prd, List.foldl_cons, List.foldl_nil, Int.one_mul]; omega
    · simp only [ppL, List.take_succ_cons, List.take_zero, prd, List.foldl_cons, List.foldl_nil, Int.one_mul]; omega
    · simp only [ppL, List.take_succ_cons, List.take_zero, prd, List.foldl_cons, List.foldl_nil, Int.one_mul]; omega
    · simp only [ppL, List.take_succ_cons, List.take_nil, prd, List.foldl_cons, List.foldl_nil, Int.one_mul]; omega
theorem ppkL_b {w n k : Int} (hw : 0 ≤ w ∧ w ≤ 3000000000) (hn : 1 ≤ n ∧ n ≤ 1000) (hk : 0 ≤ k ∧ k ≤ 1000) : (∀ x ∈ ppkL w n k, U x) ∧ ∀ i, prd ((ppkL w n k).take i) ≤ 1000000000000000000000000000000000000 := by
  refine ⟨?_, ?_⟩
  · intro x hx
    simp only [ppkL, List.mem_cons, List.not_mem_nil, or_false] at hx
    unfold U
    rcases hx with rfl | rfl | rfl | rfl | rfl <;> omega
  · have h1 := mul_b hw hw
    have h3 := mul_b h1 (show 0 ≤ n - 1 ∧ n - 1 ≤ 1000 by omega)
    have h4 := mul_b h3 hk
    have h5 := mul_b h4 hk
    intro i
    rcases i with _ | _ | _ | _ | _ | i
    · show prd [] ≤ _; decide
    · simp only [ppkL, List.take_succ_cons, List.take_zero, prd, List.foldl_cons, List.foldl_nil, Int.one_mul]; omega
    · simp only [ppkL, List.take_succ_cons, List.take_zero, prd, List.foldl_cons, List.foldl_nil, Int.one_mul]; omega
    · simp only [ppkL, List.take_succ_cons, List.take_zero, prd, List.foldl_cons, List.foldl_nil, Int.one_mul]; omega
    · simp only [ppkL, List.take_succ_cons, List.take_zero, prd, List.foldl_cons, List.foldl_nil, Int.one_mul]; omega
    · simp only [ppkL, List.take_succ_cons, List.take_nil, prd, List.foldl_cons, List.foldl_nil, Int.one_mul]; omega
def ppA (S w n k : Int) : Int × Int := (rtLo (prd (ppL w n k)) (S * 36), rtHi (prd (ppL w n k)) (S * 36))
noncomputable def F28 : List AVal → Option AVal := pureF CV 1 28
theorem sound28 : Sound Tryz.prog 28 F28 := sound_self okV 1 28
abbrev p1 (n : Int) : AVal := .pvo [.int .i64 n] 0
theorem F28_eq {t : Stt} {S a b k : Int} (h : StG t S) (hn : 2 ≤ t.n) (hS : S ≠ 0) (ha : -1000000 ≤ a) (hb : b ≤ 1000000) (hab : a < b) (hk : 1 ≤ k ∧ k ≤ 1000) :
    F28 [.pvo (StC t) 0, p1 a, p1 b, p1 k] = some (.agg [.int .i64 (ppA S (b - a) t.n k).1, .int .i64 (ppA S (b - a) t.n k).2]) := by
  have e30 := h.e30
  have e29 := F29_eq ha hb hab hk
  have e32 := F32_eq h hn
  have hn0 := h.n
  have hS0 := h.Sb
  obtain ⟨l1, l2⟩ := ppL_b (w := b - a) (n := t.n) (k := k) (by omega) (by omega) (by omega)
  have e31 : F31 [enc S, .int .u64 36, .slc 1 [.int .u64 (b - a), .int .u64 (b - a), .int .u64 t.n, .int .u64 (t.n - 1), .int .u64 k, .int .u64 k]] = _ := F31_l (s := S) (b := 36) (l := ppL (b - a) t.n k) (by unfold big; omega) (by unfold U; omega) l1 (by simp [ppL]) l2 (by omega) (r := ppA S (b - a) t.n k) rfl
  have m1 : mnxA true (.int .i64 t.n) [.int .i64 1] = some (.int .i64 t.n) := by rw [mnx_max, Int.max_eq_left (by omega)]
  have w1 : (b - a) % 18446744073709551616 = b - a := Int.emod_eq_of_lt (by omega) (by omega)
  have w2 : k % 18446744073709551616 = k := Int.emod_eq_of_lt (by omega) (by omega)
  have w3 : t.n % 18446744073709551616 = t.n := Int.emod_eq_of_lt (by omega) (by omega)
  have w4 : (t.n - 1) % 18446744073709551616 = t.n - 1 := Int.emod_eq_of_lt (by omega) (by omega)
  generalize ppA S (b - a) t.n k = r at *
  clear h l1 l2 hS
  unfold F28
  refine pureF_of (x := x28) rfl rfl ?_
  rw [x28_eq.1, x28_eq.2.1]
  simp (disch := first | omega | simp only [*, go_sem, ↓reduceIte, dropK_eq]) only [x28b, go_sem, ↓reduceIte, dropK_eq, callX_known (C := CV) (g := 29) rfl, ft_call (C := CV) (g := 29) rfl, callX_known (C := CV) (g := 30) rfl, ft_call (C := CV) (g := 30) rfl, callX_known (C := CV) (g := 32) rfl, ft_call (C := CV) (g := 32) rfl, callX_names (C := CV) (g := 31) rfl, ftC_names (C := CV) (g := 31) rfl, e30, e29, e32, e31, m1, w1, w2, w3, w4]
  exact Ends_plain rfl rfl
def nearA (a b s n : Int) : Int := min (b * n - s) (s - a * n)
def ppkA (S f n k : Int) : Int × Int := (rtLo (prd (ppkL f n k)) (S * (9 * n)), rtHi (prd (ppkL f n k)) (S * (9 * n)))
def ppkR (S a b s n k : Int) : Int × Int := if nearA a b s n < 0 then (-(ppkA S (-(nearA a b s n)) n k).2, -(ppkA S (-(nearA a b s n)) n k).1) else ppkA S (nearA a b s n) n k
noncomputable def F33 : List AVal → Option AVal := pureF CV 1 33
theorem sound33 : Sound Tryz.prog 33 F33 := sound_self okV 1 33
theorem near_b {a b s n : Int} (hn : 0 ≤ n ∧ n ≤ 100) (hs : -10000000 ≤ s ∧ s ≤ 10000000) (ha : -1000000 ≤ a) (hb : b ≤ 1000000) (hab : a < b) : (-100000000 ≤ a * n ∧ a * n ≤ 100000000) ∧ (-100000000 ≤ b * n ∧ b * n ≤ 100000000) ∧ -200000000 ≤ nearA a b s n ∧ nearA a b s n ≤ 200000000 := by
  have h1 : -1000000 * n ≤ a * n := Int.mul_le_mul_of_nonneg_right ha (by omega)
  have h2 : a * n ≤ 1000000 * n := Int.mul_le_mul_of_nonneg_right (by omega) (by omega)
  have h3 : -1000000 * n ≤ b * n := Int.mul_le_mul_of_nonneg_right (by omega) (by omega)
  have h4 : b * n ≤ 1000000 * n := Int.mul_le_mul_of_nonneg_right hb (by omega)
  unfold nearA
  omega
theorem ppkA_b {S f n k : Int} (hS : 0 < S ∧ S ≤ 100000000000000) (hf : 0 ≤ f ∧ f ≤ 3000000000) (hn : 2 ≤ n ∧ n ≤ 100) (hk : 1 ≤ k ∧ k ≤ 1000) :
    F31 [enc S, .int .u64 (9 * n), .slc 1 [.int .u64 f, .int .u64 f, .int .u64 (n - 1), .int .u64 k, .int .u64 k]] = some (.agg [.int .i64 (ppkA S f n k).1, .int .i64 (ppkA S f n k).2]) ∧ (0 ≤ (ppkA S f n k).1 ∧ (ppkA S f n k).1 ≤ 1000000000000000000) ∧ (0 ≤ (ppkA S f n k).2 ∧ (ppkA S f n k).2 ≤ 1000000000000000000) := by
  obtain ⟨l1, l2⟩ := ppkL_b (w := f) (n := n) (k := k) hf (by omega) (by omega)
  have h1 : S * (9 * n) ≤ 100000000000000 * 900 := Int.mul_le_mul hS.2 (by omega) (by omega) (by decide)
  have h2 : 0 < S * (9 * n) := Int.mul_pos hS.1 (by omega)
  refine ⟨F31_l (s := S) (b := 9 * n) (l := ppkL f n k) (by unfold big; omega) (by unfold U; omega) l1 (by simp [ppkL]) l2 ⟨h2, by omega⟩ (r := ppkA S f n k) rfl, ?_⟩
  have h3 : 0 ≤ prd (ppkL f n k) := by
    simp only [ppkL, prd, List.foldl_cons, List.foldl_nil, Int.one_mul]
    exact Int.mul_nonneg (Int.mul_nonneg (Int.mul_nonneg (Int.mul_nonneg hf.1 hf.1) (by omega)) (by omega)) (by omega)
  have h4 := l2 5
  simp only [ppkL, List.take_succ_cons, List.take_zero] at h4
  exact rt_bnd ⟨h3, h4⟩ h2
theorem F33_eq {t : Stt} {S a b k : Int} (h : StG t S) (hn : 2 ≤ t.n) (hS : S ≠ 0) (ha : -1000000 ≤ a) (hb : b ≤ 1000000) (hab : a < b) (hk : 1 ≤ k ∧ k ≤ 1000) :
    F33 [.pvo (StC t) 0, p1 a, p1 b, p1 k] = some (.agg [.int .i64 (ppkR S a b t.s t.n k).1, .int .i64 (ppkR S a b t.s t.n k).2]) := by
  have e30 := h.e30
  have e29 := F29_eq ha hb hab hk
  have e32 := F32_eq h hn
  have hn0 := h.n
  have hs0 := h.s
  have hS0 := h.Sb
  obtain ⟨⟨q1, q2⟩, ⟨q3, q4⟩, q5, q6⟩ := near_b (s := t.s) hn0 hs0 ha hb hab
  have m1 : mnxA true (.int .i64 t.n) [.int .i64 1] = some (.int .i64 t.n) := by rw [mnx_max, Int.max_eq_left (by omega)]
  have m2 : mnxA false (.int .i64 (b * t.n - t.s)) [.int .i64 (t.s - a * t.n)] = some (.int .i64 (nearA a b t.s t.n)) := mnx_min
  have w2 : k % 18446744073709551616 = k := Int.emod_eq_of_lt (by omega) (by omega)
  have w3 : t.n % 18446744073709551616 = t.n := Int.emod_eq_of_lt (by omega) (by omega)
  have w4 : (t.n - 1) % 18446744073709551616 = t.n - 1 := Int.emod_eq_of_lt (by omega) (by omega)
  have w5 : 9 * t.n % 18446744073709551616 = 9 * t.n := Int.emod_eq_of_lt (by omega) (by omega)
  unfold ppkR
  generalize nearA a b t.s t.n = nr at *
  have m3 : mnxA true (.int .i64 nr) [.int .i64 (0 - nr)] = some (.int .i64 (max nr (-nr))) := by rw [mnx_max, Int.zero_sub]
  unfold F33
  refine pureF_of (x := x33) rfl rfl ?_
  rw [x33_eq.1, x33_eq.2.1]
  by_cases hneg : nr < 0
  · have d1 := decide_eq_true hneg
    rw [if_pos hneg]
    obtain ⟨e31, ⟨r1, r2⟩, r3, r4⟩ := ppkA_b (S := S) (f := -nr) (n := t.n) (k := k) (by omega) (by omega) (by omega) hk
    rw [Int.max_eq_right (by omega)] at m3
    have w1 : -nr % 18446744073709551616 = -nr := Int.emod_eq_of_lt (by omega) (by omega)
    generalize (ppkA S (-nr) t.n k).1 = lo at *
    generalize (ppkA S (-nr) t.n k).2 = hi at *
    clear h hS hneg
    simp (disch := first | omega | simp only [*, go_sem, ↓reduceIte, dropK_eq]) only [x33b, go_sem, ↓reduceIte, dropK_eq, callX_known (C := CV) (g := 29) rfl, ft_call (C := CV) (g := 29) rfl, callX_known (C := CV) (g := 30) rfl, ft_call (C := CV) (g := 30) rfl, callX_known (C := CV) (g := 32) rfl, ft_call (C := CV) (g := 32) rfl, callX_names (C := CV) (g := 31) rfl, ftC_names (C := CV) (g := 31) rfl, e30, e29, e32, e31, m1, m2, m3, w1, w2, w3, w4, w5, d1]
    exact Ends_plain rfl (by simp only [Int.zero_sub])
  · have d1 := decide_eq_false hneg
    rw [if_neg hneg]
    obtain ⟨e31, ⟨r1, r2⟩, r3, r4⟩ := ppkA_b (S := S) (f := nr) (n := t.n) (k := k) (by omega) (by omega) (by omega) hk
    rw [Int.max_eq_left (by omega)] at m3
    have w1 : nr % 18446744073709551616 = nr := Int.emod_eq_of_lt (by omega) (by omega)
    generalize (ppkA S nr t.n k).1 = lo at *
    generalize (ppkA S nr t.n k).2 = hi at *
    clear h hS hneg
    simp (disch := first | omega | simp only [*, go_sem, ↓reduceIte, dropK_eq]) only [x33b, go_sem, ↓reduceIte, dropK_eq, callX_known (C := CV) (g := 29) rfl, ft_call (C := CV) (g := 29) rfl, callX_known (C := CV) (g := 30) rfl, ft_call (C := CV) (g := 30) rfl, callX_known (C := CV) (g := 32) rfl, ft_call (C := CV) (g := 32) rfl, callX_names (C := CV) (g := 31) rfl, ftC_names (C := CV) (g := 31) rfl, e30, e29, e32, e31, m1, m2, m3, w1, w2, w3, w4, w5, d1]
    exact Ends_plain rfl rfl
end Go.Proofs.YtkonpbcnekcjjaaGreatDoor.DV
namespace Go.Xec
open Go
def SoundP (P : Program) (g : FuncId) (G : List AVal → Option Value) : Prop :=
  ∀ as0 pv, G as0 = some pv → ∀ (w : World) (S : Nat → Prop) (vs : List Value), (∀ b, S b → b < w.heap.size) → Laid P w → VL (ctx0 w S) as0 vs →
    (callFunc g vs.toArray).run P w = .ok (.enter g vs.toArray) w ∧ Calls P g vs.toArray w fun e w' => e = .panicked [{ v := pv, recovered := false }] ∧ w.heap.size ≤ w'.heap.size ∧ (∀ b, b < w.heap.size → w'.heap[b]? = w.heap[b]?) ∧ SameEnv w w'
def KpB (B : Nat) (w w' : World) : Prop := w.heap.size ≤ w'.heap.size ∧ (∀ b, b < B → w'.heap[b]? = w.heap[b]?) ∧ SameEnv w w'
theorem KpB.step {B : Nat} {x y : Ctx} {w' : World} (h : Step B x y) (h' : KpB B y.w w') : KpB B x.w w' :=
  ⟨Nat.le_trans h.size h'.1, fun b hb => (h'.2.1 b hb).trans (h.below b hb), h.env.trans h'.2.2⟩
abbrev PanQ (B : Nat) (w : World) (pv : Value) : Exit → Act → World → Prop := fun e a' w' => e = .panic [{ v := pv, recovered := false }] ∧ a'.defers = [] ∧ KpB B w w'
section
variable (P : Program) (C : Cfg) (inl : Inl) (fid : Nat) (pv : Value)
def Pn (xc : XCode) (st : St) : Prop :=
  ∀ (nt B : Nat) (S0 : Base) (c : Code) (x : Ctx) (a : Act), Laid P S0.w0 → InlOk P B S0 inl → chkCode P nt c xc = true → StOk nt B S0 st x a → c.wp P (PanQ B x.w pv) a x.w
def PCall (f : XArg) (as0 : List XArg) (st : St) : Prop :=
  ∃ g vs vs' ks G, target (arg st.tm f) (as0.map (arg st.tm)) = some (g, vs) ∧ (lendL freeze vs).run st.hp = some (vs', ks) ∧ SoundP P g G ∧ G vs' = some pv
end
section
variable {P : Program} {C : Cfg} {inl : Inl} {fid : Nat} {pv : Value}
theorem Pn_seq (ok : CfgOk P C) {a b : XCode} {st : St} (h : Ev (C := C) (inl := inl) fid a st fun o s => Nx o (fun _ => Pn P inl pv b s) (fun _ => False)) : Pn P inl pv (.seq a b) st := by
  intro nt B S0 c x act hL hin hc hst
  cases c <;> simp only [chkCode, Bool.false_eq_true] at hc
  rename_i c1 c2
  simp only [Bool.and_eq_true] at hc
  unfold Ev Bd at h
  obtain ⟨⟨o, st1⟩, h1, h2⟩ := h
  refine wp_seq (wp_mono (exec_wp ok hin hL a c1 hc.1 st x act o st1 h1 hst) ?_)
  rintro e a' w' ⟨rfl, y, rfl, hy, hstp, hnc, hk⟩
  cases o with
  | nrm =>
    rw [Nx_nrm] at h2
    simp only [Out.conc, Exit.then]
    refine wp_mono (h2 nt B S0 c2 y a' hL hin hc.2 hy) ?_
    rintro e2 a2 w2 ⟨rfl, h3, h4⟩
    exact ⟨rfl, h3, KpB.step hstp h4⟩
  | ext i => rw [Nx_ext] at h2; exact h2.elim
  | ret => rw [Nx_ret] at h2; exact h2.elim
theorem Pn_left {a b : XCode} {st : St} (h : Pn P inl pv a st) : Pn P inl pv (.seq a b) st := by
  intro nt B S0 c x act hL hin hc hst
  cases c <;> simp only [chkCode, Bool.false_eq_true] at hc
  simp only [Bool.and_eq_true] at hc
  refine wp_seq (wp_mono (h nt B S0 _ x act hL hin hc.1 hst) ?_)
  rintro e2 a2 w2 ⟨rfl, h3, h4⟩
  exact ⟨rfl, h3, h4⟩
theorem VL_lent {B : Nat} {S0 : Base} {h : Heap} {nc : Nat} {x : Ctx} (hs : Sim B S0 h nc x) {as0 bs : List AVal} {us : List Value} {ks : List Key} (hl : VL x as0 us) (hln : (lendL freeze as0).run h = some (bs, ks)) :
    ∃ S : Nat → Prop, (∀ b, S b → b < x.w.heap.size) ∧ VL (ctx0 x.w S) bs us := by
  have hlt : ∀ b, x.S b → b < x.w.heap.size := by
    intro b hS
    rw [hs.S] at hS
    rcases hS with hS | ⟨_, h2, _⟩
    · have := hs.s0 _ hS; have := hs.sz; omega
    · exact h2
  let lent : Nat → Prop := fun b => ∃ k ∈ ks, ∃ blk oo, h k = some blk ∧ x.ρ k blk.gen = some (b, oo)
  let y0 : Ctx := { x with S := fun b => x.S b ∨ lent b }
  have g0 : Grow x y0 := ⟨fun b hb => .inl hb, fun _ _ => rfl, fun _ _ _ hp => hp, fun _ => Nat.le_refl _⟩
  obtain ⟨_, hbs, _⟩ := lendL_VL (lend_ok (y := y0) hs g0 rfl (KS := (· ∈ ks)) (fun k hk blk b oo hb hρ => .inr ⟨k, hk, blk, oo, hb, hρ⟩) freeze) hln (fun k hk => hk)
  refine ⟨fun b => x.S b ∨ lent b, ?_, hbs us hl⟩
  rintro b (hb | ⟨k, _, blk, oo, hk, hρ⟩)
  · exact hlt b hb
  · obtain ⟨b', o', h1, _, h2, _⟩ := hs.live k blk hk
    rw [hρ] at h1
    cases h1
    exact h2
theorem pcall_wp {nt B : Nat} {S0 : Base} {st : St} {x : Ctx} {a : Act} (hL : Laid P S0.w0) (hst : StOk nt B S0 st x a) {o : Oper} {f : XArg} {as0 : List XArg} (hc : chkOp P o.op (.call f as0) = true) (h : PCall P pv f as0 st) {K : Act → World → Prop} {Q : Exit → Act → World → Prop} (hQ : ∀ w', KpB B x.w w' → Q (.panic [{ v := pv, recovered := false }]) a w') :
    o.wp P a x.w K Q := by
  obtain ⟨c, f', ho, hcal, hf, hargs⟩ := chkCall hc
  obtain ⟨g, vs, vs', ks, G, h1, h2, h3, h4⟩ := h
  have hfv := hst.args f' f hf
  have hav := chkArgs_ok hst.args hargs
  unfold target at h1
  split at h1
  · rename_i g' first cap e1
    simp only [Option.some.injEq, Prod.mk.injEq] at h1
    obtain ⟨rfl, rfl⟩ := h1
    rw [e1] at hfv
    simp only [V] at hfv
    obtain ⟨fs, cs, hfe, hfs, hcs⟩ := hfv
    have hall : VL x (first ++ as0.map (arg st.tm) ++ cap) (fs ++ c.args.toList.map a.eval ++ cs) := (hfs.append hav).append hcs
    have hrun := run_call (P := P) (w := x.w) ho hcal hfe
    obtain ⟨S, hS, hvl⟩ := VL_lent hst.sim hall h2
    obtain ⟨q1, q2⟩ := h3 _ _ h4 x.w S _ hS (hL.keep fun b hb => hst.sim.inv.2.1 b (by have := hst.sim.inv.1; omega)) hvl
    unfold Oper.wp
    rw [hrun, q1, Oper.upon_enter]
    refine q2.mono ?_
    rintro e w' ⟨rfl, z1, z2, z3⟩
    exact hQ w' ⟨z1, fun b hb => z2 b (by have := hst.sim.sz; omega), z3⟩
  · cases h1
theorem getElem?_of_take {α : Type} {l : List α} {n j : Nat} {y : α} (h : (l.take n)[j]? = some y) : l[j]? = some y ∧ j < n := by
  rw [List.getElem?_take] at h
  split at h
  · exact ⟨h, by assumption⟩
  · cases h
theorem Pn_reg (ok : CfgOk P C) (n : Nat) {id : Nat} {xs : List XOper} {d : Option Nat} {f : XArg} {as0 : List XArg} {tm : Nat → AVal} {hp : Heap} {nc : Nat} (hn : xs[n]? = some ⟨d, none, .call f as0⟩)
    (h : Ro C inl fid id nc 0 (xs.take n) ⟨tm, hp, nc + 1⟩ fun s => PCall P pv f as0 s) : Pn P inl pv (.reg id xs none) ⟨tm, hp, nc⟩ := by
  intro nt B S0 c x a hL hin hc hst
  cases c <;> simp only [chkCode, Bool.false_eq_true] at hc
  rename_i id' ops dr
  simp only [Bool.and_eq_true, beq_iff_eq] at hc
  obtain ⟨⟨rfl, h2⟩, h3⟩ := hc
  cases dr with
  | true => cases h3
  | false =>
    obtain ⟨hlen, hops⟩ := opers_at h2
    simp only [Array.length_toList] at hlen
    have hnl : n < xs.length := by
      rcases Nat.lt_or_ge n xs.length with h' | h'
      · exact h'
      · rw [List.getElem?_eq_none h'] at hn; cases hn
    have hst1 : StOk nt B S0 ⟨tm, hp, nc + 1⟩ x a := ⟨hst.sim.more _ (Nat.le_succ _), hst.sz, hst.tm, hst.dfr⟩
    have hused : UsedOk x fid id' nc (fun j => j < 0) := fun k g p hp hk => absurd hk (Nat.ne_of_lt (hst.sim.dom k g p hp))
    unfold Ro Bd at h
    obtain ⟨stM, hr, hpc⟩ := h
    refine wp_region ?_
    rw [List.range_eq_range', hlen]

    have hgo : ∀ (m i : Nat) (st1 : St) (y : Ctx) (a1 : Act), i + m = n → runOps C inl fid id' nc i ((xs.take n).drop i) st1 = some stM → StOk nt B S0 st1 y a1 → nc < st1.nc → UsedOk y fid id' nc (· < i) → Step B x y →
        wpOps P ops (PanQ B x.w pv) (List.range' i (xs.length - i)) a1 y.w := by
      intro m
      induction m with
      | zero =>
        intro i st1 y a1 hi hr1 hy _ _ hstp
        obtain rfl : i = n := by omega
        rw [List.drop_of_length_le (by simp; omega)] at hr1
        simp only [runOps, Option.some.injEq] at hr1
        subst hr1
        obtain ⟨o, ho, hck⟩ := hops i _ hn
        have ho' : ops[i]? = some o := by simpa using ho
        have hw : Region.wanted o (yielded ops a1.tmps) = true := wanted_of hy hck (b := true) rfl
        unfold chkOper at hck
        simp only [Bool.and_eq_true] at hck
        rw [show xs.length - i = (xs.length - i - 1) + 1 by omega, List.range'_succ, wpOps_cons]
        unfold wpOp
        rw [ho']
        simp only [hw, if_true]
        exact .inl (pcall_wp (K := wpOps P ops (PanQ B x.w pv) (List.range' (i + 1) (xs.length - i - 1))) hL hy hck.2 hpc fun w' hk => ⟨rfl, hy.dfr, KpB.step hstp hk⟩)
      | succ m ih =>
        intro i st1 y a1 hi hr1 hy hnc hu hstp
        have hil : i < (xs.take n).length := by simp; omega
        rw [List.drop_eq_getElem_cons hil] at hr1
        simp only [runOps] at hr1
        cases h1 : stepO C inl (site fid id' i, nc) (xs.take n)[i] st1 with
        | none => rw [h1] at hr1; cases hr1
        | some st2 =>
          rw [h1] at hr1
          simp only [Option.bind_some] at hr1
          have hx : xs[i]? = some (xs.take n)[i] := (getElem?_of_take (List.getElem?_eq_getElem hil)).1
          obtain ⟨o, ho, hck⟩ := hops i _ hx
          rw [show xs.length - i = (xs.length - i - 1) + 1 by omega, List.range'_succ, wpOps_cons]
          refine step_wp ok hin hL (key := (site fid id' i, nc)) (by simpa using ho) hck hy hnc (hu.fresh (by omega)) h1 ?_
          intro a' z hz hzs hρ hnc2
          have := ih (i + 1) st2 z a' (by omega) hr1 hz (by omega) (hu.step hnc (fun j hj => by omega) (by omega) hρ) (hstp.trans hzs)
          rwa [show xs.length - (i + 1) = xs.length - i - 1 by omega] at this
    have := hgo n 0 _ x a (by omega) (by simpa using hr) hst1 (by simp) hused (Step.refl B x)
    simpa using this
theorem soundP_of (ok : CfgOk P C) (d : Nat) {f : FuncId} {xf : XFunc} {G : List AVal → Option Value} (hx : C.xf f = some xf) (hG : ∀ as0 pv, G as0 = some pv → as0.length = xf.np ∧ Pn P (inlD C d) pv xf.body ⟨tm0 as0, fun _ => none, 0⟩) : SoundP P f G := by
  intro as0 pv hg w S vs hS hL hl
  obtain ⟨hlen, hp⟩ := hG as0 pv hg
  obtain ⟨fn, hfn, hck⟩ := ok.xf f xf hx
  unfold chkF at hck
  simp only [Bool.and_eq_true, Bool.not_eq_true', beq_iff_eq, decide_eq_true_eq] at hck
  obtain ⟨⟨⟨⟨⟨hname, hnt⟩, hnp⟩, hle⟩, hres⟩, hbody⟩ := hck
  cases hb : fn.body with
  | none => rw [hb] at hbody; cases hbody
  | some c =>
    rw [hb] at hbody
    have hvl := hl.length
    refine ⟨by simp only [callFunc, Sem.run_bind, run_program, Result.andThen_ok, hfn, hname, hb]; simp, ?_⟩
    let x : Ctx := { w := w, S := mkS w.heap.size ⟨S, w⟩ (fun _ => none) w ρ0, ρ := ρ0 }
    have g0 : Grow (ctx0 w S) x := ⟨fun b hb => .inl hb, fun _ _ => rfl, fun _ _ _ hp => hp, fun _ => Nat.le_refl _⟩
    have hs : Sim w.heap.size ⟨S, w⟩ (fun _ => none) 0 x := ⟨hS, Nat.le_refl _, (fun k blk hk => by cases hk), (fun k k' blk blk' b o o' hk => by cases hk), rfl, (fun k g p hp => by cases hp), (fun k blk g p hk => by cases hk), ⟨rfl, fun _ _ => rfl, SameEnv.refl _⟩⟩
    have hl := VL_grow g0 _ _ hl
    have hst : StOk xf.nt w.heap.size ⟨S, w⟩ ⟨tm0 as0, fun _ => none, 0⟩ x { tmps := vs.toArray ++ Array.replicate (fn.ntmps - vs.toArray.size) undef, defers := [] } := by
      refine ⟨hs, ?_, ?_, rfl⟩
      · simp only [Array.size_append, List.size_toArray, Array.size_replicate]
        omega
      · intro t
        simp only [tm0]
        rw [Array.getD_eq_getD_getElem?]
        by_cases ht : t < as0.length
        · obtain ⟨u, hu, hvu⟩ := hl.get (List.getElem?_eq_getElem ht)
          rw [List.getElem?_eq_getElem ht]
          rw [Array.getElem?_append_left (by simp; omega)]
          have : vs.toArray[t]? = some u := by simpa using hu
          rw [this]
          exact hvu
        · rw [List.getElem?_eq_none (by omega)]
          simp only [Option.getD_none, V]
          rw [Array.getElem?_append_right (by simp; omega)]
          rw [Array.getElem?_replicate]
          split <;> rfl
    refine calls_of_wp hfn hb (wp_mono (hp xf.nt w.heap.size ⟨S, w⟩ c x _ hL (inl_ok (S0 := ⟨S, w⟩) ok hL d) hbody hst) ?_)
    rintro e a' w' ⟨rfl, h1, h2⟩
    exact ⟨h1, rfl, h2⟩
end
end Go.Xec
namespace Go.Proofs.YtkonpbcnekcjjaaGreatDoor.DV
open Go Go.Xec Go.RowKit
attribute [local go_sem] tm0 ne_eq not_false_eq_true List.length_append List.length_replicate List.replicate_succ List.replicate_zero Int.cast_ofNat_Int not_true_eq_false decide_true decide_false ite_self beq_self_eq_true Bool.true_beq Bool.false_beq Bool.not_true Bool.not_false
attribute [local go_sem_proc] Nat.reduceAdd Nat.reduceMul Nat.reduceSub Nat.reduceLeDiff Nat.reduceLT Nat.reduceEqDiff Int.reduceLT Int.reduceLE Int.reduceAdd Int.reduceSub Int.reduceMul Int.reduceToNat Int.reducePow Int.reduceNe Int.reduceMod Int.reduceDiv Int.reduceEq Nat.reducePow Int.reduceNeg
set_option maxRecDepth 10000
abbrev rfu (why : Int) : Value := .iface 120 (.agg #[.int .i64 why])
theorem must_calls (why : Int) (w : World) : Calls Tryz.prog 54 #[.bool false, .int .i64 why] w fun e w' => e = .panicked [{ v := rfu why, recovered := false }] ∧ w' = w := by
  go_enter Tryz.func54, Tryz.ntmps54
  go_wp2
  exact ⟨rfl, rfl, rfl⟩
def G54 : List AVal → Option Value
  | [.bool false, .int .i64 why] => some (rfu why)
  | _ => none
theorem soundP54 : SoundP Tryz.prog 54 G54 := by
  intro ys pv hg w S vs hS hL hl
  unfold G54 at hg
  split at hg
  · rename_i why
    cases hg
    simp only [VL, V] at hl
    obtain ⟨u1, _, rfl, rfl, u2, _, rfl, rfl, rfl⟩ := hl
    refine ⟨by simp only [callFunc, Sem.run_bind, run_program, Result.andThen_ok, Tryz.func54]; rfl, (must_calls why w).mono ?_⟩
    rintro e w' ⟨rfl, rfl⟩
    exact ⟨rfl, Nat.le_refl _, fun _ _ => rfl, SameEnv.refl _⟩
  · cases hg
theorem PCall_of {P : Program} {pv : Value} {f : XArg} {xs : List XArg} {st : St} {g : FuncId} {G : List AVal → Option Value} {vs : List AVal} (h : target (arg st.tm f) (xs.map (arg st.tm)) = some (g, vs)) (hl : plainL 64 vs = true) (hs : SoundP P g G) (hg : G vs = some pv) : PCall P pv f xs st :=
  ⟨g, vs, vs, [], G, h, lendL_plain st.hp vs 64 hl, hs, hg⟩
theorem PCall_names {P : Program} {pv : Value} {f : XArg} {xs : List XArg} {st : St} {g : FuncId} {G : List AVal → Option Value} {vs vs' : List AVal} {ks : List Key} (h : target (arg st.tm f) (xs.map (arg st.tm)) = some (g, vs)) (hl : lendXL 64 vs st.hp = some (vs', ks)) (hs : SoundP P g G) (hg : G vs' = some pv) : PCall P pv f xs st :=
  ⟨g, vs, vs', ks, G, h, hl, hs, hg⟩
def G32 : List AVal → Option Value
  | [.agg [.int .i64 n, .int .i64 s, .int .u64 h, .int .u64 l, .int .i64 a, .int .i64 b]] => if n < 2 then some (rfu 12) else none
  | _ => none
theorem soundP32 : SoundP Tryz.prog 32 G32 := soundP_of okV 0 (xf := x32) rfl (by
  intro ys pv hg
  unfold G32 at hg
  split at hg
  · rename_i n s h l a b
    split at hg
    · rename_i hn
      cases hg
      refine ⟨rfl, ?_⟩
      rw [x32_eq.1]
      have d1 : decide (2 ≤ n) = false := decide_eq_false (by omega)
      refine Pn_seq (fid := 32) okV ?_
      simp (disch := first | omega | simp only [*, go_sem, ↓reduceIte, dropK_eq]) only [go_sem, ↓reduceIte, dropK_eq]
      refine Pn_left (Pn_reg (fid := 32) okV 3 rfl ?_)
      simp (disch := first | omega | simp only [*, go_sem, ↓reduceIte, dropK_eq]) only [go_sem, ↓reduceIte, dropK_eq, d1]
      refine PCall_of (g := 54) (G := G54) (vs := [.bool false, .int .i64 12]) ?_ rfl soundP54 rfl
      simp (disch := first | omega | simp only [*, go_sem, ↓reduceIte, dropK_eq]) only [go_sem, ↓reduceIte, dropK_eq, target]
    · cases hg
  · cases hg)
set_option maxRecDepth 10000
def A31 (ys : List AVal) : Prop := ∃ b l, ys = [W 0 0, .int .u64 b, .slc 1 (u64s l)] ∧ U b ∧ (∀ x ∈ l, U x) ∧ l.length ≤ 100 ∧ ∀ i, prd (l.take i) ≤ 1000000000000000000000000000000000000
open Classical in
noncomputable def G31 (ys : List AVal) : Option Value := if A31 ys then some (rfu 6) else none
theorem F58_wz {a : Int} : F58 [enc a, W 0 0] = some (.tup [W 0 0, W 0 0, .int .i64 4]) := F58_zero
theorem F9_z {b : Int} (hb : U b) : F9 [W 0 0, W 0 b] = some (.tup [W 0 0, .bool false]) := by
  have h := F9_n (p := 0) (b := b) (by decide) hb (by rw [Int.zero_mul]; decide)
  rw [Int.zero_mul] at h
  exact h
set_option maxHeartbeats 1000000 in
theorem soundP31 : SoundP Tryz.prog 31 G31 := soundP_of okV 0 (xf := x31) rfl (by
  intro ys pv hg
  unfold G31 at hg
  split at hg
  · rename_i hx
    cases hg
    obtain ⟨b, l, rfl, hb, hl, hll, hp⟩ := hx
    refine ⟨rfl, ?_⟩
    rw [x31_eq.1]
    have hp0 : ∀ i, 0 ≤ prd (l.take i) := by
      intro i
      induction i with
      | zero => simp [prd]
      | succ i ih =>
        rcases Nat.lt_or_ge i l.length with h | h
        · rw [take_snoc h, prd_snoc]
          refine Int.mul_nonneg ih (hl _ ?_).1
          rw [List.getD_eq_getElem?_getD, List.getElem?_eq_getElem h]
          exact List.getElem_mem h
        · rw [List.take_of_length_le (by omega)]
          rwa [List.take_of_length_le (by omega)] at ih
    have hlenV : lenVA (.slc 1 (u64s l)) = some (.int .i64 l.length) := by simp [lenVA]
    refine Pn_seq (fid := 31) okV ?_
    simp (disch := first | omega | simp only [*, go_sem, ↓reduceIte, dropK_eq]) only [go_sem, ↓reduceIte, dropK_eq]
    refine Pn_seq (fid := 31) okV ?_
    simp (disch := first | omega | simp only [*, go_sem, ↓reduceIte, dropK_eq]) only [go_sem, ↓reduceIte, dropK_eq]
    refine Pn_seq (fid := 31) okV ?_
    simp (disch := first | omega | simp only [*, go_sem, ↓reduceIte, dropK_eq]) only [go_sem, ↓reduceIte, dropK_eq, hlenV]
    refine Ev_range (ti := 19) (len := l.length) (J := fun i tm hp nc => hp (31001001, 1) = some (.var [.int .u64 (prd (l.take i) / 18446744073709551616), .int .u64 (prd (l.take i) % 18446744073709551616)]) ∧ hp (31000000, 0) = some (.var [.int .u64 0, .int .u64 0])) (by omega) (by simp only [go_sem, ↓reduceIte, dropK_eq]) ?_ ?_
    · simp only [go_sem, ↓reduceIte, dropK_eq, List.take_zero, prd, List.foldl_nil]
    rintro i tm hp' nc hi' hc k19 ⟨kq, kr⟩
    have k1 := hc 1 rfl; have k3 := hc 3 rfl; have k7 := hc 7 rfl; have k17 := hc 17 rfl; have k18 := hc 18 rfl; simp only [go_sem, ↓reduceIte, dropK_eq] at k1 k3 k7 k17 k18
    rcases Nat.lt_or_ge i l.length with hlt | hge
    · have d1 : decide ((i : Int) < (l.length : Int)) = true := decide_eq_true (by omega)
      have ia := u64s_ia hlt
      have hx : U (l.getD i 0) := hl _ (by rw [List.getD_eq_getElem?_getD, List.getElem?_eq_getElem hlt]; exact List.getElem_mem hlt)
      have hsn : prd (l.take (i + 1)) = prd (l.take i) * l.getD i 0 := by rw [take_snoc hlt, prd_snoc]
      have hb1 := hp i
      have hb2 := hp (i + 1)
      have hb3 := hp0 i
      rw [hsn] at hb2
      have e9 := F9_n (p := prd (l.take i)) (b := l.getD i 0) ⟨hb3, by unfold big; omega⟩ hx (by unfold big; omega)
      rw [← hsn] at e9
      clear hp hp0 hsn hx hb1 hb2 hb3
      generalize l.getD i 0 = y at *
      generalize prd (l.take i) = p0 at *
      generalize prd (l.take (i + 1)) = p1 at *
      simp (disch := first | omega | simp only [*, go_sem, ↓reduceIte, dropK_eq]) only [x31l3, go_sem, ↓reduceIte, dropK_eq, k1, k3, k7, k17, k18, k19, d1, ia, kq, kr, callX_known (C := CV) (g := 9) rfl, ft_call (C := CV) (g := 9) rfl, e9]
      exact ⟨hlt, by simp⟩
    · obtain rfl : i = l.length := by omega
      have d1 : decide ((l.length : Int) < (l.length : Int)) = false := decide_eq_false (by omega)
      rw [List.take_length] at *
      have e9 := F9_z hb
      have e58 := F58_wz (a := prd l)
      generalize prd l = p at *
      simp (disch := first | omega | simp only [*, go_sem, ↓reduceIte, dropK_eq]) only [x31l3, go_sem, ↓reduceIte, dropK_eq, k1, k3, k7, k17, k18, k19, d1, kq, kr]
      refine Pn_seq (fid := 31) okV ?_
      simp (disch := first | omega | simp only [*, go_sem, ↓reduceIte, dropK_eq]) only [go_sem, ↓reduceIte, dropK_eq, k1, k3, k7, kq, kr, callX_known (C := CV) (g := 9) rfl, ft_call (C := CV) (g := 9) rfl, e9]
      refine Pn_seq (fid := 31) okV ?_
      simp (disch := first | omega | simp only [*, go_sem, ↓reduceIte, dropK_eq]) only [go_sem, ↓reduceIte, dropK_eq, k1, k3, k7, kq, kr, callX_known (C := CV) (g := 58) rfl, ft_call (C := CV) (g := 58) rfl, e58]
      refine Pn_left (Pn_reg (fid := 31) okV 2 rfl ?_)
      simp (disch := first | omega | simp only [*, go_sem, ↓reduceIte, dropK_eq]) only [go_sem, ↓reduceIte, dropK_eq]
      refine PCall_of (g := 54) (G := G54) (vs := [.bool false, .int .i64 6]) ?_ rfl soundP54 rfl
      simp (disch := first | omega | simp only [*, go_sem, ↓reduceIte, dropK_eq]) only [go_sem, ↓reduceIte, dropK_eq, target]
  · cases hg)
set_option maxRecDepth 10000
def Ask (t : Stt) (S a b k : Int) : Prop := StG t S ∧ -1000000 ≤ a ∧ b ≤ 1000000 ∧ a < b ∧ 1 ≤ k ∧ k ≤ 1000
abbrev askV (t : Stt) (a b k : Int) : List AVal := [.pvo (StC t) 0, p1 a, p1 b, p1 k]
def A28a (ys : List AVal) : Prop := ∃ t S a b k, ys = askV t a b k ∧ Ask t S a b k ∧ t.n < 2
def A28b (ys : List AVal) : Prop := ∃ t S a b k, ys = askV t a b k ∧ Ask t S a b k ∧ 2 ≤ t.n ∧ S = 0
open Classical in
noncomputable def G28 (ys : List AVal) : Option Value := if A28a ys then some (rfu 12) else if A28b ys then some (rfu 6) else none
theorem G32_few {t : Stt} (h : t.n < 2) : G32 [StK t] = some (rfu 12) := if_pos h
theorem F32_zero {t : Stt} (h : StG t 0) (hn : 2 ≤ t.n) : F32 [StK t] = some (W 0 0) := F32_eq h hn
theorem soundP28 : SoundP Tryz.prog 28 G28 := soundP_of okV 0 (xf := x28) rfl (by
  intro ys pv hg
  unfold G28 at hg
  split at hg
  · rename_i hx
    cases hg
    obtain ⟨t, S, a, b, k, rfl, hq, hn⟩ := hx
    refine ⟨rfl, ?_⟩
    rw [x28_eq.1]
    obtain ⟨h, ha, hb, hab, hk⟩ := hq
    have e30 := h.e30
    have e29 := F29_eq ha hb hab hk
    have hn0 := h.n
    have g32 := G32_few hn
    obtain ⟨m, hm⟩ : ∃ m, max t.n 1 = m := ⟨_, rfl⟩
    have m1 : mnxA true (.int .i64 t.n) [.int .i64 1] = some (.int .i64 m) := by rw [mnx_max, hm]
    have w3 : m % 18446744073709551616 = m := Int.emod_eq_of_lt (by omega) (by omega)
    clear h hm hn
    have w1 : (b - a) % 18446744073709551616 = b - a := Int.emod_eq_of_lt (by omega) (by omega)
    have w2 : k % 18446744073709551616 = k := Int.emod_eq_of_lt (by omega) (by omega)
    refine Pn_seq (fid := 28) okV ?_
    simp (disch := first | omega | simp only [*, go_sem, ↓reduceIte, dropK_eq]) only [go_sem, ↓reduceIte, dropK_eq]
    refine Pn_seq (fid := 28) okV ?_
    simp (disch := first | omega | simp only [*, go_sem, ↓reduceIte, dropK_eq]) only [go_sem, ↓reduceIte, dropK_eq, callX_known (C := CV) (g := 29) rfl, ft_call (C := CV) (g := 29) rfl, callX_known (C := CV) (g := 30) rfl, ft_call (C := CV) (g := 30) rfl, e29, e30]
    refine Pn_seq (fid := 28) okV ?_
    simp (disch := first | omega | simp only [*, go_sem, ↓reduceIte, dropK_eq]) only [go_sem, ↓reduceIte, dropK_eq, m1, w1, w2, w3]
    refine Pn_left (Pn_reg (fid := 28) okV 1 rfl ?_)
    simp (disch := first | omega | simp only [*, go_sem, ↓reduceIte, dropK_eq]) only [go_sem, ↓reduceIte, dropK_eq]
    refine PCall_of (g := 32) (G := G32) (vs := [StK t]) ?_ rfl soundP32 g32
    simp (disch := first | omega | simp only [*, go_sem, ↓reduceIte, dropK_eq]) only [go_sem, ↓reduceIte, dropK_eq, target]
  · split at hg
    · rename_i hx
      cases hg
      obtain ⟨t, S, a, b, k, rfl, hq, hn, rfl⟩ := hx
      refine ⟨rfl, ?_⟩
      rw [x28_eq.1]
      obtain ⟨h, ha, hb, hab, hk⟩ := hq
      have e30 := h.e30
      have e29 := F29_eq ha hb hab hk
      have hn0 := h.n
      have e32 := F32_zero h hn
      have m1 : mnxA true (.int .i64 t.n) [.int .i64 1] = some (.int .i64 t.n) := by rw [mnx_max, Int.max_eq_left (by omega)]
      have w3 : t.n % 18446744073709551616 = t.n := Int.emod_eq_of_lt (by omega) (by omega)
      have w4 : (t.n - 1) % 18446744073709551616 = t.n - 1 := Int.emod_eq_of_lt (by omega) (by omega)
      obtain ⟨l1, l2⟩ := ppL_b (w := b - a) (n := t.n) (k := k) (by omega) (by omega) (by omega)
      have g31 : G31 [W 0 0, .int .u64 36, .slc 1 [.int .u64 (b - a), .int .u64 (b - a), .int .u64 t.n, .int .u64 (t.n - 1), .int .u64 k, .int .u64 k]] = some (rfu 6) := if_pos ⟨36, ppL (b - a) t.n k, rfl, by decide, l1, by simp [ppL], l2⟩
      clear h l1 l2
      have w1 : (b - a) % 18446744073709551616 = b - a := Int.emod_eq_of_lt (by omega) (by omega)
      have w2 : k % 18446744073709551616 = k := Int.emod_eq_of_lt (by omega) (by omega)
      refine Pn_seq (fid := 28) okV ?_
      simp (disch := first | omega | simp only [*, go_sem, ↓reduceIte, dropK_eq]) only [go_sem, ↓reduceIte, dropK_eq]
      refine Pn_seq (fid := 28) okV ?_
      simp (disch := first | omega | simp only [*, go_sem, ↓reduceIte, dropK_eq]) only [go_sem, ↓reduceIte, dropK_eq, callX_known (C := CV) (g := 29) rfl, ft_call (C := CV) (g := 29) rfl, callX_known (C := CV) (g := 30) rfl, ft_call (C := CV) (g := 30) rfl, e29, e30]
      refine Pn_seq (fid := 28) okV ?_
      simp (disch := first | omega | simp only [*, go_sem, ↓reduceIte, dropK_eq]) only [go_sem, ↓reduceIte, dropK_eq, m1, w1, w2, w3]
      refine Pn_left (Pn_reg (fid := 28) okV 10 rfl ?_)
      simp (disch := first | omega | simp only [*, go_sem, ↓reduceIte, dropK_eq]) only [go_sem, ↓reduceIte, dropK_eq, callX_known (C := CV) (g := 32) rfl, ft_call (C := CV) (g := 32) rfl, e32, w4]
      refine PCall_names (g := 31) (G := G31) (vs := [W 0 0, .int .u64 36, .sl (28003009, 3) 0 1 0 6]) (ks := [(28003009, 3)]) ?_ ?_ soundP31 g31
      · simp (disch := first | omega | simp only [*, go_sem, ↓reduceIte, dropK_eq]) only [go_sem, ↓reduceIte, dropK_eq, target]
      · simp (disch := first | omega | simp only [*, go_sem, ↓reduceIte, dropK_eq]) only [go_sem, ↓reduceIte, dropK_eq]
    · cases hg)
open Classical in
noncomputable def G33 (ys : List AVal) : Option Value := if A28a ys then some (rfu 12) else if A28b ys then some (rfu 6) else none
theorem soundP33 : SoundP Tryz.prog 33 G33 := soundP_of okV 0 (xf := x33) rfl (by
  intro ys pv hg
  unfold G33 at hg
  split at hg
  · rename_i hx
    cases hg
    obtain ⟨t, S, a, b, k, rfl, hq, hn⟩ := hx
    refine ⟨rfl, ?_⟩
    rw [x33_eq.1]
    obtain ⟨h, ha, hb, hab, hk⟩ := hq
    have e30 := h.e30
    have e29 := F29_eq ha hb hab hk
    have hn0 := h.n
    have g32 := G32_few hn
    obtain ⟨m, hm⟩ : ∃ m, max t.n 1 = m := ⟨_, rfl⟩
    have m1 : mnxA true (.int .i64 t.n) [.int .i64 1] = some (.int .i64 m) := by rw [mnx_max, hm]
    have w3 : m % 18446744073709551616 = m := Int.emod_eq_of_lt (by omega) (by omega)
    clear hm hn
    have hs0 := h.s
    obtain ⟨⟨q1, q2⟩, ⟨q3, q4⟩, q5, q6⟩ := near_b (s := t.s) hn0 hs0 ha hb hab
    have m2 : mnxA false (.int .i64 (b * t.n - t.s)) [.int .i64 (t.s - a * t.n)] = some (.int .i64 (nearA a b t.s t.n)) := mnx_min
    generalize nearA a b t.s t.n = nr at *
    have hnr : 0 ≤ max nr (-nr) ∧ max nr (-nr) ≤ 200000000 := by omega
    have m3 : mnxA true (.int .i64 nr) [.int .i64 (0 - nr)] = some (.int .i64 (max nr (-nr))) := by rw [mnx_max, Int.zero_sub]
    generalize max nr (-nr) = f at *
    have w1 : f % 18446744073709551616 = f := Int.emod_eq_of_lt hnr.1 (by omega)
    have w2 : k % 18446744073709551616 = k := Int.emod_eq_of_lt (by omega) (by omega)
    clear h
    refine Pn_seq (fid := 33) okV ?_
    simp (disch := first | omega | simp only [*, go_sem, ↓reduceIte, dropK_eq]) only [go_sem, ↓reduceIte, dropK_eq]
    refine Pn_seq (fid := 33) okV ?_
    simp (disch := first | omega | simp only [*, go_sem, ↓reduceIte, dropK_eq]) only [go_sem, ↓reduceIte, dropK_eq, callX_known (C := CV) (g := 29) rfl, ft_call (C := CV) (g := 29) rfl, callX_known (C := CV) (g := 30) rfl, ft_call (C := CV) (g := 30) rfl, e29, e30]
    refine Pn_seq (fid := 33) okV ?_
    simp (disch := first | omega | simp only [*, go_sem, ↓reduceIte, dropK_eq]) only [go_sem, ↓reduceIte, dropK_eq, m2]
    refine Pn_seq (fid := 33) okV ?_
    simp (disch := first | omega | simp only [*, go_sem, ↓reduceIte, dropK_eq]) only [go_sem, ↓reduceIte, dropK_eq, m1, m3, w1, w2, w3]
    refine Pn_left (Pn_reg (fid := 33) okV 1 rfl ?_)
    simp (disch := first | omega | simp only [*, go_sem, ↓reduceIte, dropK_eq]) only [go_sem, ↓reduceIte, dropK_eq]
    refine PCall_of (g := 32) (G := G32) (vs := [StK t]) ?_ rfl soundP32 g32
    simp (disch := first | omega | simp only [*, go_sem, ↓reduceIte, dropK_eq]) only [go_sem, ↓reduceIte, dropK_eq, target]
  · split at hg
    · rename_i hx
      cases hg
      obtain ⟨t, S, a, b, k, rfl, hq, hn, rfl⟩ := hx
      refine ⟨rfl, ?_⟩
      rw [x33_eq.1]
      obtain ⟨h, ha, hb, hab, hk⟩ := hq
      have e30 := h.e30
      have e29 := F29_eq ha hb hab hk
      have hn0 := h.n
      have e32 := F32_zero h hn
      have m1 : mnxA true (.int .i64 t.n) [.int .i64 1] = some (.int .i64 t.n) := by rw [mnx_max, Int.max_eq_left (by omega)]
      have w3 : t.n % 18446744073709551616 = t.n := Int.emod_eq_of_lt (by omega) (by omega)
      have w4 : (t.n - 1) % 18446744073709551616 = t.n - 1 := Int.emod_eq_of_lt (by omega) (by omega)
      have w5 : 9 * t.n % 18446744073709551616 = 9 * t.n := Int.emod_eq_of_lt (by omega) (by omega)
      have hn1 := hn
      clear hn
      have hs0 := h.s
      obtain ⟨⟨q1, q2⟩, ⟨q3, q4⟩, q5, q6⟩ := near_b (s := t.s) hn0 hs0 ha hb hab
      have m2 : mnxA false (.int .i64 (b * t.n - t.s)) [.int .i64 (t.s - a * t.n)] = some (.int .i64 (nearA a b t.s t.n)) := mnx_min
      generalize nearA a b t.s t.n = nr at *
      have hnr : 0 ≤ max nr (-nr) ∧ max nr (-nr) ≤ 200000000 := by omega
      have m3 : mnxA true (.int .i64 nr) [.int .i64 (0 - nr)] = some (.int .i64 (max nr (-nr))) := by rw [mnx_max, Int.zero_sub]
      generalize max nr (-nr) = f at *
      have w1 : f % 18446744073709551616 = f := Int.emod_eq_of_lt hnr.1 (by omega)
      have w2 : k % 18446744073709551616 = k := Int.emod_eq_of_lt (by omega) (by omega)
      clear h
      refine Pn_seq (fid := 33) okV ?_
      simp (disch := first | omega | simp only [*, go_sem, ↓reduceIte, dropK_eq]) only [go_sem, ↓reduceIte, dropK_eq]
      refine Pn_seq (fid := 33) okV ?_
      simp (disch := first | omega | simp only [*, go_sem, ↓reduceIte, dropK_eq]) only [go_sem, ↓reduceIte, dropK_eq, callX_known (C := CV) (g := 29) rfl, ft_call (C := CV) (g := 29) rfl, callX_known (C := CV) (g := 30) rfl, ft_call (C := CV) (g := 30) rfl, e29, e30]
      refine Pn_seq (fid := 33) okV ?_
      simp (disch := first | omega | simp only [*, go_sem, ↓reduceIte, dropK_eq]) only [go_sem, ↓reduceIte, dropK_eq, m2]
      refine Pn_seq (fid := 33) okV ?_
      simp (disch := first | omega | simp only [*, go_sem, ↓reduceIte, dropK_eq]) only [go_sem, ↓reduceIte, dropK_eq, m1, m3, w1, w2, w3]
      obtain ⟨l1, l2⟩ := ppkL_b (w := f) (n := t.n) (k := k) (by omega) (by omega) (by omega)
      have g31 : G31 [W 0 0, .int .u64 (9 * t.n), .slc 1 [.int .u64 f, .int .u64 f, .int .u64 (t.n - 1), .int .u64 k, .int .u64 k]] = some (rfu 6) := if_pos ⟨9 * t.n, ppkL f t.n k, rfl, by unfold U; omega, l1, by simp [ppkL], l2⟩
      clear l1 l2
      refine Pn_left (Pn_reg (fid := 33) okV 11 rfl ?_)
      simp (disch := first | omega | simp only [*, go_sem, ↓reduceIte, dropK_eq]) only [go_sem, ↓reduceIte, dropK_eq, callX_known (C := CV) (g := 32) rfl, ft_call (C := CV) (g := 32) rfl, e32, w4, w5]
      refine PCall_names (g := 31) (G := G31) (vs := [W 0 0, .int .u64 (9 * t.n), .sl (33004010, 4) 0 1 0 5]) (ks := [(33004010, 4)]) ?_ ?_ soundP31 g31
      · simp (disch := first | omega | simp only [*, go_sem, ↓reduceIte, dropK_eq]) only [go_sem, ↓reduceIte, dropK_eq, target]
      · simp (disch := first | omega | simp only [*, go_sem, ↓reduceIte, dropK_eq]) only [go_sem, ↓reduceIte, dropK_eq]
    · cases hg)
end Go.Proofs.YtkonpbcnekcjjaaGreatDoor.DV
namespace Go.Proofs.YtkonpbcnekcjjaaGreatDoor
open Go Go.Xec
theorem cellsOf_fn (f : Fn) (a b : List AVal) : cellsOf (.fn f a b) = [.fn f a b] := rfl
theorem isSc_fn (f : Fn) (a b : List AVal) : isSc (.fn f a b) = true := rfl
theorem cellsOf_ifc (t : TypeId) (v : AVal) : cellsOf (.ifc t v) = [.ifc t v] := rfl
theorem isSc_ifc (t : TypeId) (v : AVal) : isSc (.ifc t v) = true := rfl
theorem cellsOf_mp (k : Key) : cellsOf (.mp k) = [.mp k] := rfl
theorem isSc_mp (k : Key) : isSc (.mp k) = true := rfl
theorem lendV_fn0 (d : Nat) (f : Fn) (hp : Heap) : lendV (d + 1) (.fn f [] []) hp = some (.fn f [] []) := by
  simp [lendV, lend, lendL, Rd.run, Rd.bind]
theorem iaAA_pvo (n es : Nat) (cs : List AVal) (o : Nat) (kd : IntKind) (j : Int) : iaAA n es (.pvo cs o) (.int kd j) = if 0 ≤ j ∧ j < n then some (.pvo cs (o + j.toNat * es)) else none := rfl
attribute [go_sem] iaAA_pvo cellsOf_fn isSc_fn cellsOf_ifc isSc_ifc cellsOf_mp isSc_mp lendV_fn0
end Go.Proofs.YtkonpbcnekcjjaaGreatDoor
namespace Go.Proofs.YtkonpbcnekcjjaaGreatDoor
open Go Go.Xec
attribute [local go_sem] tm0 ne_eq not_false_eq_true List.length_append List.length_replicate List.replicate_succ List.replicate_zero Int.cast_ofNat_Int not_true_eq_false decide_true decide_false ite_self beq_self_eq_true Bool.true_beq Bool.false_beq Bool.not_true Bool.not_false
attribute [local go_sem_proc] Nat.reduceAdd Nat.reduceMul Nat.reduceSub Nat.reduceLeDiff Nat.reduceLT Nat.reduceEqDiff Int.reduceLT Int.reduceLE Int.reduceAdd Int.reduceSub Int.reduceMul Int.reduceToNat Int.reducePow Int.reduceNe Int.reduceMod Int.reduceDiv Int.reduceEq Nat.reducePow Int.reduceNeg
set_option maxRecDepth 10000
noncomputable def F94 : List AVal → Option AVal := pureF C3 1 94
theorem sound94 : Sound Tryz.prog 94 F94 := sound_self ok3 1 94
theorem F94_eq {x : Int} (h : -9223372036854775808 ≤ x ∧ x ≤ 9223372036854775807) : F94 [.int .i64 x] = some (.int .u64 (x.natAbs : Int)) := by
  unfold F94
  refine pureF_of (x := x94) rfl rfl ?_
  rw [x94_eq.1, x94_eq.2.1]
  by_cases hx : x < 0
  · have d := decide_eq_true hx
    simp (disch := first | omega | simp only [go_sem, ↓reduceIte, dropK_eq]) only [x94b, go_sem, ↓reduceIte, dropK_eq, d]
    refine Ends_plain rfl ?_
    congr 1
    omega
  · have d := decide_eq_false hx
    simp (disch := first | omega | simp only [go_sem, ↓reduceIte, dropK_eq]) only [x94b, go_sem, ↓reduceIte, dropK_eq, d]
    refine Ends_plain rfl ?_
    congr 1
    omega
noncomputable def F81 : List AVal → Option AVal := pureF C3 1 81
theorem sound81 : Sound Tryz.prog 81 F81 := sound_self ok3 1 81
theorem F81_low {l y : Int} (hl : U l) (hy : 0 < y) (hy2 : y < 18446744073709551616) : F81 [.int .u64 0, .int .u64 l, .int .u64 y] = some (.tup [.int .u64 (l / y), .int .u64 (l % y)]) := by
  have d1 : decide (y = 0) = false := decide_eq_false (by omega)
  have d2 : decide (y ≤ 0) = false := decide_eq_false (by omega)
  have hq : l.tdiv y = l / y := Int.tdiv_eq_ediv_of_nonneg hl.1
  have hr : l.tmod y = l % y := Int.tmod_eq_emod_of_nonneg hl.1
  have hb : l / y ≤ l := Int.ediv_le_self y hl.1
  have hb0 : 0 ≤ l / y := Int.ediv_nonneg hl.1 (by omega)
  have w1 : l / y % 18446744073709551616 = l / y := by have := hl.2; omega
  have hy0 : y ≠ 0 := by omega
  unfold F81
  refine pureF_of (x := x81) rfl rfl ?_
  rw [x81_eq.1, x81_eq.2.1]
  simp (disch := first | omega | simp only [*, go_sem, ↓reduceIte, dropK_eq]) only [x81b, go_sem, ↓reduceIte, dropK_eq, d1, d2, hq, hr, w1]
  exact Ends_plain rfl rfl
noncomputable def C20 : Cfg := (C3.add 94 F94).add 81 F81
theorem ok20 : CfgOk Tryz.prog C20 := (ok3.add sound94).add sound81
noncomputable def F58 : List AVal → Option AVal := pureF C20 1 58
theorem sound58 : Sound Tryz.prog 58 F58 := sound_self ok20 1 58
theorem F58_low {l y : Int} (hl : U l) (hy : 0 < y) (hy2 : y < 18446744073709551616) : F58 [W 0 l, W 0 y] = some (.tup [W 0 (l / y), W 0 (l % y), .int .i64 0]) := by
  have e1 := F81_low (l := 0) (by decide) hy hy2
  have e2 := F81_low hl hy hy2
  have d1 : decide (y = 0) = false := decide_eq_false (by omega)
  rw [Int.zero_ediv, Int.zero_emod] at e1
  unfold F58
  refine pureF_of (x := x58) rfl rfl ?_
  rw [x58_eq.1, x58_eq.2.1]
  simp (disch := first | omega | simp only [*, go_sem, ↓reduceIte, dropK_eq]) only [x58b, go_sem, ↓reduceIte, dropK_eq, callX_known (C := C20) (g := 81) rfl, ft_call (C := C20) (g := 81) rfl, d1, e1, e2]
  exact Ends_plain rfl rfl
noncomputable def F95 : List AVal → Option AVal := pureF C3 1 95
theorem sound95 : Sound Tryz.prog 95 F95 := sound_self ok3 1 95
theorem F95_eq {l : Int} {b : Bool} (h : 0 ≤ l ∧ l ≤ 9223372036854775807) : F95 [W 0 l, .bool b] = some (.int .i64 (if b = true then -l else l)) := by
  have d1 : decide (9223372036854775808 < l) = false := decide_eq_false (by omega)
  have d2 : decide (9223372036854775807 < l) = false := decide_eq_false (by omega)
  have w1 : IntKind.i64.wrap l = l := wrap_i64 (by omega) (by omega)
  have w2 : IntKind.i64.wrap ((0 - l) % 18446744073709551616) = -l := by
    by_cases h0 : l = 0
    · subst h0; rfl
    · rw [show (0 - l) % 18446744073709551616 = 18446744073709551616 - l by omega]
      simp only [IntKind.wrap, IntKind.signed, IntKind.bits]
      simp
      omega
  unfold F95
  refine pureF_of (x := x95) rfl rfl ?_
  rw [x95_eq.1, x95_eq.2.1]
  cases b <;>
  · simp (disch := first | omega | simp only [*, go_sem, ↓reduceIte, dropK_eq]) only [x95b, go_sem, ↓reduceIte, dropK_eq, d1, d2, w1, w2]
    exact Ends_plain rfl rfl
abbrev LV (q r c : Int) (b : Bool) : AVal := .agg [.int .u64 0, .int .u64 q, .int .u64 0, .int .u64 r, .int .u64 0, .int .u64 c, .bool b]
noncomputable def F118 : List AVal → Option AVal := pureF C3 1 118
theorem sound118 : Sound Tryz.prog 118 F118 := sound_self ok3 1 118
theorem F118_eq {q r c : Int} {b : Bool} : F118 [LV q r c b] = some (.bool (b && !decide (r = 0))) := by
  unfold F118
  refine pureF_of (x := x118) rfl rfl ?_
  rw [x118_eq.1, x118_eq.2.1]
  cases b <;>
  · simp (disch := first | omega | simp only [*, go_sem, ↓reduceIte, dropK_eq]) only [x118b, go_sem, ↓reduceIte, dropK_eq]
    exact Ends_plain rfl rfl
noncomputable def F119 : List AVal → Option AVal := pureF C3 1 119
theorem sound119 : Sound Tryz.prog 119 F119 := sound_self ok3 1 119
theorem F119_eq {q r c : Int} {b : Bool} : F119 [LV q r c b] = some (.bool (!b && !decide (r = 0))) := by
  unfold F119
  refine pureF_of (x := x119) rfl rfl ?_
  rw [x119_eq.1, x119_eq.2.1]
  cases b <;>
  · simp (disch := first | omega | simp only [*, go_sem, ↓reduceIte, dropK_eq]) only [x119b, go_sem, ↓reduceIte, dropK_eq]
    exact Ends_plain rfl rfl
noncomputable def F91 : List AVal → Option AVal := pureF C3 1 91
theorem sound91 : Sound Tryz.prog 91 F91 := sound_self ok3 1 91
def mdFs : List AVal := [.fn (.func 118) [] [], .fn (.func 119) [] [], .fn (.func 120) [] []]
theorem F91_eq : F91 [] = some (.agg mdFs) := by
  unfold F91
  refine pureF_of (x := x91) rfl rfl ?_
  rw [x91_eq.1, x91_eq.2.1]
  simp (disch := first | omega | simp only [go_sem, ↓reduceIte, dropK_eq]) only [x91b, go_sem, ↓reduceIte, dropK_eq]
  rw [Ends_eq]
  simp (disch := first | omega | simp only [go_sem, ↓reduceIte, dropK_eq]) only [go_sem, ↓reduceIte, dropK_eq]
  rfl
noncomputable def C21 : Cfg := (((((C20.add 58 F58).add 95 F95).add 118 F118).add 119 F119).add 91 F91)
theorem ok21 : CfgOk Tryz.prog C21 := (((((ok20.add sound58).add sound95).add sound118).add sound119).add sound91)
def rnd (n c m : Int) : Int := if m = 0 then n / c else -((-n) / c)
noncomputable def F93 : List AVal → Option AVal := pureF C21 1 93
theorem sound93 : Sound Tryz.prog 93 F93 := sound_self ok21 1 93
theorem neg_pos_div {p c : Int} (hc : 0 < c) (hp : 0 ≤ p) : (-p) / c = -(p / c) - (if p % c = 0 then 0 else 1) := by
  have h1 := Int.emod_add_mul_ediv p c
  have h2 := Int.emod_nonneg p (by omega : c ≠ 0)
  have h3 := Int.emod_lt_of_pos p hc
  by_cases h : p % c = 0
  · rw [if_pos h, Int.neg_ediv_of_dvd (Int.dvd_of_emod_eq_zero h)]
    omega
  · rw [if_neg h]
    have e : c * (-(p / c) - 1) = -(c * (p / c)) - c := by rw [Int.mul_sub, Int.mul_neg]; omega
    exact ((Int.ediv_emod_unique (r := c - p % c) hc).2 ⟨by omega, by omega, by omega⟩).1
theorem rnd_eq {p c : Int} {s : Bool} (hc : 0 < c) (hp : 0 ≤ p) :
    rnd (if s = true then -p else p) c 0 = (if s = true then -(p / c + (if (s && !decide (p % c = 0)) = true then 1 else 0)) else p / c + (if (s && !decide (p % c = 0)) = true then 1 else 0)) ∧
    rnd (if s = true then -p else p) c 1 = (if s = true then -(p / c + (if (!s && !decide (p % c = 0)) = true then 1 else 0)) else p / c + (if (!s && !decide (p % c = 0)) = true then 1 else 0)) := by
  have h := neg_pos_div hc hp
  unfold rnd
  cases s
  · simp only [Bool.false_eq_true, if_false, if_true, Bool.false_and, Bool.not_false, Bool.true_and]
    refine ⟨by omega, ?_⟩
    rw [if_neg (by decide), h]
    by_cases h0 : p % c = 0
    · simp [h0]
    · simp [h0]; omega
  · simp only [if_true, Bool.true_and, Bool.not_true, Bool.false_and, Bool.false_eq_true, if_false, Int.neg_neg]
    refine ⟨?_, ?_⟩
    · rw [h]
      by_cases h0 : p % c = 0
      · simp [h0]
      · simp [h0]; omega
    · rw [if_neg (by decide)]; omega
theorem sgn_eq {a b : Int} (ha : ¬ a = 0) (hb : ¬ b = 0) : a * b = (if (decide (a < 0) != decide (b < 0)) = true then -((a.natAbs : Int) * (b.natAbs : Int)) else (a.natAbs : Int) * (b.natAbs : Int)) := by
  rcases Int.lt_or_gt_of_ne ha with h1 | h1 <;> rcases Int.lt_or_gt_of_ne hb with h2 | h2
  · have e1 : ((a.natAbs : Int)) = -a := by omega
    have e2 : ((b.natAbs : Int)) = -b := by omega
    rw [e1, e2, Int.neg_mul_neg]; simp [h1, h2]
  · have e1 : ((a.natAbs : Int)) = -a := by omega
    have e2 : ((b.natAbs : Int)) = b := by omega
    have h3 : ¬ b < 0 := by omega
    rw [e1, e2, Int.neg_mul, Int.neg_neg]; simp [h1, h3]
  · have e1 : ((a.natAbs : Int)) = a := by omega
    have e2 : ((b.natAbs : Int)) = -b := by omega
    have h3 : ¬ a < 0 := by omega
    rw [e1, e2, Int.mul_neg, Int.neg_neg]; simp [h3, h2]
  · have e1 : ((a.natAbs : Int)) = a := by omega
    have e2 : ((b.natAbs : Int)) = b := by omega
    have h3 : ¬ a < 0 := by omega
    have h4 : ¬ b < 0 := by omega
    rw [e1, e2]; simp [h3, h4]
theorem rnd_zero (c m : Int) : rnd 0 c m = 0 := by
  unfold rnd; split <;> simp
theorem F93_eq {a b c m : Int} (hc : 0 < c) (hc2 : c < 9223372036854775808) (ha : -9223372036854775808 ≤ a ∧ a ≤ 9223372036854775807) (hb : -9223372036854775808 ≤ b ∧ b ≤ 9223372036854775807)
    (hab : (a.natAbs : Int) * (b.natAbs : Int) ≤ 9223372036854775806) (hm : m = 0 ∨ m = 1) :
    F93 [.pvo [.int .i64 c] 0, .pvo [.int .i64 a] 0, .pvo [.int .i64 b] 0, .pvo mdFs 0, .pvo [.int .i64 m] 0] = some (.int .i64 (rnd (a * b) c m)) := by
  have e1 := F94_eq (x := c) (by omega)
  have e2 := F94_eq ha
  have e3 := F94_eq hb
  rw [show ((c.natAbs : Nat) : Int) = c by omega] at e1
  have hA : U (a.natAbs : Int) := by simp only [U]; omega
  have hB : U (b.natAbs : Int) := by simp only [U]; omega
  have e4 := F24_eq hA hB
  have hp0 : 0 ≤ (a.natAbs : Int) * (b.natAbs : Int) := Int.mul_nonneg hA.1 hB.1
  have hcn : decide (c < 0) = false := decide_eq_false (by omega)
  have hz : a = 0 ∨ b = 0 ∨ (¬ a = 0 ∧ ¬ b = 0) := by omega
  have hsg := fun h1 h2 => sgn_eq (a := a) (b := b) h1 h2
  have hz0 : a = 0 ∨ b = 0 → a * b = 0 := by rintro (rfl | rfl) <;> simp
  generalize a * b = n at *
  generalize (a.natAbs : Int) * (b.natAbs : Int) = p at *
  have e5 := F58_low (l := p) (y := c) (by simp only [U]; omega) hc (by omega)
  have hq : p / c ≤ p := Int.ediv_le_self c hp0
  have hq0 : 0 ≤ p / c := Int.ediv_nonneg hp0 (by omega)
  simp only [enc] at e4
  rw [show p / 18446744073709551616 = 0 by omega, show p % 18446744073709551616 = p by omega] at e4
  have hrn := fun s => rnd_eq (p := p) (c := c) (s := s) hc hp0
  have e243 := F10_eq (ah := 0) (al := p / c) (bh := 0) (bl := 1) (by decide) (by simp only [U]; omega) (by decide) (by decide)
  have hv : (val 0 (p / c) + val 0 1) % big = p / c + 1 := by simp only [val, big]; omega
  rw [hv] at e243
  simp only [enc] at e243
  rw [show (p / c + 1) / 18446744073709551616 = 0 by omega, show (p / c + 1) % 18446744073709551616 = p / c + 1 by omega] at e243
  have e249a : ∀ s : Bool, F95 [W 0 (p / c), .bool s] = some (.int .i64 (if s = true then -(p / c) else p / c)) := fun s => F95_eq ⟨by omega, by omega⟩
  have e249b : ∀ s : Bool, F95 [W 0 (p / c + 1), .bool s] = some (.int .i64 (if s = true then -(p / c + 1) else p / c + 1)) := fun s => F95_eq ⟨by omega, by omega⟩
  rcases hz with h | h | ⟨h1, h2⟩
  · have d1 : decide (a = 0) = true := decide_eq_true h
    rw [hz0 (.inl h), rnd_zero]
    unfold F93
    refine pureF_of (x := x93) rfl rfl ?_
    rw [x93_eq.1, x93_eq.2.1]
    clear hrn hsg hz0 h e243 e249a e249b
    generalize decide (a < 0) = s1
    generalize decide (b < 0) = s2
    simp (disch := first | omega | simp only [*, go_sem, ↓reduceIte, dropK_eq]) only [x93b, go_sem, ↓reduceIte, dropK_eq, callX_known (C := C21) (g := 94) rfl, ft_call (C := C21) (g := 94) rfl, callX_known (C := C21) (g := 24) rfl, ft_call (C := C21) (g := 24) rfl, callX_known (C := C21) (g := 58) rfl, ft_call (C := C21) (g := 58) rfl, e1, e2, e3, e4, e5, d1, hcn, ft_mkf]
    exact Ends_plain rfl rfl
  · have d2 : decide (b = 0) = true := decide_eq_true h
    rw [hz0 (.inr h), rnd_zero]
    unfold F93
    refine pureF_of (x := x93) rfl rfl ?_
    rw [x93_eq.1, x93_eq.2.1]
    clear hrn hsg hz0 h e243 e249a e249b
    generalize decide (a < 0) = s1
    generalize decide (b < 0) = s2
    generalize hd : decide (a = 0) = d1
    cases d1 <;>
    · simp (disch := first | omega | simp only [*, go_sem, ↓reduceIte, dropK_eq]) only [x93b, go_sem, ↓reduceIte, dropK_eq, callX_known (C := C21) (g := 94) rfl, ft_call (C := C21) (g := 94) rfl, callX_known (C := C21) (g := 24) rfl, ft_call (C := C21) (g := 24) rfl, callX_known (C := C21) (g := 58) rfl, ft_call (C := C21) (g := 58) rfl, e1, e2, e3, e4, e5, hd, d2, hcn]
      exact Ends_plain rfl rfl
  · have d1 : decide (a = 0) = false := decide_eq_false h1
    have d2 : decide (b = 0) = false := decide_eq_false h2
    have hn := hsg h1 h2
    have hr0 := hrn (decide (a < 0) != decide (b < 0))
    rw [← hn] at hr0
    clear hsg hz0 hn hrn h1 h2 ha hb
    unfold F93
    refine pureF_of (x := x93) rfl rfl ?_
    rw [x93_eq.1, x93_eq.2.1]
    generalize hs1 : decide (a < 0) = s1 at *
    generalize hs2 : decide (b < 0) = s2 at *
    generalize hrr : decide (p % c = 0) = r0 at *
    cases s1 <;> cases s2 <;> cases r0 <;> rcases hm with rfl | rfl
    all_goals
      simp (disch := first | omega | simp only [*, go_sem, ↓reduceIte, dropK_eq]) only [x93b, go_sem, ↓reduceIte, dropK_eq, callX_known (C := C21) (g := 94) rfl, ft_call (C := C21) (g := 94) rfl, callX_known (C := C21) (g := 24) rfl, ft_call (C := C21) (g := 24) rfl, callX_known (C := C21) (g := 58) rfl, ft_call (C := C21) (g := 58) rfl, callX_known (C := C21) (g := 118) rfl, ft_call (C := C21) (g := 118) rfl, callX_known (C := C21) (g := 119) rfl, ft_call (C := C21) (g := 119) rfl, callX_known (C := C21) (g := 10) rfl, ft_call (C := C21) (g := 10) rfl, callX_known (C := C21) (g := 95) rfl, ft_call (C := C21) (g := 95) rfl, e1, e2, e3, e4, e5, hs1, hs2, d1, d2, hcn, mdFs, F118_eq, F119_eq, hrr, e243, e249a, e249b]
      refine Ends_plain rfl ?_
      refine congrArg (AVal.int .i64) ?_
      first | rw [hr0.1] | rw [hr0.2]
      simp
end Go.Proofs.YtkonpbcnekcjjaaGreatDoor
namespace Go.Proofs.YtkonpbcnekcjjaaGreatDoor
open Go Go.Xec Go.RowKit
theorem calls_sound {f : FuncId} {fn : Func} {F : List AVal → Option AVal} (hf : Tryz.prog.funcs[f]? = some fn) (hname : (fn.name == "runtime.NumGoroutine") = false) (hb : fn.body.isSome = true)
    (hs : Sound Tryz.prog f F) {ys : List AVal} {r : AVal} (hF : F ys = some r) (w : World) (hL : Laid Tryz.prog w) {vs : List Value} (hl : VL (ctx0 w fun b => b < w.heap.size) ys vs) :
    Calls Tryz.prog f vs.toArray w fun e w' => ∃ v, e = .returned v ∧ Below w.heap.size w w' ∧ V (ctx0 w' fun b => b < w'.heap.size) r v := by
  rcases hs ys r hF w _ vs (fun _ h => h) hL hl with ⟨_, h⟩ | ⟨v, w', h, _⟩
  · refine h.mono ?_
    rintro e w' ⟨v, rfl, h1, h2, h3, h4⟩
    refine ⟨v, rfl, ⟨h3.1, h3.2.1, h3.2.2, h1, h2⟩, ?_⟩
    have e : (fun b => b < w.heap.size ∨ (w.heap.size ≤ b ∧ b < w'.heap.size)) = fun b => b < w'.heap.size := by
      funext b
      apply propext
      omega
    rw [e] at h4
    exact h4
  · exfalso
    cases hbb : fn.body with
    | none => rw [hbb] at hb; cases hb
    | some c =>
      simp only [callFunc, Sem.run_bind, run_program, Result.andThen_ok, hf, hname, hbb] at h
      simp at h
theorem below_laid {w w' : World} (hL : Laid Tryz.prog w) (h : Below w.heap.size w w') : Laid Tryz.prog w' := hL.keep h.block
theorem heap_alloc (w : World) (o : Obj) : (w.alloc o).heap = w.heap.push o := rfl
theorem catch_idle (p q : Addr) (w : World) :
    CallsD Tryz.prog 121 #[.pointer (some p), .pointer (some q)] .returning w fun e u' w' => e = .returned (.tuple #[]) ∧ u' = .returning ∧ w' = w := by
  refine callsD_of_wpS Tryz.func121 rfl fun c₀ cs hu => ?_
  apply wpS_seq
  apply wpS_region
  simp [wpOpsS, go_sem, recoverD, hu, Tryz.ntmps121, Exit.thenS]
  apply wpS_seq
  apply wpS_region
  simp [wpOpsS, go_sem, Exit.thenS]
  refine wpS_cond (t := false) (by simp [Act.eval, Array.replicate]) ?_
  simp only [Bool.false_eq_true, if_false]
  refine wpS_of_wp (wp_skip ?_)
  cases c₀
  simp_all [bodyPostS, results, Tryz.results121]
theorem try_calls (caps : Array Value) (n : Int) (w : World) (h : ∀ w', Below w.heap.size w w' → Calls Tryz.prog 93 caps w' fun e w'' => e = .returned (.int .i64 n) ∧ Below w'.heap.size w' w'') :
    Calls Tryz.prog 92 #[.func (.func 93) #[] caps] w fun e w' => e = .returned (.tuple #[.int .i64 n, .int .i64 0]) ∧ Below w.heap.size w w' := by
  have hmf : ∀ (fn : Fn) (first cap : Array Value) (w : World), (Instr.makeFunc fn first cap).run Tryz.prog w = .ok (.func fn first cap) w := fun _ _ _ _ => rfl
  go_enter_defers Tryz.func92, Tryz.ntmps92
  go_wp2_with fail
  have h01 : Below w.heap.size w ((w.alloc (.cells #[.int .i64 0] 3)).alloc (.cells #[.int .i64 0] 29)) := ((Below.refl _ _).alloc (Nat.le_refl _) _).alloc (by simp) _
  refine (h _ h01).mono ?_
  rintro e w2 ⟨rfl, hb⟩
  have hsz : w.heap.size + 2 ≤ w2.heap.size := by have := hb.size; simp at this; omega
  have c0 : w2.cell? ⟨w.heap.size, 0, none⟩ = some (.int .i64 0) := by
    rw [hb.cell (by simp; omega)]
    simp
  have c1 : w2.cell? ⟨w.heap.size + 1, 0, none⟩ = some (.int .i64 0) := by
    rw [hb.cell (by simp)]
    simp [World.cell?_alloc_at]
  have f0 : w2.frozen? ⟨w.heap.size, 0, none⟩ = false := by
    rw [hb.frozen (by simp; omega)]
    simp
  have f1 : w2.frozen? ⟨w.heap.size + 1, 0, none⟩ = false := by
    rw [hb.frozen (by simp)]
    simp [World.frozen?_alloc_at]
  go_wp2
  have b2 : Below w.heap.size w ((w2.setCell ⟨w.heap.size, 0, none⟩ (.int .i64 n)).setCell ⟨w.heap.size + 1, 0, none⟩ (.int .i64 0)) :=
    ((h01.trans (hb.mono (by simp; omega))).setCell (by simp) _).setCell (by simp) _
  have d0 : ((w2.setCell ⟨w.heap.size, 0, none⟩ (.int .i64 n)).setCell ⟨w.heap.size + 1, 0, none⟩ (.int .i64 0)).cell? ⟨w.heap.size, 0, none⟩ = some (.int .i64 n) := by
    rw [World.cell?_setCell_other _ _ _ _ (by simp)]
    exact World.cell?_setCell_same _ _ _ c0
  have d1 : ((w2.setCell ⟨w.heap.size, 0, none⟩ (.int .i64 n)).setCell ⟨w.heap.size + 1, 0, none⟩ (.int .i64 0)).cell? ⟨w.heap.size + 1, 0, none⟩ = some (.int .i64 0) := by
    refine World.cell?_setCell_same _ _ _ ((World.cell?_setCell_other _ _ _ _ (by simp)).trans c1)
  generalize ((w2.setCell ⟨w.heap.size, 0, none⟩ (.int .i64 n)).setCell ⟨w.heap.size + 1, 0, none⟩ (.int .i64 0)) = w3 at *
  refine leaves_cons (f := 121) (args := #[.pointer (some ⟨w.heap.size, 0, none⟩), .pointer (some ⟨w.heap.size + 1, 0, none⟩)]) (by simp) (by simp [go_sem]) ?_
  refine (catch_idle ⟨w.heap.size, 0, none⟩ ⟨w.heap.size + 1, 0, none⟩ _).mono ?_
  rintro e u' w'' ⟨rfl, rfl, rfl⟩
  simp [Leaves, settle, results, Tryz.results92, go_sem, d0, d1]
  exact b2
theorem VL_nil0 (x : Ctx) : VL x [] [] := by simp [VL]
theorem V_pvo1 {w : World} {S : Nat → Prop} {k : IntKind} {n : Int} {b : Nat} (hS : S b) (h : w.cell? ⟨b, 0, none⟩ = some (.int k n)) : V (ctx0 w S) (.pvo [.int k n] 0) (.pointer (some ⟨b, 0, none⟩)) := by
  simp only [V, VC]
  exact ⟨b, 0, rfl, hS, ⟨_, h, rfl⟩, trivial⟩
def F_md : List AVal → Option AVal
  | [.int .i64 a, .int .i64 b, .int .i64 c, .int .i64 m] => if (0 < c ∧ c < 9223372036854775808) ∧ (-9223372036854775808 ≤ a ∧ a ≤ 9223372036854775807) ∧ (-9223372036854775808 ≤ b ∧ b ≤ 9223372036854775807) ∧ (a.natAbs : Int) * (b.natAbs : Int) ≤ 9223372036854775806 ∧ (m = 0 ∨ m = 1) then some (.tup [.int .i64 (rnd (a * b) c m), .int .i64 0]) else none
  | _ => none
theorem md_calls {a b c m : Int} (hc : 0 < c) (hc2 : c < 9223372036854775808) (ha : -9223372036854775808 ≤ a ∧ a ≤ 9223372036854775807) (hb : -9223372036854775808 ≤ b ∧ b ≤ 9223372036854775807)
    (hab : (a.natAbs : Int) * (b.natAbs : Int) ≤ 9223372036854775806) (hm : m = 0 ∨ m = 1) (w : World) (hL : Laid Tryz.prog w) :
    Calls Tryz.prog 67 #[.int .i64 a, .int .i64 b, .int .i64 c, .int .i64 m] w fun e w' => e = .returned (.tuple #[.int .i64 (rnd (a * b) c m), .int .i64 0]) ∧ Below w.heap.size w w' := by
  have hmf : ∀ (fn : Fn) (first cap : Array Value) (w : World), (Instr.makeFunc fn first cap).run Tryz.prog w = .ok (.func fn first cap) w := fun _ _ _ _ => rfl
  have hF := F93_eq hc hc2 ha hb hab hm
  go_enter Tryz.func67, Tryz.ntmps67
  go_wp2_with fail
  obtain ⟨w4, hw4⟩ : ∃ w4, w4 = ((((w.alloc (.cells #[.int .i64 a] 3)).alloc (.cells #[.int .i64 b] 3)).alloc (.cells #[.int .i64 c] 3)).alloc (.cells #[.int .i64 m] 3)) := ⟨_, rfl⟩
  rw [← hw4]
  have b4 : Below w.heap.size w w4 := by
    rw [hw4]
    exact ((((Below.refl _ _).alloc (Nat.le_refl _) _).alloc (by simp) _).alloc (by simp; omega) _).alloc (by simp; omega) _
  have s4 : w4.heap.size = w.heap.size + 4 := by rw [hw4]; simp
  have ca : w4.cell? ⟨w.heap.size, 0, none⟩ = some (.int .i64 a) := by
    rw [hw4, World.cell?_alloc_past _ _ _ (by simp; omega), World.cell?_alloc_past _ _ _ (by simp; omega), World.cell?_alloc_past _ _ _ (by simp)]
    simp
  have cb : w4.cell? ⟨w.heap.size + 1, 0, none⟩ = some (.int .i64 b) := by rw [hw4]; simp [World.cell?_alloc_at, World.cell?_alloc_past]
  have cc : w4.cell? ⟨w.heap.size + 1 + 1, 0, none⟩ = some (.int .i64 c) := by rw [hw4]; simp [World.cell?_alloc_at, World.cell?_alloc_past]
  have cm : w4.cell? ⟨w.heap.size + 1 + 1 + 1, 0, none⟩ = some (.int .i64 m) := by rw [hw4]; simp [World.cell?_alloc_at, World.cell?_alloc_past]
  clear hw4
  refine (calls_sound Tryz.func91 (by kernel_rfl) (by kernel_rfl) sound91 F91_eq w4 (below_laid hL b4) (vs := []) (VL_nil0 _)).mono ?_
  rintro e w5 ⟨v, rfl, b5, hv⟩
  simp only [mdFs, V, VL] at hv
  obtain ⟨cs, rfl, _, _, rfl, ⟨_, _, rfl, rfl, rfl⟩, _, _, rfl, ⟨_, _, rfl, rfl, rfl⟩, _, _, rfl, ⟨_, _, rfl, rfl, rfl⟩, rfl⟩ := hv
  have s5 := b5.size
  have ca5 := (b5.cell (p := ⟨w.heap.size, 0, none⟩) (by simp; omega)).trans ca
  have cb5 := (b5.cell (p := ⟨w.heap.size + 1, 0, none⟩) (by simp; omega)).trans cb
  have cc5 := (b5.cell (p := ⟨w.heap.size + 1 + 1, 0, none⟩) (by simp; omega)).trans cc
  have cm5 := (b5.cell (p := ⟨w.heap.size + 1 + 1 + 1, 0, none⟩) (by simp; omega)).trans cm
  have b05 : Below w.heap.size w w5 := b4.trans (b5.mono (by omega))
  clear ca cb cc cm b5
  have cm6 : ∀ o, (w5.alloc o).cell? ⟨w.heap.size + 1 + 1 + 1, 0, none⟩ = some (.int .i64 m) := fun o => by rw [World.cell?_alloc_past _ _ _ (by omega)]; exact cm5
  have cc6 : ∀ o, (w5.alloc o).cell? ⟨w.heap.size + 1 + 1, 0, none⟩ = some (.int .i64 c) := fun o => by rw [World.cell?_alloc_past _ _ _ (by omega)]; exact cc5
  go_wp2_with fail
  obtain ⟨w6, hw6⟩ : ∃ w6, w6 = w5.alloc (.cells #[.func (.func 118) #[] #[], .func (.func 119) #[] #[], .func (.func 120) #[] #[]] 199) := ⟨_, rfl⟩
  rw [← hw6]
  have b6 : Below w5.heap.size w5 w6 := by rw [hw6]; exact (Below.refl _ _).alloc (Nat.le_refl _) _
  have s6 : w6.heap.size = w5.heap.size + 1 := by rw [hw6]; simp
  have g0 : w6.cell? ⟨w5.heap.size, 0, none⟩ = some (.func (.func 118) #[] #[]) := by rw [hw6]; simp
  have g1 : w6.cell? ⟨w5.heap.size, 1, none⟩ = some (.func (.func 119) #[] #[]) := by rw [hw6]; simp
  have g2 : w6.cell? ⟨w5.heap.size, 2, none⟩ = some (.func (.func 120) #[] #[]) := by rw [hw6]; simp
  have ca6 := (b6.cell (p := ⟨w.heap.size, 0, none⟩) (by simp; omega)).trans ca5
  have cb6 := (b6.cell (p := ⟨w.heap.size + 1, 0, none⟩) (by simp; omega)).trans cb5
  have cc7 := (b6.cell (p := ⟨w.heap.size + 1 + 1, 0, none⟩) (by simp; omega)).trans cc5
  have cm7 := (b6.cell (p := ⟨w.heap.size + 1 + 1 + 1, 0, none⟩) (by simp; omega)).trans cm5
  have b06 : Below w.heap.size w w6 := b05.trans (b6.mono (by omega))
  clear hw6 cm6 cc6
  refine (try_calls _ (rnd (a * b) c m) w6 fun w7 b7 => ?_).mono ?_
  · have s7 := b7.size
    refine (calls_sound Tryz.func93 (by kernel_rfl) (by kernel_rfl) sound93 hF w7 (below_laid (below_laid hL b06) b7) (vs := [.pointer (some ⟨w.heap.size + 1 + 1, 0, none⟩), .pointer (some ⟨w.heap.size, 0, none⟩), .pointer (some ⟨w.heap.size + 1, 0, none⟩), .pointer (some ⟨w5.heap.size, 0, none⟩), .pointer (some ⟨w.heap.size + 1 + 1 + 1, 0, none⟩)]) ?_).mono ?_
    · have va := V_pvo1 (S := fun b => b < w7.heap.size) (b := w.heap.size) (by show w.heap.size < w7.heap.size; omega) ((b7.cell (p := ⟨w.heap.size, 0, none⟩) (by simp; omega)).trans ca6)
      have vb := V_pvo1 (S := fun b => b < w7.heap.size) (b := w.heap.size + 1) (by show w.heap.size + 1 < w7.heap.size; omega) ((b7.cell (p := ⟨w.heap.size + 1, 0, none⟩) (by simp; omega)).trans cb6)
      have vc := V_pvo1 (S := fun b => b < w7.heap.size) (b := w.heap.size + 1 + 1) (by show w.heap.size + 1 + 1 < w7.heap.size; omega) ((b7.cell (p := ⟨w.heap.size + 1 + 1, 0, none⟩) (by simp; omega)).trans cc7)
      have vm := V_pvo1 (S := fun b => b < w7.heap.size) (b := w.heap.size + 1 + 1 + 1) (by show w.heap.size + 1 + 1 + 1 < w7.heap.size; omega) ((b7.cell (p := ⟨w.heap.size + 1 + 1 + 1, 0, none⟩) (by simp; omega)).trans cm7)
      have vf : V (ctx0 w7 fun b => b < w7.heap.size) (.pvo mdFs 0) (.pointer (some ⟨w5.heap.size, 0, none⟩)) := by
        simp only [V, VC, mdFs, VL]
        refine ⟨w5.heap.size, 0, rfl, by show w5.heap.size < w7.heap.size; omega, ?_⟩
        exact ⟨⟨_, (b7.cell (p := ⟨w5.heap.size, 0, none⟩) (by simp; omega)).trans g0, [], [], rfl, rfl, rfl⟩, ⟨_, (b7.cell (p := ⟨w5.heap.size, 1, none⟩) (by simp; omega)).trans g1, [], [], rfl, rfl, rfl⟩, ⟨_, (b7.cell (p := ⟨w5.heap.size, 2, none⟩) (by simp; omega)).trans g2, [], [], rfl, rfl, rfl⟩, trivial⟩
      simp only [VL]
      exact ⟨_, _, rfl, vc, _, _, rfl, va, _, _, rfl, vb, _, _, rfl, vf, _, _, rfl, vm, rfl⟩
    · rintro e w8 ⟨v, rfl, b8, hv⟩
      have hv := V_int hv
      subst hv
      exact ⟨rfl, b8⟩
  · rintro e w8 ⟨rfl, b8⟩
    go_wp2
    go_ret2
    exact ⟨rfl, b06.trans (b8.mono (by omega))⟩
theorem sound67 : Sound Tryz.prog 67 F_md := by
  refine sound_calls Tryz.func67 (by kernel_rfl) (by kernel_rfl) ?_
  intro ys r hr w S vs hS hL hl
  unfold F_md at hr
  split at hr
  · rename_i a b c m
    split at hr
    · rename_i hx
      cases hr
      simp only [VL] at hl
      obtain ⟨u1, _, rfl, e1, u2, _, rfl, e2, u3, _, rfl, e3, u4, _, rfl, e4, rfl⟩ := hl
      have e1 := V_int e1
      have e2 := V_int e2
      have e3 := V_int e3
      have e4 := V_int e4
      subst e1 e2 e3 e4
      obtain ⟨h1, h2, h3, h4, h5⟩ := hx
      refine (md_calls h1.1 h1.2 h2 h3 h4 h5 w hL).mono ?_
      rintro e w' ⟨rfl, hb⟩
      obtain ⟨q1, q2, q3⟩ := env_below hb
      refine ⟨_, rfl, q1, q2, q3, ?_⟩
      simp only [V, VL]
      exact ⟨_, rfl, _, _, rfl, rfl, _, _, rfl, rfl, rfl⟩
    · cases hr
  · cases hr
theorem F_md_eq {a b c m : Int} (hc : 0 < c ∧ c < 9223372036854775808) (ha : -9223372036854775808 ≤ a ∧ a ≤ 9223372036854775807) (hb : -9223372036854775808 ≤ b ∧ b ≤ 9223372036854775807)
    (hab : (a.natAbs : Int) * (b.natAbs : Int) ≤ 9223372036854775806) (hm : m = 0 ∨ m = 1) : F_md [.int .i64 a, .int .i64 b, .int .i64 c, .int .i64 m] = some (.tup [.int .i64 (rnd (a * b) c m), .int .i64 0]) := if_pos ⟨hc, ha, hb, hab, hm⟩
end Go.Proofs.YtkonpbcnekcjjaaGreatDoor
namespace Go.Proofs.YtkonpbcnekcjjaaGreatDoor.DV
open Go Go.Xec Go.RowKit
theorem cells_set {W : World} {B i : Nat} {cs : Array Value} {t : TypeId} (h : W.heap[B]? = some (.cells cs t (0, 0))) (v : Value) : (W.setCell ⟨B, i, none⟩ v).heap[B]? = some (.cells (cs.setIfInBounds i v) t (0, 0)) := by
  obtain ⟨hlt, hk⟩ := Array.getElem?_eq_some_iff.1 h
  show (W.heap.modify B _)[B]? = _
  rw [Array.getElem?_eq_getElem (by rw [Array.size_modify]; exact hlt), Array.getElem_modify_self, hk]
  rfl
theorem cell_other {W : World} {B b i : Nat} (v : Value) (h : b ≠ B) : (W.setCell ⟨B, i, none⟩ v).heap[b]? = W.heap[b]? := Below.heap_setCell W ⟨B, i, none⟩ v b h
theorem told_idle (p q : Addr) (w : World) :
    CallsD Tryz.prog 53 #[.pointer (some p), .pointer (some q)] .returning w fun e u' w' => e = .returned (.tuple #[]) ∧ u' = .returning ∧ w' = w := by
  refine callsD_of_wpS Tryz.func53 rfl fun c₀ cs hu => ?_
  apply wpS_seq
  apply wpS_region
  simp [wpOpsS, go_sem, recoverD, hu, Tryz.ntmps53, Exit.thenS]
  apply wpS_seq
  apply wpS_region
  simp [wpOpsS, go_sem, Exit.thenS]
  refine wpS_cond (t := false) (by simp [Act.eval, Array.replicate]) ?_
  simp only [Bool.false_eq_true, if_false]
  refine wpS_of_wp (wp_skip ?_)
  cases c₀
  simp_all [bodyPostS, results, Tryz.results53]
theorem run_ta (why : Int) (w : World) : (Instr.typeAssert (rfu why) 20 120 true).run Tryz.prog w = .ok (.tuple #[.agg #[.int .i64 why], .bool true]) w := by kernel_rfl
set_option maxHeartbeats 1000000 in
set_option maxRecDepth 100000 in

theorem told_caught (p q : Nat) (why x0 x1 x2 : Int) (older : List PanicEntry) (w : World) (hp : w.heap[p]? = some (.cells #[.int .i64 x0, .int .i64 x1] 37 (0, 0))) (hq : w.heap[q]? = some (.cells #[.int .i64 x2] 29 (0, 0))) (hpq : p ≠ q) :
    CallsD Tryz.prog 53 #[.pointer (some ⟨p, 0, none⟩), .pointer (some ⟨q, 0, none⟩)] (.panicking ({ v := rfu why, recovered := false } :: older)) w fun e u' w' => e = .returned (.tuple #[]) ∧ u' = .panicking ({ v := rfu why, recovered := true } :: older) ∧
      Below (min p q) w w' ∧ w'.heap[p]? = some (.cells #[.int .i64 0, .int .i64 0] 37 (0, 0)) ∧ w'.heap[q]? = some (.cells #[.int .i64 why] 29 (0, 0)) := by
  refine callsD_of_wpS Tryz.func53 rfl fun c₀ cs hu => ?_
  apply wpS_seq
  apply wpS_region
  simp [wpOpsS, go_sem, recoverD, hu, Tryz.ntmps53, Exit.thenS]
  apply wpS_seq
  apply wpS_region
  simp [wpOpsS, go_sem, Exit.thenS]
  refine wpS_cond (t := true) (by simp [Act.eval, Array.replicate]) ?_
  simp only [if_true]
  apply wpS_seq
  apply wpS_region
  simp [wpOpsS, go_sem, Exit.thenS, run_ta]
  apply wpS_seq
  apply wpS_seq
  apply wpS_region
  simp [wpOpsS, go_sem, Exit.thenS]
  refine wpS_cond (t := false) (by simp [Act.eval, Array.replicate]) ?_
  simp only [Bool.false_eq_true, if_false]
  refine wpS_of_wp (wp_skip ?_)
  simp only [Exit.thenS]
  refine wpS_of_wp ?_
  obtain ⟨W, hW⟩ : ∃ W, W = w.alloc (.cells #[.int .i64 why] 120) := ⟨_, rfl⟩
  rw [← hW]
  have hr : W.cell? ⟨w.heap.size, 0, none⟩ = some (.int .i64 why) := by rw [hW]; simp
  simp [Array.replicate]
  have hps := (Array.getElem?_eq_some_iff.1 hp).1
  have hqs := (Array.getElem?_eq_some_iff.1 hq).1
  have gp : W.heap[p]? = some (.cells #[.int .i64 x0, .int .i64 x1] 37 (0, 0)) := by rw [hW]; exact (Below.heap_alloc _ _ _ hps).trans hp
  have gq : W.heap[q]? = some (.cells #[.int .i64 x2] 29 (0, 0)) := by rw [hW]; exact (Below.heap_alloc _ _ _ hqs).trans hq
  have p0 : W.cell? ⟨p, 0, none⟩ = some (.int .i64 x0) := by simp [World.cell?, gp]
  have p1 : W.cell? ⟨p, 1, none⟩ = some (.int .i64 x1) := by simp [World.cell?, gp]
  have q0 : W.cell? ⟨q, 0, none⟩ = some (.int .i64 x2) := by simp [World.cell?, gq]
  have pf0 : W.frozen? ⟨p, 0, none⟩ = false := by simp [World.frozen?, gp]
  have pf1 : W.frozen? ⟨p, 1, none⟩ = false := by simp [World.frozen?, gp]
  have qf0 : W.frozen? ⟨q, 0, none⟩ = false := by simp [World.frozen?, gq]
  have hqp : q ≠ p := fun e => hpq e.symm
  have hpn : p ≠ w.heap.size := by omega
  have hqn : q ≠ w.heap.size := by omega
  have hnp : w.heap.size ≠ p := by omega
  have hnq : w.heap.size ≠ q := by omega
  have hb : Below (min p q) w W := by rw [hW]; exact (Below.refl _ _).alloc (by omega) _
  clear hps hqs hp hq hW
  go_region
  have g1 := cells_set (i := 1) (cells_set (i := 0) gp (.int .i64 0)) (.int .i64 0)
  have g2 := (cell_other (i := 0) (.int .i64 why) hpq).trans g1
  have h1 := (cell_other (W := W) (B := p) (b := q) (i := 0) (.int .i64 0) hqp).trans gq
  have h2 := (cell_other (B := p) (b := q) (i := 1) (.int .i64 0) hqp).trans h1
  have h3 := cells_set (i := 0) h2 (.int .i64 why)
  have hb2 := ((((hb.setCell (p := ⟨p, 0, none⟩) (by simp; omega) (.int .i64 0)).setCell (p := ⟨p, 1, none⟩) (by simp; omega) (.int .i64 0)).setCell (p := ⟨q, 0, none⟩) (by simp; omega) (.int .i64 why))).drew
  cases c₀
  simp_all [bodyPostS, results, Tryz.results53]
  exact ⟨g2, h3⟩
theorem alloc_new (w : World) (o : Obj) : (w.alloc o).heap[w.heap.size]? = some o := by
  show (w.heap.push o)[w.heap.size]? = _
  simp
abbrev tW (w : World) : World := (w.alloc (.cells #[.int .i64 0, .int .i64 0] 37)).alloc (.cells #[.int .i64 0] 29)
theorem tW_below (w : World) : Below w.heap.size w (tW w) := ((Below.refl _ _).alloc (Nat.le_refl _) _).alloc (by simp) _
theorem tW_at (w : World) : (tW w).heap[w.heap.size]? = some (.cells #[.int .i64 0, .int .i64 0] 37 (0, 0)) ∧ (tW w).heap[w.heap.size + 1]? = some (.cells #[.int .i64 0] 29 (0, 0)) ∧ (tW w).heap.size = w.heap.size + 2 := by
  refine ⟨?_, ?_, by simp [tW]⟩
  · exact (Below.heap_alloc _ _ _ (by simp)).trans (alloc_new w _)
  · have := alloc_new (w.alloc (.cells #[.int .i64 0, .int .i64 0] 37)) (.cells #[.int .i64 0] 29)
    rwa [World.size_alloc] at this
theorem told_ok28 (caps : Array Value) (lo hi : Int) (w : World) (h : ∀ w', Below w.heap.size w w' → Calls Tryz.prog 28 caps w' fun e w'' => e = .returned (.agg #[.int .i64 lo, .int .i64 hi]) ∧ Below w'.heap.size w' w'') :
    Calls Tryz.prog 27 #[.func (.func 28) #[] caps] w fun e w' => e = .returned (.tuple #[.agg #[.int .i64 lo, .int .i64 hi], .int .i64 0]) ∧ Below w.heap.size w w' := by
  have hmf : ∀ (fn : Fn) (first cap : Array Value) (w : World), (Instr.makeFunc fn first cap).run Tryz.prog w = .ok (.func fn first cap) w := fun _ _ _ _ => rfl
  go_enter_defers Tryz.func27, Tryz.ntmps27
  go_wp2_with fail
  obtain ⟨t0, t1, t2⟩ := tW_at w
  refine (h _ (tW_below w)).mono ?_
  rintro e w2 ⟨rfl, hb⟩
  have hsz := hb.size
  rw [t2] at hsz
  have g0 := (hb.block _ (by rw [t2]; omega)).trans t0
  have g1 := (hb.block _ (by rw [t2]; omega)).trans t1
  have c0 : w2.cell? ⟨w.heap.size, 0, none⟩ = some (.int .i64 0) := by simp [World.cell?, g0]
  have c1 : w2.cell? ⟨w.heap.size, 1, none⟩ = some (.int .i64 0) := by simp [World.cell?, g0]
  have c2 : w2.cell? ⟨w.heap.size + 1, 0, none⟩ = some (.int .i64 0) := by simp [World.cell?, g1]
  have f0 : w2.frozen? ⟨w.heap.size, 0, none⟩ = false := by simp [World.frozen?, g0]
  have f1 : w2.frozen? ⟨w.heap.size, 1, none⟩ = false := by simp [World.frozen?, g0]
  have f2 : w2.frozen? ⟨w.heap.size + 1, 0, none⟩ = false := by simp [World.frozen?, g1]
  go_wp2
  have b2 : Below w.heap.size w (((w2.setCell ⟨w.heap.size, 0, none⟩ (.int .i64 lo)).setCell ⟨w.heap.size, 1, none⟩ (.int .i64 hi)).setCell ⟨w.heap.size + 1, 0, none⟩ (.int .i64 0)) :=
    (((((tW_below w).trans (hb.mono (by rw [t2]; omega))).setCell (by simp) _).setCell (by simp) _).setCell (by simp) _)
  have k0 := (cell_other (i := 0) (.int .i64 0) (show w.heap.size ≠ w.heap.size + 1 by omega)).trans (cells_set (i := 1) (cells_set (i := 0) g0 (.int .i64 lo)) (.int .i64 hi))
  have k1 := cells_set (i := 0) ((cell_other (W := w2.setCell ⟨w.heap.size, 0, none⟩ (.int .i64 lo)) (i := 1) (.int .i64 hi) (show w.heap.size + 1 ≠ w.heap.size by omega)).trans ((cell_other (i := 0) (.int .i64 lo) (show w.heap.size + 1 ≠ w.heap.size by omega)).trans g1)) (.int .i64 0)
  generalize (((w2.setCell ⟨w.heap.size, 0, none⟩ (.int .i64 lo)).setCell ⟨w.heap.size, 1, none⟩ (.int .i64 hi)).setCell ⟨w.heap.size + 1, 0, none⟩ (.int .i64 0)) = w3 at *
  have d0 : w3.cell? ⟨w.heap.size, 0, none⟩ = some (.int .i64 lo) := by simp [World.cell?, k0]
  have d1 : w3.cell? ⟨w.heap.size, 1, none⟩ = some (.int .i64 hi) := by simp [World.cell?, k0]
  have d2 : w3.cell? ⟨w.heap.size + 1, 0, none⟩ = some (.int .i64 0) := by simp [World.cell?, k1]
  refine leaves_cons (f := 53) (args := #[.pointer (some ⟨w.heap.size, 0, none⟩), .pointer (some ⟨w.heap.size + 1, 0, none⟩)]) (by simp) (by simp [go_sem]) ?_
  refine (told_idle ⟨w.heap.size, 0, none⟩ ⟨w.heap.size + 1, 0, none⟩ _).mono ?_
  rintro e u' w'' ⟨rfl, rfl, rfl⟩
  simp [Leaves, settle, results, Tryz.results27, go_sem, d0, d1, d2]
  exact b2
theorem told_bad28 (caps : Array Value) (why : Int) (w : World) (h : ∀ w', Below w.heap.size w w' → Calls Tryz.prog 28 caps w' fun e w'' => e = .panicked [{ v := rfu why, recovered := false }] ∧ Below w'.heap.size w' w'') :
    Calls Tryz.prog 27 #[.func (.func 28) #[] caps] w fun e w' => e = .returned (.tuple #[.agg #[.int .i64 0, .int .i64 0], .int .i64 why]) ∧ Below w.heap.size w w' := by
  have hmf : ∀ (fn : Fn) (first cap : Array Value) (w : World), (Instr.makeFunc fn first cap).run Tryz.prog w = .ok (.func fn first cap) w := fun _ _ _ _ => rfl
  go_enter_defers Tryz.func27, Tryz.ntmps27
  go_wp2_with fail
  obtain ⟨t0, t1, t2⟩ := tW_at w
  refine (h _ (tW_below w)).mono ?_
  rintro e w2 ⟨rfl, hb⟩
  have hsz := hb.size
  rw [t2] at hsz
  have g0 := (hb.block _ (by rw [t2]; omega)).trans t0
  have g1 := (hb.block _ (by rw [t2]; omega)).trans t1
  go_wp2
  refine leaves_cons (f := 53) (args := #[.pointer (some ⟨w.heap.size, 0, none⟩), .pointer (some ⟨w.heap.size + 1, 0, none⟩)]) (by simp) (by simp [go_sem]) ?_
  refine (told_caught w.heap.size (w.heap.size + 1) why 0 0 0 [] _ g0 g1 (by omega)).mono ?_
  rintro e u' w3 ⟨rfl, rfl, hb3, k0, k1⟩
  have b2 : Below w.heap.size w w3 := ((tW_below w).trans (hb.mono (by rw [t2]; omega))).trans (hb3.mono (by omega))
  have d0 : w3.cell? ⟨w.heap.size, 0, none⟩ = some (.int .i64 0) := by simp [World.cell?, k0]
  have d1 : w3.cell? ⟨w.heap.size, 1, none⟩ = some (.int .i64 0) := by simp [World.cell?, k0]
  have d2 : w3.cell? ⟨w.heap.size + 1, 0, none⟩ = some (.int .i64 why) := by simp [World.cell?, k1]
  simp [Leaves, settle, results, Tryz.results27, go_sem, d0, d1, d2]
  exact b2
theorem told_ok33 (caps : Array Value) (lo hi : Int) (w : World) (h : ∀ w', Below w.heap.size w w' → Calls Tryz.prog 33 caps w' fun e w'' => e = .returned (.agg #[.int .i64 lo, .int .i64 hi]) ∧ Below w'.heap.size w' w'') :
    Calls Tryz.prog 27 #[.func (.func 33) #[] caps] w fun e w' => e = .returned (.tuple #[.agg #[.int .i64 lo, .int .i64 hi], .int .i64 0]) ∧ Below w.heap.size w w' := by
  have hmf : ∀ (fn : Fn) (first cap : Array Value) (w : World), (Instr.makeFunc fn first cap).run Tryz.prog w = .ok (.func fn first cap) w := fun _ _ _ _ => rfl
  go_enter_defers Tryz.func27, Tryz.ntmps27
  go_wp2_with fail
  obtain ⟨t0, t1, t2⟩ := tW_at w
  refine (h _ (tW_below w)).mono ?_
  rintro e w2 ⟨rfl, hb⟩
  have hsz := hb.size
  rw [t2] at hsz
  have g0 := (hb.block _ (by rw [t2]; omega)).trans t0
  have g1 := (hb.block _ (by rw [t2]; omega)).trans t1
  have c0 : w2.cell? ⟨w.heap.size, 0, none⟩ = some (.int .i64 0) := by simp [World.cell?, g0]
  have c1 : w2.cell? ⟨w.heap.size, 1, none⟩ = some (.int .i64 0) := by simp [World.cell?, g0]
  have c2 : w2.cell? ⟨w.heap.size + 1, 0, none⟩ = some (.int .i64 0) := by simp [World.cell?, g1]
  have f0 : w2.frozen? ⟨w.heap.size, 0, none⟩ = false := by simp [World.frozen?, g0]
  have f1 : w2.frozen? ⟨w.heap.size, 1, none⟩ = false := by simp [World.frozen?, g0]
  have f2 : w2.frozen? ⟨w.heap.size + 1, 0, none⟩ = false := by simp [World.frozen?, g1]
  go_wp2
  have b2 : Below w.heap.size w (((w2.setCell ⟨w.heap.size, 0, none⟩ (.int .i64 lo)).setCell ⟨w.heap.size, 1, none⟩ (.int .i64 hi)).setCell ⟨w.heap.size + 1, 0, none⟩ (.int .i64 0)) :=
    (((((tW_below w).trans (hb.mono (by rw [t2]; omega))).setCell (by simp) _).setCell (by simp) _).setCell (by simp) _)
  have k0 := (cell_other (i := 0) (.int .i64 0) (show w.heap.size ≠ w.heap.size + 1 by omega)).trans (cells_set (i := 1) (cells_set (i := 0) g0 (.int .i64 lo)) (.int .i64 hi))
  have k1 := cells_set (i := 0) ((cell_other (W := w2.setCell ⟨w.heap.size, 0, none⟩ (.int .i64 lo)) (i := 1) (.int .i64 hi) (show w.heap.size + 1 ≠ w.heap.size by omega)).trans ((cell_other (i := 0) (.int .i64 lo) (show w.heap.size + 1 ≠ w.heap.size by omega)).trans g1)) (.int .i64 0)
  generalize (((w2.setCell ⟨w.heap.size, 0, none⟩ (.int .i64 lo)).setCell ⟨w.heap.size, 1, none⟩ (.int .i64 hi)).setCell ⟨w.heap.size + 1, 0, none⟩ (.int .i64 0)) = w3 at *
  have d0 : w3.cell? ⟨w.heap.size, 0, none⟩ = some (.int .i64 lo) := by simp [World.cell?, k0]
  have d1 : w3.cell? ⟨w.heap.size, 1, none⟩ = some (.int .i64 hi) := by simp [World.cell?, k0]
  have d2 : w3.cell? ⟨w.heap.size + 1, 0, none⟩ = some (.int .i64 0) := by simp [World.cell?, k1]
  refine leaves_cons (f := 53) (args := #[.pointer (some ⟨w.heap.size, 0, none⟩), .pointer (some ⟨w.heap.size + 1, 0, none⟩)]) (by simp) (by simp [go_sem]) ?_
  refine (told_idle ⟨w.heap.size, 0, none⟩ ⟨w.heap.size + 1, 0, none⟩ _).mono ?_
  rintro e u' w'' ⟨rfl, rfl, rfl⟩
  simp [Leaves, settle, results, Tryz.results27, go_sem, d0, d1, d2]
  exact b2
theorem told_bad33 (caps : Array Value) (why : Int) (w : World) (h : ∀ w', Below w.heap.size w w' → Calls Tryz.prog 33 caps w' fun e w'' => e = .panicked [{ v := rfu why, recovered := false }] ∧ Below w'.heap.size w' w'') :
    Calls Tryz.prog 27 #[.func (.func 33) #[] caps] w fun e w' => e = .returned (.tuple #[.agg #[.int .i64 0, .int .i64 0], .int .i64 why]) ∧ Below w.heap.size w w' := by
  have hmf : ∀ (fn : Fn) (first cap : Array Value) (w : World), (Instr.makeFunc fn first cap).run Tryz.prog w = .ok (.func fn first cap) w := fun _ _ _ _ => rfl
  go_enter_defers Tryz.func27, Tryz.ntmps27
  go_wp2_with fail
  obtain ⟨t0, t1, t2⟩ := tW_at w
  refine (h _ (tW_below w)).mono ?_
  rintro e w2 ⟨rfl, hb⟩
  have hsz := hb.size
  rw [t2] at hsz
  have g0 := (hb.block _ (by rw [t2]; omega)).trans t0
  have g1 := (hb.block _ (by rw [t2]; omega)).trans t1
  go_wp2
  refine leaves_cons (f := 53) (args := #[.pointer (some ⟨w.heap.size, 0, none⟩), .pointer (some ⟨w.heap.size + 1, 0, none⟩)]) (by simp) (by simp [go_sem]) ?_
  refine (told_caught w.heap.size (w.heap.size + 1) why 0 0 0 [] _ g0 g1 (by omega)).mono ?_
  rintro e u' w3 ⟨rfl, rfl, hb3, k0, k1⟩
  have b2 : Below w.heap.size w w3 := ((tW_below w).trans (hb.mono (by rw [t2]; omega))).trans (hb3.mono (by omega))
  have d0 : w3.cell? ⟨w.heap.size, 0, none⟩ = some (.int .i64 0) := by simp [World.cell?, k0]
  have d1 : w3.cell? ⟨w.heap.size, 1, none⟩ = some (.int .i64 0) := by simp [World.cell?, k0]
  have d2 : w3.cell? ⟨w.heap.size + 1, 0, none⟩ = some (.int .i64 why) := by simp [World.cell?, k1]
  simp [Leaves, settle, results, Tryz.results27, go_sem, d0, d1, d2]
  exact b2
def ansA (n S : Int) (r : Int × Int) : Int × Int × Int := if n < 2 then (0, 0, 12) else if S = 0 then (0, 0, 6) else (r.1, r.2, 0)
abbrev tupA (x : Int × Int × Int) : Value := .tuple #[.agg #[.int .i64 x.1, .int .i64 x.2.1], .int .i64 x.2.2]
abbrev avA (x : Int × Int × Int) : AVal := .tup [.agg [.int .i64 x.1, .int .i64 x.2.1], .int .i64 x.2.2]
abbrev stCs (t : Stt) : Array Value := #[.int .i64 t.n, .int .i64 t.s, .int .u64 (t.q / 18446744073709551616), .int .u64 (t.q % 18446744073709551616), .int .i64 t.lo, .int .i64 t.hi]
abbrev askW (cs : Array Value) (T : TypeId) (a b k : Int) (w : World) : World := ((((w.alloc (.cells cs T)).alloc (.cells #[.int .i64 a] 3)).alloc (.cells #[.int .i64 b] 3)).alloc (.cells #[.int .i64 k] 3)).alloc (.cells #[.int .i64 0, .int .i64 0] 37)
theorem heap_alloc2 (w : World) (o : Obj) (b : Nat) : (w.alloc o).heap[b]? = if b = w.heap.size then some o else w.heap[b]? := by
  show (w.heap.push o)[b]? = _
  rw [Array.getElem?_push]
theorem askW_at (cs : Array Value) (T : TypeId) (a b k : Int) (w : World) : Below w.heap.size w (askW cs T a b k w) ∧ (askW cs T a b k w).heap.size = w.heap.size + 5 ∧ (askW cs T a b k w).heap[w.heap.size]? = some (.cells cs T (0, 0)) ∧
    (askW cs T a b k w).heap[w.heap.size + 1]? = some (.cells #[.int .i64 a] 3 (0, 0)) ∧ (askW cs T a b k w).heap[w.heap.size + 1 + 1]? = some (.cells #[.int .i64 b] 3 (0, 0)) ∧
    (askW cs T a b k w).heap[w.heap.size + 1 + 1 + 1]? = some (.cells #[.int .i64 k] 3 (0, 0)) ∧ (askW cs T a b k w).heap[w.heap.size + 1 + 1 + 1 + 1]? = some (.cells #[.int .i64 0, .int .i64 0] 37 (0, 0)) := by
  refine ⟨(((((Below.refl _ _).alloc (Nat.le_refl _) _).alloc (by simp) _).alloc (by simp; omega) _).alloc (by simp; omega) _).alloc (by simp; omega) _, by simp [askW], ?_, ?_, ?_, ?_, ?_⟩ <;> (simp only [askW, heap_alloc2, World.size_alloc]; repeat (first | rw [if_pos trivial] | rw [if_pos (by omega)] | rw [if_neg (by omega)]))
theorem V_p1 {W : World} {S : Nat → Prop} {n : Int} {b : Nat} {T : TypeId} (hS : S b) (h : W.heap[b]? = some (.cells #[.int .i64 n] T (0, 0))) : V (ctx0 W S) (p1 n) (.pointer (some ⟨b, 0, none⟩)) := by
  have hc : W.cell? ⟨b, 0, none⟩ = some (.int .i64 n) := by simp [World.cell?, h]
  simp only [V, VC]
  exact ⟨b, 0, rfl, hS, ⟨_, hc, rfl⟩, trivial⟩
theorem V_pst {W : World} {S : Nat → Prop} {t : Stt} {b : Nat} {T : TypeId} (hS : S b) (h : W.heap[b]? = some (.cells (stCs t) T (0, 0))) : V (ctx0 W S) (.pvo (StC t) 0) (.pointer (some ⟨b, 0, none⟩)) := by
  have hc : ∀ i v, (stCs t)[i]? = some v → W.cell? ⟨b, i, none⟩ = some v := fun i v hv => by
    simp only [World.cell?, h]
    exact hv
  simp only [V, VC]
  exact ⟨b, 0, rfl, hS, ⟨_, hc 0 _ rfl, rfl⟩, ⟨_, hc 1 _ rfl, rfl⟩, ⟨_, hc 2 _ rfl, rfl⟩, ⟨_, hc 3 _ rfl, rfl⟩, ⟨_, hc 4 _ rfl, rfl⟩, ⟨_, hc 5 _ rfl, rfl⟩, trivial⟩
theorem calls_soundP {f : FuncId} {G : List AVal → Option Value} (hs : SoundP Tryz.prog f G) {ys : List AVal} {r : Value} (hF : G ys = some r) (w : World) (hL : Laid Tryz.prog w) {vs : List Value} (hl : VL (ctx0 w fun b => b < w.heap.size) ys vs) :
    Calls Tryz.prog f vs.toArray w fun e w' => e = .panicked [{ v := r, recovered := false }] ∧ Below w.heap.size w w' := by
  refine (hs ys r hF w _ vs (fun _ h => h) hL hl).2.mono ?_
  rintro e w' ⟨rfl, h1, h2, h3⟩
  exact ⟨rfl, ⟨h3.1, h3.2.1, h3.2.2, h1, h2⟩⟩
theorem stG_un {t : Stt} {S S' : Int} (h : StG t S) (h' : StG t S') (hn : t.n ≠ 0) : S = S' := by
  have e := (h.e61 hn).symm.trans (h'.e61 hn)
  simp only [Option.some.injEq, AVal.tup.injEq, List.cons.injEq, AVal.agg.injEq, AVal.int.injEq, true_and, and_true] at e
  rw [← val_enc S, ← val_enc S', e.1, e.2]
theorem clo28 {t : Stt} {S a b k : Int} (hq : Ask t S a b k) (T : TypeId) (w W : World) (hL : Laid Tryz.prog w) (hW : Below (askW (stCs t) T a b k w).heap.size (askW (stCs t) T a b k w) W) :
    (2 ≤ t.n → S ≠ 0 → Calls Tryz.prog 28 #[.pointer (some ⟨w.heap.size, 0, none⟩), .pointer (some ⟨w.heap.size + 1, 0, none⟩), .pointer (some ⟨w.heap.size + 1 + 1, 0, none⟩), .pointer (some ⟨w.heap.size + 1 + 1 + 1, 0, none⟩)] W fun e W' => e = .returned (.agg #[.int .i64 (ppA S (b - a) t.n k).1, .int .i64 (ppA S (b - a) t.n k).2]) ∧ Below W.heap.size W W') ∧
    (∀ why, ((t.n < 2 ∧ why = 12) ∨ (2 ≤ t.n ∧ S = 0 ∧ why = 6)) → Calls Tryz.prog 28 #[.pointer (some ⟨w.heap.size, 0, none⟩), .pointer (some ⟨w.heap.size + 1, 0, none⟩), .pointer (some ⟨w.heap.size + 1 + 1, 0, none⟩), .pointer (some ⟨w.heap.size + 1 + 1 + 1, 0, none⟩)] W fun e W' => e = .panicked [{ v := rfu why, recovered := false }] ∧ Below W.heap.size W W') := by
  obtain ⟨hb, hz, a0, a1, a2, a3, a4⟩ := askW_at (stCs t) T a b k w
  have hLW := below_laid (below_laid hL hb) hW
  have hsz := hW.size
  rw [hz] at hsz
  have c0 := (hW.block _ (by rw [hz]; omega)).trans a0
  have c1 := (hW.block _ (by rw [hz]; omega)).trans a1
  have c2 := (hW.block _ (by rw [hz]; omega)).trans a2
  have c3 := (hW.block _ (by rw [hz]; omega)).trans a3
  have hvl : VL (ctx0 W fun b => b < W.heap.size) (askV t a b k) [.pointer (some ⟨w.heap.size, 0, none⟩), .pointer (some ⟨w.heap.size + 1, 0, none⟩), .pointer (some ⟨w.heap.size + 1 + 1, 0, none⟩), .pointer (some ⟨w.heap.size + 1 + 1 + 1, 0, none⟩)] := by
    simp only [VL]
    exact ⟨_, _, rfl, V_pst (by show w.heap.size < W.heap.size; omega) c0, _, _, rfl, V_p1 (by show w.heap.size + 1 < W.heap.size; omega) c1, _, _, rfl, V_p1 (by show w.heap.size + 1 + 1 < W.heap.size; omega) c2, _, _, rfl, V_p1 (by show w.heap.size + 1 + 1 + 1 < W.heap.size; omega) c3, rfl⟩
  refine ⟨fun h1 h2 => ?_, fun why h1 => ?_⟩
  · refine (calls_sound Tryz.func28 (by kernel_rfl) (by kernel_rfl) sound28 (F28_eq hq.1 h1 h2 hq.2.1 hq.2.2.1 hq.2.2.2.1 hq.2.2.2.2) W hLW hvl).mono ?_
    rintro e W' ⟨v, rfl, hb', hv⟩
    simp only [V, VL] at hv
    obtain ⟨_, rfl, _, _, rfl, rfl, _, _, rfl, rfl, rfl⟩ := hv
    exact ⟨rfl, hb'⟩
  · have hG : G28 (askV t a b k) = some (rfu why) := by
      unfold G28
      rcases h1 with ⟨h1, rfl⟩ | ⟨h1, h2, rfl⟩
      · rw [if_pos ⟨t, S, a, b, k, rfl, hq, h1⟩]
      · rw [if_neg, if_pos ⟨t, S, a, b, k, rfl, hq, h1, h2⟩]
        rintro ⟨t', S', a', b', k', he, _, h3⟩
        simp only [askV, StC, List.cons.injEq, AVal.pvo.injEq, AVal.int.injEq, true_and] at he
        omega
    exact calls_soundP soundP28 hG W hLW hvl
theorem c11_calls {t : Stt} {S a b k : Int} (hq : Ask t S a b k) (w : World) (hL : Laid Tryz.prog w) :
    Calls Tryz.prog 11 #[.agg (stCs t), .int .i64 a, .int .i64 b, .int .i64 k] w fun e w' => e = .returned (tupA (ansA t.n S (ppA S (b - a) t.n k))) ∧ Below w.heap.size w w' := by
  have hmf : ∀ (fn : Fn) (first cap : Array Value) (w : World), (Instr.makeFunc fn first cap).run Tryz.prog w = .ok (.func fn first cap) w := fun _ _ _ _ => rfl
  have hcl := clo28 hq 28 w
  obtain ⟨hb, hz, a0, a1, a2, a3, a4⟩ := askW_at (stCs t) 28 a b k w
  have htold : Calls Tryz.prog 27 #[.func (.func 28) #[] #[.pointer (some ⟨w.heap.size, 0, none⟩), .pointer (some ⟨w.heap.size + 1, 0, none⟩), .pointer (some ⟨w.heap.size + 1 + 1, 0, none⟩), .pointer (some ⟨w.heap.size + 1 + 1 + 1, 0, none⟩)]] (askW (stCs t) 28 a b k w) fun e w' => e = .returned (tupA (ansA t.n S (ppA S (b - a) t.n k))) ∧ Below (askW (stCs t) 28 a b k w).heap.size (askW (stCs t) 28 a b k w) w' := by
    unfold ansA
    by_cases h1 : t.n < 2
    · rw [if_pos h1]
      exact told_bad28 _ 12 _ fun W hW => (hcl W hL hW).2 12 (.inl ⟨h1, rfl⟩)
    · rw [if_neg h1]
      by_cases h2 : S = 0
      · rw [if_pos h2]
        exact told_bad28 _ 6 _ fun W hW => (hcl W hL hW).2 6 (.inr ⟨by omega, h2, rfl⟩)
      · rw [if_neg h2]
        exact told_ok28 _ _ _ _ fun W hW => (hcl W hL hW).1 (by omega) h2
  generalize ansA t.n S (ppA S (b - a) t.n k) = x at *
  go_enter Tryz.func11, Tryz.ntmps11
  go_wp2_with fail
  refine htold.mono ?_
  rintro e W ⟨rfl, hW⟩
  have hsz := hW.size
  rw [hz] at hsz
  have g0 := (hW.block _ (by rw [hz]; omega)).trans a4
  have c0 : W.cell? ⟨w.heap.size + 1 + 1 + 1 + 1, 0, none⟩ = some (.int .i64 0) := by simp [World.cell?, g0]
  have c1 : W.cell? ⟨w.heap.size + 1 + 1 + 1 + 1, 1, none⟩ = some (.int .i64 0) := by simp [World.cell?, g0]
  have f0 : W.frozen? ⟨w.heap.size + 1 + 1 + 1 + 1, 0, none⟩ = false := by simp [World.frozen?, g0]
  have f1 : W.frozen? ⟨w.heap.size + 1 + 1 + 1 + 1, 1, none⟩ = false := by simp [World.frozen?, g0]
  clear htold hcl
  go_wp2
  have hV : Below w.heap.size w ((W.setCell ⟨w.heap.size + 1 + 1 + 1 + 1, 0, none⟩ (.int .i64 x.1)).setCell ⟨w.heap.size + 1 + 1 + 1 + 1, 1, none⟩ (.int .i64 x.2.1)) :=
    ((hb.trans (hW.mono (by rw [hz]; omega))).setCell (by simp; omega) _).setCell (by simp; omega) _
  have k0 := cells_set (i := 1) (cells_set (i := 0) g0 (.int .i64 x.1)) (.int .i64 x.2.1)
  clear hW c0 c1 f0 f1 g0 hsz
  generalize ((W.setCell ⟨w.heap.size + 1 + 1 + 1 + 1, 0, none⟩ (.int .i64 x.1)).setCell ⟨w.heap.size + 1 + 1 + 1 + 1, 1, none⟩ (.int .i64 x.2.1)) = V at *
  have d0 : V.cell? ⟨w.heap.size + 1 + 1 + 1 + 1, 0, none⟩ = some (.int .i64 x.1) := by simp [World.cell?, k0]
  have d1 : V.cell? ⟨w.heap.size + 1 + 1 + 1 + 1, 1, none⟩ = some (.int .i64 x.2.1) := by simp [World.cell?, k0]
  refine ⟨rfl, tupA x, ?_, rfl, hV⟩
  simp [results, Tryz.results11, go_sem, d0, d1]
def R11 (ys : List AVal) (r : AVal) : Prop := ∃ t S a b k, ys = [StK t, .int .i64 a, .int .i64 b, .int .i64 k] ∧ Ask t S a b k ∧ r = avA (ansA t.n S (ppA S (b - a) t.n k))
open Classical in
noncomputable def F11 (ys : List AVal) : Option AVal := if h : ∃ r, R11 ys r then some h.choose else none
theorem sound11 : Sound Tryz.prog 11 F11 := by
  refine sound_calls Tryz.func11 (by kernel_rfl) (by kernel_rfl) ?_
  intro ys r hr w S vs hS hL hl
  unfold F11 at hr
  split at hr
  · rename_i hx
    have hsp := hx.choose_spec
    cases hr
    generalize hx.choose = r at *
    obtain ⟨t, S0, a, b, k, rfl, hq, rfl⟩ := hsp
    simp only [VL, V] at hl
    obtain ⟨_, _, rfl, ⟨_, rfl, _, _, rfl, rfl, _, _, rfl, rfl, _, _, rfl, rfl, _, _, rfl, rfl, _, _, rfl, rfl, _, _, rfl, rfl, rfl⟩, _, _, rfl, rfl, _, _, rfl, rfl, _, _, rfl, rfl, rfl⟩ := hl
    refine (c11_calls hq w hL).mono ?_
    rintro e w' ⟨rfl, hb⟩
    obtain ⟨q1, q2, q3⟩ := env_below hb
    refine ⟨_, rfl, q1, q2, q3, ?_⟩
    simp only [V, VL]
    exact ⟨_, rfl, _, _, rfl, ⟨_, rfl, _, _, rfl, rfl, _, _, rfl, rfl, rfl⟩, _, _, rfl, rfl, rfl⟩
  · cases hr
theorem F11_eq {t : Stt} {S a b k : Int} (hq : Ask t S a b k) : F11 [StK t, .int .i64 a, .int .i64 b, .int .i64 k] = some (avA (ansA t.n S (ppA S (b - a) t.n k))) := by
  have hx : ∃ r, R11 [StK t, .int .i64 a, .int .i64 b, .int .i64 k] r := ⟨_, t, S, a, b, k, rfl, hq, rfl⟩
  unfold F11
  rw [dif_pos hx]
  have hsp := hx.choose_spec
  generalize hx.choose = r at *
  obtain ⟨t', S', a', b', k', he, hq', rfl⟩ := hsp
  simp only [List.cons.injEq, AVal.agg.injEq, AVal.int.injEq, true_and, and_true] at he
  obtain ⟨⟨e1, e2, e3, e4, e5, e6⟩, rfl, rfl, rfl⟩ := he
  have e7 : t' = t := by
    obtain ⟨n, s, q, lo, hi⟩ := t
    obtain ⟨n', s', q', lo', hi'⟩ := t'
    simp only at *
    have : q' = q := by rw [← val_enc q, ← val_enc q', e3, e4]
    simp only [Stt.mk.injEq]
    exact ⟨e1.symm, e2.symm, this, e5.symm, e6.symm⟩
  subst e7
  by_cases hn : t'.n = 0
  · have : ∀ (S1 S2 : Int) (r1 r2 : Int × Int), ansA t'.n S1 r1 = ansA t'.n S2 r2 := fun S1 S2 r1 r2 => by unfold ansA; rw [if_pos (by omega), if_pos (by omega)]
    exact congrArg (fun x => some (avA x)) (this _ _ _ _)
  · rw [stG_un hq'.1 hq.1 hn]
theorem clo33 {t : Stt} {S a b k : Int} (hq : Ask t S a b k) (T : TypeId) (w W : World) (hL : Laid Tryz.prog w) (hW : Below (askW (stCs t) T a b k w).heap.size (askW (stCs t) T a b k w) W) :
    (2 ≤ t.n → S ≠ 0 → Calls Tryz.prog 33 #[.pointer (some ⟨w.heap.size, 0, none⟩), .pointer (some ⟨w.heap.size + 1, 0, none⟩), .pointer (some ⟨w.heap.size + 1 + 1, 0, none⟩), .pointer (some ⟨w.heap.size + 1 + 1 + 1, 0, none⟩)] W fun e W' => e = .returned (.agg #[.int .i64 (ppkR S a b t.s t.n k).1, .int .i64 (ppkR S a b t.s t.n k).2]) ∧ Below W.heap.size W W') ∧
    (∀ why, ((t.n < 2 ∧ why = 12) ∨ (2 ≤ t.n ∧ S = 0 ∧ why = 6)) → Calls Tryz.prog 33 #[.pointer (some ⟨w.heap.size, 0, none⟩), .pointer (some ⟨w.heap.size + 1, 0, none⟩), .pointer (some ⟨w.heap.size + 1 + 1, 0, none⟩), .pointer (some ⟨w.heap.size + 1 + 1 + 1, 0, none⟩)] W fun e W' => e = .panicked [{ v := rfu why, recovered := false }] ∧ Below W.heap.size W W') := by
  obtain ⟨hb, hz, a0, a1, a2, a3, a4⟩ := askW_at (stCs t) T a b k w
  have hLW := below_laid (below_laid hL hb) hW
  have hsz := hW.size
  rw [hz] at hsz
  have c0 := (hW.block _ (by rw [hz]; omega)).trans a0
  have c1 := (hW.block _ (by rw [hz]; omega)).trans a1
  have c2 := (hW.block _ (by rw [hz]; omega)).trans a2
  have c3 := (hW.block _ (by rw [hz]; omega)).trans a3
  have hvl : VL (ctx0 W fun b => b < W.heap.size) (askV t a b k) [.pointer (some ⟨w.heap.size, 0, none⟩), .pointer (some ⟨w.heap.size + 1, 0, none⟩), .pointer (some ⟨w.heap.size + 1 + 1, 0, none⟩), .pointer (some ⟨w.heap.size + 1 + 1 + 1, 0, none⟩)] := by
    simp only [VL]
    exact ⟨_, _, rfl, V_pst (by show w.heap.size < W.heap.size; omega) c0, _, _, rfl, V_p1 (by show w.heap.size + 1 < W.heap.size; omega) c1, _, _, rfl, V_p1 (by show w.heap.size + 1 + 1 < W.heap.size; omega) c2, _, _, rfl, V_p1 (by show w.heap.size + 1 + 1 + 1 < W.heap.size; omega) c3, rfl⟩
  refine ⟨fun h1 h2 => ?_, fun why h1 => ?_⟩
  · refine (calls_sound Tryz.func33 (by kernel_rfl) (by kernel_rfl) sound33 (F33_eq hq.1 h1 h2 hq.2.1 hq.2.2.1 hq.2.2.2.1 hq.2.2.2.2) W hLW hvl).mono ?_
    rintro e W' ⟨v, rfl, hb', hv⟩
    simp only [V, VL] at hv
    obtain ⟨_, rfl, _, _, rfl, rfl, _, _, rfl, rfl, rfl⟩ := hv
    exact ⟨rfl, hb'⟩
  · have hG : G33 (askV t a b k) = some (rfu why) := by
      unfold G33
      rcases h1 with ⟨h1, rfl⟩ | ⟨h1, h2, rfl⟩
      · rw [if_pos ⟨t, S, a, b, k, rfl, hq, h1⟩]
      · rw [if_neg, if_pos ⟨t, S, a, b, k, rfl, hq, h1, h2⟩]
        rintro ⟨t', S', a', b', k', he, _, h3⟩
        simp only [askV, StC, List.cons.injEq, AVal.pvo.injEq, AVal.int.injEq, true_and] at he
        omega
    exact calls_soundP soundP33 hG W hLW hvl
theorem c12_calls {t : Stt} {S a b k : Int} (hq : Ask t S a b k) (w : World) (hL : Laid Tryz.prog w) :
    Calls Tryz.prog 12 #[.agg (stCs t), .int .i64 a, .int .i64 b, .int .i64 k] w fun e w' => e = .returned (tupA (ansA t.n S (ppkR S a b t.s t.n k))) ∧ Below w.heap.size w w' := by
  have hmf : ∀ (fn : Fn) (first cap : Array Value) (w : World), (Instr.makeFunc fn first cap).run Tryz.prog w = .ok (.func fn first cap) w := fun _ _ _ _ => rfl
  have hcl := clo33 hq 28 w
  obtain ⟨hb, hz, a0, a1, a2, a3, a4⟩ := askW_at (stCs t) 28 a b k w
  have htold : Calls Tryz.prog 27 #[.func (.func 33) #[] #[.pointer (some ⟨w.heap.size, 0, none⟩), .pointer (some ⟨w.heap.size + 1, 0, none⟩), .pointer (some ⟨w.heap.size + 1 + 1, 0, none⟩), .pointer (some ⟨w.heap.size + 1 + 1 + 1, 0, none⟩)]] (askW (stCs t) 28 a b k w) fun e w' => e = .returned (tupA (ansA t.n S (ppkR S a b t.s t.n k))) ∧ Below (askW (stCs t) 28 a b k w).heap.size (askW (stCs t) 28 a b k w) w' := by
    unfold ansA
    by_cases h1 : t.n < 2
    · rw [if_pos h1]
      exact told_bad33 _ 12 _ fun W hW => (hcl W hL hW).2 12 (.inl ⟨h1, rfl⟩)
    · rw [if_neg h1]
      by_cases h2 : S = 0
      · rw [if_pos h2]
        exact told_bad33 _ 6 _ fun W hW => (hcl W hL hW).2 6 (.inr ⟨by omega, h2, rfl⟩)
      · rw [if_neg h2]
        exact told_ok33 _ _ _ _ fun W hW => (hcl W hL hW).1 (by omega) h2
  generalize ansA t.n S (ppkR S a b t.s t.n k) = x at *
  go_enter Tryz.func12, Tryz.ntmps12
  go_wp2_with fail
  refine htold.mono ?_
  rintro e W ⟨rfl, hW⟩
  have hsz := hW.size
  rw [hz] at hsz
  have g0 := (hW.block _ (by rw [hz]; omega)).trans a4
  have c0 : W.cell? ⟨w.heap.size + 1 + 1 + 1 + 1, 0, none⟩ = some (.int .i64 0) := by simp [World.cell?, g0]
  have c1 : W.cell? ⟨w.heap.size + 1 + 1 + 1 + 1, 1, none⟩ = some (.int .i64 0) := by simp [World.cell?, g0]
  have f0 : W.frozen? ⟨w.heap.size + 1 + 1 + 1 + 1, 0, none⟩ = false := by simp [World.frozen?, g0]
  have f1 : W.frozen? ⟨w.heap.size + 1 + 1 + 1 + 1, 1, none⟩ = false := by simp [World.frozen?, g0]
  clear htold hcl
  go_wp2
  have hV : Below w.heap.size w ((W.setCell ⟨w.heap.size + 1 + 1 + 1 + 1, 0, none⟩ (.int .i64 x.1)).setCell ⟨w.heap.size + 1 + 1 + 1 + 1, 1, none⟩ (.int .i64 x.2.1)) :=
    ((hb.trans (hW.mono (by rw [hz]; omega))).setCell (by simp; omega) _).setCell (by simp; omega) _
  have k0 := cells_set (i := 1) (cells_set (i := 0) g0 (.int .i64 x.1)) (.int .i64 x.2.1)
  clear hW c0 c1 f0 f1 g0 hsz
  generalize ((W.setCell ⟨w.heap.size + 1 + 1 + 1 + 1, 0, none⟩ (.int .i64 x.1)).setCell ⟨w.heap.size + 1 + 1 + 1 + 1, 1, none⟩ (.int .i64 x.2.1)) = V at *
  have d0 : V.cell? ⟨w.heap.size + 1 + 1 + 1 + 1, 0, none⟩ = some (.int .i64 x.1) := by simp [World.cell?, k0]
  have d1 : V.cell? ⟨w.heap.size + 1 + 1 + 1 + 1, 1, none⟩ = some (.int .i64 x.2.1) := by simp [World.cell?, k0]
  refine ⟨rfl, tupA x, ?_, rfl, hV⟩
  simp [results, Tryz.results12, go_sem, d0, d1]
def R12 (ys : List AVal) (r : AVal) : Prop := ∃ t S a b k, ys = [StK t, .int .i64 a, .int .i64 b, .int .i64 k] ∧ Ask t S a b k ∧ r = avA (ansA t.n S (ppkR S a b t.s t.n k))
open Classical in
noncomputable def F12 (ys : List AVal) : Option AVal := if h : ∃ r, R12 ys r then some h.choose else none
theorem sound12 : Sound Tryz.prog 12 F12 := by
  refine sound_calls Tryz.func12 (by kernel_rfl) (by kernel_rfl) ?_
  intro ys r hr w S vs hS hL hl
  unfold F12 at hr
  split at hr
  · rename_i hx
    have hsp := hx.choose_spec
    cases hr
    generalize hx.choose = r at *
    obtain ⟨t, S0, a, b, k, rfl, hq, rfl⟩ := hsp
    simp only [VL, V] at hl
    obtain ⟨_, _, rfl, ⟨_, rfl, _, _, rfl, rfl, _, _, rfl, rfl, _, _, rfl, rfl, _, _, rfl, rfl, _, _, rfl, rfl, _, _, rfl, rfl, rfl⟩, _, _, rfl, rfl, _, _, rfl, rfl, _, _, rfl, rfl, rfl⟩ := hl
    refine (c12_calls hq w hL).mono ?_
    rintro e w' ⟨rfl, hb⟩
    obtain ⟨q1, q2, q3⟩ := env_below hb
    refine ⟨_, rfl, q1, q2, q3, ?_⟩
    simp only [V, VL]
    exact ⟨_, rfl, _, _, rfl, ⟨_, rfl, _, _, rfl, rfl, _, _, rfl, rfl, rfl⟩, _, _, rfl, rfl, rfl⟩
  · cases hr
theorem F12_eq {t : Stt} {S a b k : Int} (hq : Ask t S a b k) : F12 [StK t, .int .i64 a, .int .i64 b, .int .i64 k] = some (avA (ansA t.n S (ppkR S a b t.s t.n k))) := by
  have hx : ∃ r, R12 [StK t, .int .i64 a, .int .i64 b, .int .i64 k] r := ⟨_, t, S, a, b, k, rfl, hq, rfl⟩
  unfold F12
  rw [dif_pos hx]
  have hsp := hx.choose_spec
  generalize hx.choose = r at *
  obtain ⟨t', S', a', b', k', he, hq', rfl⟩ := hsp
  simp only [List.cons.injEq, AVal.agg.injEq, AVal.int.injEq, true_and, and_true] at he
  obtain ⟨⟨e1, e2, e3, e4, e5, e6⟩, rfl, rfl, rfl⟩ := he
  have e7 : t' = t := by
    obtain ⟨n, s, q, lo, hi⟩ := t
    obtain ⟨n', s', q', lo', hi'⟩ := t'
    simp only at *
    have : q' = q := by rw [← val_enc q, ← val_enc q', e3, e4]
    simp only [Stt.mk.injEq]
    exact ⟨e1.symm, e2.symm, this, e5.symm, e6.symm⟩
  subst e7
  by_cases hn : t'.n = 0
  · have : ∀ (S1 S2 : Int) (r1 r2 : Int × Int), ansA t'.n S1 r1 = ansA t'.n S2 r2 := fun S1 S2 r1 r2 => by unfold ansA; rw [if_pos (by omega), if_pos (by omega)]
    exact congrArg (fun x => some (avA x)) (this _ _ _ _)
  · rw [stG_un hq'.1 hq.1 hn]
end Go.Proofs.YtkonpbcnekcjjaaGreatDoor.DV
namespace Go.Proofs.YtkonpbcnekcjjaaGreatDoor.BS
open Go Go.Xec
abbrev x385r0 : List XOper := [
  ⟨(some 1), none, .box (.t 0)⟩,
  ⟨(some 2), none, .mv (.c (.int .i64 0))⟩,
  ⟨(some 3), none, .mv (.c (.int .i64 0))⟩]
abbrev x385r1 : List XOper := [
  ⟨(some 4), none, .fa 0 (.t 1)⟩,
  ⟨(some 5), none, .fa 1 (.t 4)⟩,
  ⟨(some 6), none, .load false 1 (.t 5)⟩,
  ⟨(some 7), none, .bin .sub (.t 6) (.c (.int .i64 1))⟩,
  ⟨(some 2), none, .mv (.c (.int .i64 2))⟩,
  ⟨(some 3), none, .mv (.t 7)⟩]
abbrev x385b : XCode :=
  (.seq (.reg 0 x385r0 none)
  (.seq (.reg 1 x385r1 (some ⟨[]⟩))
  .ret))
def x385 : XFunc := ⟨8, 1, [.tmp 2, .tmp 3], x385b⟩
theorem x385_ok : chkF Tryz.prog Tryz.f385 x385 = true := by kernel_rfl
abbrev x386r0 : List XOper := [
  ⟨(some 2), none, .box (.t 0)⟩,
  ⟨(some 4), none, .mv (.c (.int .i64 0))⟩]
abbrev x386r1 : List XOper := [
  ⟨(some 5), none, .fa 0 (.t 2)⟩,
  ⟨(some 6), none, .fa 1 (.t 5)⟩,
  ⟨(some 7), none, .load false 1 (.t 6)⟩,
  ⟨(some 8), none, .bin .eql (.t 7) (.c (.int .i64 0))⟩]
abbrev x386r2 : List XOper := [
  ⟨(some 4), none, .mv (.c (.int .i64 0))⟩]
abbrev x386r3 : List XOper := [
  ⟨(some 9), none, .mv (.t 1)⟩,
  ⟨(some 10), none, .iaS 1 (.t 9) (.c (.int .i64 0))⟩,
  ⟨(some 11), none, .load false 1 (.t 10)⟩,
  ⟨(some 12), none, .fa 0 (.t 2)⟩,
  ⟨(some 13), none, .fa 4 (.t 12)⟩,
  ⟨(some 14), none, .load false 1 (.t 13)⟩,
  ⟨(some 15), none, .bin .sub (.t 11) (.t 14)⟩,
  ⟨(some 16), none, .fa 0 (.t 2)⟩,
  ⟨(some 17), none, .fa 4 (.t 16)⟩,
  ⟨(some 18), none, .load false 1 (.t 17)⟩,
  ⟨(some 19), none, .mv (.t 1)⟩,
  ⟨(some 20), none, .iaS 1 (.t 19) (.c (.int .i64 0))⟩,
  ⟨(some 21), none, .load false 1 (.t 20)⟩,
  ⟨(some 22), none, .bin .sub (.t 18) (.t 21)⟩,
  ⟨(some 23), none, .mnx true (.t 15) [(.t 22)]⟩,
  ⟨(some 4), none, .mv (.t 23)⟩]
abbrev x386b : XCode :=
  (.seq (.reg 0 x386r0 none)
  (.seq (.seq (.reg 1 x386r1 none)
  (.cond (.t 8)
    (.seq (.reg 2 x386r2 none)
    .ret)
    .skip))
  (.seq (.reg 3 x386r3 (some ⟨[]⟩))
  .ret)))
def x386 : XFunc := ⟨24, 2, [.tmp 4], x386b⟩
theorem x386_ok : chkF Tryz.prog Tryz.f386 x386 = true := by kernel_rfl
theorem x386_eq : x386.body = x386b ∧ x386.res = [.tmp 4] ∧ x386.np = 2 := ⟨rfl, rfl, rfl⟩
abbrev x387r0 : List XOper := [
  ⟨(some 1), none, .box (.t 0)⟩,
  ⟨(some 2), none, .mv (.c (.int .i64 0))⟩,
  ⟨(some 3), none, .mv (.c (.int .i64 0))⟩,
  ⟨(some 4), none, .mv (.c (.int .i64 0))⟩,
  ⟨(some 5), none, .mv (.c (.int .i64 0))⟩]
abbrev x387r1 : List XOper := [
  ⟨(some 9), none, .call (.c (.fn (.func 66) [] [])) [(.c (.int .i64 3)), (.c (.int .i64 2))]⟩,
  ⟨(some 8), none, .mv (.t 9)⟩,
  ⟨(some 10), none, .ext (.t 8) 0⟩,
  ⟨(some 11), none, .ext (.t 8) 1⟩,
  ⟨(some 6), none, .mv (.t 10)⟩,
  ⟨(some 7), none, .mv (.t 11)⟩]
abbrev x387r2 : List XOper := [
  ⟨(some 12), none, .mv (.t 6)⟩,
  ⟨(some 13), none, .fa 0 (.t 1)⟩,
  ⟨(some 14), none, .fa 1 (.t 13)⟩,
  ⟨(some 15), none, .load false 1 (.t 14)⟩,
  ⟨(some 16), none, .bin .sub (.t 15) (.c (.int .i64 1))⟩,
  ⟨(some 17), none, .bin .mul (.t 12) (.t 16)⟩,
  ⟨(some 6), none, .mv (.t 17)⟩]
abbrev x387r3 : List XOper := [
  ⟨(some 18), none, .mv (.t 6)⟩,
  ⟨(some 19), none, .fa 0 (.t 1)⟩,
  ⟨(some 20), none, .fa 1 (.t 19)⟩,
  ⟨(some 21), none, .load false 1 (.t 20)⟩,
  ⟨(some 22), none, .bin .mul (.t 18) (.t 21)⟩,
  ⟨(some 23), none, .mv (.t 6)⟩,
  ⟨(some 24), none, .mv (.t 6)⟩,
  ⟨(some 25), none, .fa 0 (.t 1)⟩,
  ⟨(some 26), none, .fa 1 (.t 25)⟩,
  ⟨(some 27), none, .load false 1 (.t 26)⟩,
  ⟨(some 28), none, .bin .mul (.c (.int .i64 10000)) (.t 27)⟩,
  ⟨(some 29), none, .fa 0 (.t 1)⟩,
  ⟨(some 30), none, .fa 3 (.t 29)⟩,
  ⟨(some 31), none, .load false 1 (.t 30)⟩,
  ⟨(some 32), none, .bin .mul (.t 28) (.t 31)⟩,
  ⟨(some 2), none, .mv (.t 22)⟩,
  ⟨(some 3), none, .mv (.t 23)⟩,
  ⟨(some 4), none, .mv (.t 24)⟩,
  ⟨(some 5), none, .mv (.t 32)⟩]
abbrev x387b : XCode :=
  (.seq (.reg 0 x387r0 none)
  (.seq (.reg 1 x387r1 none)
  (.seq (.reg 2 x387r2 none)
  (.seq (.reg 3 x387r3 (some ⟨[]⟩))
  .ret))))
def x387 : XFunc := ⟨33, 1, [.tmp 2, .tmp 3, .tmp 4, .tmp 5], x387b⟩
theorem x387_ok : chkF Tryz.prog Tryz.f387 x387 = true := by kernel_rfl
theorem x387_eq : x387.body = x387b ∧ x387.res = [.tmp 2, .tmp 3, .tmp 4, .tmp 5] ∧ x387.np = 1 := ⟨rfl, rfl, rfl⟩
abbrev x388r0 : List XOper := [
  ⟨(some 1), none, .box (.t 0)⟩,
  ⟨(some 2), none, .mv (.c (.int .i64 0))⟩]
abbrev x388r1 : List XOper := [
  ⟨(some 3), none, .fa 0 (.t 1)⟩,
  ⟨(some 4), none, .fa 1 (.t 3)⟩,
  ⟨(some 5), none, .load false 1 (.t 4)⟩,
  ⟨(some 6), none, .bin .sub (.t 5) (.c (.int .i64 1))⟩,
  ⟨(some 7), none, .mnx true (.c (.int .i64 0)) [(.t 6)]⟩,
  ⟨(some 2), none, .mv (.t 7)⟩]
abbrev x388b : XCode :=
  (.seq (.reg 0 x388r0 none)
  (.seq (.reg 1 x388r1 none)
  .ret))
def x388 : XFunc := ⟨8, 1, [.tmp 2], x388b⟩
theorem x388_ok : chkF Tryz.prog Tryz.f388 x388 = true := by kernel_rfl
theorem x388_eq : x388.body = x388b ∧ x388.res = [.tmp 2] ∧ x388.np = 1 := ⟨rfl, rfl, rfl⟩
abbrev x389r0 : List XOper := [
  ⟨(some 1), none, .box (.t 0)⟩,
  ⟨(some 2), none, .mv (.c (.int .i64 0))⟩,
  ⟨(some 3), none, .mv (.c (.int .i64 0))⟩]
abbrev x389r1 : List XOper := [
  ⟨(some 4), none, .fa 0 (.t 1)⟩,
  ⟨(some 5), none, .fa 0 (.t 4)⟩,
  ⟨(some 6), none, .load false 1 (.t 5)⟩,
  ⟨(some 7), none, .fa 0 (.t 1)⟩,
  ⟨(some 8), none, .fa 1 (.t 7)⟩,
  ⟨(some 9), none, .load false 1 (.t 8)⟩,
  ⟨(some 2), none, .mv (.t 6)⟩,
  ⟨(some 3), none, .mv (.t 9)⟩]
abbrev x389b : XCode :=
  (.seq (.reg 0 x389r0 none)
  (.seq (.reg 1 x389r1 (some ⟨[]⟩))
  .ret))
def x389 : XFunc := ⟨10, 1, [.tmp 2, .tmp 3], x389b⟩
theorem x389_ok : chkF Tryz.prog Tryz.f389 x389 = true := by kernel_rfl
abbrev x390r0 : List XOper := [
  ⟨(some 2), none, .box (.t 0)⟩,
  ⟨(some 4), none, .mv (.c (.int .i64 0))⟩]
abbrev x390r1 : List XOper := [
  ⟨(some 5), none, .mv (.t 1)⟩,
  ⟨(some 6), none, .call (.c (.fn (.func 393) [] [])) [(.t 5)]⟩,
  ⟨(some 7), none, .mv (.t 1)⟩,
  ⟨(some 8), none, .call (.c (.fn (.func 394) [] [])) [(.t 7)]⟩,
  ⟨(some 9), none, .bin .sub (.t 6) (.t 8)⟩,
  ⟨(some 4), none, .mv (.t 9)⟩]
abbrev x390b : XCode :=
  (.seq (.reg 0 x390r0 none)
  (.seq (.reg 1 x390r1 none)
  .ret))
def x390 : XFunc := ⟨10, 2, [.tmp 4], x390b⟩
theorem x390_ok : chkF Tryz.prog Tryz.f390 x390 = true := by kernel_rfl
theorem x390_eq : x390.body = x390b ∧ x390.res = [.tmp 4] ∧ x390.np = 2 := ⟨rfl, rfl, rfl⟩
abbrev x391r0 : List XOper := [
  ⟨(some 1), none, .box (.t 0)⟩,
  ⟨(some 2), none, .mv (.c (.int .i64 0))⟩,
  ⟨(some 3), none, .mv (.c (.int .i64 0))⟩,
  ⟨(some 4), none, .mv (.c (.int .i64 0))⟩,
  ⟨(some 5), none, .mv (.c (.int .i64 0))⟩]
abbrev x391r1 : List XOper := [
  ⟨(some 9), none, .fa 0 (.t 1)⟩,
  ⟨(some 10), none, .fa 0 (.t 9)⟩,
  ⟨(some 11), none, .load false 1 (.t 10)⟩,
  ⟨(some 12), none, .call (.c (.fn (.func 66) [] [])) [(.c (.int .i64 0)), (.t 11)]⟩,
  ⟨(some 8), none, .mv (.t 12)⟩,
  ⟨(some 13), none, .ext (.t 8) 0⟩,
  ⟨(some 14), none, .ext (.t 8) 1⟩,
  ⟨(some 6), none, .mv (.t 13)⟩,
  ⟨(some 7), none, .mv (.t 14)⟩]
abbrev x391r2 : List XOper := [
  ⟨(some 15), none, .fa 0 (.t 1)⟩,
  ⟨(some 16), none, .fa 1 (.t 15)⟩,
  ⟨(some 17), none, .load false 1 (.t 16)⟩,
  ⟨(some 18), none, .bin .mul (.c (.int .i64 30000)) (.t 17)⟩,
  ⟨(some 19), none, .fa 0 (.t 1)⟩,
  ⟨(some 20), none, .fa 0 (.t 19)⟩,
  ⟨(some 21), none, .load false 1 (.t 20)⟩,
  ⟨(some 22), none, .bin .mul (.t 18) (.t 21)⟩,
  ⟨(some 23), none, .mv (.t 6)⟩,
  ⟨(some 24), none, .fa 0 (.t 1)⟩,
  ⟨(some 25), none, .fa 3 (.t 24)⟩,
  ⟨(some 26), none, .load false 1 (.t 25)⟩,
  ⟨(some 27), none, .bin .mul (.t 23) (.t 26)⟩,
  ⟨(some 28), none, .fa 0 (.t 1)⟩,
  ⟨(some 29), none, .fa 0 (.t 28)⟩,
  ⟨(some 30), none, .load false 1 (.t 29)⟩,
  ⟨(some 31), none, .bin .mul (.t 27) (.t 30)⟩,
  ⟨(some 2), none, .mv (.t 22)⟩,
  ⟨(some 3), none, .mv (.c (.int .i64 30000))⟩,
  ⟨(some 4), none, .mv (.c (.int .i64 30000))⟩,
  ⟨(some 5), none, .mv (.t 31)⟩]
abbrev x391b : XCode :=
  (.seq (.reg 0 x391r0 none)
  (.seq (.reg 1 x391r1 none)
  (.seq (.reg 2 x391r2 (some ⟨[]⟩))
  .ret)))
def x391 : XFunc := ⟨32, 1, [.tmp 2, .tmp 3, .tmp 4, .tmp 5], x391b⟩
theorem x391_ok : chkF Tryz.prog Tryz.f391 x391 = true := by kernel_rfl
theorem x391_eq : x391.body = x391b ∧ x391.res = [.tmp 2, .tmp 3, .tmp 4, .tmp 5] ∧ x391.np = 1 := ⟨rfl, rfl, rfl⟩
abbrev x392r0 : List XOper := [
  ⟨(some 1), none, .box (.t 0)⟩,
  ⟨(some 2), none, .mv (.c (.int .i64 0))⟩]
abbrev x392r1 : List XOper := [
  ⟨(some 3), none, .fa 0 (.t 1)⟩,
  ⟨(some 4), none, .fa 1 (.t 3)⟩,
  ⟨(some 5), none, .load false 1 (.t 4)⟩,
  ⟨(some 2), none, .mv (.t 5)⟩]
abbrev x392b : XCode :=
  (.seq (.reg 0 x392r0 none)
  (.seq (.reg 1 x392r1 none)
  .ret))
def x392 : XFunc := ⟨6, 1, [.tmp 2], x392b⟩
theorem x392_ok : chkF Tryz.prog Tryz.f392 x392 = true := by kernel_rfl
theorem x392_eq : x392.body = x392b ∧ x392.res = [.tmp 2] ∧ x392.np = 1 := ⟨rfl, rfl, rfl⟩
abbrev x393r0 : List XOper := [
  ⟨(some 2), none, .mv (.c (.int .i64 0))⟩]
abbrev x393r1 : List XOper := [
  ⟨(some 5), none, .mv (.t 0)⟩,
  ⟨(some 6), none, .lenV (.t 5)⟩,
  ⟨(some 7), none, .bin .lss (.t 6) (.c (.int .i64 1))⟩]
abbrev x393r2 : List XOper := [
  ⟨(some 8), none, .mki 9 (.c (.str ⟨#[115, 108, 105, 99, 101, 115, 46, 77, 97, 120, 58, 32, 101, 109, 112, 116, 121, 32, 108, 105, 115, 116]⟩))⟩,
  ⟨none, none, .bad⟩]
abbrev x393r3 : List XOper := [
  ⟨(some 9), none, .mv (.t 0)⟩,
  ⟨(some 10), none, .iaS 1 (.t 9) (.c (.int .i64 0))⟩,
  ⟨(some 11), none, .load false 1 (.t 10)⟩,
  ⟨(some 3), none, .mv (.t 11)⟩]
abbrev x393r4 : List XOper := [
  ⟨(some 4), none, .mv (.c (.int .i64 1))⟩]
abbrev x393r5 : List XOper := [
  ⟨(some 12), none, .mv (.t 4)⟩,
  ⟨(some 13), none, .mv (.t 0)⟩,
  ⟨(some 14), none, .lenV (.t 13)⟩,
  ⟨(some 15), none, .bin .lss (.t 12) (.t 14)⟩]
abbrev x393r7 : List XOper := [
  ⟨(some 18), none, .mv (.t 3)⟩,
  ⟨(some 19), none, .mv (.t 0)⟩,
  ⟨(some 20), none, .mv (.t 4)⟩,
  ⟨(some 21), none, .iaS 1 (.t 19) (.t 20)⟩,
  ⟨(some 22), none, .load false 1 (.t 21)⟩,
  ⟨(some 23), none, .mnx true (.t 18) [(.t 22)]⟩,
  ⟨(some 3), none, .mv (.t 23)⟩]
abbrev x393r6 : List XOper := [
  ⟨(some 16), none, .mv (.t 4)⟩,
  ⟨(some 17), none, .bin .add (.t 16) (.c (.int .i64 1))⟩,
  ⟨(some 4), none, .mv (.t 17)⟩]
abbrev x393l5 : XCode :=
  (.seq (.seq (.reg 5 x393r5 none)
  (.cond (.t 15)
    .skip
    (.exit 0)))
  (.seq (.block 1
    (.reg 7 x393r7 none))
  (.reg 6 x393r6 none)))
abbrev x393r8 : List XOper := [
  ⟨(some 24), none, .mv (.t 3)⟩,
  ⟨(some 2), none, .mv (.t 24)⟩]
abbrev x393b : XCode :=
  (.seq (.reg 0 x393r0 none)
  (.seq (.seq (.reg 1 x393r1 none)
  (.cond (.t 7)
    (.reg 2 x393r2 none)
    .skip))
  (.seq (.reg 3 x393r3 none)
  (.seq (.seq (.reg 4 x393r4 none)
  (.block 0
    (.loop x393l5)))
  (.seq (.reg 8 x393r8 none)
  .ret)))))
def x393 : XFunc := ⟨25, 1, [.tmp 2], x393b⟩
theorem x393_ok : chkF Tryz.prog Tryz.f393 x393 = true := by kernel_rfl
theorem x393_eq : x393.body = x393b ∧ x393.res = [.tmp 2] ∧ x393.np = 1 := ⟨rfl, rfl, rfl⟩
abbrev x394r0 : List XOper := [
  ⟨(some 2), none, .mv (.c (.int .i64 0))⟩]
abbrev x394r1 : List XOper := [
  ⟨(some 5), none, .mv (.t 0)⟩,
  ⟨(some 6), none, .lenV (.t 5)⟩,
  ⟨(some 7), none, .bin .lss (.t 6) (.c (.int .i64 1))⟩]
abbrev x394r2 : List XOper := [
  ⟨(some 8), none, .mki 9 (.c (.str ⟨#[115, 108, 105, 99, 101, 115, 46, 77, 105, 110, 58, 32, 101, 109, 112, 116, 121, 32, 108, 105, 115, 116]⟩))⟩,
  ⟨none, none, .bad⟩]
abbrev x394r3 : List XOper := [
  ⟨(some 9), none, .mv (.t 0)⟩,
  ⟨(some 10), none, .iaS 1 (.t 9) (.c (.int .i64 0))⟩,
  ⟨(some 11), none, .load false 1 (.t 10)⟩,
  ⟨(some 3), none, .mv (.t 11)⟩]
abbrev x394r4 : List XOper := [
  ⟨(some 4), none, .mv (.c (.int .i64 1))⟩]
abbrev x394r5 : List XOper := [
  ⟨(some 12), none, .mv (.t 4)⟩,
  ⟨(some 13), none, .mv (.t 0)⟩,
  ⟨(some 14), none, .lenV (.t 13)⟩,
  ⟨(some 15), none, .bin .lss (.t 12) (.t 14)⟩]
abbrev x394r7 : List XOper := [
  ⟨(some 18), none, .mv (.t 3)⟩,
  ⟨(some 19), none, .mv (.t 0)⟩,
  ⟨(some 20), none, .mv (.t 4)⟩,
  ⟨(some 21), none, .iaS 1 (.t 19) (.t 20)⟩,
  ⟨(some 22), none, .load false 1 (.t 21)⟩,
  ⟨(some 23), none, .mnx false (.t 18) [(.t 22)]⟩,
  ⟨(some 3), none, .mv (.t 23)⟩]
abbrev x394r6 : List XOper := [
  ⟨(some 16), none, .mv (.t 4)⟩,
  ⟨(some 17), none, .bin .add (.t 16) (.c (.int .i64 1))⟩,
  ⟨(some 4), none, .mv (.t 17)⟩]
abbrev x394l5 : XCode :=
  (.seq (.seq (.reg 5 x394r5 none)
  (.cond (.t 15)
    .skip
    (.exit 0)))
  (.seq (.block 1
    (.reg 7 x394r7 none))
  (.reg 6 x394r6 none)))
abbrev x394r8 : List XOper := [
  ⟨(some 24), none, .mv (.t 3)⟩,
  ⟨(some 2), none, .mv (.t 24)⟩]
abbrev x394b : XCode :=
  (.seq (.reg 0 x394r0 none)
  (.seq (.seq (.reg 1 x394r1 none)
  (.cond (.t 7)
    (.reg 2 x394r2 none)
    .skip))
  (.seq (.reg 3 x394r3 none)
  (.seq (.seq (.reg 4 x394r4 none)
  (.block 0
    (.loop x394l5)))
  (.seq (.reg 8 x394r8 none)
  .ret)))))
def x394 : XFunc := ⟨25, 1, [.tmp 2], x394b⟩
theorem x394_ok : chkF Tryz.prog Tryz.f394 x394 = true := by kernel_rfl
theorem x394_eq : x394.body = x394b ∧ x394.res = [.tmp 2] ∧ x394.np = 1 := ⟨rfl, rfl, rfl⟩
def xf2 : FuncId → Option XFunc
  | 385 => some x385
  | 386 => some x386
  | 387 => some x387
  | 388 => some x388
  | 389 => some x389
  | 390 => some x390
  | 391 => some x391
  | 392 => some x392
  | 393 => some x393
  | 394 => some x394
  | g => xf g
def more (C : Cfg) : Cfg := ⟨C.Γ, xf2, C.Γn, C.Γm, C.Γa, C.μ⟩
theorem more_ok {C : Cfg} (ok : CfgOk Tryz.prog C) : CfgOk Tryz.prog (more C) := by
  refine ⟨ok.Γ, fun g x h => ?_, ok.mixed, ok.Γn, ok.Γm, ok.Γa, ok.μ⟩
  change xf2 g = some x at h
  unfold xf2 at h
  split at h
  · cases h; exact ⟨Tryz.f385, Tryz.func385, x385_ok⟩
  · cases h; exact ⟨Tryz.f386, Tryz.func386, x386_ok⟩
  · cases h; exact ⟨Tryz.f387, Tryz.func387, x387_ok⟩
  · cases h; exact ⟨Tryz.f388, Tryz.func388, x388_ok⟩
  · cases h; exact ⟨Tryz.f389, Tryz.func389, x389_ok⟩
  · cases h; exact ⟨Tryz.f390, Tryz.func390, x390_ok⟩
  · cases h; exact ⟨Tryz.f391, Tryz.func391, x391_ok⟩
  · cases h; exact ⟨Tryz.f392, Tryz.func392, x392_ok⟩
  · cases h; exact ⟨Tryz.f393, Tryz.func393, x393_ok⟩
  · cases h; exact ⟨Tryz.f394, Tryz.func394, x394_ok⟩
  · exact ok0.xf g x h
end Go.Proofs.YtkonpbcnekcjjaaGreatDoor.BS
namespace Go.Proofs.YtkonpbcnekcjjaaGreatDoor
open Go Go.Xec
attribute [local go_sem] tm0 ne_eq not_false_eq_true List.length_append List.length_replicate List.replicate_succ List.replicate_zero Int.cast_ofNat_Int not_true_eq_false decide_true decide_false ite_self beq_self_eq_true Bool.true_beq Bool.false_beq Bool.not_true Bool.not_false
attribute [local go_sem_proc] Nat.reduceAdd Nat.reduceMul Nat.reduceSub Nat.reduceLeDiff Nat.reduceLT Nat.reduceEqDiff Int.reduceLT Int.reduceLE Int.reduceAdd Int.reduceSub Int.reduceMul Int.reduceToNat Int.reducePow Int.reduceNe Int.reduceMod Int.reduceDiv Int.reduceEq Nat.reducePow Int.reduceNeg
set_option maxRecDepth 10000
noncomputable def F88 : List AVal → Option AVal := pureF C2 1 88
theorem sound88 : Sound Tryz.prog 88 F88 := sound_self ok2 1 88
theorem F88_eq {x : Int} : F88 [.int .i64 x] = some (.bool (decide (0 ≤ x ∧ x < 7))) := by
  unfold F88
  refine pureF_of (x := x88) rfl rfl ?_
  rw [x88_eq.1, x88_eq.2.1]
  simp (disch := first | omega | simp only [go_sem, ↓reduceIte, dropK_eq]) only [x88b, go_sem, ↓reduceIte, dropK_eq]
  repeat' (first | refine Ends_plain rfl ?_ | (first | refine Gd_split_t (fun h => ?_) (fun h => ?_) | refine Gd_split_f (fun h => ?_) (fun h => ?_) | refine Cd_split (fun h => ?_) (fun h => ?_)) <;> (try simp (disch := first | omega | simp only [go_sem, ↓reduceIte, dropK_eq]) only [*, go_sem, ↓reduceIte, dropK_eq]))
  all_goals (congr 1; (try simp only [Bool.not_eq_true', Bool.not_eq_false', decide_eq_true_eq, decide_eq_false_iff_not] at *); first | exact decide_eq_decide.2 (by omega) | exact (decide_eq_false (by omega)).symm | exact (decide_eq_true (by omega)).symm)
noncomputable def F89 : List AVal → Option AVal := pureF C2 1 89
theorem sound89 : Sound Tryz.prog 89 F89 := sound_self ok2 1 89
theorem F89_eq {x : Int} : F89 [.int .i64 x] = some (.bool (decide (2 ≤ x ∧ x ≤ 10))) := by
  unfold F89
  refine pureF_of (x := x89) rfl rfl ?_
  rw [x89_eq.1, x89_eq.2.1]
  simp (disch := first | omega | simp only [go_sem, ↓reduceIte, dropK_eq]) only [x89b, go_sem, ↓reduceIte, dropK_eq]
  repeat' (first | refine Ends_plain rfl ?_ | (first | refine Gd_split_t (fun h => ?_) (fun h => ?_) | refine Gd_split_f (fun h => ?_) (fun h => ?_) | refine Cd_split (fun h => ?_) (fun h => ?_)) <;> (try simp (disch := first | omega | simp only [go_sem, ↓reduceIte, dropK_eq]) only [*, go_sem, ↓reduceIte, dropK_eq]))
  all_goals (congr 1; (try simp only [Bool.not_eq_true', Bool.not_eq_false', decide_eq_true_eq, decide_eq_false_iff_not] at *); first | exact decide_eq_decide.2 (by omega) | exact (decide_eq_false (by omega)).symm | exact (decide_eq_true (by omega)).symm)
end Go.Proofs.YtkonpbcnekcjjaaGreatDoor
namespace Go.Proofs.YtkonpbcnekcjjaaGreatDoor
open Go Go.Xec Go.RowKit
theorem on_disable (w : World) : (callFunc 273 #[]).run Tryz.prog w = .ok (.value (.tuple #[])) w := run_call_mark0 Tryz.func273 (by kernel_rfl) (by kernel_rfl) (by kernel_rfl) .disable (by kernel_rfl) w
theorem on_enable (w : World) : (callFunc 275 #[]).run Tryz.prog w = .ok (.value (.tuple #[])) w := run_call_mark0 Tryz.func275 (by kernel_rfl) (by kernel_rfl) (by kernel_rfl) .enable (by kernel_rfl) w
theorem on_acquire (a : Addr) (w : World) : (callFunc 276 #[.pointer (some a)]).run Tryz.prog w = .ok (.value (.tuple #[])) w := run_call_marked Tryz.func276 (by kernel_rfl) (by kernel_rfl) (by kernel_rfl) .acquire (by kernel_rfl) a w
theorem on_release (a : Addr) (w : World) : (callFunc 278 #[.pointer (some a)]).run Tryz.prog w = .ok (.value (.tuple #[])) w := run_call_marked Tryz.func278 (by kernel_rfl) (by kernel_rfl) (by kernel_rfl) .releaseMerge (by kernel_rfl) a w
theorem on_store (a : Addr) (x : Value) (u : FrameMode) (w : World) (hc : w.cell? a = some x) (hz : w.frozen? a = false) :
    CallsD Tryz.prog 192 #[.pointer (some a), .bool true] u w fun e u' w' => u' = u ∧ (e = .returned (.tuple #[]) ∧ w' = w.drew.setCell a (.int .u32 1)) := by
  have hc' : w.drew.cell? a = some x := by go_simp
  have hz' : w.drew.frozen? a = false := by go_simp
  have hst := run_call_store (P := Tryz.prog) Tryz.func230 (by kernel_rfl) (by kernel_rfl) (by kernel_rfl) (by kernel_rfl) (k := .u32) (y := 1) hc' hz'
  go_enter_d Tryz.func192, Tryz.ntmps192
  go_wp2
  go_region_calls
  all_goals (go_end0; exact ⟨rfl, rfl⟩)
set_option maxRecDepth 100000 in
set_option maxHeartbeats 1600000 in
theorem on_unlock (a : Addr) (u : FrameMode) (w : World) (hc : w.cell? a = some (.int .i32 1)) (hz : w.frozen? a = false) :
    CallsD Tryz.prog 191 #[.pointer (some a)] u w fun e u' w' => u' = u ∧ (e = .returned (.tuple #[]) ∧ w' = w.setCell a (.int .i32 0)) := by
  have hd := on_disable
  have he := on_enable
  have hr := on_release
  have hadd := run_call_add (P := Tryz.prog) Tryz.func279 (by kernel_rfl) (by kernel_rfl) (by kernel_rfl) .i32 (by kernel_rfl) (y := -1) (s := 0) hc hz (by simp [go_sem]; rfl)
  have hcv := run_convert_to_unsafe (P := Tryz.prog) (src := 428) (dst := 246) Tryz.underlying428 Tryz.underlying246 (by kernel_rfl) hc
  go_enter_d Tryz.func191, Tryz.ntmps191
  go_wp2
  go_end0
  go_wp2
  go_end0
  exact ⟨rfl, rfl⟩
set_option maxRecDepth 100000 in
set_option maxHeartbeats 1600000 in
theorem on_lock (a : Addr) (w : World) (hc : w.cell? a = some (.int .i32 0)) (hz : w.frozen? a = false) :
    Calls Tryz.prog 190 #[.pointer (some a)] w fun e w' => e = .returned (.tuple #[]) ∧ w' = w.setCell a (.int .i32 1) := by
  have hd := on_disable
  have he := on_enable
  have ha := on_acquire
  have hcas := run_call_cas_hit (P := Tryz.prog) Tryz.func274 (by kernel_rfl) (by kernel_rfl) (by kernel_rfl) .i32 (by kernel_rfl) (y := 1) hc hz
  have hc' : (w.setCell a (.int .i32 1)).cell? a = some (.int .i32 1) := World.cell?_setCell_same w a _ hc
  have hcv := run_convert_to_unsafe (P := Tryz.prog) (src := 428) (dst := 246) Tryz.underlying428 Tryz.underlying246 (by kernel_rfl) hc'
  go_enter Tryz.func190, Tryz.ntmps190
  go_wp2
  first | go_end0 | (simp only [Exit.inBlock, Exit.then]; refine bodyPost_ret (results_none rfl _ _ _) rfl ?_) | refine bodyPost_ret (results_none rfl _ _ _) rfl ?_
  go_wp2
  go_end0
  exact ⟨rfl, rfl⟩
def facL : List Int := [18800, 10230, 7290, 5770, 4830, 4190, 3730, 3370, 3080, 0, 0, 0, 0, 0, 760, 1360, 1840, 2230, 32670, 25740, 22820, 21140, 20040, 19240, 18640, 18160, 17770, 11280, 16930, 20590, 23260, 25340, 27040, 28470, 29700, 30780, 26590, 19540, 16280, 14270, 12870, 11820, 10990, 10320, 9750, 0, 0, 0, 0, 300, 1180, 1850, 2390, 2840, 32670, 25680, 22660, 20890, 19700, 18820, 18150, 17610, 17160]
abbrev facV : List Value := facL.map (Value.int .i64)
set_option maxRecDepth 100000 in
set_option maxHeartbeats 1600000 in
theorem fill_calls (b : Nat) (w : World) (ht : w.there b 3 63) :
    Calls Tryz.prog 117 #[.pointer (some ⟨b, 0, none⟩)] w fun e w' => e = .returned (.tuple #[]) ∧ w' = w.setCells b 3 facV := by
  have hi : (Tryz.prog.info? 194).map (·.size) = some facV.toArray.size := by kernel_rfl
  have h1 : facV.toArray.all (·.oneCell') = true := by kernel_rfl
  go_enter Tryz.func117, Tryz.ntmps117
  repeat (first | refine wp_store_mid 194 (.tmp 12) (.tmp 10) rfl b 3 facV.toArray rfl rfl ht hi h1 ?_ | go_step)
  go_end0
  exact ⟨rfl, rfl⟩
abbrev facW (b : Nat) (w : World) : World := ((((w.setCell ⟨b, 1, none⟩ (.int .i32 1)).setCells b 3 facV).drew.setCell ⟨b, 0, none⟩ (.int .u32 1)).setCell ⟨b, 1, none⟩ (.int .i32 0))
theorem there_setCell {w : World} {b o n : Nat} (h : w.there b o n) (x : Addr) (v : Value) (hx : x.block = b → x.off < o ∨ o + n ≤ x.off) : (w.setCell x v).there b o n := by
  intro j hj
  obtain ⟨h1, h2⟩ := h j hj
  refine ⟨?_, by simp [h2]⟩
  rw [World.cell?_setCell_other _ _ _ _ (by rintro e; have := congrArg Addr.block e; have h3 := congrArg Addr.off e; simp at this h3; have := hx this; omega)]
  exact h1
theorem load_not (a : Addr) (w : World) (h : w.cell? a = some (.int .u32 0)) : Calls Tryz.prog 156 #[.pointer (some a)] w fun e w' => e = .returned (.bool false) ∧ w' = w := by
  have hl := run_call_load (P := Tryz.prog) Tryz.func189 (by kernel_rfl) (by kernel_rfl) (by kernel_rfl) .u32 (by kernel_rfl) h
  go_enter Tryz.func156, Tryz.ntmps156
  go_wp2
  go_ret
  exact ⟨rfl, rfl⟩
set_option maxRecDepth 100000 in
set_option maxHeartbeats 1600000 in
theorem slow_calls (b : Nat) (w : World) (h0 : w.cell? ⟨b, 0, none⟩ = some (.int .u32 0)) (h1 : w.cell? ⟨b, 1, none⟩ = some (.int .i32 0)) (ht : w.there b 3 63) (f0 : w.frozen? ⟨b, 0, none⟩ = false) (f1 : w.frozen? ⟨b, 1, none⟩ = false) :
    Calls Tryz.prog 157 #[.pointer (some ⟨b, 0, none⟩), .func (.func 117) #[.pointer (some ⟨b, 0, none⟩)] #[]] w fun e w' => e = .returned (.tuple #[]) ∧ w' = facW b w := by
  have hl : (w.setCell ⟨b, 1, none⟩ (.int .i32 1)).cell? ⟨b, 0, none⟩ = some (.int .u32 0) := (World.cell?_setCell_other _ ⟨b, 1, none⟩ ⟨b, 0, none⟩ _ (by simp)).trans h0
  have ht1 := there_setCell ht ⟨b, 1, none⟩ (.int .i32 1) (by simp)
  have hnot : ∀ (x : Bool) (w : World), (Op.unary .not (.bool x)).run Tryz.prog w = .ok (.bool (!x)) w := fun _ _ => rfl
  go_enter_defers Tryz.func157, Tryz.ntmps157
  go_wp2_with (go_at_call 190; refine (on_lock ⟨b, 1, none⟩ _ (by go_simp) (by go_simp)).mono ?_; rintro e w' ⟨rfl, rfl⟩)
  go_wp2_with (go_at_call 156; refine (load_not ⟨b, 0, none⟩ _ hl).mono ?_; rintro e w' ⟨rfl, rfl⟩)
  go_wp2_with (go_at_call 117; refine (fill_calls b _ ht1).mono ?_; rintro e w' ⟨rfl, rfl⟩)
  have q0 : ((w.setCell ⟨b, 1, none⟩ (.int .i32 1)).setCells b 3 facV).cell? ⟨b, 0, none⟩ = some (.int .u32 0) := by
    rw [World.cell?_setCells_out b facV 3 _ ⟨b, 0, none⟩ (fun _ _ => .inl (by simp))]
    exact hl
  have q1 : ((w.setCell ⟨b, 1, none⟩ (.int .i32 1)).setCells b 3 facV).cell? ⟨b, 1, none⟩ = some (.int .i32 1) := by
    rw [World.cell?_setCells_out b facV 3 _ ⟨b, 1, none⟩ (fun _ _ => .inl (by simp))]
    exact World.cell?_setCell_same _ _ _ h1
  have z0 : ((w.setCell ⟨b, 1, none⟩ (.int .i32 1)).setCells b 3 facV).frozen? ⟨b, 0, none⟩ = false := by
    rw [World.frozen?_setCells]; simp [f0]
  have z1 : ((w.setCell ⟨b, 1, none⟩ (.int .i32 1)).setCells b 3 facV).frozen? ⟨b, 1, none⟩ = false := by
    rw [World.frozen?_setCells]; simp [f1]
  unfold facW
  generalize (w.setCell ⟨b, 1, none⟩ (.int .i32 1)).setCells b 3 facV = w2 at *
  refine leaves_cons (f := 192) (args := #[.pointer (some ⟨b, 0, none⟩), .bool true]) (by simp) (by simp [go_sem]) ?_
  refine (on_store ⟨b, 0, none⟩ (.int .u32 0) .returning _ q0 z0).mono ?_
  rintro e u' w'' ⟨rfl, rfl, rfl⟩
  refine leaves_cons (f := 191) (args := #[.pointer (some ⟨b, 1, none⟩)]) (by simp [settle]) (by simp [go_sem]) ?_
  refine (on_unlock ⟨b, 1, none⟩ _ _ ?_ (by simp [z1])).mono ?_
  · refine (World.cell?_setCell_other _ ⟨b, 0, none⟩ ⟨b, 1, none⟩ _ (by simp)).trans ?_
    rw [World.cell?_drew]
    exact q1
  rintro e u' w'' ⟨rfl, rfl, rfl⟩
  simp [Leaves, settle, results, Tryz.results157]
theorem do_calls (b : Nat) (w : World) (h0 : w.cell? ⟨b, 0, none⟩ = some (.int .u32 0)) (h1 : w.cell? ⟨b, 1, none⟩ = some (.int .i32 0)) (ht : w.there b 3 63) (f0 : w.frozen? ⟨b, 0, none⟩ = false) (f1 : w.frozen? ⟨b, 1, none⟩ = false) :
    Calls Tryz.prog 116 #[.pointer (some ⟨b, 0, none⟩), .func (.func 117) #[.pointer (some ⟨b, 0, none⟩)] #[]] w fun e w' => e = .returned (.tuple #[]) ∧ w' = facW b w := by
  have hnot : ∀ (x : Bool) (w : World), (Op.unary .not (.bool x)).run Tryz.prog w = .ok (.bool (!x)) w := fun _ _ => rfl
  go_enter Tryz.func116, Tryz.ntmps116
  go_wp2_with (first | (go_at_call 156; refine (load_not ⟨b, 0, none⟩ _ h0).mono ?_; rintro e w' ⟨rfl, rfl⟩) | (go_at_call 157; refine (slow_calls b _ h0 h1 ht f0 f1).mono ?_; rintro e w' ⟨rfl, rfl⟩))
  go_end0
  exact ⟨rfl, rfl⟩
def facI (k n : Int) : Int := facL.getD (k.toNat * 9 + (n.toNat - 2)) 0
theorem facW_below {B b : Nat} (hb : B ≤ b) (w : World) : Below B w (facW b w) := by
  refine (((?_ : Below B w ((w.setCell ⟨b, 1, none⟩ (.int .i32 1)).setCells b 3 facV)).drew).setCell hb _).setCell hb _
  have h1 : Below B w (w.setCell ⟨b, 1, none⟩ (.int .i32 1)) := (Below.refl _ _).setCell hb _
  generalize w.setCell ⟨b, 1, none⟩ (.int .i32 1) = w1 at h1
  have h2 : ∀ (vs : List Value) (o : Nat) (w1 : World), Below B w w1 → Below B w (w1.setCells b o vs) := by
    intro vs
    induction vs with
    | nil => intro o w1 h; exact h
    | cons v vs ih => intro o w1 h; exact ih (o + 1) _ (h.setCell hb _)
  exact h2 _ _ _ h1
theorem facW_cell {b : Nat} {w : World} (ht : w.there b 3 63) {j : Nat} (hj : j < 63) : (facW b w).cell? ⟨b, 3 + j, none⟩ = some (.int .i64 (facL.getD j 0)) := by
  unfold facW
  rw [World.cell?_setCell_other _ _ _ _ (by simp), World.cell?_setCell_other _ _ _ _ (by simp), World.cell?_drew]
  have hj' : j < facV.length := hj
  rw [World.cell?_setCells_in b facV 3 _ (fun i hi => (there_setCell ht ⟨b, 1, none⟩ _ (by simp) i hi).1) j hj']
  simp only [facV, List.getElem_map]
  rw [List.getD_eq_getElem?_getD, List.getElem?_eq_getElem (show j < facL.length from hj)]
  rfl
set_option maxRecDepth 100000 in
set_option maxHeartbeats 1600000 in
theorem at_calls (b : Nat) (k n : Int) (hk : 0 ≤ k ∧ k < 7) (hn : 2 ≤ n ∧ n ≤ 10) (w : World) (h0 : w.cell? ⟨b, 0, none⟩ = some (.int .u32 0)) (h1 : w.cell? ⟨b, 1, none⟩ = some (.int .i32 0)) (ht : w.there b 3 63) (f0 : w.frozen? ⟨b, 0, none⟩ = false) (f1 : w.frozen? ⟨b, 1, none⟩ = false) :
    Calls Tryz.prog 90 #[.pointer (some ⟨b, 0, none⟩), .int .i64 k, .int .i64 n] w fun e w' => e = .returned (.int .i64 (facI k n)) ∧ w' = facW b w := by
  have hmf : ∀ (fn : Fn) (first cap : Array Value) (w : World), (Instr.makeFunc fn first cap).run Tryz.prog w = .ok (.func fn first cap) w := fun _ _ _ _ => rfl
  go_enter Tryz.func90, Tryz.ntmps90
  have hcell := fun j hj => facW_cell ht (j := j) hj
  have hdo := do_calls b w h0 h1 ht f0 f1
  generalize facW b w = w2 at *
  obtain ⟨i, rfl⟩ : ∃ i : Nat, k = i := ⟨k.toNat, by omega⟩
  obtain ⟨j, rfl⟩ : ∃ j : Nat, n = j + 2 := ⟨(n - 2).toNat, by omega⟩
  have hj := hcell (i * 9 + j) (by omega)
  have hf : facI (i : Int) ((j : Int) + 2) = facL.getD (i * 9 + j) 0 := by
    unfold facI
    rw [Int.toNat_natCast, show ((j : Int) + 2).toNat - 2 = j by omega]
  rw [hf]
  rw [← Nat.add_assoc] at hj
  have w1 : (j : Int) + 2 - 2 = j := by omega
  have g1 : (i : Int) < 7 := by omega
  have g2 : (j : Int) < 9 := by omega
  clear hcell h0 h1 ht f0 f1 hf
  go_wp2_with (go_at_call 116; refine hdo.mono ?_; rintro e w' ⟨rfl, rfl⟩)
  go_ret
  exact ⟨rfl, rfl⟩
def F_fac : List AVal → Option AVal
  | [.int .i64 k, .int .i64 n] => if (0 ≤ k ∧ k < 7) ∧ 2 ≤ n ∧ n ≤ 10 then some (.tup [.int .i64 (facI k n), .int .i64 0]) else none
  | _ => none
theorem F_fac_eq {k n : Int} (hk : 0 ≤ k ∧ k < 7) (hn : 2 ≤ n ∧ n ≤ 10) : F_fac [.int .i64 k, .int .i64 n] = some (.tup [.int .i64 (facI k n), .int .i64 0]) := if_pos ⟨hk, hn⟩
set_option maxRecDepth 100000 in
theorem fac_calls (k n : Int) (hk : 0 ≤ k ∧ k < 7) (hn : 2 ≤ n ∧ n ≤ 10) (w : World) (hL : Laid Tryz.prog w) :
    Calls Tryz.prog 66 #[.int .i64 k, .int .i64 n] w fun e w' => e = .returned (.tuple #[.int .i64 (facI k n), .int .i64 0]) ∧ Below w.heap.size w w' := by
  have e88 := F88_eq (x := k)
  have e89 := F89_eq (x := n)
  rw [decide_eq_true hk] at e88
  rw [decide_eq_true hn] at e89
  have c88 := calls_sound Tryz.func88 (by kernel_rfl) (by kernel_rfl) sound88 e88 w hL (vs := [.int .i64 k]) (by simp only [VL, V]; exact ⟨_, _, rfl, rfl, rfl⟩)
  have hnot : ∀ (x : Bool) (w : World), (Op.unary .not (.bool x)).run Tryz.prog w = .ok (.bool (!x)) w := fun _ _ => rfl
  go_enter Tryz.func66, Tryz.ntmps66
  go_wp2_with (go_at_call 88; refine c88.mono ?_; rintro e w1 ⟨v, rfl, hb1, hv⟩; obtain rfl := V_bool hv)
  have c89 := calls_sound Tryz.func89 (by kernel_rfl) (by kernel_rfl) sound89 e89 w1 (below_laid hL hb1) (vs := [.int .i64 n]) (by simp only [VL, V]; exact ⟨_, _, rfl, rfl, rfl⟩)
  go_wp2_with (go_at_call 89; refine c89.mono ?_; rintro e w2 ⟨v, rfl, hb2, hv⟩; obtain rfl := V_bool hv)
  have z0 : Tryz.zeroCells196[0]? = some (.int .u32 0) := by kernel_rfl
  have z1 : Tryz.zeroCells196[1]? = some (.int .i32 0) := by kernel_rfl
  have zs : Tryz.zeroCells196.size = 66 := by kernel_rfl
  have hb3 : Below w2.heap.size w2 (w2.alloc (.cells Tryz.zeroCells196 196)) := (Below.refl _ _).alloc (Nat.le_refl _) _
  have ha := at_calls w2.heap.size k n hk hn (w2.alloc (.cells Tryz.zeroCells196 196)) (by rw [World.cell?_alloc_new]; exact z0) (by rw [World.cell?_alloc_new]; exact z1)
    (fun j hj => ⟨by rw [World.cell?_alloc_new, Array.getElem?_eq_getElem (by omega)]; rfl, by simp⟩) (by simp) (by simp)
  have hb4 := hb3.trans (facW_below (Nat.le_refl _) (w2.alloc (.cells Tryz.zeroCells196 196)))
  generalize w2.alloc (.cells Tryz.zeroCells196 196) = w3 at *
  generalize facW w2.heap.size w3 = w4 at *
  have hz1 := hb1.size
  have hz2 := hb2.size
  have hb : Below w.heap.size w w4 := hb1.trans ((hb2.mono hz1).trans (hb4.mono (Nat.le_trans hz1 hz2)))
  clear hb1 hb2 hb3 hb4
  go_wp2_with (go_at_call 90; refine ha.mono ?_; rintro e w' ⟨rfl, rfl⟩)
  go_ret2
  exact ⟨rfl, hb⟩
theorem sound66 : Sound Tryz.prog 66 F_fac := by
  refine sound_calls Tryz.func66 (by kernel_rfl) (by kernel_rfl) ?_
  intro ys r hr w S vs hS hL hl
  unfold F_fac at hr
  split at hr
  · rename_i k n
    split at hr
    · rename_i hx
      cases hr
      obtain ⟨u1, u2, rfl, e1, e2⟩ := VL_2 hl
      have e1 := V_int e1
      have e2 := V_int e2
      subst e1 e2
      refine (fac_calls k n hx.1 hx.2 w hL).mono ?_
      rintro e w' ⟨rfl, hb⟩
      obtain ⟨q1, q2, q3⟩ := env_below hb
      refine ⟨_, rfl, q1, q2, q3, ?_⟩
      simp only [V, VL]
      exact ⟨_, rfl, _, _, rfl, rfl, _, _, rfl, rfl, rfl⟩
    · cases hr
  · cases hr
end Go.Proofs.YtkonpbcnekcjjaaGreatDoor
