/-
  Texts of an earlier seat, with this seat's numbers.
-/
import Derived.Test.YtppehejnnjlkfaaGreatDoorYG
import Derived.Test.YtppehejnnjlkfaaGreatDoorYB
set_option linter.unusedVariables false
set_option linter.unusedSimpArgs false
-- port.tmp.in
namespace Go.Proofs.YtppehejnnjlkfaaGreatDoor.T
open Go Go.Xec
attribute [local go_sem] tm0 ne_eq not_false_eq_true List.length_append List.length_replicate List.replicate_succ List.replicate_zero Int.cast_ofNat_Int not_true_eq_false decide_true decide_false ite_self beq_self_eq_true Bool.true_beq Bool.false_beq Bool.not_true Bool.not_false
attribute [local go_sem_proc] Nat.reduceAdd Nat.reduceMul Nat.reduceSub Nat.reduceLeDiff Nat.reduceLT Nat.reduceEqDiff Int.reduceLT Int.reduceLE Int.reduceAdd Int.reduceSub Int.reduceMul Int.reduceToNat Int.reducePow Int.reduceNe Int.reduceMod Int.reduceDiv Int.reduceEq Nat.reducePow Int.reduceNeg
set_option maxRecDepth 10000
theorem getB_mem {l : List UInt8} {i : Nat} (hi : i < l.length) : l.getD i 0 ∈ l := by
  rw [List.getD_eq_getElem?_getD, List.getElem?_eq_getElem hi]
  exact List.getElem_mem hi
theorem all_getB {p : UInt8 → Prop} {l : List UInt8} (h : ∀ j, j < l.length → p (l.getD j 0)) : ∀ b ∈ l, p b := by
  intro b hb
  obtain ⟨i, hi, rfl⟩ := List.getElem_of_mem hb
  have := h i hi
  simpa [List.getD_eq_getElem?_getD, List.getElem?_eq_getElem hi] using this
abbrev lett (n : Int) : Prop := 97 ≤ n ∧ n ≤ 122
abbrev digi (n : Int) : Prop := 48 ≤ n ∧ n ≤ 57
abbrev letB (b : UInt8) : Prop := lett (b.toNat : Int)
abbrev digB (b : UInt8) : Prop := digi (b.toNat : Int)
noncomputable def F71 : List AVal → Option AVal := pureF C0 1 71
theorem sound71 : Sound Tryz.prog 71 F71 := sound_self ok0 1 71
theorem F71_eq {n : Int} : F71 [.int .u8 n] = some (.bool (decide (lett n))) := by
  unfold F71
  refine pureF_of (x := x71) rfl rfl ?_
  rw [x71_eq.1, x71_eq.2.1]
  simp (disch := first | omega | simp only [go_sem, ↓reduceIte, dropK_eq]) only [x71b, go_sem, ↓reduceIte, dropK_eq]
  repeat' (first | refine Ends_plain rfl ?_ | (first | refine Gd_split_t (fun h => ?_) (fun h => ?_) | refine Gd_split_f (fun h => ?_) (fun h => ?_) | refine Cd_split (fun h => ?_) (fun h => ?_)) <;> (try simp (disch := first | omega | simp only [go_sem, ↓reduceIte, dropK_eq]) only [*, go_sem, ↓reduceIte, dropK_eq]))
  all_goals (congr 1; try simp only [Bool.not_eq_true', Bool.not_eq_false', decide_eq_true_eq, decide_eq_false_iff_not] at *)
  all_goals first | exact decide_eq_decide.2 (by simp only [lett]; omega) | exact (decide_eq_false (by simp only [lett]; omega)).symm | exact (decide_eq_true (by simp only [lett]; omega)).symm
noncomputable def F80 : List AVal → Option AVal := pureF C0 1 80
theorem sound80 : Sound Tryz.prog 80 F80 := sound_self ok0 1 80
theorem F80_eq {n : Int} : F80 [.int .u8 n] = some (.bool (decide (lett n))) := by
  unfold F80
  refine pureF_of (x := x80) rfl rfl ?_
  rw [x80_eq.1, x80_eq.2.1]
  simp (disch := first | omega | simp only [go_sem, ↓reduceIte, dropK_eq]) only [x80b, go_sem, ↓reduceIte, dropK_eq]
  repeat' (first | refine Ends_plain rfl ?_ | (first | refine Gd_split_t (fun h => ?_) (fun h => ?_) | refine Gd_split_f (fun h => ?_) (fun h => ?_) | refine Cd_split (fun h => ?_) (fun h => ?_)) <;> (try simp (disch := first | omega | simp only [go_sem, ↓reduceIte, dropK_eq]) only [*, go_sem, ↓reduceIte, dropK_eq]))
  all_goals (congr 1; try simp only [Bool.not_eq_true', Bool.not_eq_false', decide_eq_true_eq, decide_eq_false_iff_not] at *)
  all_goals first | exact decide_eq_decide.2 (by simp only [lett]; omega) | exact (decide_eq_false (by simp only [lett]; omega)).symm | exact (decide_eq_true (by simp only [lett]; omega)).symm
noncomputable def F69 : List AVal → Option AVal := pureF C0 1 69
theorem sound69 : Sound Tryz.prog 69 F69 := sound_self ok0 1 69
theorem F69_eq {n : Int} : F69 [.int .u8 n] = some (.bool (decide (digi n))) := by
  unfold F69
  refine pureF_of (x := x69) rfl rfl ?_
  rw [x69_eq.1, x69_eq.2.1]
  simp (disch := first | omega | simp only [go_sem, ↓reduceIte, dropK_eq]) only [x69b, go_sem, ↓reduceIte, dropK_eq]
  repeat' (first | refine Ends_plain rfl ?_ | (first | refine Gd_split_t (fun h => ?_) (fun h => ?_) | refine Gd_split_f (fun h => ?_) (fun h => ?_) | refine Cd_split (fun h => ?_) (fun h => ?_)) <;> (try simp (disch := first | omega | simp only [go_sem, ↓reduceIte, dropK_eq]) only [*, go_sem, ↓reduceIte, dropK_eq]))
  all_goals (congr 1; try simp only [Bool.not_eq_true', Bool.not_eq_false', decide_eq_true_eq, decide_eq_false_iff_not] at *)
  all_goals first | exact decide_eq_decide.2 (by simp only [digi]; omega) | exact (decide_eq_false (by simp only [digi]; omega)).symm | exact (decide_eq_true (by simp only [digi]; omega)).symm
noncomputable def F78 : List AVal → Option AVal := pureF C0 1 78
theorem sound78 : Sound Tryz.prog 78 F78 := sound_self ok0 1 78
theorem F78_eq {n : Int} : F78 [.int .u8 n] = some (.bool (decide (digi n))) := by
  unfold F78
  refine pureF_of (x := x78) rfl rfl ?_
  rw [x78_eq.1, x78_eq.2.1]
  simp (disch := first | omega | simp only [go_sem, ↓reduceIte, dropK_eq]) only [x78b, go_sem, ↓reduceIte, dropK_eq]
  repeat' (first | refine Ends_plain rfl ?_ | (first | refine Gd_split_t (fun h => ?_) (fun h => ?_) | refine Gd_split_f (fun h => ?_) (fun h => ?_) | refine Cd_split (fun h => ?_) (fun h => ?_)) <;> (try simp (disch := first | omega | simp only [go_sem, ↓reduceIte, dropK_eq]) only [*, go_sem, ↓reduceIte, dropK_eq]))
  all_goals (congr 1; try simp only [Bool.not_eq_true', Bool.not_eq_false', decide_eq_true_eq, decide_eq_false_iff_not] at *)
  all_goals first | exact decide_eq_decide.2 (by simp only [digi]; omega) | exact (decide_eq_false (by simp only [digi]; omega)).symm | exact (decide_eq_true (by simp only [digi]; omega)).symm
abbrev numOk (n : Int) : Prop := -1000000000 ≤ n ∧ n ≤ 1000000000
noncomputable def F85 : List AVal → Option AVal := pureF C0 1 85
theorem sound85 : Sound Tryz.prog 85 F85 := sound_self ok0 1 85
theorem F85_eq {n : Int} : F85 [.int .i64 n] = some (.bool (decide (numOk n))) := by
  unfold F85
  refine pureF_of (x := x85) rfl rfl ?_
  rw [x85_eq.1, x85_eq.2.1]
  simp (disch := first | omega | simp only [go_sem, ↓reduceIte, dropK_eq]) only [x85b, go_sem, ↓reduceIte, dropK_eq]
  repeat' (first | refine Ends_plain rfl ?_ | (first | refine Gd_split_t (fun h => ?_) (fun h => ?_) | refine Gd_split_f (fun h => ?_) (fun h => ?_) | refine Cd_split (fun h => ?_) (fun h => ?_)) <;> (try simp (disch := first | omega | simp only [go_sem, ↓reduceIte, dropK_eq]) only [*, go_sem, ↓reduceIte, dropK_eq]))
  all_goals (congr 1; try simp only [Bool.not_eq_true', Bool.not_eq_false', decide_eq_true_eq, decide_eq_false_iff_not] at *)
  all_goals first | exact decide_eq_decide.2 (by simp only [numOk]; omega) | exact (decide_eq_false (by simp only [numOk]; omega)).symm | exact (decide_eq_true (by simp only [numOk]; omega)).symm
noncomputable def C1 : Cfg := ((((C0.add 71 F71).add 80 F80).add 69 F69).add 78 F78).add 85 F85
theorem ok1 : CfgOk Tryz.prog C1 := ((((ok0.add sound71).add sound80).add sound69).add sound78).add sound85
/-- A word. -/
abbrev wordOk (l : List UInt8) : Prop := (∀ b ∈ l, letB b) ∧ 1 ≤ l.length ∧ l.length ≤ 12
noncomputable def F84 : List AVal → Option AVal := pureF C1 1 84
theorem sound84 : Sound Tryz.prog 84 F84 := sound_self ok1 1 84
theorem F84_eq {l : List UInt8} (hl : l.length ≤ 1000000) : F84 [sv l] = some (.bool (decide (wordOk l))) := by
  unfold F84
  refine pureF_of (x := x84) rfl rfl ?_
  rw [x84_eq.1, x84_eq.2.1]
  simp (disch := first | omega | simp only [go_sem, ↓reduceIte, dropK_eq]) only [x84b, go_sem, ↓reduceIte, dropK_eq]
  refine Ev_loopW (I := fun n tm hp nc => ∃ pos, pos ≤ l.length ∧ n = l.length - pos ∧ hp (84001001, 1) = some (.obj (.iter (bs l) pos)) ∧ ∀ j, j < pos → letB (l.getD j 0)) (n := l.length) ?_ (by omega) ?_
  · refine ⟨0, by omega, by omega, by simp only [go_sem, ↓reduceIte, dropK_eq], by simp⟩
  · rintro n tm hp nc hc ⟨pos, hp1, rfl, hk, hj⟩
    have k0 := hc 0 rfl; have k5 := hc 5 rfl; have k6 := hc 6 rfl; simp only [go_sem, ↓reduceIte, dropK_eq] at k0 k5 k6
    rcases Nat.lt_or_ge pos l.length with hlt | hge
    · by_cases hb : (l.getD pos 0).toNat < 128
      · have hd := decode_low l hlt hb
        have hd1 : (Utf8.decode (bs l) pos).1 = (l.getD pos 0).toNat := by rw [hd]
        have hd2 : (Utf8.decode (bs l) pos).2 = 1 := by rw [hd]
        by_cases hlb : letB (l.getD pos 0)
        · have d1 : decide (((l.getD pos 0).toNat : Int) < 97) = false := decide_eq_false (by simp only [letB, lett] at hlb; omega)
          have d2 : decide (122 < ((l.getD pos 0).toNat : Int)) = false := decide_eq_false (by simp only [letB, lett] at hlb; omega)
          simp (disch := first | omega | simp only [go_sem, ↓reduceIte, dropK_eq]) only [x84l2, go_sem, ↓reduceIte, dropK_eq, k0, k5, k6, hk, if_pos hlt, hd1, hd2, d1, d2]
          refine ⟨l.length - (pos + 1), by omega, pos + 1, by omega, rfl, rfl, fun j hj' => ?_⟩
          by_cases e : j = pos
          · subst e; exact hlb
          · exact hj j (by omega)
        · have hno : decide (wordOk l) = false := decide_eq_false fun h => hlb (h.1 _ (getB_mem hlt))
          rw [hno]
          by_cases h1 : ((l.getD pos 0).toNat : Int) < 97
          · have d1 : decide (((l.getD pos 0).toNat : Int) < 97) = true := decide_eq_true h1
            simp (disch := first | omega | simp only [go_sem, ↓reduceIte, dropK_eq]) only [x84l2, go_sem, ↓reduceIte, dropK_eq, k0, k5, k6, hk, if_pos hlt, hd1, hd2, d1]
            exact Ends_plain rfl rfl
          · have d1 : decide (((l.getD pos 0).toNat : Int) < 97) = false := decide_eq_false h1
            have d2 : decide (122 < ((l.getD pos 0).toNat : Int)) = true := decide_eq_true (by simp only [letB, lett] at hlb; omega)
            simp (disch := first | omega | simp only [go_sem, ↓reduceIte, dropK_eq]) only [x84l2, go_sem, ↓reduceIte, dropK_eq, k0, k5, k6, hk, if_pos hlt, hd1, hd2, d1, d2]
            exact Ends_plain rfl rfl
      · have hh := Xec.decode_high l hlt (by omega)
        have hno : decide (wordOk l) = false := decide_eq_false fun h => by have := h.1 _ (getB_mem hlt); simp only [letB, lett] at this; omega
        rw [hno]
        have d1 : decide (((Utf8.decode (bs l) pos).1 : Int) < 97) = false := decide_eq_false (by omega)
        have d2 : decide (122 < ((Utf8.decode (bs l) pos).1 : Int)) = true := decide_eq_true (by omega)
        simp (disch := first | omega | simp only [go_sem, ↓reduceIte, dropK_eq]) only [x84l2, go_sem, ↓reduceIte, dropK_eq, k0, k5, k6, hk, if_pos hlt, d1, d2]
        exact Ends_plain rfl rfl
    · obtain rfl : pos = l.length := by omega
      have hall : ∀ b ∈ l, letB b := all_getB hj
      simp (disch := first | omega | simp only [go_sem, ↓reduceIte, dropK_eq]) only [x84l2, go_sem, ↓reduceIte, dropK_eq, k0, k5, k6, hk, if_neg (Nat.lt_irrefl _)]
      by_cases hnil : l = []
      · subst hnil
        simp (disch := first | omega | simp only [go_sem, ↓reduceIte, dropK_eq]) only [go_sem, ↓reduceIte, dropK_eq]
        refine Ends_plain rfl ?_
        simp [wordOk]
      · have hpos : 1 ≤ l.length := by
          cases l with
          | nil => exact absurd rfl hnil
          | cons => simp
        have d3 : decide (¬ l = []) = true := decide_eq_true hnil
        simp (disch := first | omega | simp only [go_sem, ↓reduceIte, dropK_eq]) only [d3, go_sem, ↓reduceIte, dropK_eq, k0]
        refine Ends_plain rfl ?_
        congr 1
        exact decide_eq_decide.2 ⟨fun h => ⟨hall, hpos, by omega⟩, fun h => by have := h.2.2; omega⟩
noncomputable def F61 : List AVal → Option AVal := pureF C1 1 61
theorem sound61 : Sound Tryz.prog 61 F61 := sound_self ok1 1 61
theorem F61_eq {l : List UInt8} (hl : l.length ≤ 1000000) : F61 [sv l] = some (.bool (decide (wordOk l))) := by
  unfold F61
  refine pureF_of (x := x61) rfl rfl ?_
  rw [x61_eq.1, x61_eq.2.1]
  simp (disch := first | omega | simp only [go_sem, ↓reduceIte, dropK_eq]) only [x61b, go_sem, ↓reduceIte, dropK_eq]
  refine Ev_range (ti := 3) (len := l.length) (J := fun i tm hp nc => ∀ j, j < i → letB (l.getD j 0)) (by omega) (by simp only [go_sem, ↓reduceIte, dropK_eq]) (by simp) ?_
  intro i tm hp nc hi hc k3 hj
  have k0 := hc 0 rfl; simp only [go_sem, ↓reduceIte, dropK_eq] at k0
  rcases Nat.lt_or_ge i l.length with hlt | hge
  · have d1 : decide ((i : Int) < (l.length : Int)) = true := decide_eq_true (by omega)
    have ix := str_ixN .i64 hlt
    by_cases hlb : letB (l.getD i 0)
    · have e := F80_eq (n := ((l.getD i 0).toNat : Int))
      rw [decide_eq_true hlb] at e
      simp (disch := first | omega | simp only [go_sem, ↓reduceIte, dropK_eq]) only [x61l2, go_sem, ↓reduceIte, dropK_eq, k0, k3, d1, ix, callX_known (C := C1) (g := 80) rfl, ft_call (C := C1) (g := 80) rfl, e]
      refine ⟨hlt, by simp, fun j hj' => ?_⟩
      by_cases e : j = i
      · subst e; exact hlb
      · exact hj j (by omega)
    · have e := F80_eq (n := ((l.getD i 0).toNat : Int))
      rw [decide_eq_false hlb] at e
      have hno : decide (wordOk l) = false := decide_eq_false fun h => hlb (h.1 _ (getB_mem hlt))
      rw [hno]
      simp (disch := first | omega | simp only [go_sem, ↓reduceIte, dropK_eq]) only [x61l2, go_sem, ↓reduceIte, dropK_eq, k0, k3, d1, ix, callX_known (C := C1) (g := 80) rfl, ft_call (C := C1) (g := 80) rfl, e]
      exact Ends_plain rfl rfl
  · obtain rfl : i = l.length := by omega
    have d1 : decide ((l.length : Int) < (l.length : Int)) = false := decide_eq_false (by omega)
    have hall : ∀ b ∈ l, letB b := all_getB hj
    simp (disch := first | omega | simp only [go_sem, ↓reduceIte, dropK_eq]) only [x61l2, go_sem, ↓reduceIte, dropK_eq, k0, k3, d1]
    by_cases h1 : (1 : Int) ≤ (l.length : Int)
    · have d2 : decide ((1 : Int) ≤ (l.length : Int)) = true := decide_eq_true h1
      simp (disch := first | omega | simp only [go_sem, ↓reduceIte, dropK_eq]) only [d2, go_sem, ↓reduceIte, dropK_eq, k0]
      refine Ends_plain rfl ?_
      congr 1
      exact decide_eq_decide.2 ⟨fun h => ⟨hall, by omega, by omega⟩, fun h => by have := h.2.2; omega⟩
    · have d2 : decide ((1 : Int) ≤ (l.length : Int)) = false := decide_eq_false h1
      simp (disch := first | omega | simp only [go_sem, ↓reduceIte, dropK_eq]) only [d2, go_sem, ↓reduceIte, dropK_eq, k0]
      refine Ends_plain rfl ?_
      congr 1
      exact (decide_eq_false fun h => h1 (by have := h.2.1; omega)).symm
/-- A token. -/
structure Tok where
  k : Int
  s : List UInt8
  n : Int
  at' : Int
  deriving DecidableEq
abbrev TK (t : Tok) : AVal := .agg [.int .i64 t.k, sv t.s, .int .i64 t.n, .int .i64 t.at']
abbrev T0 : AVal := TK ⟨0, [], 0, 0⟩
def tokOk (t : Tok) : Prop := (t.k = 1 ∧ wordOk t.s ∧ t.n = 0) ∨ (t.k = 2 ∧ t.s = [] ∧ numOk t.n) ∨ ((t.k = 3 ∨ t.k = 4 ∨ t.k = 5) ∧ t.s = [] ∧ t.n = 0)
instance (t : Tok) : Decidable (tokOk t) := by unfold tokOk; infer_instance
noncomputable def C2 : Cfg := (C1.add 84 F84).add 61 F61
theorem ok2 : CfgOk Tryz.prog C2 := (ok1.add sound84).add sound61
noncomputable def F58 : List AVal → Option AVal := pureF C2 1 58
theorem sound58 : Sound Tryz.prog 58 F58 := sound_self ok2 1 58
theorem F58_eq {t : Tok} (hl : t.s.length ≤ 1000000) : F58 [TK t] = some (.bool (decide (tokOk t))) := by
  have e25 := F84_eq hl
  obtain ⟨k, s, n, at'⟩ := t
  simp only at e25
  unfold F58
  refine pureF_of (x := x58) rfl rfl ?_
  rw [x58_eq.1, x58_eq.2.1]
  simp (disch := first | omega | simp only [go_sem, ↓reduceIte, dropK_eq]) only [x58b, go_sem, ↓reduceIte, dropK_eq, callX_known (C := C2) (g := 84) rfl, ft_call (C := C2) (g := 84) rfl, callX_known (C := C2) (g := 85) rfl, ft_call (C := C2) (g := 85) rfl, e25, F85_eq]
  repeat' (first | refine Ends_plain rfl ?_ | (first | refine Gd_split_t (fun h => ?_) (fun h => ?_) | refine Gd_split_f (fun h => ?_) (fun h => ?_) | refine Cd_split (fun h => ?_) (fun h => ?_)) <;> (try simp (disch := first | omega | simp only [go_sem, ↓reduceIte, dropK_eq]) only [*, go_sem, ↓reduceIte, dropK_eq, callX_known (C := C2) (g := 84) rfl, ft_call (C := C2) (g := 84) rfl, callX_known (C := C2) (g := 85) rfl, ft_call (C := C2) (g := 85) rfl, e25, F85_eq]))
  all_goals
    congr 1
    simp only [Bool.not_eq_true', Bool.not_eq_false', decide_eq_true_eq, decide_eq_false_iff_not] at *
  all_goals try clear e25
  all_goals try clear e27
  all_goals first
    | (refine decide_eq_decide.2 ⟨fun hq => ?_, fun hq => ?_⟩ <;> simp only [tokOk] at hq ⊢ <;> generalize wordOk s = W at * <;> generalize (s = []) = E at * <;> clear hl <;> (first | omega | (simp_all; done) | (simp_all <;> omega)))
    | (refine (decide_eq_false fun hq => ?_).symm; simp only [tokOk] at hq; generalize wordOk s = W at *; generalize (s = []) = E at *; clear hl; first | omega | (simp_all; done) | (simp_all <;> omega))
abbrev dd (n : Nat) : List UInt8 := Lib.decDigits n
theorem dd_small {n : Nat} (h : n < 10) : dd n = [UInt8.ofNat (48 + n)] := by unfold dd; rw [Lib.decDigits, dif_pos h]
theorem dd_step {n : Nat} (h : 10 ≤ n) : dd n = dd (n / 10) ++ dd (n % 10) := by
  unfold dd
  rw [Lib.decDigits, dif_neg (by omega)]
  rw [show Lib.decDigits (n % 10) = [UInt8.ofNat (48 + n % 10)] from dd_small (by omega)]
theorem dd_len : ∀ (d n : Nat), n < 10 ^ (d + 1) → (dd n).length ≤ d + 1
  | 0, n, h => by rw [dd_small (by simpa using h)]; simp
  | d + 1, n, h => by
    by_cases h1 : n < 10
    · rw [dd_small h1]; simp
    · rw [dd_step (by omega), List.length_append, dd_small (by omega : n % 10 < 10)]
      have := dd_len d (n / 10) (by rw [Nat.div_lt_iff_lt_mul (by decide)]; rw [Nat.pow_succ] at h; exact h)
      simp; omega
theorem nat49 (d : Nat) : ∀ (n : Nat) (hp : Heap) (nc : Nat) (K : AVal × Heap × Nat → Prop), n < 10 ^ (d + 1) → n < 18446744073709551616 → d < 30 → (∀ hp' nc', K (sv (dd n), hp', nc')) → Bd (inlD C2 (d + 2) 65 [.int .u64 n] hp nc) K := by
  induction d with
  | zero =>
    intro n hp nc K hn _ _ hK
    refine inl_of (x := x65) rfl rfl ?_
    rw [x65_eq.1, x65_eq.2.1]
    have h1 : n < 10 := by simpa using hn
    have d1 : decide ((n : Int) < 10) = true := decide_eq_true (by omega)
    have e1 : ((48 : Int) + (n : Int)) % 18446744073709551616 % 256 = ((48 + n : Nat) : Int) := by omega
    simp (disch := first | omega | simp only [go_sem, ↓reduceIte, dropK_eq]) only [x65b, go_sem, ↓reduceIte, dropK_eq, d1, e1, Int.toNat_natCast]
    rw [dd_small h1] at hK
    exact hK _ _
  | succ d ih =>
    intro n hp nc K hn hb hd hK
    refine inl_of (x := x65) rfl rfl ?_
    rw [x65_eq.1, x65_eq.2.1]
    by_cases h1 : n < 10
    · have d1 : decide ((n : Int) < 10) = true := decide_eq_true (by omega)
      have e1 : ((48 : Int) + (n : Int)) % 18446744073709551616 % 256 = ((48 + n : Nat) : Int) := by omega
      simp (disch := first | omega | simp only [go_sem, ↓reduceIte, dropK_eq]) only [x65b, go_sem, ↓reduceIte, dropK_eq, d1, e1, Int.toNat_natCast]
      rw [dd_small h1] at hK
      exact hK _ _
    · have d1 : decide ((n : Int) < 10) = false := decide_eq_false (by omega)
      have e1 : (n : Int).tdiv 10 % 18446744073709551616 = ((n / 10 : Nat) : Int) := by
        rw [Int.tdiv_eq_ediv_of_nonneg (by omega)]; omega
      have e2 : (n : Int).tmod 10 = ((n % 10 : Nat) : Int) := by
        rw [Int.tmod_eq_emod_of_nonneg (by omega)]; omega
      simp (disch := first | omega | simp only [go_sem, ↓reduceIte, dropK_eq]) only [x65b, go_sem, ↓reduceIte, dropK_eq, d1, e1, e2, call_inl (C := C2) (g := 65) rfl, ft_inl (C := C2) (g := 65) rfl]
      refine ih (n / 10) _ _ _ (by rw [Nat.div_lt_iff_lt_mul (by decide)]; rw [Nat.pow_succ] at hn; exact hn) (by omega) (by omega) fun hp' nc' => ?_
      simp (disch := first | omega | simp only [go_sem, ↓reduceIte, dropK_eq]) only [go_sem, ↓reduceIte, dropK_eq, e2, call_inl (C := C2) (g := 65) rfl, ft_inl (C := C2) (g := 65) rfl]
      refine ih (n % 10) _ _ _ (by have : 10 ≤ 10 ^ (d + 1) := by (have := Nat.pow_le_pow_right (show 0 < 10 by decide) (show 1 ≤ d + 1 by omega)); simpa using this
                                   omega) (by omega) (by omega) fun hp'' nc'' => ?_
      have l1 := dd_len 31 (n / 10) (by have : (10 : Nat) ^ (31 + 1) = 100000000000000000000000000000000 := by decide
                                        omega)
      have l2 := dd_len 31 (n % 10) (by have : (10 : Nat) ^ (31 + 1) = 100000000000000000000000000000000 := by decide
                                        omega)
      rw [dd_step (by omega)] at hK
      have l3 : (dd (n / 10)).length + (dd (n % 10)).length < 9223372036854775808 := by omega
      simp (disch := first | omega | simp only [go_sem, ↓reduceIte, dropK_eq]) only [go_sem, ↓reduceIte, dropK_eq, if_pos l3]
      exact hK _ _
abbrev its (n : Int) : List UInt8 := Lib.itoa n
noncomputable def F34 : List AVal → Option AVal := pureF C2 24 34
theorem sound34 : Sound Tryz.prog 34 F34 := sound_self ok2 24 34
theorem its_len {n : Int} (h : -9223372036854775808 ≤ n ∧ n ≤ 9223372036854775807) : (its n).length ≤ 21 := by
  have hp : (10 : Nat) ^ (19 + 1) = 100000000000000000000 := by decide
  unfold its Lib.itoa
  split
  · have := dd_len 19 n.natAbs (by omega)
    simp only [dd] at this
    simp; omega
  · have := dd_len 19 n.toNat (by omega)
    simp only [dd] at this
    omega
theorem F34_eq {n : Int} (h : -9223372036854775808 ≤ n ∧ n ≤ 9223372036854775807) : F34 [.int .i64 n] = some (sv (its n)) := by
  have hp : (10 : Nat) ^ (21 + 1) = 10000000000000000000000 := by decide
  have hl := its_len h
  unfold F34
  refine pureF_of (x := x34) rfl rfl ?_
  rw [x34_eq.1, x34_eq.2.1]
  by_cases h0 : n < 0
  · have d1 : decide (n < 0) = true := decide_eq_true h0
    have e1 : (0 - n % 18446744073709551616) % 18446744073709551616 = ((n.natAbs : Nat) : Int) := by omega
    simp (disch := first | omega | simp only [go_sem, ↓reduceIte, dropK_eq]) only [x34b, go_sem, ↓reduceIte, dropK_eq, d1, e1, call_inl (C := C2) (g := 65) rfl, ft_inl (C := C2) (g := 65) rfl]
    refine nat49 21 n.natAbs _ _ _ (by omega) (by omega) (by omega) fun hp' nc' => ?_
    have e2 : its n = 45 :: dd n.natAbs := by unfold its Lib.itoa; rw [if_pos h0]
    rw [e2] at hl ⊢
    have l3 : 1 + (dd n.natAbs).length < 9223372036854775808 := by simp at hl; omega
    simp (disch := first | omega | simp only [go_sem, ↓reduceIte, dropK_eq]) only [go_sem, ↓reduceIte, dropK_eq, if_pos l3]
    exact Ends_plain rfl rfl
  · have d1 : decide (n < 0) = false := decide_eq_false h0
    have e1 : n % 18446744073709551616 = ((n.toNat : Nat) : Int) := by omega
    simp (disch := first | omega | simp only [go_sem, ↓reduceIte, dropK_eq]) only [x34b, go_sem, ↓reduceIte, dropK_eq, d1, e1, call_inl (C := C2) (g := 65) rfl, ft_inl (C := C2) (g := 65) rfl]
    refine nat49 21 n.toNat _ _ _ (by omega) (by omega) (by omega) fun hp' nc' => ?_
    have e2 : its n = dd n.toNat := by unfold its Lib.itoa; rw [if_neg h0]
    simp (disch := first | omega | simp only [go_sem, ↓reduceIte, dropK_eq]) only [go_sem, ↓reduceIte, dropK_eq]
    rw [e2]
    exact Ends_plain rfl rfl
noncomputable def C3 : Cfg := ((C2.add 58 F58).add 34 F34).add 27 F_itoa
theorem ok3 : CfgOk Tryz.prog C3 := ((ok2.add sound58).add sound34).add sound27
theorem TK_plain (d : Nat) (t : Tok) : plain (d + 1) (TK t) = true := by
  simp only [plain_agg, plainL_cons, plain_int, plain_str, plainL_nil]; rfl
theorem TK_sc (t : Tok) : (cellsOf (TK t)).all isSc = true := rfl
/-- A sign. -/
def sgn (k : Int) : UInt8 := if k = 3 then 123 else if k = 4 then 125 else 59
/-- A token's text. -/
def txt (t : Tok) : List UInt8 := if t.k = 1 then t.s else if t.k = 2 then its t.n else [sgn t.k]
noncomputable def C4 : Cfg := C3
theorem ok4 : CfgOk Tryz.prog C4 := ok3
/-- A text of tokens. -/
def prt (l : List Tok) : List UInt8 := Lib.join (l.map txt) [32]
abbrev allOk (l : List Tok) : Prop := ∀ t ∈ l, tokOk t
/-- Like: but for places. -/
def at0 (t : Tok) : Tok := { t with at' := 0 }
/-- Digits' number. -/
def vlA (a : Nat) (l : List UInt8) : Nat := l.foldl (fun a c => a * 10 + (c.toNat - 48)) a
abbrev vl (l : List UInt8) : Nat := vlA 0 l
abbrev digs (l : List UInt8) : Prop := ∀ b ∈ l, digB b
theorem vlA_cons (a : Nat) (c : UInt8) (l : List UInt8) : vlA a (c :: l) = vlA (a * 10 + (c.toNat - 48)) l := by simp only [vlA, List.foldl_cons]
theorem vlA_snoc (a : Nat) (c : UInt8) (l : List UInt8) : vlA a (l ++ [c]) = vlA a l * 10 + (c.toNat - 48) := by simp [vlA]
theorem vlA_le (l : List UInt8) : ∀ (a : Nat), a ≤ vlA a l := by
  induction l with
  | nil => intro a; exact Nat.le_refl _
  | cons c l ih => intro a; rw [vlA_cons]; exact Nat.le_trans (by omega) (ih _)
theorem parse_digs (l : List UInt8) : ∀ (a : Nat), digs l → a < 18446744073709551616 → Lib.parseUint10 a l = if vlA a l < 18446744073709551616 then .ok (vlA a l) else .range := by
  induction l with
  | nil => intro a _ ha; rw [if_pos (show vlA a [] < _ from ha)]; rfl
  | cons c l ih =>
    intro a h ha
    have hc := h c (by simp)
    simp only [digB, digi] at hc
    have hle := vlA_le l (a * 10 + (c.toNat - 48))
    rw [vlA_cons]
    simp only [Lib.parseUint10]
    have h3 : 48 ≤ c.toNat ∧ c.toNat ≤ 57 := by omega
    rw [if_pos h3]
    by_cases h1 : 1844674407370955162 ≤ a
    · rw [if_pos h1, if_neg (by omega)]
    · rw [if_neg h1]
      by_cases h2 : 18446744073709551616 ≤ a * 10 + (c.toNat - 48)
      · rw [if_pos h2, if_neg (by omega)]
      · rw [if_neg h2]
        exact ih _ (fun b hb => h b (by simp [hb])) (by omega)
theorem mag_digs {l : List UInt8} (h : digs l) (h0 : l ≠ []) : Lib.parseMag l = if vl l < 18446744073709551616 then .ok (vl l) else .range := by
  unfold Lib.parseMag
  rw [if_neg h0]
  exact parse_digs l 0 h (by omega)
theorem atoi_plain {l : List UInt8} (h : digs l) (h0 : l ≠ []) : Lib.atoiAll l = if vl l < 9223372036854775808 then .ok (vl l : Int) else .range := by
  cases l with
  | nil => exact absurd rfl h0
  | cons c r =>
    have hc := h c (by simp)
    simp only [digB, digi] at hc
    unfold Lib.atoiAll
    simp only
    rw [if_neg (by omega), mag_digs h h0]
    by_cases h1 : vl (c :: r) < 18446744073709551616
    · rw [if_pos h1]
      simp only
      by_cases h2 : vl (c :: r) < 9223372036854775808
      · rw [if_pos h2, if_neg (by omega), if_neg (by omega), if_neg (by omega)]
      · rw [if_neg h2, if_pos (by omega)]
    · rw [if_neg h1, if_neg (by omega)]
theorem atoi_minus {l : List UInt8} (h : digs l) (h0 : l ≠ []) : Lib.atoiAll (45 :: l) = if vl l ≤ 9223372036854775808 then .ok (-(vl l : Int)) else .range := by
  unfold Lib.atoiAll
  simp only
  rw [if_pos (by right; rfl), mag_digs h h0]
  by_cases h1 : vl l < 18446744073709551616
  · rw [if_pos h1]
    simp only
    by_cases h2 : vl l ≤ 9223372036854775808
    · rw [if_pos h2, if_neg (by simp), if_neg (by omega), if_pos (by rfl)]
    · rw [if_neg h2, if_neg (by simp), if_pos ⟨by rfl, by omega⟩]
  · rw [if_neg h1, if_neg (by omega)]
theorem dd_ne (n : Nat) : dd n ≠ [] := by
  by_cases h : n < 10
  · rw [dd_small h]; simp
  · rw [dd_step (by omega), dd_small (by omega : n % 10 < 10)]; simp
theorem dd_digs (n : Nat) : digs (dd n) := by
  induction n using Nat.strongRecOn with
  | _ n ih =>
    by_cases h : n < 10
    · rw [dd_small h]
      intro b hb
      simp at hb
      subst hb
      simp [digB, digi, UInt8.toNat_ofNat']
      omega
    · rw [dd_step (by omega)]
      intro b hb
      rcases List.mem_append.1 hb with hb | hb
      · exact ih _ (by omega) b hb
      · exact ih _ (by omega) b hb
theorem dd_vl (n : Nat) : vl (dd n) = n := by
  induction n using Nat.strongRecOn with
  | _ n ih =>
    by_cases h : n < 10
    · rw [dd_small h]
      simp [vlA]
      omega
    · rw [dd_step (by omega), dd_small (by omega : n % 10 < 10)]
      have := ih (n / 10) (by omega)
      simp only [vl] at this ⊢
      rw [vlA_snoc, this]
      simp
      omega
theorem dd_head (n : Nat) : (dd n).head? = some 48 → n = 0 := by
  induction n using Nat.strongRecOn with
  | _ n ih =>
    by_cases h : n < 10
    · rw [dd_small h]
      intro e
      simp at e
      have := congrArg UInt8.toNat e
      simp at this
      omega
    · rw [dd_step (by omega)]
      intro e
      have : (dd (n / 10)).head? = some 48 := by
        cases hd : dd (n / 10) with
        | nil => exact absurd hd (dd_ne _)
        | cons c r => rw [hd] at e; exact e
      have := ih _ (by omega) this
      omega
theorem vl_pos {c : UInt8} {l : List UInt8} (h : digB c) (h0 : c ≠ 48) : 1 ≤ vl (c :: l) := by
  have := vlA_le l (c.toNat - 48)
  have hc : c.toNat ≠ 48 := fun e => h0 (UInt8.toNat_inj.1 (by rw [e]; rfl))
  simp only [digB, digi] at h
  simp only [vlA_cons, Nat.zero_mul, Nat.zero_add]
  omega
theorem canon : ∀ (k : Nat) (l : List UInt8), l.length = k + 1 → digs l → l.head? ≠ some 48 ∨ l.length = 1 → dd (vl l) = l
  | 0, l, hk, h, _ => by
    match l, hk with
    | [c], _ =>
      have hc := h c (by simp)
      simp only [digB, digi] at hc
      have e : vl [c] = c.toNat - 48 := by simp [vlA]
      rw [e, dd_small (by omega)]
      simp
      apply UInt8.toNat_inj.1
      simp
      omega
  | k + 1, l, hk, h, h0 => by
    have hne : l ≠ [] := fun e => by rw [e] at hk; simp at hk
    obtain ⟨m, c, rfl⟩ : ∃ m c, l = m ++ [c] := ⟨_, _, (List.dropLast_concat_getLast hne).symm⟩
    simp at hk
    have hh : m.head? ≠ some 48 := by
      rcases h0 with h0 | h0
      · intro e
        apply h0
        cases m with
        | nil => simp at hk
        | cons d r => exact e
      · simp at h0; subst h0; simp at hk
    have ih := canon k m hk (fun b hb => h b (by simp [hb])) (.inl hh)
    have hc := h c (by simp)
    have hp : 1 ≤ vl m := by
      cases m with
      | nil => simp at hk
      | cons d r => exact vl_pos (h d (by simp)) (fun e => hh (by rw [e]; rfl))
    simp only [digB, digi] at hc
    simp only [vl] at hp ih ⊢
    rw [vlA_snoc, dd_step (by omega)]
    have e1 : (vlA 0 m * 10 + (c.toNat - 48)) / 10 = vlA 0 m := by omega
    have e2 : (vlA 0 m * 10 + (c.toNat - 48)) % 10 = c.toNat - 48 := by omega
    rw [e1, e2, ih, dd_small (by omega)]
    congr 2
    apply UInt8.toNat_inj.1
    simp
    omega
theorem not_canon {l : List UInt8} (h1 : l.head? = some 48) (h2 : dd (vl l) = l) : vl l = 0 ∧ l = [48] := by
  have := dd_head (vl l) (by rw [h2]; exact h1)
  refine ⟨this, ?_⟩
  rw [← h2, this]
  exact dd_small (by decide)
/-- A number that is no numeral, or too big. -/
abbrev numBad (neg : Bool) (l : List UInt8) : Prop := l.head? = some 48 ∧ (1 < l.length ∨ neg = true) ∨ 1000000000 < vl l
theorem its_plain {l : List UInt8} (h : digs l) (h0 : l ≠ []) : its (vl l : Int) = l ↔ ¬ (l.head? = some 48 ∧ 1 < l.length) := by
  have e : its (vl l : Int) = dd (vl l) := by unfold its Lib.itoa; rw [if_neg (by omega)]; simp
  have hl : l.length ≠ 0 := fun e => h0 (List.length_eq_zero_iff.1 e)
  rw [e]
  constructor
  · rintro h2 ⟨h3, h4⟩
    rw [(not_canon h3 h2).2] at h4
    simp at h4
  · intro h3
    refine canon (l.length - 1) l (by omega) h ?_
    by_cases h4 : l.head? = some 48
    · right
      have : ¬ 1 < l.length := fun h5 => h3 ⟨h4, h5⟩
      omega
    · exact .inl h4
theorem its_minus {l : List UInt8} (h : digs l) (h0 : l ≠ []) : its (-(vl l : Int)) = 45 :: l ↔ ¬ l.head? = some 48 := by
  have hl : l.length ≠ 0 := fun e => h0 (List.length_eq_zero_iff.1 e)
  constructor
  · intro h2 h3
    by_cases hv : vl l = 0
    · rw [hv] at h2
      have : its (-((0 : Nat) : Int)) = [48] := by unfold its Lib.itoa; rw [if_neg (by decide)]; exact dd_small (n := 0) (by decide)
      rw [this] at h2
      simp at h2
    · have e : its (-(vl l : Int)) = 45 :: dd (vl l) := by unfold its Lib.itoa; rw [if_pos (by omega)]; simp
      rw [e] at h2
      simp at h2
      exact hv (not_canon h3 h2).1
  · intro h3
    have hv : 1 ≤ vl l := by
      cases l with
      | nil => exact absurd rfl h0
      | cons d r => exact vl_pos (h d (by simp)) (fun e => h3 (by rw [e]; rfl))
    have e : its (-(vl l : Int)) = 45 :: dd (vl l) := by unfold its Lib.itoa; rw [if_pos (by omega)]; simp
    rw [e, canon (l.length - 1) l (by omega) h (.inl h3)]
/-- The number at a text's head, and how long it is. -/
def numN (neg : Bool) (ds : List UInt8) : Except Int (Int × Nat) :=
  if ds = [] then .error 7 else if numBad neg ds then .error 3 else .ok (if neg then -(vl ds : Int) else vl ds, (if neg then 1 else 0) + ds.length)
abbrev dgB (b : UInt8) : Bool := decide (digB b)
abbrev ltB (b : UInt8) : Bool := decide (letB b)
def numR : List UInt8 → Except Int (Int × Nat)
  | [] => .error 7
  | b :: r => if (b.toNat : Int) = 45 then numN true (r.takeWhile dgB) else numN false ((b :: r).takeWhile dgB)
abbrev signB (b : UInt8) : Prop := (b.toNat : Int) = 123 ∨ (b.toNat : Int) = 125 ∨ (b.toNat : Int) = 59
def sgk (b : UInt8) : Int := if (b.toNat : Int) = 123 then 3 else if (b.toNat : Int) = 125 then 4 else 5
/-- The token at a text's head, and how long it is. -/
def oneR : List UInt8 → Except Int (Tok × Nat)
  | [] => .error 7
  | b :: r =>
    if signB b then .ok (⟨sgk b, [], 0, 0⟩, 1)
    else if (b.toNat : Int) = 45 ∨ digB b then match numR (b :: r) with
      | .error e => .error e
      | .ok (n, k) => .ok (⟨2, [], n, 0⟩, k)
    else if (b :: r).takeWhile ltB = [] then .error 7
    else if 12 < ((b :: r).takeWhile ltB).length then .error 2
    else .ok (⟨1, (b :: r).takeWhile ltB, 0, 0⟩, ((b :: r).takeWhile ltB).length)
abbrev spB (b : UInt8) : Prop := (b.toNat : Int) = 32 ∨ (b.toNat : Int) = 9 ∨ (b.toNat : Int) = 10 ∨ (b.toNat : Int) = 13
abbrev inB (b : UInt8) : Bool := decide (¬ (b.toNat : Int) = 10)
/-- How long a blank is. -/
def blk : List UInt8 → Nat
  | [] => 0
  | b :: r => if spB b then 1 else if (b.toNat : Int) = 35 then ((b :: r).takeWhile inB).length else 0
theorem blk_le (r : List UInt8) : blk r ≤ r.length := by
  cases r with
  | nil => exact Nat.le_refl _
  | cons b r =>
    simp only [blk]
    by_cases h : spB b
    · rw [if_pos h]; simp
    · rw [if_neg h]
      by_cases h2 : (b.toNat : Int) = 35
      · rw [if_pos h2]; exact (List.takeWhile_prefix _).length_le
      · rw [if_neg h2]; simp
/-- A scan. -/
def scan (r : List UInt8) (at' : Nat) : Except (Nat × Int) (List Tok) :=
  if h0 : r = [] then .ok []
  else if h1 : 0 < blk r then scan (r.drop (blk r)) (at' + blk r)
  else match oneR r with
    | .error e => .error (at', e)
    | .ok (t, k) => if h2 : 0 < k then match scan (r.drop k) (at' + k) with
      | .error x => .error x
      | .ok l => .ok ({ t with at' := at' } :: l) else .error (at', 7)
termination_by r.length
decreasing_by
  all_goals
    have := List.length_pos_iff.2 h0
    rw [List.length_drop]
    omega
theorem scan_nil (at' : Nat) : scan [] at' = .ok [] := by rw [scan]; simp
theorem scan_blk {r : List UInt8} {at' : Nat} (h : 0 < blk r) : scan r at' = scan (r.drop (blk r)) (at' + blk r) := by
  have h0 : r ≠ [] := fun e => by rw [e] at h; simp [blk] at h
  rw [scan, dif_neg h0, dif_pos h]
theorem scan_bad {r : List UInt8} {at' : Nat} {e : Int} (h0 : r ≠ []) (h : blk r = 0) (h1 : oneR r = .error e) : scan r at' = .error (at', e) := by
  rw [scan, dif_neg h0, dif_neg (by omega), h1]
theorem scan_one {r : List UInt8} {at' : Nat} {t : Tok} {k : Nat} (h0 : r ≠ []) (h : blk r = 0) (h1 : oneR r = .ok (t, k)) (hk : 0 < k) : scan r at' = match scan (r.drop k) (at' + k) with
      | .error x => .error x
      | .ok l => .ok ({ t with at' := at' } :: l) := by
  rw [scan, dif_neg h0, dif_neg (by omega), h1]
  simp only
  rw [dif_pos hk]
theorem numN_len {neg : Bool} {ds : List UInt8} {n : Int} {k : Nat} (h : numN neg ds = .ok (n, k)) : 0 < k ∧ k = (if neg then 1 else 0) + ds.length := by
  unfold numN at h
  split at h
  · cases h
  · split at h
    · cases h
    · rename_i h1 h2
      simp only [Except.ok.injEq, Prod.mk.injEq] at h
      have := List.length_pos_iff.2 h1
      omega
theorem oneR_len {r : List UInt8} {t : Tok} {k : Nat} (h : oneR r = .ok (t, k)) : 0 < k ∧ k ≤ r.length := by
  cases r with
  | nil => cases h
  | cons b r =>
    simp only [oneR] at h
    by_cases c1 : signB b
    · rw [if_pos c1] at h
      simp only [Except.ok.injEq, Prod.mk.injEq] at h
      simp; omega
    · rw [if_neg c1] at h
      by_cases c2 : (b.toNat : Int) = 45 ∨ digB b
      · rw [if_pos c2] at h
        cases hn : numR (b :: r) with
        | error e => rw [hn] at h; cases h
        | ok x =>
          obtain ⟨n, k'⟩ := x
          rw [hn] at h
          simp only [Except.ok.injEq, Prod.mk.injEq] at h
          obtain ⟨_, rfl⟩ := h
          simp only [numR] at hn
          by_cases c3 : (b.toNat : Int) = 45
          · rw [if_pos c3] at hn
            have := numN_len hn
            have h2 := (List.takeWhile_prefix (l := r) dgB).length_le
            simp at this ⊢
            omega
          · rw [if_neg c3] at hn
            have := numN_len hn
            have h2 := (List.takeWhile_prefix (l := b :: r) dgB).length_le
            simp at this h2 ⊢
            omega
      · rw [if_neg c2] at h
        by_cases c3 : (b :: r).takeWhile ltB = []
        · rw [if_pos c3] at h; cases h
        · rw [if_neg c3] at h
          by_cases c4 : 12 < ((b :: r).takeWhile ltB).length
          · rw [if_pos c4] at h; cases h
          · rw [if_neg c4] at h
            simp only [Except.ok.injEq, Prod.mk.injEq] at h
            obtain ⟨_, rfl⟩ := h
            exact ⟨List.length_pos_iff.2 c3, (List.takeWhile_prefix _).length_le⟩
/-- What is passed over. -/
theorem drop_cons {l : List UInt8} {i : Nat} (h : i < l.length) : l.drop i = l.getD i 0 :: l.drop (i + 1) := by
  rw [List.drop_eq_getElem_cons h]
  congr 1
  simp [List.getD_eq_getElem?_getD, List.getElem?_eq_getElem h]
theorem run_eq {p : UInt8 → Bool} {l : List UInt8} {a e : Nat} (h1 : a ≤ e) (h2 : e ≤ l.length) (h3 : ∀ j, a ≤ j → j < e → p (l.getD j 0) = true) (h4 : e < l.length → p (l.getD e 0) = false) :
    (l.drop a).takeWhile p = (l.drop a).take (e - a) := by
  have hx : l.drop a = (l.drop a).take (e - a) ++ l.drop e := by
    have := (List.take_append_drop (e - a) (l.drop a)).symm
    rwa [List.drop_drop, show a + (e - a) = e by omega] at this
  have hall : ∀ b ∈ (l.drop a).take (e - a), p b = true := by
    intro b hb
    obtain ⟨i, hi, rfl⟩ := List.getElem_of_mem hb
    simp at hi
    have := h3 (a + i) (by omega) (by omega)
    simpa [List.getD_eq_getElem?_getD, List.getElem?_eq_getElem (show a + i < l.length by omega)] using this
  have hz : (l.drop e).takeWhile p = [] := by
    rcases Nat.lt_or_ge e l.length with h | h
    · rw [drop_cons h, List.takeWhile_cons, if_neg (by rw [h4 h]; simp)]
    · rw [List.drop_of_length_le h]; rfl
  have h5 : ((l.drop a).take (e - a) ++ l.drop e).takeWhile p = (l.drop a).take (e - a) ++ (l.drop e).takeWhile p := List.takeWhile_append_of_pos hall
  rw [← hx, hz, List.append_nil] at h5
  exact h5
theorem run_len {l : List UInt8} {a e : Nat} (h2 : e ≤ l.length) : ((l.drop a).take (e - a)).length = e - a := by simp; omega
theorem run_snoc {l : List UInt8} {a e : Nat} (h1 : a ≤ e) (h2 : e < l.length) : (l.drop a).take (e + 1 - a) = (l.drop a).take (e - a) ++ [l.getD e 0] := by
  have h := take_next (l := l.drop a) (i := e - a) (by simp; omega)
  rw [show e - a + 1 = e + 1 - a by omega] at h
  rw [h]
  congr 2
  simp [List.getD_eq_getElem?_getD, List.getElem?_eq_getElem h2, show a + (e - a) = e by omega]
theorem run_step {p : UInt8 → Bool} {l : List UInt8} {a k : Nat} (h : ∀ j, a ≤ j → j < k → p (l.getD j 0) = true) (hk : p (l.getD k 0) = true) : ∀ j, a ≤ j → j < k + 1 → p (l.getD j 0) = true := by
  intro j h1 h2
  by_cases e : j = k
  · rw [e]; exact hk
  · exact h j h1 (by omega)
theorem vl_snoc (c : UInt8) (l : List UInt8) : vl (l ++ [c]) = vl l * 10 + (c.toNat - 48) := vlA_snoc 0 c l
noncomputable def F50 : List AVal → Option AVal := pureF C2 1 50
theorem sound50 : Sound Tryz.prog 50 F50 := sound_self ok2 1 50
theorem F50_eq {s : List UInt8} {i : Nat} (hi : i < s.length) (hs : s.length ≤ 100000) : F50 [sv s, .int .i64 i] = some (.int .i64 (blk (s.drop i) : Nat)) := by
  have ix := str_ixN .i64 hi
  rw [drop_cons hi]
  unfold F50
  refine pureF_of (x := x50) rfl rfl ?_
  rw [x50_eq.1, x50_eq.2.1]
  by_cases hb : spB (s.getD i 0)
  · have : blk (s.getD i 0 :: s.drop (i + 1)) = 1 := by rw [blk, if_pos hb]
    rw [this]
    rcases hb with e | e | e | e <;>
    · simp (disch := first | omega | simp only [go_sem, ↓reduceIte, dropK_eq]) only [x50b, go_sem, ↓reduceIte, dropK_eq, ix, e]
      exact Ends_plain rfl rfl
  · have hb1 := hb
    simp only [spB, not_or] at hb1
    have d1 := decide_eq_false hb1.1
    have d2 := decide_eq_false hb1.2.1
    have d3 := decide_eq_false hb1.2.2.1
    have d4 := decide_eq_false hb1.2.2.2
    by_cases h35 : ((s.getD i 0).toNat : Int) = 35
    · have d5 : decide (¬ ((s.getD i 0).toNat : Int) = 35) = false := decide_eq_false (by simpa using h35)
      simp (disch := first | omega | simp only [go_sem, ↓reduceIte, dropK_eq]) only [x50b, go_sem, ↓reduceIte, dropK_eq, ix, d1, d2, d3, d4, d5]
      refine Ev_range (ti := 6) (len := s.length - i) (J := fun k tm hp nc => ∀ j, i ≤ j → j < i + k → inB (s.getD j 0) = true) (by omega) (by simp only [go_sem, ↓reduceIte, dropK_eq]) (fun j h1 h2 => by omega) ?_
      intro k tm hp nc hkl hc k6 hj
      have k0 := hc 0 rfl; have k1 := hc 1 rfl; simp only [go_sem, ↓reduceIte, dropK_eq] at k0 k1
      rcases Nat.lt_or_ge (i + k) s.length with hlt | hge
      · have e1 : decide ((i : Int) + (k : Int) < (s.length : Int)) = true := decide_eq_true (by omega)
        have ix2 := str_ixN .i64 hlt
        rw [Int.natCast_add] at ix2
        cases hin : inB (s.getD (i + k) 0) with
        | true =>
          have e2 := hin
          simp only [inB] at e2
          simp (disch := first | omega | simp only [go_sem, ↓reduceIte, dropK_eq]) only [x50l7, go_sem, ↓reduceIte, dropK_eq, k0, k1, k6, e1, ix2, e2]
          exact ⟨by omega, by simp, run_step hj hin⟩
        | false =>
          have e2 := hin
          simp only [inB] at e2
          have hrun := run_eq (p := inB) (l := s) (a := i) (e := i + k) (by omega) (by omega) hj (fun _ => hin)
          have hbl : blk (s.getD i 0 :: s.drop (i + 1)) = k := by rw [blk, if_neg hb, if_pos h35, ← drop_cons hi, hrun, run_len (by omega)]; omega
          rw [hbl]
          simp (disch := first | omega | simp only [go_sem, ↓reduceIte, dropK_eq]) only [x50l7, go_sem, ↓reduceIte, dropK_eq, k0, k1, k6, e1, ix2, e2]
          exact Ends_plain rfl rfl
      · have e1 : decide ((i : Int) + (k : Int) < (s.length : Int)) = false := decide_eq_false (by omega)
        have hrun := run_eq (p := inB) (l := s) (a := i) (e := i + k) (by omega) (by omega) hj (fun h => by omega)
        have hbl : blk (s.getD i 0 :: s.drop (i + 1)) = k := by rw [blk, if_neg hb, if_pos h35, ← drop_cons hi, hrun, run_len (by omega)]; omega
        rw [hbl]
        simp (disch := first | omega | simp only [go_sem, ↓reduceIte, dropK_eq]) only [x50l7, go_sem, ↓reduceIte, dropK_eq, k0, k1, k6, e1]
        exact Ends_plain rfl rfl
    · have d5 : decide (¬ ((s.getD i 0).toNat : Int) = 35) = true := decide_eq_true h35
      have : blk (s.getD i 0 :: s.drop (i + 1)) = 0 := by rw [blk, if_neg hb, if_neg h35]
      rw [this]
      simp (disch := first | omega | simp only [go_sem, ↓reduceIte, dropK_eq]) only [x50b, go_sem, ↓reduceIte, dropK_eq, ix, d1, d2, d3, d4, d5]
      exact Ends_plain rfl rfl
def numV : Except Int (Int × Nat) → AVal
  | .error e => .tup [.int .i64 0, .int .i64 0, .int .i64 e]
  | .ok (n, k) => .tup [.int .i64 n, .int .i64 k, .int .i64 0]
theorem loop36 {d : Nat} {s : List UInt8} {fr : Nat} {tm : Nat → AVal} {hp : Heap} {nc : Nat} {Q : Out → St → Prop} (hs : s.length ≤ 100000) (hfr : fr ≤ s.length) (h0 : tm 0 = sv s) (h9 : tm 9 = .int .i64 fr) (h10 : tm 10 = .int .i64 0)
    (hQ : ∀ tm' nc', tm' 0 = tm 0 → tm' 1 = tm 1 → tm' 7 = tm 7 → tm' 8 = tm 8 → tm' 9 = .int .i64 ((fr + ((s.drop fr).takeWhile dgB).length : Nat) : Int) → tm' 10 = .int .i64 ((min (vl ((s.drop fr).takeWhile dgB)) 10000000000 : Nat) : Int) → Q (.ext 0) ⟨tm', hp, nc'⟩) :
    Ev (C := C2) (inl := inlD C2 d) 79 (.loop x79l7) ⟨tm, hp, nc⟩ Q := by
  refine Ev_loopW (I := fun n tm hp' nc => ∃ e : Nat, fr ≤ e ∧ e ≤ s.length ∧ n = s.length - e ∧ hp' = hp ∧ tm 9 = .int .i64 e ∧ tm 10 = .int .i64 ((min (vl ((s.drop fr).take (e - fr))) 10000000000 : Nat) : Int) ∧ ∀ j, fr ≤ j → j < e → dgB (s.getD j 0) = true) (n := s.length - fr) ?_ (by omega) ?_
  · exact ⟨fr, by omega, hfr, rfl, rfl, h9, by rw [h10, Nat.sub_self]; rfl, fun j h1 h2 => by omega⟩
  · rintro n tm' hp' nc' hc ⟨e, h1, h2, rfl, rfl, k9, k10, hj⟩
    have k0 := hc 0 rfl
    have k1 := hc 1 rfl
    have k7 := hc 7 rfl
    have k8 := hc 8 rfl
    have q0 := k0
    rw [h0] at k0
    have ee : fr + (e - fr) = e := by omega
    rcases Nat.lt_or_ge e s.length with hlt | hge
    · have e1 : decide ((e : Int) < (s.length : Int)) = true := decide_eq_true (by omega)
      have ix := str_ixN .i64 hlt
      have e35 := F78_eq (n := ((s.getD e 0).toNat : Int))
      cases hin : dgB (s.getD e 0) with
      | true =>
        rw [show decide (digi ((s.getD e 0).toNat : Int)) = true from hin] at e35
        have hd := of_decide_eq_true hin
        simp only [digB, digi] at hd
        have hv : min (10 * (min (vl ((s.drop fr).take (e - fr))) 10000000000) + ((s.getD e 0).toNat - 48)) 10000000000 = min (vl ((s.drop fr).take (e + 1 - fr))) 10000000000 := by
          rw [run_snoc h1 hlt, vl_snoc]; omega
        have hm : mnxA false (.int .i64 (10 * ((min (vl ((s.drop fr).take (e - fr))) 10000000000 : Nat) : Int) + (((s.getD e 0).toNat : Int) - 48))) [.int .i64 10000000000] = some (.int .i64 ((min (vl ((s.drop fr).take (e + 1 - fr))) 10000000000 : Nat) : Int)) := by
          have := mnx_min2 (10 * (min (vl ((s.drop fr).take (e - fr))) 10000000000) + ((s.getD e 0).toNat - 48)) 10000000000
          rw [hv] at this
          rw [← this]
          congr 2
          omega
        have w1 : (((s.getD e 0).toNat : Int) - 48) % 256 = ((s.getD e 0).toNat : Int) - 48 := by omega
        simp (disch := first | omega | simp only [go_sem, ↓reduceIte, dropK_eq]) only [x79l7, go_sem, ↓reduceIte, dropK_eq, k0, k9, k10, e1, ix, callX_known (C := C2) (g := 78) rfl, ft_call (C := C2) (g := 78) rfl, e35, w1, hm]
        exact ⟨s.length - (e + 1), by omega, e + 1, by omega, by omega, rfl, by simp, rfl, run_step hj hin⟩
      | false =>
        rw [show decide (digi ((s.getD e 0).toNat : Int)) = false from hin] at e35
        have hrun := run_eq (p := dgB) (l := s) (a := fr) (e := e) h1 h2 hj (fun _ => hin)
        rw [hrun, run_len h2, ee] at hQ
        simp (disch := first | omega | simp only [go_sem, ↓reduceIte, dropK_eq]) only [x79l7, go_sem, ↓reduceIte, dropK_eq, k0, k9, k10, e1, ix, callX_known (C := C2) (g := 78) rfl, ft_call (C := C2) (g := 78) rfl, e35]
        refine hQ _ _ ?_ ?_ ?_ ?_ ?_ ?_ <;> simp only [go_sem, ↓reduceIte, dropK_eq, q0, k1, k7, k8, k9, k10]
    · obtain rfl : e = s.length := by omega
      have e1 : decide ((s.length : Int) < (s.length : Int)) = false := decide_eq_false (by omega)
      have hrun := run_eq (p := dgB) (l := s) (a := fr) (e := s.length) h1 h2 hj (fun h => by omega)
      rw [hrun, run_len h2, ee] at hQ
      simp (disch := first | omega | simp only [go_sem, ↓reduceIte, dropK_eq]) only [x79l7, go_sem, ↓reduceIte, dropK_eq, k0, k9, k10, e1]
      refine hQ _ _ ?_ ?_ ?_ ?_ ?_ ?_ <;> simp only [go_sem, ↓reduceIte, dropK_eq, q0, k1, k7, k8, k9, k10]
noncomputable def F79 : List AVal → Option AVal := pureF C2 1 79
theorem sound79 : Sound Tryz.prog 79 F79 := sound_self ok2 1 79
theorem head48 {s : List UInt8} {fr : Nat} (h : (s.drop fr).takeWhile dgB ≠ []) : fr < s.length ∧ (((s.drop fr).takeWhile dgB).head? = some 48 ↔ ((s.getD fr 0).toNat : Int) = 48) := by
  have hlt : fr < s.length := by
    rcases Nat.lt_or_ge fr s.length with h1 | h1
    · exact h1
    · rw [List.drop_of_length_le h1] at h; simp at h
  refine ⟨hlt, ?_⟩
  rw [drop_cons hlt] at h ⊢
  rw [List.takeWhile_cons] at h ⊢
  split at h
  · rename_i hc
    rw [if_pos hc]
    simp only [List.head?_cons, Option.some.injEq]
    constructor
    · intro e; rw [e]; rfl
    · intro e; exact UInt8.toNat_inj.1 (by have : (48 : UInt8).toNat = 48 := rfl; omega)
  · exact absurd rfl h
theorem F79_eq {s : List UInt8} {i : Nat} (hi : i < s.length) (hs : s.length ≤ 100000) : F79 [sv s, .int .i64 i] = some (numV (numR (s.drop i))) := by
  have ix := str_ixN .i64 hi
  have hnr : numR (s.drop i) = if ((s.getD i 0).toNat : Int) = 45 then numN true ((s.drop (i + 1)).takeWhile dgB) else numN false ((s.drop i).takeWhile dgB) := by
    rw [drop_cons hi, numR]
  rw [hnr]
  unfold F79
  refine pureF_of (x := x79) rfl rfl ?_
  rw [x79_eq.1, x79_eq.2.1]
  by_cases h45 : ((s.getD i 0).toNat : Int) = 45
  · rw [if_pos h45]
    simp (disch := first | omega | simp only [go_sem, ↓reduceIte, dropK_eq]) only [x79b, go_sem, ↓reduceIte, dropK_eq, ix, h45]
    refine loop36 (fr := i + 1) hs (by omega) ?_ ?_ ?_ ?_
    · simp only [go_sem, ↓reduceIte, dropK_eq]
    · simp only [go_sem, ↓reduceIte, dropK_eq, Int.natCast_add, Int.natCast_one]
    · simp only [go_sem, ↓reduceIte, dropK_eq]
    intro tm nc q0 q1 q7 q8 k9 k10
    simp only [go_sem, ↓reduceIte, dropK_eq] at q0 q1 q7 q8
    generalize hds : (s.drop (i + 1)).takeWhile dgB = ds at *
    have hdl : ds.length ≤ s.length := by rw [← hds]; exact Nat.le_trans (List.takeWhile_prefix _).length_le (by simp)
    by_cases h0 : ds = []
    · have d1 : decide (((i + 1 + ds.length : Nat) : Int) = (i : Int) + 1) = true := decide_eq_true (by rw [h0]; simp)
      simp (disch := first | omega | simp only [go_sem, ↓reduceIte, dropK_eq]) only [go_sem, ↓reduceIte, dropK_eq, q0, q1, q7, q8, k9, k10, d1]
      rw [numN, if_pos h0]
      exact Ends_plain rfl rfl
    · have d1 : decide (((i + 1 + ds.length : Nat) : Int) = (i : Int) + 1) = false := decide_eq_false (by have := List.length_pos_iff.2 h0; omega)
      obtain ⟨hlt, hh⟩ := head48 (by rw [hds]; exact h0)
      rw [hds] at hh
      have ix2 := str_ixN .i64 hlt
      rw [Int.natCast_add, Int.natCast_one] at ix2
      by_cases hbad : numBad true ds
      · rw [numN, if_neg h0, if_pos hbad]
        by_cases h48 : ((s.getD (i + 1) 0).toNat : Int) = 48
        · have d2 := decide_eq_true h48
          by_cases hg : (i : Int) + 1 + 1 < ((i + 1 + ds.length : Nat) : Int)
          · have d3 := decide_eq_true hg
            simp (disch := first | omega | simp only [go_sem, ↓reduceIte, dropK_eq]) only [go_sem, ↓reduceIte, dropK_eq, q0, q1, q7, q8, k9, k10, d1, ix2, d2, d3]
            exact Ends_plain rfl rfl
          · have d3 := decide_eq_false hg
            simp (disch := first | omega | simp only [go_sem, ↓reduceIte, dropK_eq]) only [go_sem, ↓reduceIte, dropK_eq, q0, q1, q7, q8, k9, k10, d1, ix2, d2, d3]
            exact Ends_plain rfl rfl
        · have d2 := decide_eq_false h48
          have d4 : decide ((1000000000 : Int) < ((min (vl ds) 10000000000 : Nat) : Int)) = true := decide_eq_true (by rcases hbad with h | h; exact absurd (hh.1 h.1) h48; omega)
          simp (disch := first | omega | simp only [go_sem, ↓reduceIte, dropK_eq]) only [go_sem, ↓reduceIte, dropK_eq, q0, q1, q7, q8, k9, k10, d1, ix2, d2, d4]
          exact Ends_plain rfl rfl
      · rw [numN, if_neg h0, if_neg hbad]
        have h48 : ¬ ((s.getD (i + 1) 0).toNat : Int) = 48 := fun h => hbad (.inl ⟨hh.2 h, .inr rfl⟩)
        have hv : vl ds ≤ 1000000000 := by
          rcases Nat.lt_or_ge 1000000000 (vl ds) with h | h
          · exact absurd (.inr h) hbad
          · exact h
        have d2 := decide_eq_false h48
        have em : min (vl ds) 10000000000 = vl ds := by omega
        rw [em] at k10
        have d4 : decide ((1000000000 : Int) < ((vl ds : Nat) : Int)) = false := decide_eq_false (by omega)
        simp (disch := first | omega | simp only [go_sem, ↓reduceIte, dropK_eq]) only [go_sem, ↓reduceIte, dropK_eq, q0, q1, q7, q8, k9, k10, d1, ix2, d2, d4]
        refine Ends_plain rfl ?_
        simp only [numV, if_true]
        congr 3
        · congr 1; omega
        · congr 2; omega
  · rw [if_neg h45]
    have d0 := decide_eq_false h45
    simp (disch := first | omega | simp only [go_sem, ↓reduceIte, dropK_eq]) only [x79b, go_sem, ↓reduceIte, dropK_eq, ix, d0]
    refine loop36 (fr := i) hs (by omega) ?_ ?_ ?_ ?_
    · simp only [go_sem, ↓reduceIte, dropK_eq]
    · simp only [go_sem, ↓reduceIte, dropK_eq]
    · simp only [go_sem, ↓reduceIte, dropK_eq]
    intro tm nc q0 q1 q7 q8 k9 k10
    simp only [go_sem, ↓reduceIte, dropK_eq] at q0 q1 q7 q8
    generalize hds : (s.drop i).takeWhile dgB = ds at *
    have hdl : ds.length ≤ s.length := by rw [← hds]; exact Nat.le_trans (List.takeWhile_prefix _).length_le (by simp)
    by_cases h0 : ds = []
    · have d1 : decide (((i + ds.length : Nat) : Int) = (i : Int)) = true := decide_eq_true (by rw [h0]; simp)
      simp (disch := first | omega | simp only [go_sem, ↓reduceIte, dropK_eq]) only [go_sem, ↓reduceIte, dropK_eq, q0, q1, q7, q8, k9, k10, d1]
      rw [numN, if_pos h0]
      exact Ends_plain rfl rfl
    · have d1 : decide (((i + ds.length : Nat) : Int) = (i : Int)) = false := decide_eq_false (by have := List.length_pos_iff.2 h0; omega)
      obtain ⟨hlt, hh⟩ := head48 (by rw [hds]; exact h0)
      rw [hds] at hh
      by_cases hbad : numBad false ds
      · rw [numN, if_neg h0, if_pos hbad]
        by_cases h48 : ((s.getD i 0).toNat : Int) = 48
        · have d2 := decide_eq_true h48
          by_cases hg : (i : Int) + 1 < ((i + ds.length : Nat) : Int)
          · have d3 := decide_eq_true hg
            simp (disch := first | omega | simp only [go_sem, ↓reduceIte, dropK_eq]) only [go_sem, ↓reduceIte, dropK_eq, q0, q1, q7, q8, k9, k10, d1, ix, d2, d3]
            exact Ends_plain rfl rfl
          · have d3 := decide_eq_false hg
            have d4 : decide ((1000000000 : Int) < ((min (vl ds) 10000000000 : Nat) : Int)) = true := decide_eq_true (by
              rcases hbad with h | h
              · rcases h.2 with h2 | h2
                · omega
                · cases h2
              · omega)
            simp (disch := first | omega | simp only [go_sem, ↓reduceIte, dropK_eq]) only [go_sem, ↓reduceIte, dropK_eq, q0, q1, q7, q8, k9, k10, d1, ix, d2, d3, d4]
            exact Ends_plain rfl rfl
        · have d2 := decide_eq_false h48
          have d4 : decide ((1000000000 : Int) < ((min (vl ds) 10000000000 : Nat) : Int)) = true := decide_eq_true (by rcases hbad with h | h; exact absurd (hh.1 h.1) h48; omega)
          simp (disch := first | omega | simp only [go_sem, ↓reduceIte, dropK_eq]) only [go_sem, ↓reduceIte, dropK_eq, q0, q1, q7, q8, k9, k10, d1, ix, d2, d4]
          exact Ends_plain rfl rfl
      · rw [numN, if_neg h0, if_neg hbad]
        have hv : vl ds ≤ 1000000000 := by
          rcases Nat.lt_or_ge 1000000000 (vl ds) with h | h
          · exact absurd (.inr h) hbad
          · exact h
        have em : min (vl ds) 10000000000 = vl ds := by omega
        rw [em] at k10
        have d4 : decide ((1000000000 : Int) < ((vl ds : Nat) : Int)) = false := decide_eq_false (by omega)
        have hfin : (AVal.tup [.int .i64 (vl ds : Nat), .int .i64 (((i + ds.length : Nat) : Int) - i), .int .i64 0]) = numV (.ok (if false = true then -(vl ds : Int) else vl ds, (if false = true then 1 else 0) + ds.length)) := by
          simp only [numV, Bool.false_eq_true, if_false]
          congr 3
          congr 1
          omega
        by_cases h48 : ((s.getD i 0).toNat : Int) = 48
        · have d2 := decide_eq_true h48
          have d3 : decide ((i : Int) + 1 < ((i + ds.length : Nat) : Int)) = false := decide_eq_false fun h => hbad (.inl ⟨hh.2 h48, .inl (by omega)⟩)
          simp (disch := first | omega | simp only [go_sem, ↓reduceIte, dropK_eq]) only [go_sem, ↓reduceIte, dropK_eq, q0, q1, q7, q8, k9, k10, d1, ix, d2, d3, d4]
          exact Ends_plain rfl hfin
        · have d2 := decide_eq_false h48
          simp (disch := first | omega | simp only [go_sem, ↓reduceIte, dropK_eq]) only [go_sem, ↓reduceIte, dropK_eq, q0, q1, q7, q8, k9, k10, d1, ix, d2, d4]
          exact Ends_plain rfl hfin
noncomputable def C6 : Cfg := (C2.add 50 F50).add 79 F79
theorem ok6 : CfgOk Tryz.prog C6 := (ok2.add sound50).add sound79
theorem loop22 {d : Nat} {s : List UInt8} {fr : Nat} {tm : Nat → AVal} {hp : Heap} {nc : Nat} {Q : Out → St → Prop} (hs : s.length ≤ 100000) (hfr : fr ≤ s.length) (h0 : tm 0 = sv s) (h12 : tm 12 = .int .i64 fr)
    (hQ : ∀ tm' nc', tm' 0 = tm 0 → tm' 1 = tm 1 → tm' 4 = tm 4 → tm' 12 = .int .i64 ((fr + ((s.drop fr).takeWhile ltB).length : Nat) : Int) → Q (.ext 0) ⟨tm', hp, nc'⟩) :
    Ev (C := C6) (inl := inlD C6 d) 51 (.loop x51l15) ⟨tm, hp, nc⟩ Q := by
  refine Ev_loopW (I := fun n tm hp' nc => ∃ e : Nat, fr ≤ e ∧ e ≤ s.length ∧ n = s.length - e ∧ hp' = hp ∧ tm 12 = .int .i64 e ∧ ∀ j, fr ≤ j → j < e → ltB (s.getD j 0) = true) (n := s.length - fr) ?_ (by omega) ?_
  · exact ⟨fr, by omega, hfr, rfl, rfl, h12, fun j h1 h2 => by omega⟩
  · rintro n tm' hp' nc' hc ⟨e, h1, h2, rfl, rfl, k12, hj⟩
    have k0 := hc 0 rfl
    have k1 := hc 1 rfl
    have k4 := hc 4 rfl
    have q0 := k0
    rw [h0] at k0
    have ee : fr + (e - fr) = e := by omega
    rcases Nat.lt_or_ge e s.length with hlt | hge
    · have e1 : decide ((e : Int) < (s.length : Int)) = true := decide_eq_true (by omega)
      have ix := str_ixN .i64 hlt
      have e37 := F80_eq (n := ((s.getD e 0).toNat : Int))
      cases hin : ltB (s.getD e 0) with
      | true =>
        rw [show decide (lett ((s.getD e 0).toNat : Int)) = true from hin] at e37
        simp (disch := first | omega | simp only [go_sem, ↓reduceIte, dropK_eq]) only [x51l15, go_sem, ↓reduceIte, dropK_eq, k0, k12, e1, ix, callX_known (C := C6) (g := 80) rfl, ft_call (C := C6) (g := 80) rfl, e37]
        exact ⟨s.length - (e + 1), by omega, e + 1, by omega, by omega, rfl, by simp, run_step hj hin⟩
      | false =>
        rw [show decide (lett ((s.getD e 0).toNat : Int)) = false from hin] at e37
        have hrun := run_eq (p := ltB) (l := s) (a := fr) (e := e) h1 h2 hj (fun _ => hin)
        rw [hrun, run_len h2, ee] at hQ
        simp (disch := first | omega | simp only [go_sem, ↓reduceIte, dropK_eq]) only [x51l15, go_sem, ↓reduceIte, dropK_eq, k0, k12, e1, ix, callX_known (C := C6) (g := 80) rfl, ft_call (C := C6) (g := 80) rfl, e37]
        refine hQ _ _ ?_ ?_ ?_ ?_ <;> simp only [go_sem, ↓reduceIte, dropK_eq, q0, k1, k4, k12]
    · obtain rfl : e = s.length := by omega
      have e1 : decide ((s.length : Int) < (s.length : Int)) = false := decide_eq_false (by omega)
      have hrun := run_eq (p := ltB) (l := s) (a := fr) (e := s.length) h1 h2 hj (fun h => by omega)
      rw [hrun, run_len h2, ee] at hQ
      simp (disch := first | omega | simp only [go_sem, ↓reduceIte, dropK_eq]) only [x51l15, go_sem, ↓reduceIte, dropK_eq, k0, k12, e1]
      refine hQ _ _ ?_ ?_ ?_ ?_ <;> simp only [go_sem, ↓reduceIte, dropK_eq, q0, k1, k4, k12]
theorem numN_err {neg : Bool} {ds : List UInt8} {e : Int} (h : numN neg ds = .error e) : ¬ e = 0 := by
  unfold numN at h
  split at h
  · cases h; decide
  · split at h
    · cases h; decide
    · cases h
theorem numR_err {r : List UInt8} {e : Int} (h : numR r = .error e) : ¬ e = 0 := by
  cases r with
  | nil => cases h; decide
  | cons b r =>
    simp only [numR] at h
    split at h
    · exact numN_err h
    · exact numN_err h
theorem oneR_err {r : List UInt8} {e : Int} (h : oneR r = .error e) : ¬ e = 0 := by
  cases r with
  | nil => cases h; decide
  | cons b r =>
    simp only [oneR] at h
    split at h
    · cases h
    · split at h
      · cases hn : numR (b :: r) with
        | error e' => rw [hn] at h; cases h; exact numR_err hn
        | ok x => rw [hn] at h; cases h
      · split at h
        · cases h; decide
        · split at h
          · cases h; decide
          · cases h
def oneV (i : Nat) : Except Int (Tok × Nat) → AVal
  | .error e => .tup [T0, .int .i64 0, .int .i64 e]
  | .ok (t, k) => .tup [TK { t with at' := i }, .int .i64 k, .int .i64 0]
noncomputable def F51 : List AVal → Option AVal := pureF C6 1 51
theorem sound51 : Sound Tryz.prog 51 F51 := sound_self ok6 1 51
theorem F51_eq {s : List UInt8} {i : Nat} (hi : i < s.length) (hs : s.length ≤ 100000) : F51 [sv s, .int .i64 i] = some (oneV i (oneR (s.drop i))) := by
  have ix := str_ixN .i64 hi
  have hdc := drop_cons hi
  have e36 := F79_eq hi hs
  have e35 := F78_eq (n := ((s.getD i 0).toNat : Int))
  unfold F51
  refine pureF_of (x := x51) rfl rfl ?_
  rw [x51_eq.1, x51_eq.2.1]
  by_cases hb : signB (s.getD i 0)
  · have : oneR (s.drop i) = .ok (⟨sgk (s.getD i 0), [], 0, 0⟩, 1) := by rw [hdc, oneR, if_pos hb]
    rw [this]
    rcases hb with e | e | e <;>
    · simp (disch := first | omega | simp only [go_sem, ↓reduceIte, dropK_eq]) only [x51b, go_sem, ↓reduceIte, dropK_eq, ix, e]
      refine Ends_plain rfl ?_
      simp only [oneV, sgk, e]
      rfl
  · have hb1 := hb
    simp only [signB, not_or] at hb1
    have d1 := decide_eq_false hb1.1
    have d2 := decide_eq_false hb1.2.1
    have d3 := decide_eq_false hb1.2.2
    by_cases hn : ((s.getD i 0).toNat : Int) = 45 ∨ digB (s.getD i 0)
    · have ho : oneR (s.drop i) = match numR (s.drop i) with
          | .error e => .error e
          | .ok (n, k) => .ok (⟨2, [], n, 0⟩, k) := by rw [hdc, oneR, if_neg hb, if_pos hn]; try (cases numR (s.getD i 0 :: s.drop (i + 1)) <;> rfl)
      rw [ho]
      by_cases h45 : ((s.getD i 0).toNat : Int) = 45
      · have d4 := decide_eq_true h45
        cases hr : numR (s.drop i) with
        | error e =>
          have d5 := decide_eq_true (numR_err hr)
          rw [hr] at e36
          simp only [numV] at e36
          simp (disch := first | omega | simp only [go_sem, ↓reduceIte, dropK_eq]) only [x51b, go_sem, ↓reduceIte, dropK_eq, ix, d1, d2, d3, d4, d5, callX_known (C := C6) (g := 79) rfl, ft_call (C := C6) (g := 79) rfl, e36]
          exact Ends_plain rfl rfl
        | ok x =>
          obtain ⟨n, k⟩ := x
          rw [hr] at e36
          simp only [numV] at e36
          simp (disch := first | omega | simp only [go_sem, ↓reduceIte, dropK_eq]) only [x51b, go_sem, ↓reduceIte, dropK_eq, ix, d1, d2, d3, d4, callX_known (C := C6) (g := 79) rfl, ft_call (C := C6) (g := 79) rfl, e36]
          exact Ends_plain rfl rfl
      · have d4 := decide_eq_false h45
        have hdg : digB (s.getD i 0) := by
          rcases hn with h | h
          · exact absurd h h45
          · exact h
        rw [show decide (digi ((s.getD i 0).toNat : Int)) = true from decide_eq_true hdg] at e35
        cases hr : numR (s.drop i) with
        | error e =>
          have d5 := decide_eq_true (numR_err hr)
          rw [hr] at e36
          simp only [numV] at e36
          simp (disch := first | omega | simp only [go_sem, ↓reduceIte, dropK_eq]) only [x51b, go_sem, ↓reduceIte, dropK_eq, ix, d1, d2, d3, d4, d5, callX_known (C := C6) (g := 79) rfl, ft_call (C := C6) (g := 79) rfl, callX_known (C := C6) (g := 78) rfl, ft_call (C := C6) (g := 78) rfl, e36, e35]
          exact Ends_plain rfl rfl
        | ok x =>
          obtain ⟨n, k⟩ := x
          rw [hr] at e36
          simp only [numV] at e36
          simp (disch := first | omega | simp only [go_sem, ↓reduceIte, dropK_eq]) only [x51b, go_sem, ↓reduceIte, dropK_eq, ix, d1, d2, d3, d4, callX_known (C := C6) (g := 79) rfl, ft_call (C := C6) (g := 79) rfl, callX_known (C := C6) (g := 78) rfl, ft_call (C := C6) (g := 78) rfl, e36, e35]
          exact Ends_plain rfl rfl
    · have d4 := decide_eq_false (fun h => hn (.inl h))
      rw [show decide (digi ((s.getD i 0).toNat : Int)) = false from decide_eq_false (fun h => hn (.inr h))] at e35
      have ho : oneR (s.drop i) = if (s.drop i).takeWhile ltB = [] then .error 7 else if 12 < ((s.drop i).takeWhile ltB).length then .error 2
          else .ok (⟨1, (s.drop i).takeWhile ltB, 0, 0⟩, ((s.drop i).takeWhile ltB).length) := by rw [hdc, oneR, if_neg hb, if_neg hn]
      rw [ho]
      simp (disch := first | omega | simp only [go_sem, ↓reduceIte, dropK_eq]) only [x51b, go_sem, ↓reduceIte, dropK_eq, ix, d1, d2, d3, d4, callX_known (C := C6) (g := 78) rfl, ft_call (C := C6) (g := 78) rfl, e35]
      refine loop22 (fr := i) hs (by omega) ?_ ?_ ?_
      · simp only [go_sem, ↓reduceIte, dropK_eq]
      · simp only [go_sem, ↓reduceIte, dropK_eq]
      intro tm nc q0 q1 q4 k12
      simp only [go_sem, ↓reduceIte, dropK_eq] at q0 q1 q4
      have hpre := List.takeWhile_prefix (l := s.drop i) ltB
      generalize hds : (s.drop i).takeWhile ltB = w at *
      have hwl : w.length ≤ (s.drop i).length := hpre.length_le
      rw [List.length_drop] at hwl
      by_cases h0 : w = []
      · have d6 : decide (((i + w.length : Nat) : Int) = (i : Int)) = true := decide_eq_true (by rw [h0]; simp)
        rw [if_pos h0]
        simp (disch := first | omega | simp only [go_sem, ↓reduceIte, dropK_eq]) only [go_sem, ↓reduceIte, dropK_eq, q0, q1, q4, k12, d6]
        exact Ends_plain rfl rfl
      · have hw := List.length_pos_iff.2 h0
        have d6 : decide (((i + w.length : Nat) : Int) = (i : Int)) = false := decide_eq_false (by omega)
        rw [if_neg h0]
        by_cases h12 : 12 < w.length
        · have d7 : decide ((i : Int) + 12 < ((i + w.length : Nat) : Int)) = true := decide_eq_true (by omega)
          rw [if_pos h12]
          simp (disch := first | omega | simp only [go_sem, ↓reduceIte, dropK_eq]) only [go_sem, ↓reduceIte, dropK_eq, q0, q1, q4, k12, d6, d7]
          exact Ends_plain rfl rfl
        · have d7 : decide ((i : Int) + 12 < ((i + w.length : Nat) : Int)) = false := decide_eq_false (by omega)
          rw [if_neg h12]
          have hsl := str_slice (l := s) (lo := i) (hi := i + w.length) (by omega) (by omega)
          rw [show i + w.length - i = w.length by omega] at hsl
          have ht : (s.drop i).take w.length = w := (List.prefix_iff_eq_take.1 hpre).symm
          rw [ht] at hsl
          simp (disch := first | omega | simp only [go_sem, ↓reduceIte, dropK_eq]) only [go_sem, ↓reduceIte, dropK_eq, q0, q1, q4, k12, d6, d7, hsl]
          refine Ends_plain rfl ?_
          simp only [oneV]
          congr 3
          congr 1
          omega
noncomputable def C7 : Cfg := C6.add 51 F51
theorem ok7 : CfgOk Tryz.prog C7 := ok6.add sound51
noncomputable def F20 : List AVal → Option AVal := pureF C7 1 20
theorem sound20 : Sound Tryz.prog 20 F20 := sound_self ok7 1 20
/-- A scan's answer; z: what an empty row is. -/
def scanV (z : List Tok → AVal) : Except (Nat × Int) (List Tok) → AVal
  | .error (i, e) => .tup [.nils, .int .i64 i, .int .i64 e]
  | .ok l => .tup [z l, .int .i64 0, .int .i64 0]
/-- A scan that has gone on. -/
def pre (l : List Tok) : Except (Nat × Int) (List Tok) → Except (Nat × Int) (List Tok)
  | .error x => .error x
  | .ok m => .ok (l ++ m)
theorem pre_nil (x : Except (Nat × Int) (List Tok)) : pre [] x = x := by cases x <;> rfl
theorem scan_step {r : List UInt8} {i k : Nat} {t : Tok} {l : List Tok} (h0 : r ≠ []) (h : blk r = 0) (h1 : oneR r = .ok (t, k)) : pre l (scan r i) = pre (l ++ [{ t with at' := i }]) (scan (r.drop k) (i + k)) := by
  rw [scan_one h0 h h1 (oneR_len h1).1]
  cases scan (r.drop k) (i + k) with
  | error x => rfl
  | ok m => simp [pre]
theorem own_ne {ss : List Nat} {es : Nat} {hp : Heap} {v : AVal} {xs : List AVal} (h : Own ss es hp v xs) (h0 : xs ≠ []) : v ≠ .nils := by
  rcases h with ⟨_, h⟩ | ⟨s, c, g, _, h, _⟩
  · exact absurd h h0
  · rw [h]; intro e; cases e
theorem own_slc {es : Nat} {v : AVal} {xs : List AVal} (h : v ≠ .nils) : sliceOf es v xs = .slc es xs := by
  cases v <;> first | rfl | exact absurd rfl h
abbrev text (s : List UInt8) : Except (Nat × Int) (List Tok) := if s.length ≤ 4000 then scan s 0 else .error (0, 2)
theorem F20_eq {s : List UInt8} (hs : s.length ≤ 100000) : F20 [sv s] = some (scanV (fun l => .slc 4 (l.map TK)) (text s)) := by
  unfold F20
  refine pureF_of (x := x20) rfl rfl ?_
  rw [x20_eq.1, x20_eq.2.1]
  by_cases h4 : s.length ≤ 4000
  · have d0 : decide ((4000 : Int) < (s.length : Int)) = false := decide_eq_false (by omega)
    unfold text
    rw [if_pos h4]
    simp (disch := first | omega | simp only [go_sem, ↓reduceIte, dropK_eq]) only [x20b, go_sem, ↓reduceIte, dropK_eq, d0]
    refine Ev_loopW (I := fun n tm hp nc => ∃ (i : Nat) (l : List Tok), i ≤ s.length ∧ n = s.length - i ∧ tm 6 = .int .i64 i ∧ l.length ≤ i ∧ scan s 0 = pre l (scan (s.drop i) i) ∧ Own [20003000, 20012003] 4 hp (tm 5) (l.map TK) ∧ tm 5 ≠ .nils) (n := s.length) ?_ (by omega) ?_
    · refine ⟨0, [], by omega, by omega, ?_⟩
      simp only [go_sem, ↓reduceIte, dropK_eq, List.map_nil]
      refine ⟨(pre_nil _).symm, Own.sl (ss := [20003000, 20012003]) (by simp) rfl ?_, by simp⟩
      simp only [go_sem, ↓reduceIte, dropK_eq]
    · rintro n tm hp nc hc ⟨i, l, hi, rfl, k6, hll, hsc, ho, h0⟩
      have k0 := hc 0 rfl; simp only [go_sem, ↓reduceIte, dropK_eq] at k0
      rcases Nat.lt_or_ge i s.length with hlt | hge
      · have d1 : decide ((i : Int) < (s.length : Int)) = true := decide_eq_true (by omega)
        have e21 := F50_eq hlt hs
        have hne : s.drop i ≠ [] := fun h => by have := congrArg List.length h; simp at this; omega
        have hbl := blk_le (s.drop i)
        rw [List.length_drop] at hbl
        by_cases hb : 0 < blk (s.drop i)
        · have d2 : decide ((0 : Int) < ((blk (s.drop i) : Nat) : Int)) = true := decide_eq_true (by omega)
          simp (disch := first | omega | simp only [go_sem, ↓reduceIte, dropK_eq]) only [x20l5, go_sem, ↓reduceIte, dropK_eq, k0, k6, d1, callX_known (C := C7) (g := 50) rfl, ft_call (C := C7) (g := 50) rfl, e21, d2]
          refine ⟨s.length - (i + blk (s.drop i)), by omega, i + blk (s.drop i), l, by omega, rfl, by simp, by omega, ?_, ho, h0⟩
          rw [hsc, scan_blk hb, List.drop_drop]
        · have hb0 : blk (s.drop i) = 0 := by omega
          have d2 : decide ((0 : Int) < ((blk (s.drop i) : Nat) : Int)) = false := decide_eq_false (by omega)
          have e22 := F51_eq hlt hs
          cases hr : oneR (s.drop i) with
          | error e =>
            have d3 := decide_eq_true (oneR_err hr)
            rw [hr] at e22
            simp only [oneV] at e22
            simp (disch := first | omega | simp only [go_sem, ↓reduceIte, dropK_eq]) only [x20l5, go_sem, ↓reduceIte, dropK_eq, k0, k6, d1, callX_known (C := C7) (g := 50) rfl, ft_call (C := C7) (g := 50) rfl, callX_known (C := C7) (g := 51) rfl, ft_call (C := C7) (g := 51) rfl, e21, d2, e22, d3]
            refine Ends_plain rfl ?_
            rw [hsc, scan_bad hne hb0 hr]
            rfl
          | ok x =>
            obtain ⟨t, k⟩ := x
            rw [hr] at e22
            simp only [oneV] at e22
            have hk := oneR_len hr
            rw [List.length_drop] at hk
            obtain ⟨V, H, hA, hO⟩ := (ho.keep (hp' := upd (upd hp (20009007, nc + 1 + 1 + 1) (some (.var [.int .i64 0, sv [], .int .i64 0, .int .i64 0]))) (20009007, nc + 1 + 1 + 1) (some (.var [.int .i64 t.k, sv t.s, .int .i64 t.n, .int .i64 (i : Nat)]))) (fun k hk => by repeat rw [upd_ne _ _ (by rintro rfl; simp at hk)])).push (s0 := 20012003) (s1 := 20012002) (z := .agg [.int .i64 t.k, sv t.s, .int .i64 t.n, .int .i64 (i : Nat)]) (bytes := 40) (by simp) (by simp) (TK_plain _ { t with at' := i }) (TK_sc { t with at' := i }) (by simp; omega)
            simp (disch := first | omega | simp only [go_sem, ↓reduceIte, dropK_eq]) only [x20l5, go_sem, ↓reduceIte, dropK_eq, k0, k6, d1, callX_known (C := C7) (g := 50) rfl, ft_call (C := C7) (g := 50) rfl, callX_known (C := C7) (g := 51) rfl, ft_call (C := C7) (g := 51) rfl, e21, d2, e22, hA]
            refine ⟨s.length - (i + k), by omega, i + k, l ++ [{ t with at' := i }], by omega, rfl, by simp, by simp; omega, ?_, ?_, ?_⟩
            · rw [hsc, scan_step hne hb0 hr, List.drop_drop]
            · rw [List.map_append]; exact (hO _ _).1
            · exact own_ne (ss := [20003000, 20012003]) (hO _ _).1 (by simp)
      · obtain rfl : i = s.length := by omega
        have d1 : decide ((s.length : Int) < (s.length : Int)) = false := decide_eq_false (by omega)
        rw [List.drop_length, scan_nil] at hsc
        simp only [pre, List.append_nil] at hsc
        have hpl : ∀ d, plainL (d + 1) (l.map TK) = true := fun d => plainL_map _ (fun x => TK_plain d x) _
        have hl : ∀ d, lendV (d + 1 + 1) (tm 5) hp = some (sliceOf 4 (tm 5) (l.map TK)) := fun d => Own.lend ho (d + 1) (hpl d)
        rw [own_slc h0] at hl
        simp (disch := first | omega | simp only [*, go_sem, ↓reduceIte, List.mem_cons, List.not_mem_nil, or_false, or_self]) only [x20l5, go_sem, ↓reduceIte, k0, k6, d1]
        rw [hsc]
        rw [Ends_eq]
        simp (disch := first | omega | simp only [*, go_sem, ↓reduceIte, List.mem_cons, List.not_mem_nil, or_false, or_self]) only [go_sem, ↓reduceIte, hl]
        rfl
  · have d0 : decide ((4000 : Int) < (s.length : Int)) = true := decide_eq_true (by omega)
    unfold text
    rw [if_neg h4]
    simp (disch := first | omega | simp only [go_sem, ↓reduceIte, dropK_eq]) only [x20b, go_sem, ↓reduceIte, dropK_eq, d0]
    exact Ends_plain rfl rfl
noncomputable def C8 : Cfg := (C4.add 68 F_index).add 88 (F_atoi 161)
theorem ok8 : CfgOk Tryz.prog C8 := (ok4.add sound68).add sound88
theorem while30 {d : Nat} {f : AVal} {p : UInt8 → Bool} {κ : Key} {hp : Heap} {nc : Nat} {s : List UInt8} {i : Nat} {K : AVal × Heap × Nat → Prop} (hs : s.length ≤ 100000) (hi : i ≤ s.length) (hk : hp κ = some (.var [sv s, .int .i64 i]))
    (hf : ∀ (b : UInt8) (hp : Heap) (nc : Nat) (K : AVal × Heap × Nat → Prop), (∀ nc', K (.bool (p b), hp, nc')) → Bd (callX C8 (inlD C8 d) f [.int .u8 b.toNat] hp nc) K)
    (hK : ∀ hp' nc', hp' κ = some (.var [sv s, .int .i64 ((i + ((s.drop i).takeWhile p).length : Nat) : Int)]) → (∀ k, k ≠ κ → hp' k = hp k) → K (sv ((s.drop i).takeWhile p), hp', nc')) :
    Bd (inlD C8 (d + 1) 67 [.ptr κ 0 0 0 0, f] hp nc) K := by
  refine inl_of (x := x67) rfl rfl ?_
  rw [x67_eq.1, x67_eq.2.1]
  simp (disch := first | omega | simp only [go_sem, ↓reduceIte, dropK_eq]) only [x67b, go_sem, ↓reduceIte, dropK_eq, hk]
  refine Ev_loopW (I := fun n tm hp' nc => ∃ e : Nat, i ≤ e ∧ e ≤ s.length ∧ n = s.length - e ∧ hp' κ = some (.var [sv s, .int .i64 e]) ∧ (∀ k, k ≠ κ → hp' k = hp k) ∧ ∀ j, i ≤ j → j < e → p (s.getD j 0) = true) (n := s.length - i) ?_ (by omega) ?_
  · exact ⟨i, by omega, hi, rfl, hk, fun k _ => rfl, fun j h1 h2 => by omega⟩
  · rintro n tm hp' nc' hc ⟨e, h1, h2, rfl, hk', hne, hj⟩
    have k0 := hc 0 rfl; have k1 := hc 1 rfl; have k5 := hc 5 rfl; simp only [go_sem, ↓reduceIte, dropK_eq] at k0 k1 k5
    have ee : i + (e - i) = e := by omega
    rcases Nat.lt_or_ge e s.length with hlt | hge
    · have e1 : decide ((e : Int) < (s.length : Int)) = true := decide_eq_true (by omega)
      have ix := str_ixN .i64 hlt
      simp (disch := first | omega | simp only [go_sem, ↓reduceIte, dropK_eq]) only [x67l2, go_sem, ↓reduceIte, dropK_eq, k0, k1, hk', e1, ix]
      refine hf _ _ _ _ fun nc'' => ?_
      cases hin : p (s.getD e 0) with
      | true =>
        simp (disch := first | omega | simp only [go_sem, ↓reduceIte, dropK_eq]) only [go_sem, ↓reduceIte, dropK_eq, k0, hk']
        refine ⟨s.length - (e + 1), by omega, e + 1, by omega, by omega, rfl, by simp, fun k hne' => ?_, run_step hj hin⟩
        rw [if_neg hne']
        exact hne k hne'
      | false =>
        have hrun := run_eq (p := p) (l := s) (a := i) (e := e) h1 h2 hj (fun _ => hin)
        rw [hrun, run_len h2, ee] at hK
        have hsl := str_slice (l := s) (lo := i) (hi := e) h1 h2
        simp (disch := first | omega | simp only [go_sem, ↓reduceIte, dropK_eq]) only [go_sem, ↓reduceIte, dropK_eq, k0, k5, hk', hsl]
        exact hK _ _ hk' hne
    · obtain rfl : e = s.length := by omega
      have e1 : decide ((s.length : Int) < (s.length : Int)) = false := decide_eq_false (by omega)
      have hrun := run_eq (p := p) (l := s) (a := i) (e := s.length) h1 h2 hj (fun h => by omega)
      rw [hrun, run_len h2, ee] at hK
      have hsl := str_slice (l := s) (lo := i) (hi := s.length) h1 h2
      simp (disch := first | omega | simp only [go_sem, ↓reduceIte, dropK_eq]) only [x67l2, go_sem, ↓reduceIte, dropK_eq, k0, k1, k5, hk', e1, hsl]
      exact hK _ _ hk' hne
abbrev mnB (b : UInt8) : Bool := decide ((b.toNat : Int) = 45)
theorem num_split {s : List UInt8} {i : Nat} (hi : i < s.length) :
    ((s.drop i).takeWhile mnB = [] ∧ numR (s.drop i) = numN false ((s.drop i).takeWhile dgB)) ∨
    ((s.drop i).takeWhile mnB = [45] ∧ numR (s.drop i) = numN true ((s.drop (i + 1)).takeWhile dgB)) ∨
    (1 < ((s.drop i).takeWhile mnB).length ∧ numR (s.drop i) = .error 7) := by
  rw [drop_cons hi]
  by_cases h : ((s.getD i 0).toNat : Int) = 45
  · have hb : s.getD i 0 = 45 := UInt8.toNat_inj.1 (by have : (45 : UInt8).toNat = 45 := rfl; omega)
    rw [List.takeWhile_cons, if_pos (decide_eq_true h), hb, numR, if_pos (by decide)]
    right
    cases hr : s.drop (i + 1) with
    | nil => exact .inl ⟨rfl, rfl⟩
    | cons c r =>
      by_cases h2 : (c.toNat : Int) = 45
      · right
        rw [List.takeWhile_cons, if_pos (decide_eq_true h2)]
        refine ⟨by simp, ?_⟩
        rw [List.takeWhile_cons, if_neg (by simp only [dgB, digB, digi, decide_eq_true_eq]; omega), numN, if_pos rfl]
      · left
        rw [List.takeWhile_cons, if_neg (by simpa using h2)]
        exact ⟨rfl, rfl⟩
  · left
    rw [List.takeWhile_cons, if_neg (by simpa using h), numR, if_neg h]
    exact ⟨rfl, rfl⟩
/-- What Atoi and Itoa have to do with a number. -/
theorem num_atoi {neg : Bool} {ds : List UInt8} (h : digs ds) (h0 : ds ≠ []) (hl : ds.length ≤ 100000) :
    ∃ v a : AVal, F_atoi 161 [sv ((if neg then [45] else []) ++ ds)] = some (.tup [v, a]) ∧
    ((a = .ifc 161 .any ∧ numN neg ds = .error 3) ∨ ∃ n : Int, v = .int .i64 n ∧ a = .nili ∧ -9223372036854775808 ≤ n ∧ n ≤ 9223372036854775807 ∧
      ((numOk n ∧ its n = (if neg then [45] else []) ++ ds ∧ numN neg ds = .ok (n, (if neg then 1 else 0) + ds.length)) ∨ (¬ (numOk n ∧ its n = (if neg then [45] else []) ++ ds) ∧ numN neg ds = .error 3))) := by
  have hsz : ∀ l : List UInt8, l.length ≤ 200000 → (bs l).size ≤ 281474976710656 := fun l h => by rw [bs_size]; omega
  cases neg with
  | false =>
    simp only [Bool.false_eq_true, if_false, List.nil_append, F_atoi, bs_data]
    rw [if_pos (hsz _ (by omega)), atoi_plain h h0]
    by_cases hv : vl ds < 9223372036854775808
    · rw [if_pos hv]
      refine ⟨_, _, rfl, .inr ⟨_, rfl, rfl, by omega, by omega, ?_⟩⟩
      have hi := its_plain h h0
      by_cases hc : numOk (vl ds : Int) ∧ its (vl ds : Int) = ds
      · left
        refine ⟨hc.1, hc.2, ?_⟩
        rw [numN, if_neg h0, if_neg]
        · simp
        · rintro (⟨h1, h2⟩ | h1)
          · rcases h2 with h2 | h2
            · exact hi.1 hc.2 ⟨h1, h2⟩
            · cases h2
          · have := hc.1; simp only [numOk] at this; omega
      · right
        refine ⟨hc, ?_⟩
        rw [numN, if_neg h0, if_pos]
        by_cases h1 : 1000000000 < vl ds
        · exact .inr h1
        · left
          rcases Classical.em (ds.head? = some 48 ∧ 1 < ds.length) with h2 | h2
          · exact ⟨h2.1, .inl h2.2⟩
          · exact absurd ⟨by simp only [numOk]; omega, hi.2 h2⟩ hc
    · rw [if_neg hv]
      refine ⟨_, _, rfl, .inl ⟨rfl, ?_⟩⟩
      rw [numN, if_neg h0, if_pos (.inr (by omega))]
  | true =>
    simp only [if_true, List.singleton_append, F_atoi, bs_data]
    rw [if_pos (hsz _ (by simp; omega)), atoi_minus h h0]
    by_cases hv : vl ds ≤ 9223372036854775808
    · rw [if_pos hv]
      refine ⟨_, _, rfl, .inr ⟨_, rfl, rfl, by omega, by omega, ?_⟩⟩
      have hi := its_minus h h0
      by_cases hc : numOk (-(vl ds : Int)) ∧ its (-(vl ds : Int)) = 45 :: ds
      · left
        refine ⟨hc.1, hc.2, ?_⟩
        rw [numN, if_neg h0, if_neg]
        · simp
        · rintro (⟨h1, h2⟩ | h1)
          · exact hi.1 hc.2 h1
          · have := hc.1; simp only [numOk] at this; omega
      · right
        refine ⟨hc, ?_⟩
        rw [numN, if_neg h0, if_pos]
        by_cases h1 : 1000000000 < vl ds
        · exact .inr h1
        · left
          rcases Classical.em (ds.head? = some 48) with h2 | h2
          · exact ⟨h2, .inr rfl⟩
          · exact absurd ⟨by simp only [numOk]; omega, hi.2 h2⟩ hc
    · rw [if_neg hv]
      refine ⟨_, _, rfl, .inl ⟨rfl, ?_⟩⟩
      rw [numN, if_neg h0, if_pos (.inr (by omega))]
theorem take_digs (r : List UInt8) : digs (r.takeWhile dgB) := by
  intro b hb
  have h : (r.takeWhile dgB).all dgB = true := List.all_takeWhile
  exact of_decide_eq_true (List.all_eq_true.1 h b hb)
theorem nilA_nili : nilA 1 .nili = some true := rfl
theorem nilA_ifc1 (te : TypeId) (x : AVal) : nilA 1 (.ifc te x) = some false := rfl
/-- A scan's state. -/
abbrev At (hp : Heap) (κ : Key) (s : List UInt8) (i : Nat) : Prop := hp κ = some (.var [sv s, .int .i64 (i : Nat)])
/-- What is left alone. -/
abbrev Kept (b : Nat) (κ : Key) (hp hp' : Heap) : Prop := ∀ k, k ≠ κ → k.1 < b → hp' k = hp k
def n33V : Except Int (Int × Nat) → AVal
  | .error e => .tup [T0, .int .i64 e]
  | .ok (n, _) => .tup [TK ⟨2, [], n, 0⟩, .int .i64 0]
theorem lt44 {d : Nat} (b : UInt8) (hp : Heap) (nc : Nat) (K : AVal × Heap × Nat → Prop) (hK : ∀ nc', K (.bool (mnB b), hp, nc')) : Bd (callX C8 (inlD C8 (d + 1)) (.fn (.func 87) [] []) [.int .u8 b.toNat] hp nc) K := by
  rw [call_inl (C := C8) (g := 87) rfl]
  refine inl_of (x := x87) rfl rfl ?_
  rw [x87_eq.1, x87_eq.2.1]
  simp (disch := first | omega | simp only [go_sem, ↓reduceIte, dropK_eq]) only [x87b, go_sem, ↓reduceIte, dropK_eq]
  exact hK _
theorem lt32 {d : Nat} (b : UInt8) (hp : Heap) (nc : Nat) (K : AVal × Heap × Nat → Prop) (hK : ∀ nc', K (.bool (dgB b), hp, nc')) : Bd (callX C8 (inlD C8 d) (.fn (.func 69) [] []) [.int .u8 b.toNat] hp nc) K := by
  have e := F69_eq (n := (b.toNat : Int))
  simp (disch := first | omega | simp only [go_sem, ↓reduceIte, dropK_eq]) only [go_sem, ↓reduceIte, dropK_eq, callX_known (C := C8) (g := 69) rfl, ft_call (C := C8) (g := 69) rfl, e]
  exact hK _
theorem lt34 {d : Nat} (b : UInt8) (hp : Heap) (nc : Nat) (K : AVal × Heap × Nat → Prop) (hK : ∀ nc', K (.bool (ltB b), hp, nc')) : Bd (callX C8 (inlD C8 d) (.fn (.func 71) [] []) [.int .u8 b.toNat] hp nc) K := by
  have e := F71_eq (n := (b.toNat : Int))
  simp (disch := first | omega | simp only [go_sem, ↓reduceIte, dropK_eq]) only [go_sem, ↓reduceIte, dropK_eq, callX_known (C := C8) (g := 71) rfl, ft_call (C := C8) (g := 71) rfl, e]
  exact hK _
theorem lt29 {d : Nat} {a : AVal} (b : UInt8) (hp : Heap) (nc : Nat) (K : AVal × Heap × Nat → Prop) (hK : ∀ nc', K (.bool (inB b), hp, nc')) : Bd (callX C8 (inlD C8 (d + 1)) (.fn (.func 66) [a] []) [.int .u8 b.toNat] hp nc) K := by
  rw [call_inl (C := C8) (g := 66) rfl]
  refine inl_of (x := x66) rfl rfl ?_
  rw [x66_eq.1, x66_eq.2.1]
  simp (disch := first | omega | simp only [go_sem, ↓reduceIte, dropK_eq]) only [x66b, go_sem, ↓reduceIte, dropK_eq]
  exact hK _
theorem number33 {d : Nat} {κ : Key} {hp : Heap} {nc : Nat} {s : List UInt8} {i : Nat} {K : AVal × Heap × Nat → Prop} (hκ : κ.1 < 20000000) (hs : s.length ≤ 100000) (hi : i < s.length) (hk : At hp κ s i)
    (hK : ∀ hp' nc', (∀ n k, numR (s.drop i) = .ok (n, k) → At hp' κ s (i + k)) → Kept 67000000 κ hp hp' → K (n33V (numR (s.drop i)), hp', nc')) :
    Bd (inlD C8 (d + 3) 70 [.ptr κ 0 0 0 0] hp nc) K := by
  have hkn : ∀ c, κ ≠ (70000000, c) := fun c e => by rw [e] at hκ; simp at hκ
  refine inl_of (x := x70) rfl rfl ?_
  rw [x70_eq.1, x70_eq.2.1]
  simp (disch := first | omega | simp only [go_sem, ↓reduceIte, dropK_eq]) only [x70b, go_sem, ↓reduceIte, dropK_eq, call_inl (C := C8) (g := 67) rfl, ft_inl (C := C8) (g := 67) rfl]
  refine while30 (p := mnB) (i := i) hs (by omega) ?_ (fun b hp nc K h => lt44 b hp nc K h) ?_
  · rw [upd_ne _ _ (hkn _)]; exact hk
  intro hp1 nc1 hk1 hn1
  simp (disch := first | omega | simp only [go_sem, ↓reduceIte, dropK_eq]) only [go_sem, ↓reduceIte, dropK_eq, call_inl (C := C8) (g := 67) rfl, ft_inl (C := C8) (g := 67) rfl]
  have hl1 := (List.takeWhile_prefix (l := s.drop i) mnB).length_le
  rw [List.length_drop] at hl1
  refine while30 (p := dgB) (i := i + ((s.drop i).takeWhile mnB).length) hs (by omega) hk1 (fun b hp nc K h => lt32 b hp nc K h) ?_
  intro hp2 nc2 hk2 hn2
  have hl2 := (List.takeWhile_prefix (l := s.drop (i + ((s.drop i).takeWhile mnB).length)) dgB).length_le
  rw [List.length_drop] at hl2
  have hkept : ∀ v, Kept 67000000 κ hp (upd hp2 (70000000, nc) v) := by
    intro v k h1 h2
    rw [upd_ne _ _ (by rintro rfl; simp at h2), hn2 k h1, hn1 k h1, upd_ne _ _ (by rintro rfl; simp at h2)]
  have hv : hp2 (70000000, nc) = some (.var [.int .i64 0, sv [], .int .i64 0, .int .i64 0]) := by
    rw [hn2 _ (fun e => hkn _ e.symm), hn1 _ (fun e => hkn _ e.symm), upd_same]
  have hsp := num_split hi
  generalize hσ : (s.drop i).takeWhile mnB = σ at *
  generalize hds : (s.drop (i + σ.length)).takeWhile dgB = ds at *
  have hdd : digs ds := by rw [← hds]; exact take_digs _
  have hslen : σ.length + ds.length < 9223372036854775808 := by omega
  have hat : ∀ v, At (upd hp2 (70000000, nc) v) κ s (i + (σ.length + ds.length)) := by
    intro v
    have : i + (σ.length + ds.length) = i + σ.length + ds.length := by omega
    rw [this]
    exact (upd_ne _ _ (hkn _)).trans hk2
  by_cases h0 : ds = []
  · have hnum : numR (s.drop i) = .error 7 := by
      rcases hsp with ⟨h1, h2⟩ | ⟨h1, h2⟩ | ⟨h1, h2⟩
      · rw [h2]
        rw [h1] at hds
        simp only [List.length_nil, Nat.add_zero] at hds
        rw [hds, h0, numN, if_pos rfl]
      · rw [h2]
        rw [h1] at hds
        simp only [List.length_cons, List.length_nil] at hds
        rw [hds, h0, numN, if_pos rfl]
      · exact h2
    rw [hnum] at hK
    simp only [n33V] at hK
    have d1 := decide_eq_true h0
    simp (disch := first | omega | simp only [go_sem, ↓reduceIte, dropK_eq]) only [go_sem, ↓reduceIte, dropK_eq, d1, hv]
    exact hK _ _ (fun n k h => by cases h) (hkept _)
  · have d1 := decide_eq_false h0
    by_cases h1 : 1 < σ.length
    · have hnum : numR (s.drop i) = .error 7 := by
        rcases hsp with ⟨h1', h2⟩ | ⟨h1', h2⟩ | ⟨h1', h2⟩
        · rw [h1'] at h1; simp at h1
        · rw [h1'] at h1; simp at h1
        · exact h2
      rw [hnum] at hK
      simp only [n33V] at hK
      have d2 : decide ((1 : Int) < (σ.length : Int)) = true := decide_eq_true (by omega)
      simp (disch := first | omega | simp only [go_sem, ↓reduceIte, dropK_eq]) only [go_sem, ↓reduceIte, dropK_eq, d1, d2, hv]
      exact hK _ _ (fun n k h => by cases h) (hkept _)
    · have d2 : decide ((1 : Int) < (σ.length : Int)) = false := decide_eq_false (by omega)
      obtain ⟨neg, hσe, hnum⟩ : ∃ neg : Bool, σ = (if neg then [45] else []) ∧ numR (s.drop i) = numN neg ds := by
        rcases hsp with ⟨h1', h2⟩ | ⟨h1', h2⟩ | ⟨h1', h2⟩
        · refine ⟨false, by rw [h1']; rfl, ?_⟩
          rw [h1'] at hds
          simp only [List.length_nil, Nat.add_zero] at hds
          rw [h2, hds]
        · refine ⟨true, by rw [h1']; rfl, ?_⟩
          rw [h1'] at hds
          simp only [List.length_cons, List.length_nil] at hds
          rw [h2, hds]
        · exact absurd h1' h1
      obtain ⟨v, a, ha, hb⟩ := num_atoi (neg := neg) hdd h0 (by omega)
      rw [← hσe] at ha hb
      have hsl : σ.length = if neg = true then 1 else 0 := by rw [hσe]; cases neg <;> rfl
      rw [hnum] at hK
      rcases hb with ⟨rfl, hb⟩ | ⟨n, rfl, rfl, hn1', hn2', ⟨hn, hi1, hb⟩ | ⟨hn, hb⟩⟩
      · rw [hb] at hK
        simp only [n33V] at hK
        simp (disch := first | omega | simp only [go_sem, ↓reduceIte, dropK_eq]) only [go_sem, ↓reduceIte, dropK_eq, d1, d2, hv, if_pos hslen, callX_known (C := C8) (g := 88) rfl, ft_call (C := C8) (g := 88) rfl, ha, nilA_nili, nilA_ifc1]
        exact hK _ _ (fun n k h => by cases h) (hkept _)
      · rw [hb] at hK
        simp only [n33V] at hK
        have e26 := F85_eq (n := n)
        rw [decide_eq_true hn] at e26
        have e23 := F_itoa_eq ⟨hn1', hn2'⟩
        have d3 : decide (¬ Lib.itoa n = σ ++ ds) = false := decide_eq_false (by simpa using hi1)
        simp (disch := first | omega | simp only [go_sem, ↓reduceIte, dropK_eq]) only [go_sem, ↓reduceIte, dropK_eq, d1, d2, hv, if_pos hslen, callX_known (C := C8) (g := 88) rfl, ft_call (C := C8) (g := 88) rfl, callX_known (C := C8) (g := 85) rfl, ft_call (C := C8) (g := 85) rfl, callX_known (C := C8) (g := 27) rfl, ft_call (C := C8) (g := 27) rfl, ha, nilA_nili, nilA_ifc1, e26, e23, d3]
        refine hK _ _ (fun n' k h => ?_) (hkept _)
        simp only [Except.ok.injEq, Prod.mk.injEq] at h
        obtain ⟨_, rfl⟩ := h
        rw [← hsl]
        exact hat _
      · rw [hb] at hK
        simp only [n33V] at hK
        have e26 := F85_eq (n := n)
        have e23 := F_itoa_eq ⟨hn1', hn2'⟩
        by_cases hok : numOk n
        · have d3 : decide (¬ Lib.itoa n = σ ++ ds) = true := decide_eq_true (fun h => hn ⟨hok, h⟩)
          rw [decide_eq_true hok] at e26
          simp (disch := first | omega | simp only [go_sem, ↓reduceIte, dropK_eq]) only [go_sem, ↓reduceIte, dropK_eq, d1, d2, hv, if_pos hslen, callX_known (C := C8) (g := 88) rfl, ft_call (C := C8) (g := 88) rfl, callX_known (C := C8) (g := 85) rfl, ft_call (C := C8) (g := 85) rfl, callX_known (C := C8) (g := 27) rfl, ft_call (C := C8) (g := 27) rfl, ha, nilA_nili, nilA_ifc1, e26, e23, d3]
          exact hK _ _ (fun n k h => by cases h) (hkept _)
        · rw [decide_eq_false hok] at e26
          simp (disch := first | omega | simp only [go_sem, ↓reduceIte, dropK_eq]) only [go_sem, ↓reduceIte, dropK_eq, d1, d2, hv, if_pos hslen, callX_known (C := C8) (g := 88) rfl, ft_call (C := C8) (g := 88) rfl, callX_known (C := C8) (g := 85) rfl, ft_call (C := C8) (g := 85) rfl, callX_known (C := C8) (g := 27) rfl, ft_call (C := C8) (g := 27) rfl, ha, nilA_nili, nilA_ifc1, e26, e23]
          exact hK _ _ (fun n k h => by cases h) (hkept _)
theorem F_index_signs (b : UInt8) : F_index [sv [123, 125, 59], .int .u8 b.toNat] = some (.int .i64 (if (b.toNat : Int) = 123 then 0 else if (b.toNat : Int) = 125 then 1 else if (b.toNat : Int) = 59 then 2 else -1)) := by
  simp only [F_index, bs_data, Int.toNat_natCast]
  have e : b.toNat.toUInt8 = b := by simp
  rw [e]
  have h1 : ((b.toNat : Int) = 123) ↔ b = 123 := ⟨fun h => UInt8.toNat_inj.1 (by have : (123 : UInt8).toNat = 123 := rfl; omega), fun h => by rw [h]; rfl⟩
  have h2 : ((b.toNat : Int) = 125) ↔ b = 125 := ⟨fun h => UInt8.toNat_inj.1 (by have : (125 : UInt8).toNat = 125 := rfl; omega), fun h => by rw [h]; rfl⟩
  have h3 : ((b.toNat : Int) = 59) ↔ b = 59 := ⟨fun h => UInt8.toNat_inj.1 (by have : (59 : UInt8).toNat = 59 := rfl; omega), fun h => by rw [h]; rfl⟩
  simp only [h1, h2, h3]
  by_cases c1 : b = 123
  · subst c1; rfl
  · by_cases c2 : b = 125
    · subst c2; rfl
    · by_cases c3 : b = 59
      · subst c3; rfl
      · rw [if_neg c1, if_neg c2, if_neg c3]
        have q1 : (123 == b) = false := by simpa using fun h => c1 h.symm
        have q2 : (125 == b) = false := by simpa using fun h => c2 h.symm
        have q3 : (59 == b) = false := by simpa using fun h => c3 h.symm
        simp only [Lib.indexByte, q1, q2, q3]
        rfl
def t20V : Except Int (Tok × Nat) → AVal
  | .error e => .tup [T0, .int .i64 e]
  | .ok (t, _) => .tup [TK t, .int .i64 0]
theorem oneR_at {r : List UInt8} {t : Tok} {k : Nat} (h : oneR r = .ok (t, k)) : t.at' = 0 := by
  cases r with
  | nil => cases h
  | cons b r =>
    simp only [oneR] at h
    split at h
    · cases h; rfl
    · split at h
      · cases hn : numR (b :: r) with
        | error e' => rw [hn] at h; cases h
        | ok x => rw [hn] at h; cases h; rfl
      · split at h
        · cases h
        · split at h
          · cases h
          · cases h; rfl
theorem token20 {d : Nat} {κ : Key} {hp : Heap} {nc : Nat} {s : List UInt8} {i : Nat} {K : AVal × Heap × Nat → Prop} (hκ : κ.1 < 20000000) (hs : s.length ≤ 100000) (hi : i < s.length) (hk : At hp κ s i)
    (hK : ∀ hp' nc', (∀ t k, oneR (s.drop i) = .ok (t, k) → At hp' κ s (i + k)) → Kept 37000000 κ hp hp' → K (t20V (oneR (s.drop i)), hp', nc')) :
    Bd (inlD C8 (d + 4) 37 [.ptr κ 0 0 0 0] hp nc) K := by
  have hkn : ∀ c, κ ≠ (37000000, c) := fun c e => by rw [e] at hκ; simp at hκ
  have hkn' : ∀ c, (37000000, c) ≠ κ := fun c e => by rw [← e] at hκ; simp at hκ
  have ix := str_ixN .i64 hi
  have hdc := drop_cons hi
  have e31 := F_index_signs (s.getD i 0)
  have e32 := F69_eq (n := ((s.getD i 0).toNat : Int))
  have hq1 : (κ = (37000000, nc)) = False := eq_false (hkn nc)
  have hq2 : ((37000000, nc) = κ) = False := eq_false (hkn' nc)
  refine inl_of (x := x37) rfl rfl ?_
  rw [x37_eq.1, x37_eq.2.1]
  by_cases hb : signB (s.getD i 0)
  · have ho : oneR (s.drop i) = .ok (⟨sgk (s.getD i 0), [], 0, 0⟩, 1) := by rw [hdc, oneR, if_pos hb]
    rw [ho] at hK
    simp only [t20V] at hK
    rcases hb with e | e | e <;>
    · simp only [e, sgk] at hK e31
      simp (disch := first | omega | simp only [go_sem, ↓reduceIte, dropK_eq]) only [x37b, go_sem, ↓reduceIte, dropK_eq, hq1, hq2, if_false, hk, ix, e, callX_known (C := C8) (g := 68) rfl, ft_call (C := C8) (g := 68) rfl, e31]
      refine hK _ _ (fun t k h => ?_) (fun k h1 h2 => ?_)
      · cases h
        exact (upd_ne _ _ (hkn _)).trans (upd_same _ _ _)
      · rw [upd_ne _ _ (by rintro rfl; simp at h2), upd_ne _ _ h1, upd_ne _ _ (by rintro rfl; simp at h2)]
  · have hb1 := hb
    simp only [signB, not_or] at hb1
    rw [if_neg hb1.1, if_neg hb1.2.1, if_neg hb1.2.2] at e31
    by_cases hn : ((s.getD i 0).toNat : Int) = 45 ∨ digB (s.getD i 0)
    · have ho : oneR (s.drop i) = match numR (s.drop i) with
          | .error e => .error e
          | .ok (n, k) => .ok (⟨2, [], n, 0⟩, k) := by rw [hdc, oneR, if_neg hb, if_pos hn]; try (cases numR (s.getD i 0 :: s.drop (i + 1)) <;> rfl)
      have hfin : ∀ (hp2 : Heap) (nc2 : Nat) (v : Option Blk), (∀ n k, numR (s.drop i) = .ok (n, k) → At hp2 κ s (i + k)) → Kept 67000000 κ (upd hp (37000000, nc) v) hp2 → ∀ w nc', K (t20V (oneR (s.drop i)), upd hp2 (37000000, nc) w, nc') := by
        intro hp2 nc2 v h1 h2 w nc'
        refine hK _ _ (fun t k h => ?_) (fun k h3 h4 => ?_)
        · rw [ho] at h
          cases hr : numR (s.drop i) with
          | error e => rw [hr] at h; cases h
          | ok x =>
            obtain ⟨n, k'⟩ := x
            rw [hr] at h
            cases h
            exact (upd_ne _ _ (hkn _)).trans (h1 n k hr)
        · rw [upd_ne _ _ (by rintro rfl; simp at h4), h2 k h3 (by omega), upd_ne _ _ (by rintro rfl; simp at h4)]
      have hnum : ∀ (v : Option Blk) (nc1 : Nat) (K' : AVal × Heap × Nat → Prop), (∀ hp2 nc2, (∀ n k, numR (s.drop i) = .ok (n, k) → At hp2 κ s (i + k)) → Kept 67000000 κ (upd hp (37000000, nc) v) hp2 → K' (n33V (numR (s.drop i)), hp2, nc2)) →
          Bd (inlD C8 (d + 3) 70 [.ptr κ 0 0 0 0] (upd hp (37000000, nc) v) nc1) K' := fun v nc1 K' h => number33 (by omega) hs hi ((upd_ne _ _ (hkn _)).trans hk) fun hp2 nc2 h1 h2 => h hp2 nc2 h1 h2
      by_cases h45 : ((s.getD i 0).toNat : Int) = 45
      · have d4 := decide_eq_true h45
        simp (disch := first | omega | simp only [go_sem, ↓reduceIte, dropK_eq]) only [x37b, go_sem, ↓reduceIte, dropK_eq, hq1, hq2, if_false, hk, ix, callX_known (C := C8) (g := 68) rfl, ft_call (C := C8) (g := 68) rfl, call_inl (C := C8) (g := 70) rfl, ft_inl (C := C8) (g := 70) rfl, e31, d4]
        refine hnum _ _ _ fun hp2 nc2 h1 h2 => ?_
        have hv : hp2 (37000000, nc) = _ := (h2 (37000000, nc) (hkn' _) (by simp)).trans (upd_same _ _ _)
        have hf := hfin hp2 nc2 _ h1 h2
        rw [ho] at hf
        cases hr : numR (s.drop i) with
        | error e =>
          rw [hr] at hf
          simp only [t20V] at hf
          simp (disch := first | omega | simp only [go_sem, ↓reduceIte, dropK_eq]) only [n33V, go_sem, ↓reduceIte, dropK_eq, hv]
          exact hf _ _
        | ok x =>
          obtain ⟨n, k⟩ := x
          rw [hr] at hf
          simp only [t20V] at hf
          simp (disch := first | omega | simp only [go_sem, ↓reduceIte, dropK_eq]) only [n33V, go_sem, ↓reduceIte, dropK_eq, hv]
          exact hf _ _
      · have d4 := decide_eq_false h45
        have hdg : digB (s.getD i 0) := by
          rcases hn with h | h
          · exact absurd h h45
          · exact h
        rw [show decide (digi ((s.getD i 0).toNat : Int)) = true from decide_eq_true hdg] at e32
        simp (disch := first | omega | simp only [go_sem, ↓reduceIte, dropK_eq]) only [x37b, go_sem, ↓reduceIte, dropK_eq, hq1, hq2, if_false, hk, ix, callX_known (C := C8) (g := 68) rfl, ft_call (C := C8) (g := 68) rfl, callX_known (C := C8) (g := 69) rfl, ft_call (C := C8) (g := 69) rfl, call_inl (C := C8) (g := 70) rfl, ft_inl (C := C8) (g := 70) rfl, e31, e32, d4]
        refine hnum _ _ _ fun hp2 nc2 h1 h2 => ?_
        have hv : hp2 (37000000, nc) = _ := (h2 (37000000, nc) (hkn' _) (by simp)).trans (upd_same _ _ _)
        have hf := hfin hp2 nc2 _ h1 h2
        rw [ho] at hf
        cases hr : numR (s.drop i) with
        | error e =>
          rw [hr] at hf
          simp only [t20V] at hf
          simp (disch := first | omega | simp only [go_sem, ↓reduceIte, dropK_eq]) only [n33V, go_sem, ↓reduceIte, dropK_eq, hv]
          exact hf _ _
        | ok x =>
          obtain ⟨n, k⟩ := x
          rw [hr] at hf
          simp only [t20V] at hf
          simp (disch := first | omega | simp only [go_sem, ↓reduceIte, dropK_eq]) only [n33V, go_sem, ↓reduceIte, dropK_eq, hv]
          exact hf _ _
    · have d4 := decide_eq_false (fun h => hn (.inl h))
      rw [show decide (digi ((s.getD i 0).toNat : Int)) = false from decide_eq_false (fun h => hn (.inr h))] at e32
      have ho : oneR (s.drop i) = if (s.drop i).takeWhile ltB = [] then .error 7 else if 12 < ((s.drop i).takeWhile ltB).length then .error 2
          else .ok (⟨1, (s.drop i).takeWhile ltB, 0, 0⟩, ((s.drop i).takeWhile ltB).length) := by rw [hdc, oneR, if_neg hb, if_neg hn]
      simp (disch := first | omega | simp only [go_sem, ↓reduceIte, dropK_eq]) only [x37b, go_sem, ↓reduceIte, dropK_eq, hq1, hq2, if_false, hk, ix, callX_known (C := C8) (g := 68) rfl, ft_call (C := C8) (g := 68) rfl, callX_known (C := C8) (g := 69) rfl, ft_call (C := C8) (g := 69) rfl, call_inl (C := C8) (g := 67) rfl, ft_inl (C := C8) (g := 67) rfl, e31, e32, d4]
      refine while30 (p := ltB) (i := i) hs (by omega) ((upd_ne _ _ (hkn _)).trans hk) (fun b hp nc K h => lt34 b hp nc K h) ?_
      intro hp2 nc2 hk2 hn2
      have hv : hp2 (37000000, nc) = _ := (hn2 (37000000, nc) (hkn' _)).trans (upd_same _ _ _)
      have hkept : ∀ v, Kept 37000000 κ hp (upd hp2 (37000000, nc) v) := by
        intro v k h1 h2
        rw [upd_ne _ _ (by rintro rfl; simp at h2), hn2 k h1, upd_ne _ _ (by rintro rfl; simp at h2)]
      rw [ho] at hK
      generalize hds : (s.drop i).takeWhile ltB = w at *
      by_cases h0 : w = []
      · have d6 := decide_eq_true h0
        rw [if_pos h0] at hK
        simp only [t20V] at hK
        simp (disch := first | omega | simp only [go_sem, ↓reduceIte, dropK_eq]) only [go_sem, ↓reduceIte, dropK_eq, hv, d6]
        exact hK _ _ (fun t k h => by cases h) (hkept _)
      · have d6 := decide_eq_false h0
        rw [if_neg h0] at hK
        by_cases h12 : 12 < w.length
        · have d7 : decide ((12 : Int) < (w.length : Int)) = true := decide_eq_true (by omega)
          rw [if_pos h12] at hK
          simp only [t20V] at hK
          simp (disch := first | omega | simp only [go_sem, ↓reduceIte, dropK_eq]) only [go_sem, ↓reduceIte, dropK_eq, hv, d6, d7]
          exact hK _ _ (fun t k h => by cases h) (hkept _)
        · have d7 : decide ((12 : Int) < (w.length : Int)) = false := decide_eq_false (by omega)
          rw [if_neg h12] at hK
          simp only [t20V] at hK
          simp (disch := first | omega | simp only [go_sem, ↓reduceIte, dropK_eq]) only [go_sem, ↓reduceIte, dropK_eq, hv, d6, d7]
          refine hK _ _ (fun t k h => ?_) (hkept _)
          cases h
          exact (upd_ne _ _ (hkn _)).trans hk2
theorem blk_hash {b : UInt8} {r : List UInt8} (h : (b.toNat : Int) = 35) : blk (b :: r) = ((b :: r).takeWhile inB).length ∧ 0 < blk (b :: r) := by
  have h1 : ¬ spB b := by simp only [spB]; omega
  have h2 : blk (b :: r) = ((b :: r).takeWhile inB).length := by rw [blk, if_neg h1, if_pos h]
  refine ⟨h2, ?_⟩
  rw [h2, List.takeWhile_cons, if_pos (by simp only [inB, decide_eq_true_eq]; omega)]
  simp
theorem blanks19 {d : Nat} {κ : Key} {hp : Heap} {nc : Nat} {s : List UInt8} {i : Nat} {K : AVal × Heap × Nat → Prop} (hs : s.length ≤ 100000) (hi : i ≤ s.length) (hk : At hp κ s i)
    (hK : ∀ hp' nc' j, i ≤ j → j ≤ s.length → At hp' κ s j → (∀ k, k ≠ κ → hp' k = hp k) → scan (s.drop i) i = scan (s.drop j) j → blk (s.drop j) = 0 → K (.tup [], hp', nc')) :
    Bd (inlD C8 (d + 3) 36 [.ptr κ 0 0 0 0] hp nc) K := by
  refine inl_of (x := x36) rfl rfl ?_
  rw [x36_eq.1, x36_eq.2.1]
  simp (disch := first | omega | simp only [go_sem, ↓reduceIte, dropK_eq]) only [x36b, go_sem, ↓reduceIte, dropK_eq]
  refine Ev_loopW (I := fun n tm hp' nc => ∃ e : Nat, i ≤ e ∧ e ≤ s.length ∧ n = s.length - e ∧ At hp' κ s e ∧ (∀ k, k ≠ κ → hp' k = hp k) ∧ scan (s.drop i) i = scan (s.drop e) e) (n := s.length - i) ?_ (by omega) ?_
  · exact ⟨i, by omega, hi, rfl, hk, fun k _ => rfl, rfl⟩
  · rintro n tm hp' nc' hc ⟨e, h1, h2, rfl, hk', hne, hsc⟩
    have k0 := hc 0 rfl; have k2 := hc 2 rfl; simp only [go_sem, ↓reduceIte, dropK_eq] at k0 k2
    rcases Nat.lt_or_ge e s.length with hlt | hge
    · have e1 : decide ((e : Int) < (s.length : Int)) = true := decide_eq_true (by omega)
      have ix := str_ixN .i64 hlt
      have hdc := drop_cons hlt
      by_cases hb : spB (s.getD e 0)
      · have hbl : blk (s.drop e) = 1 := by rw [hdc, blk, if_pos hb]
        rcases hb with h | h | h | h <;>
        · simp (disch := first | omega | simp only [go_sem, ↓reduceIte, dropK_eq]) only [x36l1, go_sem, ↓reduceIte, dropK_eq, k0, k2, hk', e1, ix, h]
          exact ⟨s.length - (e + 1), by omega, e + 1, by omega, by omega, rfl, upd_same _ _ _, fun k hk => by rw [if_neg hk]; exact hne k hk, by rw [hsc, scan_blk (by omega), hbl, List.drop_drop]⟩
      · have hb1 := hb
        simp only [spB, not_or] at hb1
        have d1 := decide_eq_false hb1.1
        have d2 := decide_eq_false hb1.2.1
        have d3 := decide_eq_false hb1.2.2.1
        have d4 := decide_eq_false hb1.2.2.2
        by_cases h35 : ((s.getD e 0).toNat : Int) = 35
        · have d5 := decide_eq_true h35
          obtain ⟨b1, b2⟩ := blk_hash (r := s.drop (e + 1)) h35
          rw [← hdc] at b1 b2
          have hbl := blk_le (s.drop e)
          rw [List.length_drop] at hbl
          simp (disch := first | omega | simp only [go_sem, ↓reduceIte, dropK_eq]) only [x36l1, go_sem, ↓reduceIte, dropK_eq, k0, k2, hk', e1, ix, d1, d2, d3, d4, d5, call_inl (C := C8) (g := 67) rfl, ft_inl (C := C8) (g := 67) rfl]
          refine while30 (p := inB) (i := e) hs h2 hk' (fun b hp nc K h => lt29 b hp nc K h) ?_
          intro hp2 nc2 hk2 hn2
          rw [← b1] at hk2
          simp (disch := first | omega | simp only [go_sem, ↓reduceIte, dropK_eq]) only [go_sem, ↓reduceIte, dropK_eq, k0]
          exact ⟨s.length - (e + blk (s.drop e)), by omega, e + blk (s.drop e), by omega, by omega, rfl, hk2, fun k h => (hn2 k h).trans (hne k h), by rw [hsc, scan_blk b2, List.drop_drop]⟩
        · have d5 := decide_eq_false h35
          simp (disch := first | omega | simp only [go_sem, ↓reduceIte, dropK_eq]) only [x36l1, go_sem, ↓reduceIte, dropK_eq, k0, k2, hk', e1, ix, d1, d2, d3, d4, d5]
          exact hK _ _ e h1 h2 hk' hne hsc (by rw [hdc, blk, if_neg hb, if_neg h35])
    · obtain rfl : e = s.length := by omega
      have e1 : decide ((s.length : Int) < (s.length : Int)) = false := decide_eq_false (by omega)
      simp (disch := first | omega | simp only [go_sem, ↓reduceIte, dropK_eq]) only [x36l1, go_sem, ↓reduceIte, dropK_eq, k0, k2, hk', e1]
      exact hK _ _ s.length h1 h2 hk' hne hsc (by rw [List.drop_length]; rfl)
noncomputable def F17 : List AVal → Option AVal := pureF C8 8 17
theorem sound17 : Sound Tryz.prog 17 F17 := sound_self ok8 8 17
theorem F17_eq {s : List UInt8} (hs : s.length ≤ 100000) : F17 [sv s] = some (scanV (fun l => rowN 4 (l.map TK)) (text s)) := by
  unfold F17
  refine pureF_of (x := x17) rfl rfl ?_
  rw [x17_eq.1, x17_eq.2.1]
  by_cases h4 : s.length ≤ 4000
  · have d0 : decide ((4000 : Int) < (s.length : Int)) = false := decide_eq_false (by omega)
    unfold text
    rw [if_pos h4]
    simp (disch := first | omega | simp only [go_sem, ↓reduceIte, dropK_eq]) only [x17b, go_sem, ↓reduceIte, dropK_eq, d0, call_inl (C := C8) (g := 36) rfl, ft_inl (C := C8) (g := 36) rfl]
    refine blanks19 (i := 0) hs (by omega) (upd_same _ _ _) ?_
    intro hp1 nc1 j0 hj1 hj2 hat1 hne1 hsc1 hbl1
    simp (disch := first | omega | simp only [go_sem, ↓reduceIte, dropK_eq]) only [go_sem, ↓reduceIte, dropK_eq]
    refine Ev_loopW (I := fun n tm hp nc => ∃ (i : Nat) (l : List Tok), i ≤ s.length ∧ n = s.length - i ∧ At hp (17003002, 2) s i ∧ l.length ≤ i ∧ scan s 0 = pre l (scan (s.drop i) i) ∧ blk (s.drop i) = 0 ∧ Own [17013003] 4 hp (tm 6) (l.map TK) ∧ (l.map TK = [] → tm 6 = .nils)) (n := s.length - j0) ?_ (by omega) ?_
    · refine ⟨j0, [], hj2, rfl, hat1, by omega, by rw [pre_nil]; exact hsc1, hbl1, ?_⟩
      simp only [go_sem, ↓reduceIte, dropK_eq, List.map_nil]
      exact ⟨Own.nils _ _ _, fun _ => trivial⟩
    · rintro n tm hp nc hc ⟨i, l, hi, rfl, hat, hll, hsc, hbl, ho, h0⟩
      have k0 := hc 0 rfl; have k5 := hc 5 rfl; simp only [go_sem, ↓reduceIte, dropK_eq] at k0 k5
      rcases Nat.lt_or_ge i s.length with hlt | hge
      · have d1 : decide ((i : Int) < (s.length : Int)) = true := decide_eq_true (by omega)
        have hne : s.drop i ≠ [] := fun h => by have := congrArg List.length h; simp at this; omega
        simp (disch := first | omega | simp only [go_sem, ↓reduceIte, dropK_eq]) only [x17l6, go_sem, ↓reduceIte, dropK_eq, k0, k5, d1, hat, call_inl (C := C8) (g := 37) rfl, ft_inl (C := C8) (g := 37) rfl]
        refine token20 (by decide) hs hlt hat ?_
        intro hp2 nc2 hat2 hkp2
        cases hr : oneR (s.drop i) with
        | error e =>
          have d3 := decide_eq_true (oneR_err hr)
          simp (disch := first | omega | simp only [go_sem, ↓reduceIte, dropK_eq]) only [t20V, go_sem, ↓reduceIte, dropK_eq, k0, k5, d3]
          refine Ends_plain rfl ?_
          rw [hsc, scan_bad hne hbl hr]
          rfl
        | ok x =>
          obtain ⟨t, k⟩ := x
          have hk := oneR_len hr
          have ht0 := oneR_at hr
          rw [List.length_drop] at hk
          have hat2 := hat2 t k hr
          have ho2 : Own [17013003] 4 hp2 (tm 6) (l.map TK) := ho.keep fun k hk => hkp2 k (by rintro rfl; simp at hk) (by simp at hk; omega)
          obtain ⟨V, H, hA, hO⟩ := (ho2.keep (hp' := upd (upd (upd hp2 (17009005, nc + 1 + 1) (some (.var [.int .i64 0, sv [], .int .i64 0, .int .i64 0]))) (17009005, nc + 1 + 1) (some (.var [.int .i64 t.k, sv t.s, .int .i64 t.n, .int .i64 t.at']))) (17009005, nc + 1 + 1) (some (.var [.int .i64 t.k, sv t.s, .int .i64 t.n, .int .i64 (i : Nat)]))) (fun k hk => by repeat rw [upd_ne _ _ (by rintro rfl; simp at hk)])).push (s0 := 17013003) (s1 := 17013002) (z := .agg [.int .i64 t.k, sv t.s, .int .i64 t.n, .int .i64 (i : Nat)]) (bytes := 40) (by simp) (by simp) (TK_plain _ { t with at' := i }) (TK_sc { t with at' := i }) (by simp; omega)
          simp (disch := first | omega | simp only [go_sem, ↓reduceIte, dropK_eq]) only [t20V, go_sem, ↓reduceIte, dropK_eq, k0, k5, hA, call_inl (C := C8) (g := 36) rfl, ft_inl (C := C8) (g := 36) rfl]
          refine blanks19 (i := i + k) hs (by omega) ?_ ?_
          · refine ((hO _ _).2 (17003002, 2) (by simp) (by simp)).trans ?_
            rw [upd_ne _ _ (by simp), upd_ne _ _ (by simp), upd_ne _ _ (by simp)]
            exact hat2
          intro hp3 nc3 j hj3 hj4 hat3 hne3 hsc3 hbl3
          simp (disch := first | omega | simp only [go_sem, ↓reduceIte, dropK_eq]) only [go_sem, ↓reduceIte, dropK_eq]
          refine ⟨s.length - j, by omega, j, l ++ [{ t with at' := i }], by omega, rfl, hat3, by simp; omega, ?_, hbl3, ?_, fun h => by simp at h⟩
          · rw [hsc, scan_step hne hbl hr, List.drop_drop, hsc3]
          · rw [List.map_append]
            exact Own.keep (hO _ _).1 fun k hk => hne3 k (by rintro rfl; simp at hk)
      · obtain rfl : i = s.length := by omega
        have d1 : decide ((s.length : Int) < (s.length : Int)) = false := decide_eq_false (by omega)
        rw [List.drop_length, scan_nil] at hsc
        simp only [pre, List.append_nil] at hsc
        have hpl : ∀ d, plainL (d + 1) (l.map TK) = true := fun d => plainL_map _ (fun x => TK_plain d x) _
        have hl : ∀ d, lendV (d + 1 + 1) (tm 6) hp = some (rowN 4 (l.map TK)) := fun d => ho.lendN h0 (d + 1) (hpl d) (fun k hk => rfl)
        simp (disch := first | omega | simp only [*, go_sem, ↓reduceIte, List.mem_cons, List.not_mem_nil, or_false, or_self]) only [x17l6, go_sem, ↓reduceIte, k0, k5, d1, hat]
        rw [hsc]
        rw [Ends_eq]
        simp (disch := first | omega | simp only [*, go_sem, ↓reduceIte, List.mem_cons, List.not_mem_nil, or_false, or_self]) only [go_sem, ↓reduceIte, hl]
        rfl
  · have d0 : decide ((4000 : Int) < (s.length : Int)) = true := decide_eq_true (by omega)
    unfold text
    rw [if_neg h4]
    simp (disch := first | omega | simp only [go_sem, ↓reduceIte, dropK_eq]) only [x17b, go_sem, ↓reduceIte, dropK_eq, d0]
    exact Ends_plain rfl rfl
/-- Nothing of a token goes on here. -/
def Stop (r : List UInt8) : Prop := ∀ b ∈ r.head?, ¬ letB b ∧ ¬ digB b
theorem tw_app {p : UInt8 → Bool} {w r : List UInt8} (hw : ∀ b ∈ w, p b = true) (hr : ∀ b ∈ r.head?, p b = false) : (w ++ r).takeWhile p = w := by
  rw [List.takeWhile_append_of_pos hw]
  cases r with
  | nil => simp
  | cons c r => rw [List.takeWhile_cons, if_neg (by rw [hr c (by simp)]; simp), List.append_nil]
theorem stop_let {r : List UInt8} (h : Stop r) : ∀ b ∈ r.head?, ltB b = false := fun b hb => decide_eq_false (h b hb).1
theorem stop_dig {r : List UInt8} (h : Stop r) : ∀ b ∈ r.head?, dgB b = false := fun b hb => decide_eq_false (h b hb).2
theorem one_word {w r : List UInt8} (hw : wordOk w) (hr : Stop r) : oneR (w ++ r) = .ok (⟨1, w, 0, 0⟩, w.length) ∧ blk (w ++ r) = 0 := by
  obtain ⟨h1, h2, h3⟩ := hw
  have ht := tw_app (p := ltB) (fun b hb => decide_eq_true (h1 b hb)) (stop_let hr)
  cases w with
  | nil => simp at h2
  | cons b w =>
    have hb := h1 b (by simp)
    simp only [letB, lett] at hb
    constructor
    · rw [List.cons_append] at ht ⊢
      rw [oneR, if_neg (by simp only [signB]; omega), if_neg (by simp only [digB, digi]; omega), ht, if_neg (by simp), if_neg (by omega)]
    · rw [List.cons_append, blk, if_neg (by simp only [spB]; omega), if_neg (by omega)]
theorem one_num {n : Int} {r : List UInt8} (hn : numOk n) (hr : Stop r) : oneR (its n ++ r) = .ok (⟨2, [], n, 0⟩, (its n).length) ∧ blk (its n ++ r) = 0 ∧ 1 ≤ (its n).length := by
  simp only [numOk] at hn
  have key : ∀ m : Nat, ((dd m) ++ r).takeWhile dgB = dd m := fun m => tw_app (fun b hb => decide_eq_true (dd_digs m b hb)) (stop_dig hr)
  by_cases h0 : n < 0
  · have e : its n = 45 :: dd n.natAbs := by unfold its Lib.itoa; rw [if_pos h0]
    have hbad : ¬ numBad true (dd n.natAbs) := by
      rintro (⟨h1, _⟩ | h1)
      · have := dd_head _ h1; omega
      · rw [dd_vl] at h1; omega
    rw [e]
    refine ⟨?_, rfl, by simp⟩
    rw [List.cons_append, oneR, if_neg (by simp [signB]), if_pos (.inl rfl), numR, if_pos (by rfl), key, numN, if_neg (dd_ne _), if_neg hbad, dd_vl]
    simp only [if_true, Except.ok.injEq, Prod.mk.injEq, Tok.mk.injEq, List.length_cons, true_and, and_true]
    omega
  · have e : its n = dd n.toNat := by unfold its Lib.itoa; rw [if_neg h0]
    have hbad : ¬ numBad false (dd n.toNat) := by
      rintro (⟨h1, h2 | h2⟩ | h1)
      · have := dd_head _ h1
        rw [this, dd_small (by decide)] at h2
        simp at h2
      · cases h2
      · rw [dd_vl] at h1; omega
    rw [e]
    have hk := key n.toNat
    have hdg := dd_digs n.toNat
    have hvl := dd_vl n.toNat
    have hne := dd_ne n.toNat
    generalize dd n.toNat = w at *
    cases w with
    | nil => exact absurd rfl hne
    | cons b w =>
      have hb := hdg b (by simp)
      simp only [digB, digi] at hb
      refine ⟨?_, ?_, by simp⟩
      · rw [List.cons_append] at hk ⊢
        rw [oneR, if_neg (by simp only [signB]; omega), if_pos (.inr (by simp only [digB, digi]; omega)), numR, if_neg (by omega), hk, numN, if_neg hne, if_neg hbad, hvl]
        simp only [Bool.false_eq_true, if_false, Except.ok.injEq, Prod.mk.injEq, Tok.mk.injEq, true_and, and_true]
        omega
      · rw [List.cons_append, blk, if_neg (by simp only [spB]; omega), if_neg (by omega)]
theorem one_txt {t : Tok} {r : List UInt8} (h : tokOk t) (hr : Stop r) : oneR (txt t ++ r) = .ok (at0 t, (txt t).length) ∧ blk (txt t ++ r) = 0 ∧ 1 ≤ (txt t).length := by
  obtain ⟨k, s, n, p⟩ := t
  simp only [tokOk] at h
  rcases h with ⟨rfl, hw, rfl⟩ | ⟨rfl, rfl, hn⟩ | ⟨hk, rfl, rfl⟩
  · obtain ⟨h1, h2⟩ := one_word hw hr
    exact ⟨h1, h2, hw.2.1⟩
  · obtain ⟨h1, h2, h3⟩ := one_num hn hr
    exact ⟨h1, h2, h3⟩
  · rcases hk with rfl | rfl | rfl
    · exact ⟨rfl, rfl, Nat.le_refl 1⟩
    · exact ⟨rfl, rfl, Nat.le_refl 1⟩
    · exact ⟨rfl, rfl, Nat.le_refl 1⟩
/-- Blanks. -/
def Bk (b : List UInt8) : Prop := (∀ r i, scan (b ++ r) i = scan r (i + b.length)) ∧ ∀ c ∈ b.head?, ¬ letB c ∧ ¬ digB c
def good : List (Tok × List UInt8) → Prop
  | [] => True
  | (t, b) :: ps => tokOk t ∧ Bk b ∧ (b = [] → ps = []) ∧ good ps
def lay : List (Tok × List UInt8) → List UInt8
  | [] => []
  | (t, b) :: ps => txt t ++ (b ++ lay ps)
def places : List (Tok × List UInt8) → Nat → List Tok
  | [], _ => []
  | (t, b) :: ps, i => { t with at' := i } :: places ps (i + (txt t).length + b.length)
theorem scan_lay : ∀ (ps : List (Tok × List UInt8)) (i : Nat), good ps → scan (lay ps) i = .ok (places ps i)
  | [], i, _ => scan_nil i
  | (t, b) :: ps, i, ⟨h1, h2, h3, h4⟩ => by
    have hst : Stop (b ++ lay ps) := by
      cases b with
      | nil => rw [h3 rfl]; intro c hc; simp [lay] at hc
      | cons c b => intro d hd; exact h2.2 d (by simpa using hd)
    obtain ⟨e1, e2, e3⟩ := one_txt h1 hst
    have hne : txt t ++ (b ++ lay ps) ≠ [] := fun h => by have := congrArg List.length h; simp only [List.length_append, List.length_nil] at this; omega
    rw [lay, scan_one hne e2 e1 (by omega), List.drop_left, h2.1, scan_lay ps _ h4]
    rfl
theorem places_at0 : ∀ (ps : List (Tok × List UInt8)) (i : Nat), (places ps i).map at0 = (ps.map (·.1)).map at0
  | [], i => rfl
  | (t, b) :: ps, i => by simp only [places, List.map_cons, places_at0 ps]; rfl
theorem txt_pos {t : Tok} (h : tokOk t) : 1 ≤ (txt t).length := (one_txt h (r := []) (fun b hb => by simp at hb)).2.2
theorem places_in : ∀ (ps : List (Tok × List UInt8)) (i : Nat), good ps → ∀ t ∈ places ps i, (i : Int) ≤ t.at' ∧ t.at' < (i + (lay ps).length : Nat)
  | [], i, _, t, ht => by simp [places] at ht
  | (u, b) :: ps, i, ⟨h1, h2, h3, h4⟩, t, ht => by
    have hp := txt_pos h1
    rw [places] at ht
    simp only [lay, List.length_append]
    rcases List.mem_cons.1 ht with rfl | ht
    · simp; omega
    · have := places_in ps _ h4 t ht
      omega
theorem places_rise : ∀ (ps : List (Tok × List UInt8)) (i : Nat), good ps → ∀ j (h : j + 1 < (places ps i).length), (places ps i)[j].at' + 2 ≤ (places ps i)[j + 1].at'
  | [], i, _, j, h => by simp [places] at h
  | (u, b) :: ps, i, ⟨h1, h2, h3, h4⟩, 0, h => by
    have hp := txt_pos h1
    simp only [places, List.getElem_cons_zero, List.getElem_cons_succ]
    have hps : ps ≠ [] := fun e => by rw [e] at h; simp [places] at h
    have hb : 1 ≤ b.length := by
      rcases Nat.lt_or_ge 0 b.length with h' | h'
      · exact h'
      · exact absurd (h3 (List.length_eq_zero_iff.1 (by omega))) hps
    have hl0 : 0 < (places ps (i + (txt u).length + b.length)).length := by simpa [places] using h
    have := places_in ps (i + (txt u).length + b.length) h4 ((places ps (i + (txt u).length + b.length))[0]'hl0) (List.getElem_mem _)
    omega
  | (u, b) :: ps, i, ⟨h1, h2, h3, h4⟩, j + 1, h => by
    simp only [places, List.getElem_cons_succ]
    exact places_rise ps _ h4 j (by simpa [places] using h)
/-- A text of tokens, as pairs. -/
def prs : List Tok → List (Tok × List UInt8)
  | [] => []
  | [t] => [(t, [])]
  | t :: u :: l => (t, [32]) :: prs (u :: l)
theorem prs_fst : ∀ l : List Tok, (prs l).map (·.1) = l
  | [] => rfl
  | [t] => rfl
  | t :: u :: l => by rw [prs, List.map_cons, prs_fst]
theorem prs_lay : ∀ l : List Tok, lay (prs l) = prt l
  | [] => rfl
  | [t] => by simp [prs, lay, prt, Lib.join_one]
  | t :: u :: l => by
    rw [prs, lay, prs_lay (u :: l)]
    simp [prt, Lib.join, List.intercalate]
theorem bk_one {c : UInt8} (h : spB c) : Bk [c] := by
  refine ⟨fun r i => ?_, fun d hd => ?_⟩
  · have hb : blk ([c] ++ r) = 1 := by rw [List.singleton_append, blk, if_pos h]
    rw [scan_blk (by omega), hb]
    rfl
  · simp at hd
    subst hd
    simp only [spB] at h
    simp only [letB, lett, digB, digi]
    omega
theorem bk_nil : Bk [] := ⟨fun r i => rfl, fun d hd => by simp at hd⟩
theorem prs_good : ∀ l : List Tok, allOk l → good (prs l)
  | [], _ => trivial
  | [t], h => ⟨h t (by simp), bk_nil, fun _ => rfl, trivial⟩
  | t :: u :: l, h => ⟨h t (by simp), bk_one (by decide), fun e => by simp at e, prs_good (u :: l) fun x hx => h x (by simp [hx])⟩
/-- What is printed is scanned as it was, but for places, which rise. -/
theorem back_scan {l : List Tok} (h : allOk l) (h4 : (prt l).length ≤ 4000) : ∃ m, text (prt l) = .ok m ∧ m.map at0 = l.map at0 ∧ (∀ t ∈ m, 0 ≤ t.at' ∧ t.at' < (prt l).length) ∧ ∀ j (h : j + 1 < m.length), m[j].at' + 2 ≤ m[j + 1].at' := by
  have hg := prs_good l h
  refine ⟨places (prs l) 0, ?_, ?_, ?_, ?_⟩
  · unfold text
    rw [if_pos h4, ← prs_lay, scan_lay _ _ hg]
  · rw [places_at0, prs_fst]
  · intro t ht
    have := places_in _ _ hg t ht
    rw [prs_lay] at this
    omega
  · exact places_rise _ _ hg

end Go.Proofs.YtppehejnnjlkfaaGreatDoor.T
