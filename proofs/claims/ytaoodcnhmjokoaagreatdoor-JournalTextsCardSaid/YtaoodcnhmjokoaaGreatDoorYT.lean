/-
  Texts of an earlier seat, with this seat's numbers.
-/
import Derived.Test.YtaoodcnhmjokoaaGreatDoorYA
set_option linter.unusedVariables false
set_option linter.unusedSimpArgs false
-- port.tmp.in
namespace Go.Proofs.YtaoodcnhmjokoaaGreatDoor.T
open Go Go.Xec
attribute [local go_sem] tm0 ne_eq not_false_eq_true List.length_append List.length_replicate List.replicate_succ List.replicate_zero Int.cast_ofNat_Int not_true_eq_false decide_true decide_false ite_self beq_self_eq_true Bool.true_beq Bool.false_beq Bool.not_true Bool.not_false
open Nat renaming reduceAdd → Nra, reduceMul → Nrb, reduceSub → Nrc, reduceLeDiff → Nrd, reduceLT → Nre, reduceEqDiff → Nrf, reducePow → Nrr
open Int renaming reduceLT → Irg, reduceLE → Irh, reduceAdd → Iri, reduceSub → Irj, reduceMul → Irk, reduceToNat → Irl, reducePow → Irm, reduceNe → Irn, reduceMod → Iro, reduceDiv → Irp, reduceEq → Irq, reduceNeg → Irs
set_option maxRecDepth 10000
abbrev lett (n : Int) : Prop := 97 ≤ n ∧ n ≤ 122
abbrev digi (n : Int) : Prop := 48 ≤ n ∧ n ≤ 57
abbrev letB (b : UInt8) : Prop := lett (b.toNat : Int)
abbrev digB (b : UInt8) : Prop := digi (b.toNat : Int)
def F118 : List AVal → Option AVal := pureF C0 1 118
theorem sound118 : Sound Tryz.prog 118 F118 := sound_self ok0 1 118
theorem F118_eq {n : Int} : F118 [.int .u8 n] = some (.bool (decide (lett n))) := by
  unfold F118
  refine pureF_of (x := x118) rfl rfl ?_
  rw [x118_eq.1, x118_eq.2.1]
  simp (disch := first | omega | simp only [go_sem, ↓reduceIte, Nra, Nrb, Nrc, Nrd, Nre, Nrf, Irg, Irh, Iri, Irj, Irk, Irl, Irm, Irn, Iro, Irp, Irq, Nrr, Irs, dropK_eq]) only [x118b, go_sem, ↓reduceIte, Nra, Nrb, Nrc, Nrd, Nre, Nrf, Irg, Irh, Iri, Irj, Irk, Irl, Irm, Irn, Iro, Irp, Irq, Nrr, Irs, dropK_eq]
  repeat' (first | refine Ends_plain rfl ?_ | (first | refine Gd_split_t (fun h => ?_) (fun h => ?_) | refine Gd_split_f (fun h => ?_) (fun h => ?_) | refine Cd_split (fun h => ?_) (fun h => ?_)) <;> (try simp (disch := first | omega | simp only [go_sem, ↓reduceIte, Nra, Nrb, Nrc, Nrd, Nre, Nrf, Irg, Irh, Iri, Irj, Irk, Irl, Irm, Irn, Iro, Irp, Irq, Nrr, Irs, dropK_eq]) only [*, go_sem, ↓reduceIte, Nra, Nrb, Nrc, Nrd, Nre, Nrf, Irg, Irh, Iri, Irj, Irk, Irl, Irm, Irn, Iro, Irp, Irq, Nrr, Irs, dropK_eq]))
  all_goals (congr 1; try simp only [Bool.not_eq_true', Bool.not_eq_false', decide_eq_true_eq, decide_eq_false_iff_not] at *)
  all_goals first | exact decide_eq_decide.2 (by simp only [lett]; omega) | exact (decide_eq_false (by simp only [lett]; omega)).symm | exact (decide_eq_true (by simp only [lett]; omega)).symm
def F116 : List AVal → Option AVal := pureF C0 1 116
theorem sound116 : Sound Tryz.prog 116 F116 := sound_self ok0 1 116
theorem F116_eq {n : Int} : F116 [.int .u8 n] = some (.bool (decide (digi n))) := by
  unfold F116
  refine pureF_of (x := x116) rfl rfl ?_
  rw [x116_eq.1, x116_eq.2.1]
  simp (disch := first | omega | simp only [go_sem, ↓reduceIte, Nra, Nrb, Nrc, Nrd, Nre, Nrf, Irg, Irh, Iri, Irj, Irk, Irl, Irm, Irn, Iro, Irp, Irq, Nrr, Irs, dropK_eq]) only [x116b, go_sem, ↓reduceIte, Nra, Nrb, Nrc, Nrd, Nre, Nrf, Irg, Irh, Iri, Irj, Irk, Irl, Irm, Irn, Iro, Irp, Irq, Nrr, Irs, dropK_eq]
  repeat' (first | refine Ends_plain rfl ?_ | (first | refine Gd_split_t (fun h => ?_) (fun h => ?_) | refine Gd_split_f (fun h => ?_) (fun h => ?_) | refine Cd_split (fun h => ?_) (fun h => ?_)) <;> (try simp (disch := first | omega | simp only [go_sem, ↓reduceIte, Nra, Nrb, Nrc, Nrd, Nre, Nrf, Irg, Irh, Iri, Irj, Irk, Irl, Irm, Irn, Iro, Irp, Irq, Nrr, Irs, dropK_eq]) only [*, go_sem, ↓reduceIte, Nra, Nrb, Nrc, Nrd, Nre, Nrf, Irg, Irh, Iri, Irj, Irk, Irl, Irm, Irn, Iro, Irp, Irq, Nrr, Irs, dropK_eq]))
  all_goals (congr 1; try simp only [Bool.not_eq_true', Bool.not_eq_false', decide_eq_true_eq, decide_eq_false_iff_not] at *)
  all_goals first | exact decide_eq_decide.2 (by simp only [digi]; omega) | exact (decide_eq_false (by simp only [digi]; omega)).symm | exact (decide_eq_true (by simp only [digi]; omega)).symm
abbrev numOk (n : Int) : Prop := -1000000000 ≤ n ∧ n ≤ 1000000000
def C1 : Cfg := (C0.add 118 F118).add 116 F116
theorem ok1 : CfgOk Tryz.prog C1 := (ok0.add sound118).add sound116
/-- A word. -/
abbrev wordOk (l : List UInt8) : Prop := (∀ b ∈ l, letB b) ∧ 1 ≤ l.length ∧ l.length ≤ 12
/-- A token. -/
structure Tok where
  k : Int
  s : List UInt8
  n : Int
  at' : Int
  deriving DecidableEq
abbrev TK (t : Tok) : AVal := .agg [.int .i64 t.k, sv t.s, .int .i64 t.n, .int .i64 t.at']
abbrev T0 : AVal := TK ⟨0, [], 0, 0⟩
def tokOk (t : Tok) : Prop := (t.k = 1 ∧ wordOk t.s ∧ t.n = 0) ∨ (t.k = 2 ∧ t.s = [] ∧ numOk t.n) ∨ ((t.k = 3 ∨ t.k = 4 ∨ t.k = 5) ∧ t.s = [] ∧ t.n = 0)
instance (t : Tok) : Decidable (tokOk t) := by unfold tokOk; infer_instance
def C2 : Cfg := C1
theorem ok2 : CfgOk Tryz.prog C2 := ok1
abbrev dd (n : Nat) : List UInt8 := Lib.decDigits n
theorem dd_small {n : Nat} (h : n < 10) : dd n = [UInt8.ofNat (48 + n)] := by unfold dd; rw [Lib.decDigits, dif_pos h]
theorem dd_step {n : Nat} (h : 10 ≤ n) : dd n = dd (n / 10) ++ dd (n % 10) := by
  unfold dd
  rw [Lib.decDigits, dif_neg (by omega)]
  rw [show Lib.decDigits (n % 10) = [UInt8.ofNat (48 + n % 10)] from dd_small (by omega)]
theorem dd_len : ∀ (d n : Nat), n < 10 ^ (d + 1) → (dd n).length ≤ d + 1
  | 0, n, h => by rw [dd_small (by simpa using h)]; simp
  | d + 1, n, h => by
    by_cases h1 : n < 10
    · rw [dd_small h1]; simp
    · rw [dd_step (by omega), List.length_append, dd_small (by omega : n % 10 < 10)]
      have := dd_len d (n / 10) (by rw [Nat.div_lt_iff_lt_mul (by decide)]; rw [Nat.pow_succ] at h; exact h)
      simp; omega
theorem nat49 (d : Nat) : ∀ (n : Nat) (hp : Heap) (nc : Nat) (K : AVal × Heap × Nat → Prop), n < 10 ^ (d + 1) → n < 18446744073709551616 → d < 30 → (∀ hp' nc', K (sv (dd n), hp', nc')) → Bd (inlD C2 (d + 2) 70 [.int .u64 n] hp nc) K := by
  induction d with
  | zero =>
    intro n hp nc K hn _ _ hK
    refine inl_of (x := x70) rfl rfl ?_
    rw [x70_eq.1, x70_eq.2.1]
    have h1 : n < 10 := by simpa using hn
    have d1 : decide ((n : Int) < 10) = true := decide_eq_true (by omega)
    have e1 : ((48 : Int) + (n : Int)) % 18446744073709551616 % 256 = ((48 + n : Nat) : Int) := by omega
    simp (disch := first | omega | simp only [go_sem, ↓reduceIte, Nra, Nrb, Nrc, Nrd, Nre, Nrf, Irg, Irh, Iri, Irj, Irk, Irl, Irm, Irn, Iro, Irp, Irq, Nrr, Irs, dropK_eq]) only [x70b, go_sem, ↓reduceIte, Nra, Nrb, Nrc, Nrd, Nre, Nrf, Irg, Irh, Iri, Irj, Irk, Irl, Irm, Irn, Iro, Irp, Irq, Nrr, Irs, dropK_eq, d1, e1, Int.toNat_natCast]
    rw [dd_small h1] at hK
    exact hK _ _
  | succ d ih =>
    intro n hp nc K hn hb hd hK
    refine inl_of (x := x70) rfl rfl ?_
    rw [x70_eq.1, x70_eq.2.1]
    by_cases h1 : n < 10
    · have d1 : decide ((n : Int) < 10) = true := decide_eq_true (by omega)
      have e1 : ((48 : Int) + (n : Int)) % 18446744073709551616 % 256 = ((48 + n : Nat) : Int) := by omega
      simp (disch := first | omega | simp only [go_sem, ↓reduceIte, Nra, Nrb, Nrc, Nrd, Nre, Nrf, Irg, Irh, Iri, Irj, Irk, Irl, Irm, Irn, Iro, Irp, Irq, Nrr, Irs, dropK_eq]) only [x70b, go_sem, ↓reduceIte, Nra, Nrb, Nrc, Nrd, Nre, Nrf, Irg, Irh, Iri, Irj, Irk, Irl, Irm, Irn, Iro, Irp, Irq, Nrr, Irs, dropK_eq, d1, e1, Int.toNat_natCast]
      rw [dd_small h1] at hK
      exact hK _ _
    · have d1 : decide ((n : Int) < 10) = false := decide_eq_false (by omega)
      have e1 : (n : Int).tdiv 10 % 18446744073709551616 = ((n / 10 : Nat) : Int) := by
        rw [Int.tdiv_eq_ediv_of_nonneg (by omega)]; omega
      have e2 : (n : Int).tmod 10 = ((n % 10 : Nat) : Int) := by
        rw [Int.tmod_eq_emod_of_nonneg (by omega)]; omega
      simp (disch := first | omega | simp only [go_sem, ↓reduceIte, Nra, Nrb, Nrc, Nrd, Nre, Nrf, Irg, Irh, Iri, Irj, Irk, Irl, Irm, Irn, Iro, Irp, Irq, Nrr, Irs, dropK_eq]) only [x70b, go_sem, ↓reduceIte, Nra, Nrb, Nrc, Nrd, Nre, Nrf, Irg, Irh, Iri, Irj, Irk, Irl, Irm, Irn, Iro, Irp, Irq, Nrr, Irs, dropK_eq, d1, e1, e2, call_inl (C := C2) (g := 70) rfl]
      refine ih (n / 10) _ _ _ (by rw [Nat.div_lt_iff_lt_mul (by decide)]; rw [Nat.pow_succ] at hn; exact hn) (by omega) (by omega) fun hp' nc' => ?_
      simp (disch := first | omega | simp only [go_sem, ↓reduceIte, Nra, Nrb, Nrc, Nrd, Nre, Nrf, Irg, Irh, Iri, Irj, Irk, Irl, Irm, Irn, Iro, Irp, Irq, Nrr, Irs, dropK_eq]) only [go_sem, ↓reduceIte, Nra, Nrb, Nrc, Nrd, Nre, Nrf, Irg, Irh, Iri, Irj, Irk, Irl, Irm, Irn, Iro, Irp, Irq, Nrr, Irs, dropK_eq, e2, call_inl (C := C2) (g := 70) rfl]
      refine ih (n % 10) _ _ _ (by have : 10 ≤ 10 ^ (d + 1) := by (have := Nat.pow_le_pow_right (show 0 < 10 by decide) (show 1 ≤ d + 1 by omega)); simpa using this
                                   omega) (by omega) (by omega) fun hp'' nc'' => ?_
      have l1 := dd_len 31 (n / 10) (by have : (10 : Nat) ^ (31 + 1) = 100000000000000000000000000000000 := by decide
                                        omega)
      have l2 := dd_len 31 (n % 10) (by have : (10 : Nat) ^ (31 + 1) = 100000000000000000000000000000000 := by decide
                                        omega)
      rw [dd_step (by omega)] at hK
      have l3 : (dd (n / 10)).length + (dd (n % 10)).length < 9223372036854775808 := by omega
      simp (disch := first | omega | simp only [go_sem, ↓reduceIte, Nra, Nrb, Nrc, Nrd, Nre, Nrf, Irg, Irh, Iri, Irj, Irk, Irl, Irm, Irn, Iro, Irp, Irq, Nrr, Irs, dropK_eq]) only [go_sem, ↓reduceIte, Nra, Nrb, Nrc, Nrd, Nre, Nrf, Irg, Irh, Iri, Irj, Irk, Irl, Irm, Irn, Iro, Irp, Irq, Nrr, Irs, dropK_eq, if_pos l3]
      exact hK _ _
abbrev its (n : Int) : List UInt8 := Lib.itoa n
def F51 : List AVal → Option AVal := pureF C2 24 51
theorem sound51 : Sound Tryz.prog 51 F51 := sound_self ok2 24 51
theorem its_len {n : Int} (h : -9223372036854775808 ≤ n ∧ n ≤ 9223372036854775807) : (its n).length ≤ 21 := by
  have hp : (10 : Nat) ^ (19 + 1) = 100000000000000000000 := by decide
  unfold its Lib.itoa
  split
  · have := dd_len 19 n.natAbs (by omega)
    simp only [dd] at this
    simp; omega
  · have := dd_len 19 n.toNat (by omega)
    simp only [dd] at this
    omega
theorem F51_eq {n : Int} (h : -9223372036854775808 ≤ n ∧ n ≤ 9223372036854775807) : F51 [.int .i64 n] = some (sv (its n)) := by
  have hp : (10 : Nat) ^ (21 + 1) = 10000000000000000000000 := by decide
  have hl := its_len h
  unfold F51
  refine pureF_of (x := x51) rfl rfl ?_
  rw [x51_eq.1, x51_eq.2.1]
  by_cases h0 : n < 0
  · have d1 : decide (n < 0) = true := decide_eq_true h0
    have e1 : (0 - n % 18446744073709551616) % 18446744073709551616 = ((n.natAbs : Nat) : Int) := by omega
    simp (disch := first | omega | simp only [go_sem, ↓reduceIte, Nra, Nrb, Nrc, Nrd, Nre, Nrf, Irg, Irh, Iri, Irj, Irk, Irl, Irm, Irn, Iro, Irp, Irq, Nrr, Irs, dropK_eq]) only [x51b, go_sem, ↓reduceIte, Nra, Nrb, Nrc, Nrd, Nre, Nrf, Irg, Irh, Iri, Irj, Irk, Irl, Irm, Irn, Iro, Irp, Irq, Nrr, Irs, dropK_eq, d1, e1, call_inl (C := C2) (g := 70) rfl]
    refine nat49 21 n.natAbs _ _ _ (by omega) (by omega) (by omega) fun hp' nc' => ?_
    have e2 : its n = 45 :: dd n.natAbs := by unfold its Lib.itoa; rw [if_pos h0]
    rw [e2] at hl ⊢
    have l3 : 1 + (dd n.natAbs).length < 9223372036854775808 := by simp at hl; omega
    simp (disch := first | omega | simp only [go_sem, ↓reduceIte, Nra, Nrb, Nrc, Nrd, Nre, Nrf, Irg, Irh, Iri, Irj, Irk, Irl, Irm, Irn, Iro, Irp, Irq, Nrr, Irs, dropK_eq]) only [go_sem, ↓reduceIte, Nra, Nrb, Nrc, Nrd, Nre, Nrf, Irg, Irh, Iri, Irj, Irk, Irl, Irm, Irn, Iro, Irp, Irq, Nrr, Irs, dropK_eq, if_pos l3]
    exact Ends_plain rfl rfl
  · have d1 : decide (n < 0) = false := decide_eq_false h0
    have e1 : n % 18446744073709551616 = ((n.toNat : Nat) : Int) := by omega
    simp (disch := first | omega | simp only [go_sem, ↓reduceIte, Nra, Nrb, Nrc, Nrd, Nre, Nrf, Irg, Irh, Iri, Irj, Irk, Irl, Irm, Irn, Iro, Irp, Irq, Nrr, Irs, dropK_eq]) only [x51b, go_sem, ↓reduceIte, Nra, Nrb, Nrc, Nrd, Nre, Nrf, Irg, Irh, Iri, Irj, Irk, Irl, Irm, Irn, Iro, Irp, Irq, Nrr, Irs, dropK_eq, d1, e1, call_inl (C := C2) (g := 70) rfl]
    refine nat49 21 n.toNat _ _ _ (by omega) (by omega) (by omega) fun hp' nc' => ?_
    have e2 : its n = dd n.toNat := by unfold its Lib.itoa; rw [if_neg h0]
    simp (disch := first | omega | simp only [go_sem, ↓reduceIte, Nra, Nrb, Nrc, Nrd, Nre, Nrf, Irg, Irh, Iri, Irj, Irk, Irl, Irm, Irn, Iro, Irp, Irq, Nrr, Irs, dropK_eq]) only [go_sem, ↓reduceIte, Nra, Nrb, Nrc, Nrd, Nre, Nrf, Irg, Irh, Iri, Irj, Irk, Irl, Irm, Irn, Iro, Irp, Irq, Nrr, Irs, dropK_eq]
    rw [e2]
    exact Ends_plain rfl rfl
theorem TK_plain (d : Nat) (t : Tok) : plain (d + 1) (TK t) = true := by
  simp only [plain_agg, plainL_cons, plain_int, plain_str, plainL_nil]; rfl
theorem TK_sc (t : Tok) : (cellsOf (TK t)).all isSc = true := rfl
/-- A sign. -/
def sgn (k : Int) : UInt8 := if k = 3 then 123 else if k = 4 then 125 else 59
/-- A token's text. -/
def txt (t : Tok) : List UInt8 := if t.k = 1 then t.s else if t.k = 2 then its t.n else [sgn t.k]
/-- A text of tokens. -/
def prt (l : List Tok) : List UInt8 := Lib.join (l.map txt) [32]
abbrev allOk (l : List Tok) : Prop := ∀ t ∈ l, tokOk t
/-- Like: but for places. -/
def at0 (t : Tok) : Tok := { t with at' := 0 }
/-- Digits' number. -/
def vlA (a : Nat) (l : List UInt8) : Nat := l.foldl (fun a c => a * 10 + (c.toNat - 48)) a
abbrev vl (l : List UInt8) : Nat := vlA 0 l
abbrev digs (l : List UInt8) : Prop := ∀ b ∈ l, digB b
theorem vlA_snoc (a : Nat) (c : UInt8) (l : List UInt8) : vlA a (l ++ [c]) = vlA a l * 10 + (c.toNat - 48) := by simp [vlA]
theorem dd_ne (n : Nat) : dd n ≠ [] := by
  by_cases h : n < 10
  · rw [dd_small h]; simp
  · rw [dd_step (by omega), dd_small (by omega : n % 10 < 10)]; simp
theorem dd_digs (n : Nat) : digs (dd n) := by
  induction n using Nat.strongRecOn with
  | _ n ih =>
    by_cases h : n < 10
    · rw [dd_small h]
      intro b hb
      simp at hb
      subst hb
      simp [digB, digi, UInt8.toNat_ofNat']
      omega
    · rw [dd_step (by omega)]
      intro b hb
      rcases List.mem_append.1 hb with hb | hb
      · exact ih _ (by omega) b hb
      · exact ih _ (by omega) b hb
theorem dd_vl (n : Nat) : vl (dd n) = n := by
  induction n using Nat.strongRecOn with
  | _ n ih =>
    by_cases h : n < 10
    · rw [dd_small h]
      simp [vlA]
      omega
    · rw [dd_step (by omega), dd_small (by omega : n % 10 < 10)]
      have := ih (n / 10) (by omega)
      simp only [vl] at this ⊢
      rw [vlA_snoc, this]
      simp
      omega
theorem dd_head (n : Nat) : (dd n).head? = some 48 → n = 0 := by
  induction n using Nat.strongRecOn with
  | _ n ih =>
    by_cases h : n < 10
    · rw [dd_small h]
      intro e
      simp at e
      have := congrArg UInt8.toNat e
      simp at this
      omega
    · rw [dd_step (by omega)]
      intro e
      have : (dd (n / 10)).head? = some 48 := by
        cases hd : dd (n / 10) with
        | nil => exact absurd hd (dd_ne _)
        | cons c r => rw [hd] at e; exact e
      have := ih _ (by omega) this
      omega
/-- A number that is no numeral, or too big. -/
abbrev numBad (neg : Bool) (l : List UInt8) : Prop := l.head? = some 48 ∧ (1 < l.length ∨ neg = true) ∨ 1000000000 < vl l
/-- The number at a text's head, and how long it is. -/
def numN (neg : Bool) (ds : List UInt8) : Except Int (Int × Nat) :=
  if ds = [] then .error 7 else if numBad neg ds then .error 3 else .ok (if neg then -(vl ds : Int) else vl ds, (if neg then 1 else 0) + ds.length)
abbrev dgB (b : UInt8) : Bool := decide (digB b)
abbrev ltB (b : UInt8) : Bool := decide (letB b)
def numR : List UInt8 → Except Int (Int × Nat)
  | [] => .error 7
  | b :: r => if (b.toNat : Int) = 45 then numN true (r.takeWhile dgB) else numN false ((b :: r).takeWhile dgB)
abbrev signB (b : UInt8) : Prop := (b.toNat : Int) = 123 ∨ (b.toNat : Int) = 125 ∨ (b.toNat : Int) = 59
def sgk (b : UInt8) : Int := if (b.toNat : Int) = 123 then 3 else if (b.toNat : Int) = 125 then 4 else 5
/-- The token at a text's head, and how long it is. -/
def oneR : List UInt8 → Except Int (Tok × Nat)
  | [] => .error 7
  | b :: r =>
    if signB b then .ok (⟨sgk b, [], 0, 0⟩, 1)
    else if (b.toNat : Int) = 45 ∨ digB b then match numR (b :: r) with
      | .error e => .error e
      | .ok (n, k) => .ok (⟨2, [], n, 0⟩, k)
    else if (b :: r).takeWhile ltB = [] then .error 7
    else if 12 < ((b :: r).takeWhile ltB).length then .error 2
    else .ok (⟨1, (b :: r).takeWhile ltB, 0, 0⟩, ((b :: r).takeWhile ltB).length)
abbrev spB (b : UInt8) : Prop := (b.toNat : Int) = 32 ∨ (b.toNat : Int) = 9 ∨ (b.toNat : Int) = 10 ∨ (b.toNat : Int) = 13
abbrev inB (b : UInt8) : Bool := decide (¬ (b.toNat : Int) = 10)
/-- How long a blank is. -/
def blk : List UInt8 → Nat
  | [] => 0
  | b :: r => if spB b then 1 else if (b.toNat : Int) = 35 then ((b :: r).takeWhile inB).length else 0
theorem blk_le (r : List UInt8) : blk r ≤ r.length := by
  cases r with
  | nil => exact Nat.le_refl _
  | cons b r =>
    simp only [blk]
    by_cases h : spB b
    · rw [if_pos h]; simp
    · rw [if_neg h]
      by_cases h2 : (b.toNat : Int) = 35
      · rw [if_pos h2]; exact (List.takeWhile_prefix _).length_le
      · rw [if_neg h2]; simp
/-- A scan. -/
def scan (r : List UInt8) (at' : Nat) : Except (Nat × Int) (List Tok) :=
  if h0 : r = [] then .ok []
  else if h1 : 0 < blk r then scan (r.drop (blk r)) (at' + blk r)
  else match oneR r with
    | .error e => .error (at', e)
    | .ok (t, k) => if h2 : 0 < k then match scan (r.drop k) (at' + k) with
      | .error x => .error x
      | .ok l => .ok ({ t with at' := at' } :: l) else .error (at', 7)
termination_by r.length
decreasing_by
  all_goals
    have := List.length_pos_iff.2 h0
    rw [List.length_drop]
    omega
theorem scan_nil (at' : Nat) : scan [] at' = .ok [] := by rw [scan]; simp
theorem scan_blk {r : List UInt8} {at' : Nat} (h : 0 < blk r) : scan r at' = scan (r.drop (blk r)) (at' + blk r) := by
  have h0 : r ≠ [] := fun e => by rw [e] at h; simp [blk] at h
  rw [scan, dif_neg h0, dif_pos h]
theorem scan_bad {r : List UInt8} {at' : Nat} {e : Int} (h0 : r ≠ []) (h : blk r = 0) (h1 : oneR r = .error e) : scan r at' = .error (at', e) := by
  rw [scan, dif_neg h0, dif_neg (by omega), h1]
theorem scan_one {r : List UInt8} {at' : Nat} {t : Tok} {k : Nat} (h0 : r ≠ []) (h : blk r = 0) (h1 : oneR r = .ok (t, k)) (hk : 0 < k) : scan r at' = match scan (r.drop k) (at' + k) with
      | .error x => .error x
      | .ok l => .ok ({ t with at' := at' } :: l) := by
  rw [scan, dif_neg h0, dif_neg (by omega), h1]
  simp only
  rw [dif_pos hk]
theorem numN_len {neg : Bool} {ds : List UInt8} {n : Int} {k : Nat} (h : numN neg ds = .ok (n, k)) : 0 < k ∧ k = (if neg then 1 else 0) + ds.length := by
  unfold numN at h
  split at h
  · cases h
  · split at h
    · cases h
    · rename_i h1 h2
      simp only [Except.ok.injEq, Prod.mk.injEq] at h
      have := List.length_pos_iff.2 h1
      omega
theorem oneR_len {r : List UInt8} {t : Tok} {k : Nat} (h : oneR r = .ok (t, k)) : 0 < k ∧ k ≤ r.length := by
  cases r with
  | nil => cases h
  | cons b r =>
    simp only [oneR] at h
    by_cases c1 : signB b
    · rw [if_pos c1] at h
      simp only [Except.ok.injEq, Prod.mk.injEq] at h
      simp; omega
    · rw [if_neg c1] at h
      by_cases c2 : (b.toNat : Int) = 45 ∨ digB b
      · rw [if_pos c2] at h
        cases hn : numR (b :: r) with
        | error e => rw [hn] at h; cases h
        | ok x =>
          obtain ⟨n, k'⟩ := x
          rw [hn] at h
          simp only [Except.ok.injEq, Prod.mk.injEq] at h
          obtain ⟨_, rfl⟩ := h
          simp only [numR] at hn
          by_cases c3 : (b.toNat : Int) = 45
          · rw [if_pos c3] at hn
            have := numN_len hn
            have h2 := (List.takeWhile_prefix (l := r) dgB).length_le
            simp at this ⊢
            omega
          · rw [if_neg c3] at hn
            have := numN_len hn
            have h2 := (List.takeWhile_prefix (l := b :: r) dgB).length_le
            simp at this h2 ⊢
            omega
      · rw [if_neg c2] at h
        by_cases c3 : (b :: r).takeWhile ltB = []
        · rw [if_pos c3] at h; cases h
        · rw [if_neg c3] at h
          by_cases c4 : 12 < ((b :: r).takeWhile ltB).length
          · rw [if_pos c4] at h; cases h
          · rw [if_neg c4] at h
            simp only [Except.ok.injEq, Prod.mk.injEq] at h
            obtain ⟨_, rfl⟩ := h
            exact ⟨List.length_pos_iff.2 c3, (List.takeWhile_prefix _).length_le⟩
/-- What is passed over. -/
theorem drop_cons {l : List UInt8} {i : Nat} (h : i < l.length) : l.drop i = l.getD i 0 :: l.drop (i + 1) := by
  rw [List.drop_eq_getElem_cons h]
  congr 1
  simp [List.getD_eq_getElem?_getD, List.getElem?_eq_getElem h]
theorem run_eq {p : UInt8 → Bool} {l : List UInt8} {a e : Nat} (h1 : a ≤ e) (h2 : e ≤ l.length) (h3 : ∀ j, a ≤ j → j < e → p (l.getD j 0) = true) (h4 : e < l.length → p (l.getD e 0) = false) :
    (l.drop a).takeWhile p = (l.drop a).take (e - a) := by
  have hx : l.drop a = (l.drop a).take (e - a) ++ l.drop e := by
    have := (List.take_append_drop (e - a) (l.drop a)).symm
    rwa [List.drop_drop, show a + (e - a) = e by omega] at this
  have hall : ∀ b ∈ (l.drop a).take (e - a), p b = true := by
    intro b hb
    obtain ⟨i, hi, rfl⟩ := List.getElem_of_mem hb
    simp at hi
    have := h3 (a + i) (by omega) (by omega)
    simpa [List.getD_eq_getElem?_getD, List.getElem?_eq_getElem (show a + i < l.length by omega)] using this
  have hz : (l.drop e).takeWhile p = [] := by
    rcases Nat.lt_or_ge e l.length with h | h
    · rw [drop_cons h, List.takeWhile_cons, if_neg (by rw [h4 h]; simp)]
    · rw [List.drop_of_length_le h]; rfl
  have h5 : ((l.drop a).take (e - a) ++ l.drop e).takeWhile p = (l.drop a).take (e - a) ++ (l.drop e).takeWhile p := List.takeWhile_append_of_pos hall
  rw [← hx, hz, List.append_nil] at h5
  exact h5
theorem run_len {l : List UInt8} {a e : Nat} (h2 : e ≤ l.length) : ((l.drop a).take (e - a)).length = e - a := by simp; omega
theorem run_snoc {l : List UInt8} {a e : Nat} (h1 : a ≤ e) (h2 : e < l.length) : (l.drop a).take (e + 1 - a) = (l.drop a).take (e - a) ++ [l.getD e 0] := by
  have h := take_next (l := l.drop a) (i := e - a) (by simp; omega)
  rw [show e - a + 1 = e + 1 - a by omega] at h
  rw [h]
  congr 2
  simp [List.getD_eq_getElem?_getD, List.getElem?_eq_getElem h2, show a + (e - a) = e by omega]
theorem run_step {p : UInt8 → Bool} {l : List UInt8} {a k : Nat} (h : ∀ j, a ≤ j → j < k → p (l.getD j 0) = true) (hk : p (l.getD k 0) = true) : ∀ j, a ≤ j → j < k + 1 → p (l.getD j 0) = true := by
  intro j h1 h2
  by_cases e : j = k
  · rw [e]; exact hk
  · exact h j h1 (by omega)
theorem vl_snoc (c : UInt8) (l : List UInt8) : vl (l ++ [c]) = vl l * 10 + (c.toNat - 48) := vlA_snoc 0 c l
noncomputable def F92 : List AVal → Option AVal := pureF C2 1 92
theorem sound92 : Sound Tryz.prog 92 F92 := sound_self ok2 1 92
theorem F92_eq {s : List UInt8} {i : Nat} (hi : i < s.length) (hs : s.length ≤ 100000) : F92 [sv s, .int .i64 i] = some (.int .i64 (blk (s.drop i) : Nat)) := by
  have ix := str_ixN .i64 hi
  rw [drop_cons hi]
  unfold F92
  refine pureF_of (x := x92) rfl rfl ?_
  rw [x92_eq.1, x92_eq.2.1]
  by_cases hb : spB (s.getD i 0)
  · have : blk (s.getD i 0 :: s.drop (i + 1)) = 1 := by rw [blk, if_pos hb]
    rw [this]
    rcases hb with e | e | e | e <;>
    · simp (disch := first | omega | simp only [go_sem, ↓reduceIte, Nra, Nrb, Nrc, Nrd, Nre, Nrf, Irg, Irh, Iri, Irj, Irk, Irl, Irm, Irn, Iro, Irp, Irq, Nrr, Irs, dropK_eq]) only [x92b, go_sem, ↓reduceIte, Nra, Nrb, Nrc, Nrd, Nre, Nrf, Irg, Irh, Iri, Irj, Irk, Irl, Irm, Irn, Iro, Irp, Irq, Nrr, Irs, dropK_eq, ix, e]
      exact Ends_plain rfl rfl
  · have hb1 := hb
    simp only [spB, not_or] at hb1
    have d1 := decide_eq_false hb1.1
    have d2 := decide_eq_false hb1.2.1
    have d3 := decide_eq_false hb1.2.2.1
    have d4 := decide_eq_false hb1.2.2.2
    by_cases h35 : ((s.getD i 0).toNat : Int) = 35
    · have d5 : decide (¬ ((s.getD i 0).toNat : Int) = 35) = false := decide_eq_false (by simpa using h35)
      simp (disch := first | omega | simp only [go_sem, ↓reduceIte, Nra, Nrb, Nrc, Nrd, Nre, Nrf, Irg, Irh, Iri, Irj, Irk, Irl, Irm, Irn, Iro, Irp, Irq, Nrr, Irs, dropK_eq]) only [x92b, go_sem, ↓reduceIte, Nra, Nrb, Nrc, Nrd, Nre, Nrf, Irg, Irh, Iri, Irj, Irk, Irl, Irm, Irn, Iro, Irp, Irq, Nrr, Irs, dropK_eq, ix, d1, d2, d3, d4, d5]
      refine Ev_range (ti := 6) (len := s.length - i) (J := fun k tm hp nc => ∀ j, i ≤ j → j < i + k → inB (s.getD j 0) = true) (by omega) (by simp only [go_sem, ↓reduceIte, Nra, Nrb, Nrc, Nrd, Nre, Nrf, Irg, Irh, Iri, Irj, Irk, Irl, Irm, Irn, Iro, Irp, Irq, Nrr, Irs, dropK_eq]) (fun j h1 h2 => by omega) ?_
      intro k tm hp nc hkl hc k6 hj
      have k0 := hc 0 rfl; have k1 := hc 1 rfl; simp only [go_sem, ↓reduceIte, Nra, Nrb, Nrc, Nrd, Nre, Nrf, Irg, Irh, Iri, Irj, Irk, Irl, Irm, Irn, Iro, Irp, Irq, Nrr, Irs, dropK_eq] at k0 k1
      rcases Nat.lt_or_ge (i + k) s.length with hlt | hge
      · have e1 : decide ((i : Int) + (k : Int) < (s.length : Int)) = true := decide_eq_true (by omega)
        have ix2 := str_ixN .i64 hlt
        rw [Int.natCast_add] at ix2
        cases hin : inB (s.getD (i + k) 0) with
        | true =>
          have e2 := hin
          simp only [inB] at e2
          simp (disch := first | omega | simp only [go_sem, ↓reduceIte, Nra, Nrb, Nrc, Nrd, Nre, Nrf, Irg, Irh, Iri, Irj, Irk, Irl, Irm, Irn, Iro, Irp, Irq, Nrr, Irs, dropK_eq]) only [x92l7, go_sem, ↓reduceIte, Nra, Nrb, Nrc, Nrd, Nre, Nrf, Irg, Irh, Iri, Irj, Irk, Irl, Irm, Irn, Iro, Irp, Irq, Nrr, Irs, dropK_eq, k0, k1, k6, e1, ix2, e2]
          exact ⟨by omega, by simp, run_step hj hin⟩
        | false =>
          have e2 := hin
          simp only [inB] at e2
          have hrun := run_eq (p := inB) (l := s) (a := i) (e := i + k) (by omega) (by omega) hj (fun _ => hin)
          have hbl : blk (s.getD i 0 :: s.drop (i + 1)) = k := by rw [blk, if_neg hb, if_pos h35, ← drop_cons hi, hrun, run_len (by omega)]; omega
          rw [hbl]
          simp (disch := first | omega | simp only [go_sem, ↓reduceIte, Nra, Nrb, Nrc, Nrd, Nre, Nrf, Irg, Irh, Iri, Irj, Irk, Irl, Irm, Irn, Iro, Irp, Irq, Nrr, Irs, dropK_eq]) only [x92l7, go_sem, ↓reduceIte, Nra, Nrb, Nrc, Nrd, Nre, Nrf, Irg, Irh, Iri, Irj, Irk, Irl, Irm, Irn, Iro, Irp, Irq, Nrr, Irs, dropK_eq, k0, k1, k6, e1, ix2, e2]
          exact Ends_plain rfl rfl
      · have e1 : decide ((i : Int) + (k : Int) < (s.length : Int)) = false := decide_eq_false (by omega)
        have hrun := run_eq (p := inB) (l := s) (a := i) (e := i + k) (by omega) (by omega) hj (fun h => by omega)
        have hbl : blk (s.getD i 0 :: s.drop (i + 1)) = k := by rw [blk, if_neg hb, if_pos h35, ← drop_cons hi, hrun, run_len (by omega)]; omega
        rw [hbl]
        simp (disch := first | omega | simp only [go_sem, ↓reduceIte, Nra, Nrb, Nrc, Nrd, Nre, Nrf, Irg, Irh, Iri, Irj, Irk, Irl, Irm, Irn, Iro, Irp, Irq, Nrr, Irs, dropK_eq]) only [x92l7, go_sem, ↓reduceIte, Nra, Nrb, Nrc, Nrd, Nre, Nrf, Irg, Irh, Iri, Irj, Irk, Irl, Irm, Irn, Iro, Irp, Irq, Nrr, Irs, dropK_eq, k0, k1, k6, e1]
        exact Ends_plain rfl rfl
    · have d5 : decide (¬ ((s.getD i 0).toNat : Int) = 35) = true := decide_eq_true h35
      have : blk (s.getD i 0 :: s.drop (i + 1)) = 0 := by rw [blk, if_neg hb, if_neg h35]
      rw [this]
      simp (disch := first | omega | simp only [go_sem, ↓reduceIte, Nra, Nrb, Nrc, Nrd, Nre, Nrf, Irg, Irh, Iri, Irj, Irk, Irl, Irm, Irn, Iro, Irp, Irq, Nrr, Irs, dropK_eq]) only [x92b, go_sem, ↓reduceIte, Nra, Nrb, Nrc, Nrd, Nre, Nrf, Irg, Irh, Iri, Irj, Irk, Irl, Irm, Irn, Iro, Irp, Irq, Nrr, Irs, dropK_eq, ix, d1, d2, d3, d4, d5]
      exact Ends_plain rfl rfl
def numV : Except Int (Int × Nat) → AVal
  | .error e => .tup [.int .i64 0, .int .i64 0, .int .i64 e]
  | .ok (n, k) => .tup [.int .i64 n, .int .i64 k, .int .i64 0]
theorem loop36 {d : Nat} {s : List UInt8} {fr : Nat} {tm : Nat → AVal} {hp : Heap} {nc : Nat} {Q : Out → St → Prop} (hs : s.length ≤ 100000) (hfr : fr ≤ s.length) (h0 : tm 0 = sv s) (h9 : tm 9 = .int .i64 fr) (h10 : tm 10 = .int .i64 0)
    (hQ : ∀ tm' nc', tm' 0 = tm 0 → tm' 1 = tm 1 → tm' 7 = tm 7 → tm' 8 = tm 8 → tm' 9 = .int .i64 ((fr + ((s.drop fr).takeWhile dgB).length : Nat) : Int) → tm' 10 = .int .i64 ((min (vl ((s.drop fr).takeWhile dgB)) 10000000000 : Nat) : Int) → Q (.ext 0) ⟨tm', hp, nc'⟩) :
    Ev (C := C2) (inl := inlD C2 d) 117 (.loop x117l7) ⟨tm, hp, nc⟩ Q := by
  refine Ev_loopW (I := fun n tm hp' nc => ∃ e : Nat, fr ≤ e ∧ e ≤ s.length ∧ n = s.length - e ∧ hp' = hp ∧ tm 9 = .int .i64 e ∧ tm 10 = .int .i64 ((min (vl ((s.drop fr).take (e - fr))) 10000000000 : Nat) : Int) ∧ ∀ j, fr ≤ j → j < e → dgB (s.getD j 0) = true) (n := s.length - fr) ?_ (by omega) ?_
  · exact ⟨fr, by omega, hfr, rfl, rfl, h9, by rw [h10, Nat.sub_self]; rfl, fun j h1 h2 => by omega⟩
  · rintro n tm' hp' nc' hc ⟨e, h1, h2, rfl, rfl, k9, k10, hj⟩
    have k0 := hc 0 rfl
    have k1 := hc 1 rfl
    have k7 := hc 7 rfl
    have k8 := hc 8 rfl
    have q0 := k0
    rw [h0] at k0
    have ee : fr + (e - fr) = e := by omega
    rcases Nat.lt_or_ge e s.length with hlt | hge
    · have e1 : decide ((e : Int) < (s.length : Int)) = true := decide_eq_true (by omega)
      have ix := str_ixN .i64 hlt
      have e35 := F116_eq (n := ((s.getD e 0).toNat : Int))
      cases hin : dgB (s.getD e 0) with
      | true =>
        rw [show decide (digi ((s.getD e 0).toNat : Int)) = true from hin] at e35
        have hd := of_decide_eq_true hin
        simp only [digB, digi] at hd
        have hv : min (10 * (min (vl ((s.drop fr).take (e - fr))) 10000000000) + ((s.getD e 0).toNat - 48)) 10000000000 = min (vl ((s.drop fr).take (e + 1 - fr))) 10000000000 := by
          rw [run_snoc h1 hlt, vl_snoc]; omega
        have hm : mnxA false (.int .i64 (10 * ((min (vl ((s.drop fr).take (e - fr))) 10000000000 : Nat) : Int) + (((s.getD e 0).toNat : Int) - 48))) [.int .i64 10000000000] = some (.int .i64 ((min (vl ((s.drop fr).take (e + 1 - fr))) 10000000000 : Nat) : Int)) := by
          have := mnx_min2 (10 * (min (vl ((s.drop fr).take (e - fr))) 10000000000) + ((s.getD e 0).toNat - 48)) 10000000000
          rw [hv] at this
          rw [← this]
          congr 2
          omega
        have w1 : (((s.getD e 0).toNat : Int) - 48) % 256 = ((s.getD e 0).toNat : Int) - 48 := by omega
        simp (disch := first | omega | simp only [go_sem, ↓reduceIte, Nra, Nrb, Nrc, Nrd, Nre, Nrf, Irg, Irh, Iri, Irj, Irk, Irl, Irm, Irn, Iro, Irp, Irq, Nrr, Irs, dropK_eq]) only [x117l7, go_sem, ↓reduceIte, Nra, Nrb, Nrc, Nrd, Nre, Nrf, Irg, Irh, Iri, Irj, Irk, Irl, Irm, Irn, Iro, Irp, Irq, Nrr, Irs, dropK_eq, k0, k9, k10, e1, ix, callX_known (C := C2) (g := 116) rfl, ft_call (C := C2) (g := 116) rfl, e35, w1, hm]
        exact ⟨s.length - (e + 1), by omega, e + 1, by omega, by omega, rfl, by simp, rfl, run_step hj hin⟩
      | false =>
        rw [show decide (digi ((s.getD e 0).toNat : Int)) = false from hin] at e35
        have hrun := run_eq (p := dgB) (l := s) (a := fr) (e := e) h1 h2 hj (fun _ => hin)
        rw [hrun, run_len h2, ee] at hQ
        simp (disch := first | omega | simp only [go_sem, ↓reduceIte, Nra, Nrb, Nrc, Nrd, Nre, Nrf, Irg, Irh, Iri, Irj, Irk, Irl, Irm, Irn, Iro, Irp, Irq, Nrr, Irs, dropK_eq]) only [x117l7, go_sem, ↓reduceIte, Nra, Nrb, Nrc, Nrd, Nre, Nrf, Irg, Irh, Iri, Irj, Irk, Irl, Irm, Irn, Iro, Irp, Irq, Nrr, Irs, dropK_eq, k0, k9, k10, e1, ix, callX_known (C := C2) (g := 116) rfl, ft_call (C := C2) (g := 116) rfl, e35]
        refine hQ _ _ ?_ ?_ ?_ ?_ ?_ ?_ <;> simp only [go_sem, ↓reduceIte, Nra, Nrb, Nrc, Nrd, Nre, Nrf, Irg, Irh, Iri, Irj, Irk, Irl, Irm, Irn, Iro, Irp, Irq, Nrr, Irs, dropK_eq, q0, k1, k7, k8, k9, k10]
    · obtain rfl : e = s.length := by omega
      have e1 : decide ((s.length : Int) < (s.length : Int)) = false := decide_eq_false (by omega)
      have hrun := run_eq (p := dgB) (l := s) (a := fr) (e := s.length) h1 h2 hj (fun h => by omega)
      rw [hrun, run_len h2, ee] at hQ
      simp (disch := first | omega | simp only [go_sem, ↓reduceIte, Nra, Nrb, Nrc, Nrd, Nre, Nrf, Irg, Irh, Iri, Irj, Irk, Irl, Irm, Irn, Iro, Irp, Irq, Nrr, Irs, dropK_eq]) only [x117l7, go_sem, ↓reduceIte, Nra, Nrb, Nrc, Nrd, Nre, Nrf, Irg, Irh, Iri, Irj, Irk, Irl, Irm, Irn, Iro, Irp, Irq, Nrr, Irs, dropK_eq, k0, k9, k10, e1]
      refine hQ _ _ ?_ ?_ ?_ ?_ ?_ ?_ <;> simp only [go_sem, ↓reduceIte, Nra, Nrb, Nrc, Nrd, Nre, Nrf, Irg, Irh, Iri, Irj, Irk, Irl, Irm, Irn, Iro, Irp, Irq, Nrr, Irs, dropK_eq, q0, k1, k7, k8, k9, k10]
noncomputable def F117 : List AVal → Option AVal := pureF C2 1 117
theorem sound117 : Sound Tryz.prog 117 F117 := sound_self ok2 1 117
theorem head48 {s : List UInt8} {fr : Nat} (h : (s.drop fr).takeWhile dgB ≠ []) : fr < s.length ∧ (((s.drop fr).takeWhile dgB).head? = some 48 ↔ ((s.getD fr 0).toNat : Int) = 48) := by
  have hlt : fr < s.length := by
    rcases Nat.lt_or_ge fr s.length with h1 | h1
    · exact h1
    · rw [List.drop_of_length_le h1] at h; simp at h
  refine ⟨hlt, ?_⟩
  rw [drop_cons hlt] at h ⊢
  rw [List.takeWhile_cons] at h ⊢
  split at h
  · rename_i hc
    rw [if_pos hc]
    simp only [List.head?_cons, Option.some.injEq]
    constructor
    · intro e; rw [e]; rfl
    · intro e; exact UInt8.toNat_inj.1 (by have : (48 : UInt8).toNat = 48 := rfl; omega)
  · exact absurd rfl h
theorem F117_eq {s : List UInt8} {i : Nat} (hi : i < s.length) (hs : s.length ≤ 100000) : F117 [sv s, .int .i64 i] = some (numV (numR (s.drop i))) := by
  have ix := str_ixN .i64 hi
  have hnr : numR (s.drop i) = if ((s.getD i 0).toNat : Int) = 45 then numN true ((s.drop (i + 1)).takeWhile dgB) else numN false ((s.drop i).takeWhile dgB) := by
    rw [drop_cons hi, numR]
  rw [hnr]
  unfold F117
  refine pureF_of (x := x117) rfl rfl ?_
  rw [x117_eq.1, x117_eq.2.1]
  by_cases h45 : ((s.getD i 0).toNat : Int) = 45
  · rw [if_pos h45]
    simp (disch := first | omega | simp only [go_sem, ↓reduceIte, Nra, Nrb, Nrc, Nrd, Nre, Nrf, Irg, Irh, Iri, Irj, Irk, Irl, Irm, Irn, Iro, Irp, Irq, Nrr, Irs, dropK_eq]) only [x117b, go_sem, ↓reduceIte, Nra, Nrb, Nrc, Nrd, Nre, Nrf, Irg, Irh, Iri, Irj, Irk, Irl, Irm, Irn, Iro, Irp, Irq, Nrr, Irs, dropK_eq, ix, h45]
    refine loop36 (fr := i + 1) hs (by omega) ?_ ?_ ?_ ?_
    · simp only [go_sem, ↓reduceIte, Nra, Nrb, Nrc, Nrd, Nre, Nrf, Irg, Irh, Iri, Irj, Irk, Irl, Irm, Irn, Iro, Irp, Irq, Nrr, Irs, dropK_eq]
    · simp only [go_sem, ↓reduceIte, Nra, Nrb, Nrc, Nrd, Nre, Nrf, Irg, Irh, Iri, Irj, Irk, Irl, Irm, Irn, Iro, Irp, Irq, Nrr, Irs, dropK_eq, Int.natCast_add, Int.natCast_one]
    · simp only [go_sem, ↓reduceIte, Nra, Nrb, Nrc, Nrd, Nre, Nrf, Irg, Irh, Iri, Irj, Irk, Irl, Irm, Irn, Iro, Irp, Irq, Nrr, Irs, dropK_eq]
    intro tm nc q0 q1 q7 q8 k9 k10
    simp only [go_sem, ↓reduceIte, Nra, Nrb, Nrc, Nrd, Nre, Nrf, Irg, Irh, Iri, Irj, Irk, Irl, Irm, Irn, Iro, Irp, Irq, Nrr, Irs, dropK_eq] at q0 q1 q7 q8
    generalize hds : (s.drop (i + 1)).takeWhile dgB = ds at *
    have hdl : ds.length ≤ s.length := by rw [← hds]; exact Nat.le_trans (List.takeWhile_prefix _).length_le (by simp)
    by_cases h0 : ds = []
    · have d1 : decide (((i + 1 + ds.length : Nat) : Int) = (i : Int) + 1) = true := decide_eq_true (by rw [h0]; simp)
      simp (disch := first | omega | simp only [go_sem, ↓reduceIte, Nra, Nrb, Nrc, Nrd, Nre, Nrf, Irg, Irh, Iri, Irj, Irk, Irl, Irm, Irn, Iro, Irp, Irq, Nrr, Irs, dropK_eq]) only [go_sem, ↓reduceIte, Nra, Nrb, Nrc, Nrd, Nre, Nrf, Irg, Irh, Iri, Irj, Irk, Irl, Irm, Irn, Iro, Irp, Irq, Nrr, Irs, dropK_eq, q0, q1, q7, q8, k9, k10, d1]
      rw [numN, if_pos h0]
      exact Ends_plain rfl rfl
    · have d1 : decide (((i + 1 + ds.length : Nat) : Int) = (i : Int) + 1) = false := decide_eq_false (by have := List.length_pos_iff.2 h0; omega)
      obtain ⟨hlt, hh⟩ := head48 (by rw [hds]; exact h0)
      rw [hds] at hh
      have ix2 := str_ixN .i64 hlt
      rw [Int.natCast_add, Int.natCast_one] at ix2
      by_cases hbad : numBad true ds
      · rw [numN, if_neg h0, if_pos hbad]
        by_cases h48 : ((s.getD (i + 1) 0).toNat : Int) = 48
        · have d2 := decide_eq_true h48
          by_cases hg : (i : Int) + 1 + 1 < ((i + 1 + ds.length : Nat) : Int)
          · have d3 := decide_eq_true hg
            simp (disch := first | omega | simp only [go_sem, ↓reduceIte, Nra, Nrb, Nrc, Nrd, Nre, Nrf, Irg, Irh, Iri, Irj, Irk, Irl, Irm, Irn, Iro, Irp, Irq, Nrr, Irs, dropK_eq]) only [go_sem, ↓reduceIte, Nra, Nrb, Nrc, Nrd, Nre, Nrf, Irg, Irh, Iri, Irj, Irk, Irl, Irm, Irn, Iro, Irp, Irq, Nrr, Irs, dropK_eq, q0, q1, q7, q8, k9, k10, d1, ix2, d2, d3]
            exact Ends_plain rfl rfl
          · have d3 := decide_eq_false hg
            simp (disch := first | omega | simp only [go_sem, ↓reduceIte, Nra, Nrb, Nrc, Nrd, Nre, Nrf, Irg, Irh, Iri, Irj, Irk, Irl, Irm, Irn, Iro, Irp, Irq, Nrr, Irs, dropK_eq]) only [go_sem, ↓reduceIte, Nra, Nrb, Nrc, Nrd, Nre, Nrf, Irg, Irh, Iri, Irj, Irk, Irl, Irm, Irn, Iro, Irp, Irq, Nrr, Irs, dropK_eq, q0, q1, q7, q8, k9, k10, d1, ix2, d2, d3]
            exact Ends_plain rfl rfl
        · have d2 := decide_eq_false h48
          have d4 : decide ((1000000000 : Int) < ((min (vl ds) 10000000000 : Nat) : Int)) = true := decide_eq_true (by rcases hbad with h | h; exact absurd (hh.1 h.1) h48; omega)
          simp (disch := first | omega | simp only [go_sem, ↓reduceIte, Nra, Nrb, Nrc, Nrd, Nre, Nrf, Irg, Irh, Iri, Irj, Irk, Irl, Irm, Irn, Iro, Irp, Irq, Nrr, Irs, dropK_eq]) only [go_sem, ↓reduceIte, Nra, Nrb, Nrc, Nrd, Nre, Nrf, Irg, Irh, Iri, Irj, Irk, Irl, Irm, Irn, Iro, Irp, Irq, Nrr, Irs, dropK_eq, q0, q1, q7, q8, k9, k10, d1, ix2, d2, d4]
          exact Ends_plain rfl rfl
      · rw [numN, if_neg h0, if_neg hbad]
        have h48 : ¬ ((s.getD (i + 1) 0).toNat : Int) = 48 := fun h => hbad (.inl ⟨hh.2 h, .inr rfl⟩)
        have hv : vl ds ≤ 1000000000 := by
          rcases Nat.lt_or_ge 1000000000 (vl ds) with h | h
          · exact absurd (.inr h) hbad
          · exact h
        have d2 := decide_eq_false h48
        have em : min (vl ds) 10000000000 = vl ds := by omega
        rw [em] at k10
        have d4 : decide ((1000000000 : Int) < ((vl ds : Nat) : Int)) = false := decide_eq_false (by omega)
        simp (disch := first | omega | simp only [go_sem, ↓reduceIte, Nra, Nrb, Nrc, Nrd, Nre, Nrf, Irg, Irh, Iri, Irj, Irk, Irl, Irm, Irn, Iro, Irp, Irq, Nrr, Irs, dropK_eq]) only [go_sem, ↓reduceIte, Nra, Nrb, Nrc, Nrd, Nre, Nrf, Irg, Irh, Iri, Irj, Irk, Irl, Irm, Irn, Iro, Irp, Irq, Nrr, Irs, dropK_eq, q0, q1, q7, q8, k9, k10, d1, ix2, d2, d4]
        refine Ends_plain rfl ?_
        simp only [numV, if_true]
        congr 3
        · congr 1; omega
        · congr 2; omega
  · rw [if_neg h45]
    have d0 := decide_eq_false h45
    simp (disch := first | omega | simp only [go_sem, ↓reduceIte, Nra, Nrb, Nrc, Nrd, Nre, Nrf, Irg, Irh, Iri, Irj, Irk, Irl, Irm, Irn, Iro, Irp, Irq, Nrr, Irs, dropK_eq]) only [x117b, go_sem, ↓reduceIte, Nra, Nrb, Nrc, Nrd, Nre, Nrf, Irg, Irh, Iri, Irj, Irk, Irl, Irm, Irn, Iro, Irp, Irq, Nrr, Irs, dropK_eq, ix, d0]
    refine loop36 (fr := i) hs (by omega) ?_ ?_ ?_ ?_
    · simp only [go_sem, ↓reduceIte, Nra, Nrb, Nrc, Nrd, Nre, Nrf, Irg, Irh, Iri, Irj, Irk, Irl, Irm, Irn, Iro, Irp, Irq, Nrr, Irs, dropK_eq]
    · simp only [go_sem, ↓reduceIte, Nra, Nrb, Nrc, Nrd, Nre, Nrf, Irg, Irh, Iri, Irj, Irk, Irl, Irm, Irn, Iro, Irp, Irq, Nrr, Irs, dropK_eq]
    · simp only [go_sem, ↓reduceIte, Nra, Nrb, Nrc, Nrd, Nre, Nrf, Irg, Irh, Iri, Irj, Irk, Irl, Irm, Irn, Iro, Irp, Irq, Nrr, Irs, dropK_eq]
    intro tm nc q0 q1 q7 q8 k9 k10
    simp only [go_sem, ↓reduceIte, Nra, Nrb, Nrc, Nrd, Nre, Nrf, Irg, Irh, Iri, Irj, Irk, Irl, Irm, Irn, Iro, Irp, Irq, Nrr, Irs, dropK_eq] at q0 q1 q7 q8
    generalize hds : (s.drop i).takeWhile dgB = ds at *
    have hdl : ds.length ≤ s.length := by rw [← hds]; exact Nat.le_trans (List.takeWhile_prefix _).length_le (by simp)
    by_cases h0 : ds = []
    · have d1 : decide (((i + ds.length : Nat) : Int) = (i : Int)) = true := decide_eq_true (by rw [h0]; simp)
      simp (disch := first | omega | simp only [go_sem, ↓reduceIte, Nra, Nrb, Nrc, Nrd, Nre, Nrf, Irg, Irh, Iri, Irj, Irk, Irl, Irm, Irn, Iro, Irp, Irq, Nrr, Irs, dropK_eq]) only [go_sem, ↓reduceIte, Nra, Nrb, Nrc, Nrd, Nre, Nrf, Irg, Irh, Iri, Irj, Irk, Irl, Irm, Irn, Iro, Irp, Irq, Nrr, Irs, dropK_eq, q0, q1, q7, q8, k9, k10, d1]
      rw [numN, if_pos h0]
      exact Ends_plain rfl rfl
    · have d1 : decide (((i + ds.length : Nat) : Int) = (i : Int)) = false := decide_eq_false (by have := List.length_pos_iff.2 h0; omega)
      obtain ⟨hlt, hh⟩ := head48 (by rw [hds]; exact h0)
      rw [hds] at hh
      by_cases hbad : numBad false ds
      · rw [numN, if_neg h0, if_pos hbad]
        by_cases h48 : ((s.getD i 0).toNat : Int) = 48
        · have d2 := decide_eq_true h48
          by_cases hg : (i : Int) + 1 < ((i + ds.length : Nat) : Int)
          · have d3 := decide_eq_true hg
            simp (disch := first | omega | simp only [go_sem, ↓reduceIte, Nra, Nrb, Nrc, Nrd, Nre, Nrf, Irg, Irh, Iri, Irj, Irk, Irl, Irm, Irn, Iro, Irp, Irq, Nrr, Irs, dropK_eq]) only [go_sem, ↓reduceIte, Nra, Nrb, Nrc, Nrd, Nre, Nrf, Irg, Irh, Iri, Irj, Irk, Irl, Irm, Irn, Iro, Irp, Irq, Nrr, Irs, dropK_eq, q0, q1, q7, q8, k9, k10, d1, ix, d2, d3]
            exact Ends_plain rfl rfl
          · have d3 := decide_eq_false hg
            have d4 : decide ((1000000000 : Int) < ((min (vl ds) 10000000000 : Nat) : Int)) = true := decide_eq_true (by
              rcases hbad with h | h
              · rcases h.2 with h2 | h2
                · omega
                · cases h2
              · omega)
            simp (disch := first | omega | simp only [go_sem, ↓reduceIte, Nra, Nrb, Nrc, Nrd, Nre, Nrf, Irg, Irh, Iri, Irj, Irk, Irl, Irm, Irn, Iro, Irp, Irq, Nrr, Irs, dropK_eq]) only [go_sem, ↓reduceIte, Nra, Nrb, Nrc, Nrd, Nre, Nrf, Irg, Irh, Iri, Irj, Irk, Irl, Irm, Irn, Iro, Irp, Irq, Nrr, Irs, dropK_eq, q0, q1, q7, q8, k9, k10, d1, ix, d2, d3, d4]
            exact Ends_plain rfl rfl
        · have d2 := decide_eq_false h48
          have d4 : decide ((1000000000 : Int) < ((min (vl ds) 10000000000 : Nat) : Int)) = true := decide_eq_true (by rcases hbad with h | h; exact absurd (hh.1 h.1) h48; omega)
          simp (disch := first | omega | simp only [go_sem, ↓reduceIte, Nra, Nrb, Nrc, Nrd, Nre, Nrf, Irg, Irh, Iri, Irj, Irk, Irl, Irm, Irn, Iro, Irp, Irq, Nrr, Irs, dropK_eq]) only [go_sem, ↓reduceIte, Nra, Nrb, Nrc, Nrd, Nre, Nrf, Irg, Irh, Iri, Irj, Irk, Irl, Irm, Irn, Iro, Irp, Irq, Nrr, Irs, dropK_eq, q0, q1, q7, q8, k9, k10, d1, ix, d2, d4]
          exact Ends_plain rfl rfl
      · rw [numN, if_neg h0, if_neg hbad]
        have hv : vl ds ≤ 1000000000 := by
          rcases Nat.lt_or_ge 1000000000 (vl ds) with h | h
          · exact absurd (.inr h) hbad
          · exact h
        have em : min (vl ds) 10000000000 = vl ds := by omega
        rw [em] at k10
        have d4 : decide ((1000000000 : Int) < ((vl ds : Nat) : Int)) = false := decide_eq_false (by omega)
        have hfin : (AVal.tup [.int .i64 (vl ds : Nat), .int .i64 (((i + ds.length : Nat) : Int) - i), .int .i64 0]) = numV (.ok (if false = true then -(vl ds : Int) else vl ds, (if false = true then 1 else 0) + ds.length)) := by
          simp only [numV, Bool.false_eq_true, if_false]
          congr 3
          congr 1
          omega
        by_cases h48 : ((s.getD i 0).toNat : Int) = 48
        · have d2 := decide_eq_true h48
          have d3 : decide ((i : Int) + 1 < ((i + ds.length : Nat) : Int)) = false := decide_eq_false fun h => hbad (.inl ⟨hh.2 h48, .inl (by omega)⟩)
          simp (disch := first | omega | simp only [go_sem, ↓reduceIte, Nra, Nrb, Nrc, Nrd, Nre, Nrf, Irg, Irh, Iri, Irj, Irk, Irl, Irm, Irn, Iro, Irp, Irq, Nrr, Irs, dropK_eq]) only [go_sem, ↓reduceIte, Nra, Nrb, Nrc, Nrd, Nre, Nrf, Irg, Irh, Iri, Irj, Irk, Irl, Irm, Irn, Iro, Irp, Irq, Nrr, Irs, dropK_eq, q0, q1, q7, q8, k9, k10, d1, ix, d2, d3, d4]
          exact Ends_plain rfl hfin
        · have d2 := decide_eq_false h48
          simp (disch := first | omega | simp only [go_sem, ↓reduceIte, Nra, Nrb, Nrc, Nrd, Nre, Nrf, Irg, Irh, Iri, Irj, Irk, Irl, Irm, Irn, Iro, Irp, Irq, Nrr, Irs, dropK_eq]) only [go_sem, ↓reduceIte, Nra, Nrb, Nrc, Nrd, Nre, Nrf, Irg, Irh, Iri, Irj, Irk, Irl, Irm, Irn, Iro, Irp, Irq, Nrr, Irs, dropK_eq, q0, q1, q7, q8, k9, k10, d1, ix, d2, d4]
          exact Ends_plain rfl hfin
noncomputable def C6 : Cfg := (C2.add 92 F92).add 117 F117
theorem ok6 : CfgOk Tryz.prog C6 := (ok2.add sound92).add sound117
theorem loop22 {d : Nat} {s : List UInt8} {fr : Nat} {tm : Nat → AVal} {hp : Heap} {nc : Nat} {Q : Out → St → Prop} (hs : s.length ≤ 100000) (hfr : fr ≤ s.length) (h0 : tm 0 = sv s) (h12 : tm 12 = .int .i64 fr)
    (hQ : ∀ tm' nc', tm' 0 = tm 0 → tm' 1 = tm 1 → tm' 4 = tm 4 → tm' 12 = .int .i64 ((fr + ((s.drop fr).takeWhile ltB).length : Nat) : Int) → Q (.ext 0) ⟨tm', hp, nc'⟩) :
    Ev (C := C6) (inl := inlD C6 d) 93 (.loop x93l15) ⟨tm, hp, nc⟩ Q := by
  refine Ev_loopW (I := fun n tm hp' nc => ∃ e : Nat, fr ≤ e ∧ e ≤ s.length ∧ n = s.length - e ∧ hp' = hp ∧ tm 12 = .int .i64 e ∧ ∀ j, fr ≤ j → j < e → ltB (s.getD j 0) = true) (n := s.length - fr) ?_ (by omega) ?_
  · exact ⟨fr, by omega, hfr, rfl, rfl, h12, fun j h1 h2 => by omega⟩
  · rintro n tm' hp' nc' hc ⟨e, h1, h2, rfl, rfl, k12, hj⟩
    have k0 := hc 0 rfl
    have k1 := hc 1 rfl
    have k4 := hc 4 rfl
    have q0 := k0
    rw [h0] at k0
    have ee : fr + (e - fr) = e := by omega
    rcases Nat.lt_or_ge e s.length with hlt | hge
    · have e1 : decide ((e : Int) < (s.length : Int)) = true := decide_eq_true (by omega)
      have ix := str_ixN .i64 hlt
      have e37 := F118_eq (n := ((s.getD e 0).toNat : Int))
      cases hin : ltB (s.getD e 0) with
      | true =>
        rw [show decide (lett ((s.getD e 0).toNat : Int)) = true from hin] at e37
        simp (disch := first | omega | simp only [go_sem, ↓reduceIte, Nra, Nrb, Nrc, Nrd, Nre, Nrf, Irg, Irh, Iri, Irj, Irk, Irl, Irm, Irn, Iro, Irp, Irq, Nrr, Irs, dropK_eq]) only [x93l15, go_sem, ↓reduceIte, Nra, Nrb, Nrc, Nrd, Nre, Nrf, Irg, Irh, Iri, Irj, Irk, Irl, Irm, Irn, Iro, Irp, Irq, Nrr, Irs, dropK_eq, k0, k12, e1, ix, callX_known (C := C6) (g := 118) rfl, ft_call (C := C6) (g := 118) rfl, e37]
        exact ⟨s.length - (e + 1), by omega, e + 1, by omega, by omega, rfl, by simp, run_step hj hin⟩
      | false =>
        rw [show decide (lett ((s.getD e 0).toNat : Int)) = false from hin] at e37
        have hrun := run_eq (p := ltB) (l := s) (a := fr) (e := e) h1 h2 hj (fun _ => hin)
        rw [hrun, run_len h2, ee] at hQ
        simp (disch := first | omega | simp only [go_sem, ↓reduceIte, Nra, Nrb, Nrc, Nrd, Nre, Nrf, Irg, Irh, Iri, Irj, Irk, Irl, Irm, Irn, Iro, Irp, Irq, Nrr, Irs, dropK_eq]) only [x93l15, go_sem, ↓reduceIte, Nra, Nrb, Nrc, Nrd, Nre, Nrf, Irg, Irh, Iri, Irj, Irk, Irl, Irm, Irn, Iro, Irp, Irq, Nrr, Irs, dropK_eq, k0, k12, e1, ix, callX_known (C := C6) (g := 118) rfl, ft_call (C := C6) (g := 118) rfl, e37]
        refine hQ _ _ ?_ ?_ ?_ ?_ <;> simp only [go_sem, ↓reduceIte, Nra, Nrb, Nrc, Nrd, Nre, Nrf, Irg, Irh, Iri, Irj, Irk, Irl, Irm, Irn, Iro, Irp, Irq, Nrr, Irs, dropK_eq, q0, k1, k4, k12]
    · obtain rfl : e = s.length := by omega
      have e1 : decide ((s.length : Int) < (s.length : Int)) = false := decide_eq_false (by omega)
      have hrun := run_eq (p := ltB) (l := s) (a := fr) (e := s.length) h1 h2 hj (fun h => by omega)
      rw [hrun, run_len h2, ee] at hQ
      simp (disch := first | omega | simp only [go_sem, ↓reduceIte, Nra, Nrb, Nrc, Nrd, Nre, Nrf, Irg, Irh, Iri, Irj, Irk, Irl, Irm, Irn, Iro, Irp, Irq, Nrr, Irs, dropK_eq]) only [x93l15, go_sem, ↓reduceIte, Nra, Nrb, Nrc, Nrd, Nre, Nrf, Irg, Irh, Iri, Irj, Irk, Irl, Irm, Irn, Iro, Irp, Irq, Nrr, Irs, dropK_eq, k0, k12, e1]
      refine hQ _ _ ?_ ?_ ?_ ?_ <;> simp only [go_sem, ↓reduceIte, Nra, Nrb, Nrc, Nrd, Nre, Nrf, Irg, Irh, Iri, Irj, Irk, Irl, Irm, Irn, Iro, Irp, Irq, Nrr, Irs, dropK_eq, q0, k1, k4, k12]
theorem numN_err {neg : Bool} {ds : List UInt8} {e : Int} (h : numN neg ds = .error e) : ¬ e = 0 := by
  unfold numN at h
  split at h
  · cases h; decide
  · split at h
    · cases h; decide
    · cases h
theorem numR_err {r : List UInt8} {e : Int} (h : numR r = .error e) : ¬ e = 0 := by
  cases r with
  | nil => cases h; decide
  | cons b r =>
    simp only [numR] at h
    split at h
    · exact numN_err h
    · exact numN_err h
theorem oneR_err {r : List UInt8} {e : Int} (h : oneR r = .error e) : ¬ e = 0 := by
  cases r with
  | nil => cases h; decide
  | cons b r =>
    simp only [oneR] at h
    split at h
    · cases h
    · split at h
      · cases hn : numR (b :: r) with
        | error e' => rw [hn] at h; cases h; exact numR_err hn
        | ok x => rw [hn] at h; cases h
      · split at h
        · cases h; decide
        · split at h
          · cases h; decide
          · cases h
def oneV (i : Nat) : Except Int (Tok × Nat) → AVal
  | .error e => .tup [T0, .int .i64 0, .int .i64 e]
  | .ok (t, k) => .tup [TK { t with at' := i }, .int .i64 k, .int .i64 0]
noncomputable def F93 : List AVal → Option AVal := pureF C6 1 93
theorem sound93 : Sound Tryz.prog 93 F93 := sound_self ok6 1 93
theorem F93_eq {s : List UInt8} {i : Nat} (hi : i < s.length) (hs : s.length ≤ 100000) : F93 [sv s, .int .i64 i] = some (oneV i (oneR (s.drop i))) := by
  have ix := str_ixN .i64 hi
  have hdc := drop_cons hi
  have e36 := F117_eq hi hs
  have e35 := F116_eq (n := ((s.getD i 0).toNat : Int))
  unfold F93
  refine pureF_of (x := x93) rfl rfl ?_
  rw [x93_eq.1, x93_eq.2.1]
  by_cases hb : signB (s.getD i 0)
  · have : oneR (s.drop i) = .ok (⟨sgk (s.getD i 0), [], 0, 0⟩, 1) := by rw [hdc, oneR, if_pos hb]
    rw [this]
    rcases hb with e | e | e <;>
    · simp (disch := first | omega | simp only [go_sem, ↓reduceIte, Nra, Nrb, Nrc, Nrd, Nre, Nrf, Irg, Irh, Iri, Irj, Irk, Irl, Irm, Irn, Iro, Irp, Irq, Nrr, Irs, dropK_eq]) only [x93b, go_sem, ↓reduceIte, Nra, Nrb, Nrc, Nrd, Nre, Nrf, Irg, Irh, Iri, Irj, Irk, Irl, Irm, Irn, Iro, Irp, Irq, Nrr, Irs, dropK_eq, ix, e]
      refine Ends_plain rfl ?_
      simp only [oneV, sgk, e]
      rfl
  · have hb1 := hb
    simp only [signB, not_or] at hb1
    have d1 := decide_eq_false hb1.1
    have d2 := decide_eq_false hb1.2.1
    have d3 := decide_eq_false hb1.2.2
    by_cases hn : ((s.getD i 0).toNat : Int) = 45 ∨ digB (s.getD i 0)
    · have ho : oneR (s.drop i) = match numR (s.drop i) with
          | .error e => .error e
          | .ok (n, k) => .ok (⟨2, [], n, 0⟩, k) := by rw [hdc, oneR, if_neg hb, if_pos hn]; try (cases numR (s.getD i 0 :: s.drop (i + 1)) <;> rfl)
      rw [ho]
      by_cases h45 : ((s.getD i 0).toNat : Int) = 45
      · have d4 := decide_eq_true h45
        cases hr : numR (s.drop i) with
        | error e =>
          have d5 := decide_eq_true (numR_err hr)
          rw [hr] at e36
          simp only [numV] at e36
          simp (disch := first | omega | simp only [go_sem, ↓reduceIte, Nra, Nrb, Nrc, Nrd, Nre, Nrf, Irg, Irh, Iri, Irj, Irk, Irl, Irm, Irn, Iro, Irp, Irq, Nrr, Irs, dropK_eq]) only [x93b, go_sem, ↓reduceIte, Nra, Nrb, Nrc, Nrd, Nre, Nrf, Irg, Irh, Iri, Irj, Irk, Irl, Irm, Irn, Iro, Irp, Irq, Nrr, Irs, dropK_eq, ix, d1, d2, d3, d4, d5, callX_known (C := C6) (g := 117) rfl, ft_call (C := C6) (g := 117) rfl, e36]
          exact Ends_plain rfl rfl
        | ok x =>
          obtain ⟨n, k⟩ := x
          rw [hr] at e36
          simp only [numV] at e36
          simp (disch := first | omega | simp only [go_sem, ↓reduceIte, Nra, Nrb, Nrc, Nrd, Nre, Nrf, Irg, Irh, Iri, Irj, Irk, Irl, Irm, Irn, Iro, Irp, Irq, Nrr, Irs, dropK_eq]) only [x93b, go_sem, ↓reduceIte, Nra, Nrb, Nrc, Nrd, Nre, Nrf, Irg, Irh, Iri, Irj, Irk, Irl, Irm, Irn, Iro, Irp, Irq, Nrr, Irs, dropK_eq, ix, d1, d2, d3, d4, callX_known (C := C6) (g := 117) rfl, ft_call (C := C6) (g := 117) rfl, e36]
          exact Ends_plain rfl rfl
      · have d4 := decide_eq_false h45
        have hdg : digB (s.getD i 0) := by
          rcases hn with h | h
          · exact absurd h h45
          · exact h
        rw [show decide (digi ((s.getD i 0).toNat : Int)) = true from decide_eq_true hdg] at e35
        cases hr : numR (s.drop i) with
        | error e =>
          have d5 := decide_eq_true (numR_err hr)
          rw [hr] at e36
          simp only [numV] at e36
          simp (disch := first | omega | simp only [go_sem, ↓reduceIte, Nra, Nrb, Nrc, Nrd, Nre, Nrf, Irg, Irh, Iri, Irj, Irk, Irl, Irm, Irn, Iro, Irp, Irq, Nrr, Irs, dropK_eq]) only [x93b, go_sem, ↓reduceIte, Nra, Nrb, Nrc, Nrd, Nre, Nrf, Irg, Irh, Iri, Irj, Irk, Irl, Irm, Irn, Iro, Irp, Irq, Nrr, Irs, dropK_eq, ix, d1, d2, d3, d4, d5, callX_known (C := C6) (g := 117) rfl, ft_call (C := C6) (g := 117) rfl, callX_known (C := C6) (g := 116) rfl, ft_call (C := C6) (g := 116) rfl, e36, e35]
          exact Ends_plain rfl rfl
        | ok x =>
          obtain ⟨n, k⟩ := x
          rw [hr] at e36
          simp only [numV] at e36
          simp (disch := first | omega | simp only [go_sem, ↓reduceIte, Nra, Nrb, Nrc, Nrd, Nre, Nrf, Irg, Irh, Iri, Irj, Irk, Irl, Irm, Irn, Iro, Irp, Irq, Nrr, Irs, dropK_eq]) only [x93b, go_sem, ↓reduceIte, Nra, Nrb, Nrc, Nrd, Nre, Nrf, Irg, Irh, Iri, Irj, Irk, Irl, Irm, Irn, Iro, Irp, Irq, Nrr, Irs, dropK_eq, ix, d1, d2, d3, d4, callX_known (C := C6) (g := 117) rfl, ft_call (C := C6) (g := 117) rfl, callX_known (C := C6) (g := 116) rfl, ft_call (C := C6) (g := 116) rfl, e36, e35]
          exact Ends_plain rfl rfl
    · have d4 := decide_eq_false (fun h => hn (.inl h))
      rw [show decide (digi ((s.getD i 0).toNat : Int)) = false from decide_eq_false (fun h => hn (.inr h))] at e35
      have ho : oneR (s.drop i) = if (s.drop i).takeWhile ltB = [] then .error 7 else if 12 < ((s.drop i).takeWhile ltB).length then .error 2
          else .ok (⟨1, (s.drop i).takeWhile ltB, 0, 0⟩, ((s.drop i).takeWhile ltB).length) := by rw [hdc, oneR, if_neg hb, if_neg hn]
      rw [ho]
      simp (disch := first | omega | simp only [go_sem, ↓reduceIte, Nra, Nrb, Nrc, Nrd, Nre, Nrf, Irg, Irh, Iri, Irj, Irk, Irl, Irm, Irn, Iro, Irp, Irq, Nrr, Irs, dropK_eq]) only [x93b, go_sem, ↓reduceIte, Nra, Nrb, Nrc, Nrd, Nre, Nrf, Irg, Irh, Iri, Irj, Irk, Irl, Irm, Irn, Iro, Irp, Irq, Nrr, Irs, dropK_eq, ix, d1, d2, d3, d4, callX_known (C := C6) (g := 116) rfl, ft_call (C := C6) (g := 116) rfl, e35]
      refine loop22 (fr := i) hs (by omega) ?_ ?_ ?_
      · simp only [go_sem, ↓reduceIte, Nra, Nrb, Nrc, Nrd, Nre, Nrf, Irg, Irh, Iri, Irj, Irk, Irl, Irm, Irn, Iro, Irp, Irq, Nrr, Irs, dropK_eq]
      · simp only [go_sem, ↓reduceIte, Nra, Nrb, Nrc, Nrd, Nre, Nrf, Irg, Irh, Iri, Irj, Irk, Irl, Irm, Irn, Iro, Irp, Irq, Nrr, Irs, dropK_eq]
      intro tm nc q0 q1 q4 k12
      simp only [go_sem, ↓reduceIte, Nra, Nrb, Nrc, Nrd, Nre, Nrf, Irg, Irh, Iri, Irj, Irk, Irl, Irm, Irn, Iro, Irp, Irq, Nrr, Irs, dropK_eq] at q0 q1 q4
      have hpre := List.takeWhile_prefix (l := s.drop i) ltB
      generalize hds : (s.drop i).takeWhile ltB = w at *
      have hwl : w.length ≤ (s.drop i).length := hpre.length_le
      rw [List.length_drop] at hwl
      by_cases h0 : w = []
      · have d6 : decide (((i + w.length : Nat) : Int) = (i : Int)) = true := decide_eq_true (by rw [h0]; simp)
        rw [if_pos h0]
        simp (disch := first | omega | simp only [go_sem, ↓reduceIte, Nra, Nrb, Nrc, Nrd, Nre, Nrf, Irg, Irh, Iri, Irj, Irk, Irl, Irm, Irn, Iro, Irp, Irq, Nrr, Irs, dropK_eq]) only [go_sem, ↓reduceIte, Nra, Nrb, Nrc, Nrd, Nre, Nrf, Irg, Irh, Iri, Irj, Irk, Irl, Irm, Irn, Iro, Irp, Irq, Nrr, Irs, dropK_eq, q0, q1, q4, k12, d6]
        exact Ends_plain rfl rfl
      · have hw := List.length_pos_iff.2 h0
        have d6 : decide (((i + w.length : Nat) : Int) = (i : Int)) = false := decide_eq_false (by omega)
        rw [if_neg h0]
        by_cases h12 : 12 < w.length
        · have d7 : decide ((i : Int) + 12 < ((i + w.length : Nat) : Int)) = true := decide_eq_true (by omega)
          rw [if_pos h12]
          simp (disch := first | omega | simp only [go_sem, ↓reduceIte, Nra, Nrb, Nrc, Nrd, Nre, Nrf, Irg, Irh, Iri, Irj, Irk, Irl, Irm, Irn, Iro, Irp, Irq, Nrr, Irs, dropK_eq]) only [go_sem, ↓reduceIte, Nra, Nrb, Nrc, Nrd, Nre, Nrf, Irg, Irh, Iri, Irj, Irk, Irl, Irm, Irn, Iro, Irp, Irq, Nrr, Irs, dropK_eq, q0, q1, q4, k12, d6, d7]
          exact Ends_plain rfl rfl
        · have d7 : decide ((i : Int) + 12 < ((i + w.length : Nat) : Int)) = false := decide_eq_false (by omega)
          rw [if_neg h12]
          have hsl := str_slice (l := s) (lo := i) (hi := i + w.length) (by omega) (by omega)
          rw [show i + w.length - i = w.length by omega] at hsl
          have ht : (s.drop i).take w.length = w := (List.prefix_iff_eq_take.1 hpre).symm
          rw [ht] at hsl
          simp (disch := first | omega | simp only [go_sem, ↓reduceIte, Nra, Nrb, Nrc, Nrd, Nre, Nrf, Irg, Irh, Iri, Irj, Irk, Irl, Irm, Irn, Iro, Irp, Irq, Nrr, Irs, dropK_eq]) only [go_sem, ↓reduceIte, Nra, Nrb, Nrc, Nrd, Nre, Nrf, Irg, Irh, Iri, Irj, Irk, Irl, Irm, Irn, Iro, Irp, Irq, Nrr, Irs, dropK_eq, q0, q1, q4, k12, d6, d7, hsl]
          refine Ends_plain rfl ?_
          simp only [oneV]
          congr 3
          congr 1
          omega
noncomputable def C7 : Cfg := C6.add 93 F93
theorem ok7 : CfgOk Tryz.prog C7 := ok6.add sound93
noncomputable def F71 : List AVal → Option AVal := pureF C7 1 71
theorem sound71 : Sound Tryz.prog 71 F71 := sound_self ok7 1 71
/-- A scan's answer; z: what an empty row is. -/
def scanV (z : List Tok → AVal) : Except (Nat × Int) (List Tok) → AVal
  | .error (i, e) => .tup [.nils, .int .i64 i, .int .i64 e]
  | .ok l => .tup [z l, .int .i64 0, .int .i64 0]
/-- A scan that has gone on. -/
def pre (l : List Tok) : Except (Nat × Int) (List Tok) → Except (Nat × Int) (List Tok)
  | .error x => .error x
  | .ok m => .ok (l ++ m)
theorem pre_nil (x : Except (Nat × Int) (List Tok)) : pre [] x = x := by cases x <;> rfl
theorem scan_step {r : List UInt8} {i k : Nat} {t : Tok} {l : List Tok} (h0 : r ≠ []) (h : blk r = 0) (h1 : oneR r = .ok (t, k)) : pre l (scan r i) = pre (l ++ [{ t with at' := i }]) (scan (r.drop k) (i + k)) := by
  rw [scan_one h0 h h1 (oneR_len h1).1]
  cases scan (r.drop k) (i + k) with
  | error x => rfl
  | ok m => simp [pre]
theorem own_ne {ss : List Nat} {es : Nat} {hp : Heap} {v : AVal} {xs : List AVal} (h : Own ss es hp v xs) (h0 : xs ≠ []) : v ≠ .nils := by
  rcases h with ⟨_, h⟩ | ⟨s, c, g, _, h, _⟩
  · exact absurd h h0
  · rw [h]; intro e; cases e
theorem own_slc {es : Nat} {v : AVal} {xs : List AVal} (h : v ≠ .nils) : sliceOf es v xs = .slc es xs := by
  cases v <;> first | rfl | exact absurd rfl h
abbrev text (s : List UInt8) : Except (Nat × Int) (List Tok) := if s.length ≤ 4000 then scan s 0 else .error (0, 2)
theorem F71_eq {s : List UInt8} (hs : s.length ≤ 100000) : F71 [sv s] = some (scanV (fun l => .slc 4 (l.map TK)) (text s)) := by
  unfold F71
  refine pureF_of (x := x71) rfl rfl ?_
  rw [x71_eq.1, x71_eq.2.1]
  by_cases h4 : s.length ≤ 4000
  · have d0 : decide ((4000 : Int) < (s.length : Int)) = false := decide_eq_false (by omega)
    unfold text
    rw [if_pos h4]
    simp (disch := first | omega | simp only [go_sem, ↓reduceIte, Nra, Nrb, Nrc, Nrd, Nre, Nrf, Irg, Irh, Iri, Irj, Irk, Irl, Irm, Irn, Iro, Irp, Irq, Nrr, Irs, dropK_eq]) only [x71b, go_sem, ↓reduceIte, Nra, Nrb, Nrc, Nrd, Nre, Nrf, Irg, Irh, Iri, Irj, Irk, Irl, Irm, Irn, Iro, Irp, Irq, Nrr, Irs, dropK_eq, d0]
    refine Ev_loopW (I := fun n tm hp nc => ∃ (i : Nat) (l : List Tok), i ≤ s.length ∧ n = s.length - i ∧ tm 6 = .int .i64 i ∧ l.length ≤ i ∧ scan s 0 = pre l (scan (s.drop i) i) ∧ Own [71003000, 71012003] 4 hp (tm 5) (l.map TK) ∧ tm 5 ≠ .nils) (n := s.length) ?_ (by omega) ?_
    · refine ⟨0, [], by omega, by omega, ?_⟩
      simp only [go_sem, ↓reduceIte, Nra, Nrb, Nrc, Nrd, Nre, Nrf, Irg, Irh, Iri, Irj, Irk, Irl, Irm, Irn, Iro, Irp, Irq, Nrr, Irs, dropK_eq, List.map_nil]
      refine ⟨(pre_nil _).symm, Own.sl (ss := [71003000, 71012003]) (by simp) rfl ?_, by simp⟩
      simp only [go_sem, ↓reduceIte, Nra, Nrb, Nrc, Nrd, Nre, Nrf, Irg, Irh, Iri, Irj, Irk, Irl, Irm, Irn, Iro, Irp, Irq, Nrr, Irs, dropK_eq]
    · rintro n tm hp nc hc ⟨i, l, hi, rfl, k6, hll, hsc, ho, h0⟩
      have k0 := hc 0 rfl; simp only [go_sem, ↓reduceIte, Nra, Nrb, Nrc, Nrd, Nre, Nrf, Irg, Irh, Iri, Irj, Irk, Irl, Irm, Irn, Iro, Irp, Irq, Nrr, Irs, dropK_eq] at k0
      rcases Nat.lt_or_ge i s.length with hlt | hge
      · have d1 : decide ((i : Int) < (s.length : Int)) = true := decide_eq_true (by omega)
        have e21 := F92_eq hlt hs
        have hne : s.drop i ≠ [] := fun h => by have := congrArg List.length h; simp at this; omega
        have hbl := blk_le (s.drop i)
        rw [List.length_drop] at hbl
        by_cases hb : 0 < blk (s.drop i)
        · have d2 : decide ((0 : Int) < ((blk (s.drop i) : Nat) : Int)) = true := decide_eq_true (by omega)
          simp (disch := first | omega | simp only [go_sem, ↓reduceIte, Nra, Nrb, Nrc, Nrd, Nre, Nrf, Irg, Irh, Iri, Irj, Irk, Irl, Irm, Irn, Iro, Irp, Irq, Nrr, Irs, dropK_eq]) only [x71l5, go_sem, ↓reduceIte, Nra, Nrb, Nrc, Nrd, Nre, Nrf, Irg, Irh, Iri, Irj, Irk, Irl, Irm, Irn, Iro, Irp, Irq, Nrr, Irs, dropK_eq, k0, k6, d1, callX_known (C := C7) (g := 92) rfl, ft_call (C := C7) (g := 92) rfl, e21, d2]
          refine ⟨s.length - (i + blk (s.drop i)), by omega, i + blk (s.drop i), l, by omega, rfl, by simp, by omega, ?_, ho, h0⟩
          rw [hsc, scan_blk hb, List.drop_drop]
        · have hb0 : blk (s.drop i) = 0 := by omega
          have d2 : decide ((0 : Int) < ((blk (s.drop i) : Nat) : Int)) = false := decide_eq_false (by omega)
          have e22 := F93_eq hlt hs
          cases hr : oneR (s.drop i) with
          | error e =>
            have d3 := decide_eq_true (oneR_err hr)
            rw [hr] at e22
            simp only [oneV] at e22
            simp (disch := first | omega | simp only [go_sem, ↓reduceIte, Nra, Nrb, Nrc, Nrd, Nre, Nrf, Irg, Irh, Iri, Irj, Irk, Irl, Irm, Irn, Iro, Irp, Irq, Nrr, Irs, dropK_eq]) only [x71l5, go_sem, ↓reduceIte, Nra, Nrb, Nrc, Nrd, Nre, Nrf, Irg, Irh, Iri, Irj, Irk, Irl, Irm, Irn, Iro, Irp, Irq, Nrr, Irs, dropK_eq, k0, k6, d1, callX_known (C := C7) (g := 92) rfl, ft_call (C := C7) (g := 92) rfl, callX_known (C := C7) (g := 93) rfl, ft_call (C := C7) (g := 93) rfl, e21, d2, e22, d3]
            refine Ends_plain rfl ?_
            rw [hsc, scan_bad hne hb0 hr]
            rfl
          | ok x =>
            obtain ⟨t, k⟩ := x
            rw [hr] at e22
            simp only [oneV] at e22
            have hk := oneR_len hr
            rw [List.length_drop] at hk
            obtain ⟨V, H, hA, hO⟩ := (ho.keep (hp' := upd (upd hp (71009007, nc + 1 + 1 + 1) (some (.var [.int .i64 0, sv [], .int .i64 0, .int .i64 0]))) (71009007, nc + 1 + 1 + 1) (some (.var [.int .i64 t.k, sv t.s, .int .i64 t.n, .int .i64 (i : Nat)]))) (fun k hk => by repeat rw [upd_ne _ _ (by rintro rfl; simp at hk)])).push (s0 := 71012003) (s1 := 71012002) (z := .agg [.int .i64 t.k, sv t.s, .int .i64 t.n, .int .i64 (i : Nat)]) (bytes := 40) (by simp) (by simp) (TK_plain _ { t with at' := i }) (TK_sc { t with at' := i }) (by simp; omega)
            simp (disch := first | omega | simp only [go_sem, ↓reduceIte, Nra, Nrb, Nrc, Nrd, Nre, Nrf, Irg, Irh, Iri, Irj, Irk, Irl, Irm, Irn, Iro, Irp, Irq, Nrr, Irs, dropK_eq]) only [x71l5, go_sem, ↓reduceIte, Nra, Nrb, Nrc, Nrd, Nre, Nrf, Irg, Irh, Iri, Irj, Irk, Irl, Irm, Irn, Iro, Irp, Irq, Nrr, Irs, dropK_eq, k0, k6, d1, callX_known (C := C7) (g := 92) rfl, ft_call (C := C7) (g := 92) rfl, callX_known (C := C7) (g := 93) rfl, ft_call (C := C7) (g := 93) rfl, e21, d2, e22, hA]
            refine ⟨s.length - (i + k), by omega, i + k, l ++ [{ t with at' := i }], by omega, rfl, by simp, by simp; omega, ?_, ?_, ?_⟩
            · rw [hsc, scan_step hne hb0 hr, List.drop_drop]
            · rw [List.map_append]; exact (hO _ _).1
            · exact own_ne (ss := [71003000, 71012003]) (hO _ _).1 (by simp)
      · obtain rfl : i = s.length := by omega
        have d1 : decide ((s.length : Int) < (s.length : Int)) = false := decide_eq_false (by omega)
        rw [List.drop_length, scan_nil] at hsc
        simp only [pre, List.append_nil] at hsc
        have hpl : ∀ d, plainL (d + 1) (l.map TK) = true := fun d => plainL_map _ (fun x => TK_plain d x) _
        have hl : ∀ d, lendV (d + 1 + 1) (tm 5) hp = some (sliceOf 4 (tm 5) (l.map TK)) := fun d => Own.lend ho (d + 1) (hpl d)
        rw [own_slc h0] at hl
        simp (disch := first | omega | simp only [*, go_sem, ↓reduceIte, Nra, Nrb, Nrc, Nrd, Nre, Nrf, Irg, Irh, Iri, Irj, Irk, Irl, Irm, Irn, Iro, Irp, Irq, Nrr, Irs, List.mem_cons, List.not_mem_nil, or_false, or_self]) only [x71l5, go_sem, ↓reduceIte, Nra, Nrb, Nrc, Nrd, Nre, Nrf, Irg, Irh, Iri, Irj, Irk, Irl, Irm, Irn, Iro, Irp, Irq, Nrr, Irs, k0, k6, d1]
        rw [hsc]
        rw [Ends_eq]
        simp (disch := first | omega | simp only [*, go_sem, ↓reduceIte, Nra, Nrb, Nrc, Nrd, Nre, Nrf, Irg, Irh, Iri, Irj, Irk, Irl, Irm, Irn, Iro, Irp, Irq, Nrr, Irs, List.mem_cons, List.not_mem_nil, or_false, or_self]) only [go_sem, ↓reduceIte, Nra, Nrb, Nrc, Nrd, Nre, Nrf, Irg, Irh, Iri, Irj, Irk, Irl, Irm, Irn, Iro, Irp, Irq, Nrr, Irs, hl]
        rfl
  · have d0 : decide ((4000 : Int) < (s.length : Int)) = true := decide_eq_true (by omega)
    unfold text
    rw [if_neg h4]
    simp (disch := first | omega | simp only [go_sem, ↓reduceIte, Nra, Nrb, Nrc, Nrd, Nre, Nrf, Irg, Irh, Iri, Irj, Irk, Irl, Irm, Irn, Iro, Irp, Irq, Nrr, Irs, dropK_eq]) only [x71b, go_sem, ↓reduceIte, Nra, Nrb, Nrc, Nrd, Nre, Nrf, Irg, Irh, Iri, Irj, Irk, Irl, Irm, Irn, Iro, Irp, Irq, Nrr, Irs, dropK_eq, d0]
    exact Ends_plain rfl rfl
/-- Nothing of a token goes on here. -/
def Stop (r : List UInt8) : Prop := ∀ b ∈ r.head?, ¬ letB b ∧ ¬ digB b
theorem tw_app {p : UInt8 → Bool} {w r : List UInt8} (hw : ∀ b ∈ w, p b = true) (hr : ∀ b ∈ r.head?, p b = false) : (w ++ r).takeWhile p = w := by
  rw [List.takeWhile_append_of_pos hw]
  cases r with
  | nil => simp
  | cons c r => rw [List.takeWhile_cons, if_neg (by rw [hr c (by simp)]; simp), List.append_nil]
theorem stop_let {r : List UInt8} (h : Stop r) : ∀ b ∈ r.head?, ltB b = false := fun b hb => decide_eq_false (h b hb).1
theorem stop_dig {r : List UInt8} (h : Stop r) : ∀ b ∈ r.head?, dgB b = false := fun b hb => decide_eq_false (h b hb).2
theorem one_word {w r : List UInt8} (hw : wordOk w) (hr : Stop r) : oneR (w ++ r) = .ok (⟨1, w, 0, 0⟩, w.length) ∧ blk (w ++ r) = 0 := by
  obtain ⟨h1, h2, h3⟩ := hw
  have ht := tw_app (p := ltB) (fun b hb => decide_eq_true (h1 b hb)) (stop_let hr)
  cases w with
  | nil => simp at h2
  | cons b w =>
    have hb := h1 b (by simp)
    simp only [letB, lett] at hb
    constructor
    · rw [List.cons_append] at ht ⊢
      rw [oneR, if_neg (by simp only [signB]; omega), if_neg (by simp only [digB, digi]; omega), ht, if_neg (by simp), if_neg (by omega)]
    · rw [List.cons_append, blk, if_neg (by simp only [spB]; omega), if_neg (by omega)]
theorem one_num {n : Int} {r : List UInt8} (hn : numOk n) (hr : Stop r) : oneR (its n ++ r) = .ok (⟨2, [], n, 0⟩, (its n).length) ∧ blk (its n ++ r) = 0 ∧ 1 ≤ (its n).length := by
  simp only [numOk] at hn
  have key : ∀ m : Nat, ((dd m) ++ r).takeWhile dgB = dd m := fun m => tw_app (fun b hb => decide_eq_true (dd_digs m b hb)) (stop_dig hr)
  by_cases h0 : n < 0
  · have e : its n = 45 :: dd n.natAbs := by unfold its Lib.itoa; rw [if_pos h0]
    have hbad : ¬ numBad true (dd n.natAbs) := by
      rintro (⟨h1, _⟩ | h1)
      · have := dd_head _ h1; omega
      · rw [dd_vl] at h1; omega
    rw [e]
    refine ⟨?_, rfl, by simp⟩
    rw [List.cons_append, oneR, if_neg (by simp [signB]), if_pos (.inl rfl), numR, if_pos (by rfl), key, numN, if_neg (dd_ne _), if_neg hbad, dd_vl]
    simp only [if_true, Except.ok.injEq, Prod.mk.injEq, Tok.mk.injEq, List.length_cons, true_and, and_true]
    omega
  · have e : its n = dd n.toNat := by unfold its Lib.itoa; rw [if_neg h0]
    have hbad : ¬ numBad false (dd n.toNat) := by
      rintro (⟨h1, h2 | h2⟩ | h1)
      · have := dd_head _ h1
        rw [this, dd_small (by decide)] at h2
        simp at h2
      · cases h2
      · rw [dd_vl] at h1; omega
    rw [e]
    have hk := key n.toNat
    have hdg := dd_digs n.toNat
    have hvl := dd_vl n.toNat
    have hne := dd_ne n.toNat
    generalize dd n.toNat = w at *
    cases w with
    | nil => exact absurd rfl hne
    | cons b w =>
      have hb := hdg b (by simp)
      simp only [digB, digi] at hb
      refine ⟨?_, ?_, by simp⟩
      · rw [List.cons_append] at hk ⊢
        rw [oneR, if_neg (by simp only [signB]; omega), if_pos (.inr (by simp only [digB, digi]; omega)), numR, if_neg (by omega), hk, numN, if_neg hne, if_neg hbad, hvl]
        simp only [Bool.false_eq_true, if_false, Except.ok.injEq, Prod.mk.injEq, Tok.mk.injEq, true_and, and_true]
        omega
      · rw [List.cons_append, blk, if_neg (by simp only [spB]; omega), if_neg (by omega)]
theorem one_txt {t : Tok} {r : List UInt8} (h : tokOk t) (hr : Stop r) : oneR (txt t ++ r) = .ok (at0 t, (txt t).length) ∧ blk (txt t ++ r) = 0 ∧ 1 ≤ (txt t).length := by
  obtain ⟨k, s, n, p⟩ := t
  simp only [tokOk] at h
  rcases h with ⟨rfl, hw, rfl⟩ | ⟨rfl, rfl, hn⟩ | ⟨hk, rfl, rfl⟩
  · obtain ⟨h1, h2⟩ := one_word hw hr
    exact ⟨h1, h2, hw.2.1⟩
  · obtain ⟨h1, h2, h3⟩ := one_num hn hr
    exact ⟨h1, h2, h3⟩
  · rcases hk with rfl | rfl | rfl
    · exact ⟨rfl, rfl, Nat.le_refl 1⟩
    · exact ⟨rfl, rfl, Nat.le_refl 1⟩
    · exact ⟨rfl, rfl, Nat.le_refl 1⟩
/-- Blanks. -/
def Bk (b : List UInt8) : Prop := (∀ r i, scan (b ++ r) i = scan r (i + b.length)) ∧ ∀ c ∈ b.head?, ¬ letB c ∧ ¬ digB c
def good : List (Tok × List UInt8) → Prop
  | [] => True
  | (t, b) :: ps => tokOk t ∧ Bk b ∧ (b = [] → ps = []) ∧ good ps
def lay : List (Tok × List UInt8) → List UInt8
  | [] => []
  | (t, b) :: ps => txt t ++ (b ++ lay ps)
def places : List (Tok × List UInt8) → Nat → List Tok
  | [], _ => []
  | (t, b) :: ps, i => { t with at' := i } :: places ps (i + (txt t).length + b.length)
theorem scan_lay : ∀ (ps : List (Tok × List UInt8)) (i : Nat), good ps → scan (lay ps) i = .ok (places ps i)
  | [], i, _ => scan_nil i
  | (t, b) :: ps, i, ⟨h1, h2, h3, h4⟩ => by
    have hst : Stop (b ++ lay ps) := by
      cases b with
      | nil => rw [h3 rfl]; intro c hc; simp [lay] at hc
      | cons c b => intro d hd; exact h2.2 d (by simpa using hd)
    obtain ⟨e1, e2, e3⟩ := one_txt h1 hst
    have hne : txt t ++ (b ++ lay ps) ≠ [] := fun h => by have := congrArg List.length h; simp only [List.length_append, List.length_nil] at this; omega
    rw [lay, scan_one hne e2 e1 (by omega), List.drop_left, h2.1, scan_lay ps _ h4]
    rfl
theorem places_at0 : ∀ (ps : List (Tok × List UInt8)) (i : Nat), (places ps i).map at0 = (ps.map (·.1)).map at0
  | [], i => rfl
  | (t, b) :: ps, i => by simp only [places, List.map_cons, places_at0 ps]; rfl
theorem txt_pos {t : Tok} (h : tokOk t) : 1 ≤ (txt t).length := (one_txt h (r := []) (fun b hb => by simp at hb)).2.2
theorem places_in : ∀ (ps : List (Tok × List UInt8)) (i : Nat), good ps → ∀ t ∈ places ps i, (i : Int) ≤ t.at' ∧ t.at' < (i + (lay ps).length : Nat)
  | [], i, _, t, ht => by simp [places] at ht
  | (u, b) :: ps, i, ⟨h1, h2, h3, h4⟩, t, ht => by
    have hp := txt_pos h1
    rw [places] at ht
    simp only [lay, List.length_append]
    rcases List.mem_cons.1 ht with rfl | ht
    · simp; omega
    · have := places_in ps _ h4 t ht
      omega
theorem places_rise : ∀ (ps : List (Tok × List UInt8)) (i : Nat), good ps → ∀ j (h : j + 1 < (places ps i).length), (places ps i)[j].at' + 2 ≤ (places ps i)[j + 1].at'
  | [], i, _, j, h => by simp [places] at h
  | (u, b) :: ps, i, ⟨h1, h2, h3, h4⟩, 0, h => by
    have hp := txt_pos h1
    simp only [places, List.getElem_cons_zero, List.getElem_cons_succ]
    have hps : ps ≠ [] := fun e => by rw [e] at h; simp [places] at h
    have hb : 1 ≤ b.length := by
      rcases Nat.lt_or_ge 0 b.length with h' | h'
      · exact h'
      · exact absurd (h3 (List.length_eq_zero_iff.1 (by omega))) hps
    have hl0 : 0 < (places ps (i + (txt u).length + b.length)).length := by simpa [places] using h
    have := places_in ps (i + (txt u).length + b.length) h4 ((places ps (i + (txt u).length + b.length))[0]'hl0) (List.getElem_mem _)
    omega
  | (u, b) :: ps, i, ⟨h1, h2, h3, h4⟩, j + 1, h => by
    simp only [places, List.getElem_cons_succ]
    exact places_rise ps _ h4 j (by simpa [places] using h)
/-- A text of tokens, as pairs. -/
def prs : List Tok → List (Tok × List UInt8)
  | [] => []
  | [t] => [(t, [])]
  | t :: u :: l => (t, [32]) :: prs (u :: l)
theorem prs_fst : ∀ l : List Tok, (prs l).map (·.1) = l
  | [] => rfl
  | [t] => rfl
  | t :: u :: l => by rw [prs, List.map_cons, prs_fst]
theorem prs_lay : ∀ l : List Tok, lay (prs l) = prt l
  | [] => rfl
  | [t] => by simp [prs, lay, prt, Lib.join_one]
  | t :: u :: l => by
    rw [prs, lay, prs_lay (u :: l)]
    simp [prt, Lib.join, List.intercalate]
theorem bk_one {c : UInt8} (h : spB c) : Bk [c] := by
  refine ⟨fun r i => ?_, fun d hd => ?_⟩
  · have hb : blk ([c] ++ r) = 1 := by rw [List.singleton_append, blk, if_pos h]
    rw [scan_blk (by omega), hb]
    rfl
  · simp at hd
    subst hd
    simp only [spB] at h
    simp only [letB, lett, digB, digi]
    omega
theorem bk_nil : Bk [] := ⟨fun r i => rfl, fun d hd => by simp at hd⟩
theorem prs_good : ∀ l : List Tok, allOk l → good (prs l)
  | [], _ => trivial
  | [t], h => ⟨h t (by simp), bk_nil, fun _ => rfl, trivial⟩
  | t :: u :: l, h => ⟨h t (by simp), bk_one (by decide), fun e => by simp at e, prs_good (u :: l) fun x hx => h x (by simp [hx])⟩
/-- What is printed is scanned as it was, but for places, which rise. -/
theorem back_scan {l : List Tok} (h : allOk l) (h4 : (prt l).length ≤ 4000) : ∃ m, text (prt l) = .ok m ∧ m.map at0 = l.map at0 ∧ (∀ t ∈ m, 0 ≤ t.at' ∧ t.at' < (prt l).length) ∧ ∀ j (h : j + 1 < m.length), m[j].at' + 2 ≤ m[j + 1].at' := by
  have hg := prs_good l h
  refine ⟨places (prs l) 0, ?_, ?_, ?_, ?_⟩
  · unfold text
    rw [if_pos h4, ← prs_lay, scan_lay _ _ hg]
  · rw [places_at0, prs_fst]
  · intro t ht
    have := places_in _ _ hg t ht
    rw [prs_lay] at this
    omega
  · exact places_rise _ _ hg

end Go.Proofs.YtaoodcnhmjokoaaGreatDoor.T
