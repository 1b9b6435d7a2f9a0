/-
  Alarms: keys, their order, states.
-/
import Derived.Test.YtkihpjehigmnpaaYA
set_option linter.unusedVariables false
set_option linter.unusedSimpArgs false
namespace Go.Proofs.Ytkihpjehigmnpaa
open Go Go.Xec
attribute [local go_sem] tm0 ne_eq not_false_eq_true List.length_append List.length_replicate List.replicate_succ List.replicate_zero Int.cast_ofNat_Int not_true_eq_false decide_true decide_false ite_self beq_self_eq_true Bool.true_beq Bool.false_beq Bool.not_true Bool.not_false
open Nat renaming reduceAdd → Nra, reduceMul → Nrb, reduceSub → Nrc, reduceLeDiff → Nrd, reduceLT → Nre, reduceEqDiff → Nrf, reducePow → Nrr
open Int renaming reduceLT → Irg, reduceLE → Irh, reduceAdd → Iri, reduceSub → Irj, reduceMul → Irk, reduceToNat → Irl, reducePow → Irm, reduceNe → Irn, reduceMod → Iro, reduceDiv → Irp, reduceEq → Irq, reduceNeg → Irs

set_option maxRecDepth 10000
structure Al where
  c : Int
  k : Int
  s : Int
  deriving DecidableEq
abbrev AK (a : Al) : AVal := .agg [.int .i64 a.c, .int .i64 a.k, .int .i64 a.s]
abbrev KV (c k : Int) : AVal := .agg [.int .i64 c, .int .i64 k]
abbrev RA (a : AVal) (l : List Al) : Prop := Rg 3 AK a l
theorem AK_plain (d : Nat) (a : Al) : plain (d + 1) (AK a) = true := rfl
theorem AK_sc (a : Al) : (cellsOf (AK a)).all isSc = true := rfl
theorem AK_noref : ∀ l : List Al, hasRefL (l.map AK) = false
  | [] => rfl
  | e :: l => by rw [List.map_cons, hasRefL_cons, AK_noref l]; rfl
abbrev kOk (c k : Int) : Prop := 0 ≤ c ∧ c ≤ 3 ∧ 0 ≤ k ∧ k ≤ 15
abbrev aOk (a : Al) : Prop := kOk a.c a.k ∧ 1 ≤ a.s ∧ a.s ≤ 2
def num (a : Al) : Int := 16 * a.c + a.k
def F22 : List AVal → Option AVal := pureF C0 1 22
theorem sound22 : Sound Try.prog 22 F22 := sound_self ok0 1 22
theorem F22_eq {c k : Int} : F22 [.agg [.int .i64 c, .int .i64 k]] = some (.bool (decide (kOk c k))) := by
  unfold F22
  refine pureF_of (x := x22) rfl rfl ?_
  rw [x22_eq.1, x22_eq.2.1]
  simp (disch := first | omega | simp only [go_sem, ↓reduceIte, Nra, Nrb, Nrc, Nrd, Nre, Nrf, Irg, Irh, Iri, Irj, Irk, Irl, Irm, Irn, Iro, Irp, Irq, Nrr, Irs, dropK_eq]) only [x22b, go_sem, ↓reduceIte, Nra, Nrb, Nrc, Nrd, Nre, Nrf, Irg, Irh, Iri, Irj, Irk, Irl, Irm, Irn, Iro, Irp, Irq, Nrr, Irs, dropK_eq]
  repeat' (first | refine Ends_plain rfl ?_ | (first | refine Gd_split_t (fun h => ?_) (fun h => ?_) | refine Gd_split_f (fun h => ?_) (fun h => ?_) | refine Cd_split (fun h => ?_) (fun h => ?_)) <;> (try simp (disch := first | omega | simp only [go_sem, ↓reduceIte, Nra, Nrb, Nrc, Nrd, Nre, Nrf, Irg, Irh, Iri, Irj, Irk, Irl, Irm, Irn, Iro, Irp, Irq, Nrr, Irs, dropK_eq]) only [*, go_sem, ↓reduceIte, Nra, Nrb, Nrc, Nrd, Nre, Nrf, Irg, Irh, Iri, Irj, Irk, Irl, Irm, Irn, Iro, Irp, Irq, Nrr, Irs, dropK_eq]))
  all_goals (congr 1; try simp only [Bool.not_eq_true', Bool.not_eq_false', decide_eq_true_eq, decide_eq_false_iff_not] at *)
  all_goals first | exact decide_eq_decide.2 (by simp only [kOk]; omega) | exact (decide_eq_false (by simp only [kOk]; omega)).symm | exact (decide_eq_true (by simp only [kOk]; omega)).symm
def F17 : List AVal → Option AVal := pureF C0 1 17
theorem sound17 : Sound Try.prog 17 F17 := sound_self ok0 1 17
theorem F17_eq {c k : Int} : F17 [.int .i64 c, .int .i64 k] = some (.bool (decide (kOk c k))) := by
  unfold F17
  refine pureF_of (x := x17) rfl rfl ?_
  rw [x17_eq.1, x17_eq.2.1]
  simp (disch := first | omega | simp only [go_sem, ↓reduceIte, Nra, Nrb, Nrc, Nrd, Nre, Nrf, Irg, Irh, Iri, Irj, Irk, Irl, Irm, Irn, Iro, Irp, Irq, Nrr, Irs, dropK_eq]) only [x17b, go_sem, ↓reduceIte, Nra, Nrb, Nrc, Nrd, Nre, Nrf, Irg, Irh, Iri, Irj, Irk, Irl, Irm, Irn, Iro, Irp, Irq, Nrr, Irs, dropK_eq]
  repeat' (first | refine Ends_plain rfl ?_ | (first | refine Gd_split_t (fun h => ?_) (fun h => ?_) | refine Gd_split_f (fun h => ?_) (fun h => ?_) | refine Cd_split (fun h => ?_) (fun h => ?_)) <;> (try simp (disch := first | omega | simp only [go_sem, ↓reduceIte, Nra, Nrb, Nrc, Nrd, Nre, Nrf, Irg, Irh, Iri, Irj, Irk, Irl, Irm, Irn, Iro, Irp, Irq, Nrr, Irs, dropK_eq]) only [*, go_sem, ↓reduceIte, Nra, Nrb, Nrc, Nrd, Nre, Nrf, Irg, Irh, Iri, Irj, Irk, Irl, Irm, Irn, Iro, Irp, Irq, Nrr, Irs, dropK_eq]))
  all_goals (congr 1; try simp only [Bool.not_eq_true', Bool.not_eq_false', decide_eq_true_eq, decide_eq_false_iff_not] at *)
  all_goals first | exact decide_eq_decide.2 (by simp only [kOk]; omega) | exact (decide_eq_false (by simp only [kOk]; omega)).symm | exact (decide_eq_true (by simp only [kOk]; omega)).symm
def F33 : List AVal → Option AVal := pureF C0 1 33
theorem sound33 : Sound Try.prog 33 F33 := sound_self ok0 1 33
theorem F33_eq {x : Int} : F33 [.int .i64 x] = some (.bool false) := by
  unfold F33
  refine pureF_of (x := x33) rfl rfl ?_
  rw [x33_eq.1, x33_eq.2.1]
  have d1 : decide (¬ x = x) = false := by simp
  simp (disch := first | omega | simp only [go_sem, ↓reduceIte, Nra, Nrb, Nrc, Nrd, Nre, Nrf, Irg, Irh, Iri, Irj, Irk, Irl, Irm, Irn, Iro, Irp, Irq, Nrr, Irs, dropK_eq]) only [x33b, go_sem, ↓reduceIte, Nra, Nrb, Nrc, Nrd, Nre, Nrf, Irg, Irh, Iri, Irj, Irk, Irl, Irm, Irn, Iro, Irp, Irq, Nrr, Irs, dropK_eq, d1]
  exact Ends_plain rfl rfl
def C1 : Cfg := ((C0.add 22 F22).add 17 F17).add 33 F33
theorem ok1 : CfgOk Try.prog C1 := ((ok0.add sound22).add sound17).add sound33
def cmpI (a b : Int) : Int := if a < b then -1 else if b < a then 1 else 0
def F30 : List AVal → Option AVal := pureF C1 1 30
theorem sound30 : Sound Try.prog 30 F30 := sound_self ok1 1 30
theorem F30_eq {a b : Int} : F30 [.int .i64 a, .int .i64 b] = some (.int .i64 (cmpI a b)) := by
  have e1 := F33_eq (x := a)
  have e2 := F33_eq (x := b)
  unfold F30 cmpI
  refine pureF_of (x := x30) rfl rfl ?_
  rw [x30_eq.1, x30_eq.2.1]
  by_cases h1 : a < b
  · have d1 := decide_eq_true h1
    rw [if_pos h1]
    simp (disch := first | omega | simp only [go_sem, ↓reduceIte, Nra, Nrb, Nrc, Nrd, Nre, Nrf, Irg, Irh, Iri, Irj, Irk, Irl, Irm, Irn, Iro, Irp, Irq, Nrr, Irs, dropK_eq]) only [x30b, go_sem, ↓reduceIte, Nra, Nrb, Nrc, Nrd, Nre, Nrf, Irg, Irh, Iri, Irj, Irk, Irl, Irm, Irn, Iro, Irp, Irq, Nrr, Irs, dropK_eq, d1, callX_known (C := C1) (g := 33) rfl, ft_call (C := C1) (g := 33) rfl, e1, e2]
    exact Ends_plain rfl rfl
  · have d1 := decide_eq_false h1
    rw [if_neg h1]
    by_cases h2 : b < a
    · have d2 := decide_eq_true h2
      rw [if_pos h2]
      simp (disch := first | omega | simp only [go_sem, ↓reduceIte, Nra, Nrb, Nrc, Nrd, Nre, Nrf, Irg, Irh, Iri, Irj, Irk, Irl, Irm, Irn, Iro, Irp, Irq, Nrr, Irs, dropK_eq]) only [x30b, go_sem, ↓reduceIte, Nra, Nrb, Nrc, Nrd, Nre, Nrf, Irg, Irh, Iri, Irj, Irk, Irl, Irm, Irn, Iro, Irp, Irq, Nrr, Irs, dropK_eq, d1, d2, callX_known (C := C1) (g := 33) rfl, ft_call (C := C1) (g := 33) rfl, e1, e2]
      exact Ends_plain rfl rfl
    · have d2 := decide_eq_false h2
      rw [if_neg h2]
      simp (disch := first | omega | simp only [go_sem, ↓reduceIte, Nra, Nrb, Nrc, Nrd, Nre, Nrf, Irg, Irh, Iri, Irj, Irk, Irl, Irm, Irn, Iro, Irp, Irq, Nrr, Irs, dropK_eq]) only [x30b, go_sem, ↓reduceIte, Nra, Nrb, Nrc, Nrd, Nre, Nrf, Irg, Irh, Iri, Irj, Irk, Irl, Irm, Irn, Iro, Irp, Irq, Nrr, Irs, dropK_eq, d1, d2, callX_known (C := C1) (g := 33) rfl, ft_call (C := C1) (g := 33) rfl, e1, e2]
      exact Ends_plain rfl rfl
def C2 : Cfg := C1.add 30 F30
theorem ok2 : CfgOk Try.prog C2 := ok1.add sound30
/-- The first that is not nought, of two. -/
def F29 : List AVal → Option AVal := pureF C2 1 29
theorem sound29 : Sound Try.prog 29 F29 := sound_self ok2 1 29
theorem F29_eq {a b : Int} : F29 [.slc 1 [.int .i64 a, .int .i64 b]] = some (.int .i64 (if a = 0 then b else a)) := by
  have hl := (Rg.slc (es := 1) (enc := AVal.int .i64) [a, b]).len
  have h0 : iaSA 1 (.slc 1 [.int .i64 a, .int .i64 b]) (.int .i64 0) = some (.pvo (cellsOf (.int .i64 a)) 0) := rfl
  have h1 : iaSA 1 (.slc 1 [.int .i64 a, .int .i64 b]) (.int .i64 1) = some (.pvo (cellsOf (.int .i64 b)) 0) := rfl
  simp only [List.map_cons, List.map_nil, List.length_cons, List.length_nil] at hl
  unfold F29
  refine pureF_of (x := x29) rfl rfl ?_
  rw [x29_eq.1, x29_eq.2.1]
  simp (disch := first | omega | simp only [go_sem, ↓reduceIte, Nra, Nrb, Nrc, Nrd, Nre, Nrf, Irg, Irh, Iri, Irj, Irk, Irl, Irm, Irn, Iro, Irp, Irq, Nrr, Irs, dropK_eq]) only [x29b, go_sem, ↓reduceIte, Nra, Nrb, Nrc, Nrd, Nre, Nrf, Irg, Irh, Iri, Irj, Irk, Irl, Irm, Irn, Iro, Irp, Irq, Nrr, Irs, dropK_eq, hl]
  refine Ev_range (ti := 8) (len := 2) (J := fun i tm hp nc => (1 ≤ i → a = 0) ∧ (2 ≤ i → b = 0)) (by omega) (by simp only [go_sem, ↓reduceIte, Nra, Nrb, Nrc, Nrd, Nre, Nrf, Irg, Irh, Iri, Irj, Irk, Irl, Irm, Irn, Iro, Irp, Irq, Nrr, Irs, dropK_eq]) ⟨by omega, by omega⟩ ?_
  rintro i tm hp nc hi hc k8 ⟨hj, hj2⟩
  have k3 := hc 3 rfl; have k6 := hc 6 rfl; have k7 := hc 7 rfl; simp only [go_sem, ↓reduceIte, Nra, Nrb, Nrc, Nrd, Nre, Nrf, Irg, Irh, Iri, Irj, Irk, Irl, Irm, Irn, Iro, Irp, Irq, Nrr, Irs, dropK_eq] at k3 k6 k7
  match i, hi, hj, hj2, k8 with
  | 0, _, _, _, k8 =>
    by_cases h : a = 0
    · have d2 : decide (¬ a = 0) = false := decide_eq_false (fun e => e h)
      simp (disch := first | omega | simp only [go_sem, ↓reduceIte, Nra, Nrb, Nrc, Nrd, Nre, Nrf, Irg, Irh, Iri, Irj, Irk, Irl, Irm, Irn, Iro, Irp, Irq, Nrr, Irs, dropK_eq]) only [x29l3, go_sem, ↓reduceIte, Nra, Nrb, Nrc, Nrd, Nre, Nrf, Irg, Irh, Iri, Irj, Irk, Irl, Irm, Irn, Iro, Irp, Irq, Nrr, Irs, dropK_eq, k3, k6, k7, k8, h0, d2]
      exact ⟨fun _ => h, by intro e; first | exact e.elim | (exfalso; omega)⟩
    · have d2 : decide (¬ a = 0) = true := decide_eq_true h
      rw [if_neg h]
      simp (disch := first | omega | simp only [go_sem, ↓reduceIte, Nra, Nrb, Nrc, Nrd, Nre, Nrf, Irg, Irh, Iri, Irj, Irk, Irl, Irm, Irn, Iro, Irp, Irq, Nrr, Irs, dropK_eq]) only [x29l3, go_sem, ↓reduceIte, Nra, Nrb, Nrc, Nrd, Nre, Nrf, Irg, Irh, Iri, Irj, Irk, Irl, Irm, Irn, Iro, Irp, Irq, Nrr, Irs, dropK_eq, k3, k6, k7, k8, h0, d2]
      exact Ends_plain rfl rfl
  | 1, _, hj, _, k8 =>
    rw [if_pos (hj (by omega))]
    by_cases h : b = 0
    · have d2 : decide (¬ b = 0) = false := decide_eq_false (fun e => e h)
      simp (disch := first | omega | simp only [go_sem, ↓reduceIte, Nra, Nrb, Nrc, Nrd, Nre, Nrf, Irg, Irh, Iri, Irj, Irk, Irl, Irm, Irn, Iro, Irp, Irq, Nrr, Irs, dropK_eq]) only [x29l3, go_sem, ↓reduceIte, Nra, Nrb, Nrc, Nrd, Nre, Nrf, Irg, Irh, Iri, Irj, Irk, Irl, Irm, Irn, Iro, Irp, Irq, Nrr, Irs, dropK_eq, k3, k6, k7, k8, h1, d2]
      exact ⟨fun _ => hj (by omega), fun _ => h⟩
    · have d2 : decide (¬ b = 0) = true := decide_eq_true h
      simp (disch := first | omega | simp only [go_sem, ↓reduceIte, Nra, Nrb, Nrc, Nrd, Nre, Nrf, Irg, Irh, Iri, Irj, Irk, Irl, Irm, Irn, Iro, Irp, Irq, Nrr, Irs, dropK_eq]) only [x29l3, go_sem, ↓reduceIte, Nra, Nrb, Nrc, Nrd, Nre, Nrf, Irg, Irh, Iri, Irj, Irk, Irl, Irm, Irn, Iro, Irp, Irq, Nrr, Irs, dropK_eq, k3, k6, k7, k8, h1, d2]
      exact Ends_plain rfl rfl
  | 2, _, hj, hj2, k8 =>
    rw [if_pos (hj (by omega)), hj2 (by omega)]
    simp (disch := first | omega | simp only [go_sem, ↓reduceIte, Nra, Nrb, Nrc, Nrd, Nre, Nrf, Irg, Irh, Iri, Irj, Irk, Irl, Irm, Irn, Iro, Irp, Irq, Nrr, Irs, dropK_eq]) only [x29l3, go_sem, ↓reduceIte, Nra, Nrb, Nrc, Nrd, Nre, Nrf, Irg, Irh, Iri, Irj, Irk, Irl, Irm, Irn, Iro, Irp, Irq, Nrr, Irs, dropK_eq, k3, k6, k7, k8]
    exact Ends_plain rfl rfl
def C3 : Cfg := C2.add 29 F29
theorem ok3 : CfgOk Try.prog C3 := ok2.add sound29
/-- The order. -/
def ordA (a b : Al) : Int := if cmpI a.c b.c = 0 then cmpI a.k b.k else cmpI a.c b.c
def F27 : List AVal → Option AVal := pureF C3 1 27
theorem sound27 : Sound Try.prog 27 F27 := sound_self ok3 1 27
theorem F27_eq {a b : Al} : F27 [AK a, AK b] = some (.int .i64 (ordA a b)) := by
  have e1 := F30_eq (a := a.c) (b := b.c)
  have e2 := F30_eq (a := a.k) (b := b.k)
  have e3 := F29_eq (a := cmpI a.c b.c) (b := cmpI a.k b.k)
  unfold F27 ordA
  refine pureF_of (x := x27) rfl rfl ?_
  rw [x27_eq.1, x27_eq.2.1]
  simp (disch := first | omega | simp only [go_sem, ↓reduceIte, Nra, Nrb, Nrc, Nrd, Nre, Nrf, Irg, Irh, Iri, Irj, Irk, Irl, Irm, Irn, Iro, Irp, Irq, Nrr, Irs, dropK_eq]) only [x27b, go_sem, ↓reduceIte, Nra, Nrb, Nrc, Nrd, Nre, Nrf, Irg, Irh, Iri, Irj, Irk, Irl, Irm, Irn, Iro, Irp, Irq, Nrr, Irs, dropK_eq, callX_known (C := C3) (g := 30) rfl, ft_call (C := C3) (g := 30) rfl, callX_names (C := C3) (g := 29) rfl, ftC_names (C := C3) (g := 29) rfl, e1, e2, e3]
  exact Ends_plain rfl rfl
theorem ordA_num {a b : Al} (ha : kOk a.c a.k) (hb : kOk b.c b.k) : ordA a b < 0 ↔ num a < num b := by
  simp only [kOk] at ha hb
  unfold ordA cmpI num
  repeat' split
  all_goals omega
/-- What state one is in. -/
def stL : List Al → Int → Int → Int
  | [], _, _ => 0
  | a :: l, c, k => if a.c = c ∧ a.k = k then a.s else stL l c k
theorem stL_drop {l : List Al} {i : Nat} (h : i < l.length) (c k : Int) : stL (l.drop i) c k = if l[i].c = c ∧ l[i].k = k then l[i].s else stL (l.drop (i + 1)) c k := by
  rw [List.drop_eq_getElem_cons h]
  rfl
def F9 : List AVal → Option AVal := pureF C0 1 9
theorem sound9 : Sound Try.prog 9 F9 := sound_self ok0 1 9
theorem F9_eq {a : AVal} {l : List Al} {c k : Int} (ha : RA a l) (hl : l.length ≤ 100000) : F9 [a, .int .i64 c, .int .i64 k] = some (.int .i64 (stL l c k)) := by
  unfold F9
  refine pureF_of (x := x9) rfl rfl ?_
  rw [x9_eq.1, x9_eq.2.1]
  simp (disch := first | omega | simp only [go_sem, ↓reduceIte, Nra, Nrb, Nrc, Nrd, Nre, Nrf, Irg, Irh, Iri, Irj, Irk, Irl, Irm, Irn, Iro, Irp, Irq, Nrr, Irs, dropK_eq]) only [x9b, go_sem, ↓reduceIte, Nra, Nrb, Nrc, Nrd, Nre, Nrf, Irg, Irh, Iri, Irj, Irk, Irl, Irm, Irn, Iro, Irp, Irq, Nrr, Irs, dropK_eq, ha.len]
  refine Ev_range (ti := 11) (len := l.length) (J := fun i tm hp nc => stL l c k = stL (l.drop i) c k) (by omega) (by simp only [go_sem, ↓reduceIte, Nra, Nrb, Nrc, Nrd, Nre, Nrf, Irg, Irh, Iri, Irj, Irk, Irl, Irm, Irn, Iro, Irp, Irq, Nrr, Irs, dropK_eq]) rfl ?_
  rintro i tm hp nc hi hc k11 hj
  have k0 := hc 0 rfl; have k1 := hc 1 rfl; have k2 := hc 2 rfl; have k9 := hc 9 rfl; have k10 := hc 10 rfl; simp only [go_sem, ↓reduceIte, Nra, Nrb, Nrc, Nrd, Nre, Nrf, Irg, Irh, Iri, Irj, Irk, Irl, Irm, Irn, Iro, Irp, Irq, Nrr, Irs, dropK_eq] at k0 k1 k2 k9 k10
  rcases Nat.lt_or_ge i l.length with hlt | hge
  · have d1 : decide ((i : Int) < (l.length : Int)) = true := decide_eq_true (by omega)
    have ia := ha.ia hlt
    rw [stL_drop hlt] at hj
    by_cases h1 : l[i].c = c
    · have d2 := decide_eq_true h1
      by_cases h2 : l[i].k = k
      · have d3 := decide_eq_true h2
        rw [hj, if_pos ⟨h1, h2⟩]
        simp (disch := first | omega | simp only [go_sem, ↓reduceIte, Nra, Nrb, Nrc, Nrd, Nre, Nrf, Irg, Irh, Iri, Irj, Irk, Irl, Irm, Irn, Iro, Irp, Irq, Nrr, Irs, dropK_eq]) only [x9l2, go_sem, ↓reduceIte, Nra, Nrb, Nrc, Nrd, Nre, Nrf, Irg, Irh, Iri, Irj, Irk, Irl, Irm, Irn, Iro, Irp, Irq, Nrr, Irs, dropK_eq, k0, k1, k2, k9, k10, k11, d1, ia, d2, d3]
        exact Ends_plain rfl rfl
      · have d3 := decide_eq_false h2
        rw [if_neg (fun e => h2 e.2)] at hj
        simp (disch := first | omega | simp only [go_sem, ↓reduceIte, Nra, Nrb, Nrc, Nrd, Nre, Nrf, Irg, Irh, Iri, Irj, Irk, Irl, Irm, Irn, Iro, Irp, Irq, Nrr, Irs, dropK_eq]) only [x9l2, go_sem, ↓reduceIte, Nra, Nrb, Nrc, Nrd, Nre, Nrf, Irg, Irh, Iri, Irj, Irk, Irl, Irm, Irn, Iro, Irp, Irq, Nrr, Irs, dropK_eq, k0, k1, k2, k9, k10, k11, d1, ia, d2, d3]
        exact ⟨hlt, by simp, hj⟩
    · have d2 := decide_eq_false h1
      rw [if_neg (fun e => h1 e.1)] at hj
      simp (disch := first | omega | simp only [go_sem, ↓reduceIte, Nra, Nrb, Nrc, Nrd, Nre, Nrf, Irg, Irh, Iri, Irj, Irk, Irl, Irm, Irn, Iro, Irp, Irq, Nrr, Irs, dropK_eq]) only [x9l2, go_sem, ↓reduceIte, Nra, Nrb, Nrc, Nrd, Nre, Nrf, Irg, Irh, Iri, Irj, Irk, Irl, Irm, Irn, Iro, Irp, Irq, Nrr, Irs, dropK_eq, k0, k1, k2, k9, k10, k11, d1, ia, d2]
      exact ⟨hlt, by simp, hj⟩
  · obtain rfl : i = l.length := by omega
    have d1 : decide ((l.length : Int) < (l.length : Int)) = false := decide_eq_false (by omega)
    rw [List.drop_length] at hj
    rw [hj]
    simp (disch := first | omega | simp only [go_sem, ↓reduceIte, Nra, Nrb, Nrc, Nrd, Nre, Nrf, Irg, Irh, Iri, Irj, Irk, Irl, Irm, Irn, Iro, Irp, Irq, Nrr, Irs, dropK_eq]) only [x9l2, go_sem, ↓reduceIte, Nra, Nrb, Nrc, Nrd, Nre, Nrf, Irg, Irh, Iri, Irj, Irk, Irl, Irm, Irn, Iro, Irp, Irq, Nrr, Irs, dropK_eq, k0, k1, k2, k9, k10, k11, d1]
    exact Ends_plain rfl rfl
def F26 : List AVal → Option AVal := pureF C0 1 26
theorem sound26 : Sound Try.prog 26 F26 := sound_self ok0 1 26
theorem F26_eq {a : AVal} {l : List Al} {c k : Int} (ha : RA a l) (hl : l.length ≤ 100000) : F26 [a, .int .i64 c, .int .i64 k] = some (.int .i64 (stL l c k)) := by
  unfold F26
  refine pureF_of (x := x26) rfl rfl ?_
  rw [x26_eq.1, x26_eq.2.1]
  simp (disch := first | omega | simp only [go_sem, ↓reduceIte, Nra, Nrb, Nrc, Nrd, Nre, Nrf, Irg, Irh, Iri, Irj, Irk, Irl, Irm, Irn, Iro, Irp, Irq, Nrr, Irs, dropK_eq]) only [x26b, go_sem, ↓reduceIte, Nra, Nrb, Nrc, Nrd, Nre, Nrf, Irg, Irh, Iri, Irj, Irk, Irl, Irm, Irn, Iro, Irp, Irq, Nrr, Irs, dropK_eq, ha.len]
  refine Ev_range (ti := 11) (len := l.length) (J := fun i tm hp nc => stL l c k = stL (l.drop i) c k) (by omega) (by simp only [go_sem, ↓reduceIte, Nra, Nrb, Nrc, Nrd, Nre, Nrf, Irg, Irh, Iri, Irj, Irk, Irl, Irm, Irn, Iro, Irp, Irq, Nrr, Irs, dropK_eq]) rfl ?_
  rintro i tm hp nc hi hc k11 hj
  have k0 := hc 0 rfl; have k1 := hc 1 rfl; have k2 := hc 2 rfl; have k9 := hc 9 rfl; have k10 := hc 10 rfl; simp only [go_sem, ↓reduceIte, Nra, Nrb, Nrc, Nrd, Nre, Nrf, Irg, Irh, Iri, Irj, Irk, Irl, Irm, Irn, Iro, Irp, Irq, Nrr, Irs, dropK_eq] at k0 k1 k2 k9 k10
  rcases Nat.lt_or_ge i l.length with hlt | hge
  · have d1 : decide ((i : Int) < (l.length : Int)) = true := decide_eq_true (by omega)
    have ia := ha.ia hlt
    rw [stL_drop hlt] at hj
    by_cases h1 : l[i].c = c
    · have d2 := decide_eq_true h1
      by_cases h2 : l[i].k = k
      · have d3 := decide_eq_true h2
        rw [hj, if_pos ⟨h1, h2⟩]
        simp (disch := first | omega | simp only [go_sem, ↓reduceIte, Nra, Nrb, Nrc, Nrd, Nre, Nrf, Irg, Irh, Iri, Irj, Irk, Irl, Irm, Irn, Iro, Irp, Irq, Nrr, Irs, dropK_eq]) only [x26l2, go_sem, ↓reduceIte, Nra, Nrb, Nrc, Nrd, Nre, Nrf, Irg, Irh, Iri, Irj, Irk, Irl, Irm, Irn, Iro, Irp, Irq, Nrr, Irs, dropK_eq, k0, k1, k2, k9, k10, k11, d1, ia, d2, d3]
        exact Ends_plain rfl rfl
      · have d3 := decide_eq_false h2
        rw [if_neg (fun e => h2 e.2)] at hj
        simp (disch := first | omega | simp only [go_sem, ↓reduceIte, Nra, Nrb, Nrc, Nrd, Nre, Nrf, Irg, Irh, Iri, Irj, Irk, Irl, Irm, Irn, Iro, Irp, Irq, Nrr, Irs, dropK_eq]) only [x26l2, go_sem, ↓reduceIte, Nra, Nrb, Nrc, Nrd, Nre, Nrf, Irg, Irh, Iri, Irj, Irk, Irl, Irm, Irn, Iro, Irp, Irq, Nrr, Irs, dropK_eq, k0, k1, k2, k9, k10, k11, d1, ia, d2, d3]
        exact ⟨hlt, by simp, hj⟩
    · have d2 := decide_eq_false h1
      rw [if_neg (fun e => h1 e.1)] at hj
      simp (disch := first | omega | simp only [go_sem, ↓reduceIte, Nra, Nrb, Nrc, Nrd, Nre, Nrf, Irg, Irh, Iri, Irj, Irk, Irl, Irm, Irn, Iro, Irp, Irq, Nrr, Irs, dropK_eq]) only [x26l2, go_sem, ↓reduceIte, Nra, Nrb, Nrc, Nrd, Nre, Nrf, Irg, Irh, Iri, Irj, Irk, Irl, Irm, Irn, Iro, Irp, Irq, Nrr, Irs, dropK_eq, k0, k1, k2, k9, k10, k11, d1, ia, d2]
      exact ⟨hlt, by simp, hj⟩
  · obtain rfl : i = l.length := by omega
    have d1 : decide ((l.length : Int) < (l.length : Int)) = false := decide_eq_false (by omega)
    rw [List.drop_length] at hj
    rw [hj]
    simp (disch := first | omega | simp only [go_sem, ↓reduceIte, Nra, Nrb, Nrc, Nrd, Nre, Nrf, Irg, Irh, Iri, Irj, Irk, Irl, Irm, Irn, Iro, Irp, Irq, Nrr, Irs, dropK_eq]) only [x26l2, go_sem, ↓reduceIte, Nra, Nrb, Nrc, Nrd, Nre, Nrf, Irg, Irh, Iri, Irj, Irk, Irl, Irm, Irn, Iro, Irp, Irq, Nrr, Irs, dropK_eq, k0, k1, k2, k9, k10, k11, d1]
    exact Ends_plain rfl rfl
end Go.Proofs.Ytkihpjehigmnpaa
