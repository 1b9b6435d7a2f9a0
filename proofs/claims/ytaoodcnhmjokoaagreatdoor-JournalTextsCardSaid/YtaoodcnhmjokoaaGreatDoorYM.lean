/-
  Entries, journals: which may be.
-/
import Derived.Test.YtaoodcnhmjokoaaGreatDoorYT
import Derived.Test.YtaoodcnhmjokoaaGreatDoorYL
set_option linter.unusedVariables false
set_option linter.unusedSimpArgs false
namespace Go.Proofs.YtaoodcnhmjokoaaGreatDoor
open Go Go.Xec
attribute [local go_sem] tm0 ne_eq not_false_eq_true List.length_append List.length_replicate List.replicate_succ List.replicate_zero Int.cast_ofNat_Int not_true_eq_false decide_true decide_false ite_self beq_self_eq_true Bool.true_beq Bool.false_beq Bool.not_true Bool.not_false
open Nat renaming reduceAdd → Nra, reduceMul → Nrb, reduceSub → Nrc, reduceLeDiff → Nrd, reduceLT → Nre, reduceEqDiff → Nrf, reducePow → Nrr
open Int renaming reduceLT → Irg, reduceLE → Irh, reduceAdd → Iri, reduceSub → Irj, reduceMul → Irk, reduceToNat → Irl, reducePow → Irm, reduceNe → Irn, reduceMod → Iro, reduceDiv → Irp, reduceEq → Irq, reduceNeg → Irs

set_option maxRecDepth 10000
structure En where
  k : Int
  c : Int
  s : Int
  v : Int
  deriving DecidableEq
abbrev EK (e : En) : AVal := .agg [.int .i64 e.k, .int .i64 e.c, .int .i64 e.s, .int .i64 e.v]
abbrev RE (a : AVal) (l : List En) : Prop := Rg 4 EK a l
theorem EK_plain (d : Nat) (e : En) : plain (d + 1) (EK e) = true := rfl
theorem EK_sc (e : En) : (cellsOf (EK e)).all isSc = true := rfl
theorem EK_noref : ∀ l : List En, hasRefL (l.map EK) = false
  | [] => rfl
  | e :: l => by rw [List.map_cons, hasRefL_cons, EK_noref l]; rfl
abbrev enOk (e : En) : Prop := 1 ≤ e.k ∧ e.k ≤ 8 ∧ 0 ≤ e.c ∧ e.c ≤ 3 ∧ 0 ≤ e.s ∧ e.s ≤ 15 ∧ -1000000000 ≤ e.v ∧ e.v ≤ 1000000000
abbrev allEn (l : List En) : Prop := ∀ e ∈ l, enOk e
abbrev JV (cap first : Int) (a : AVal) : AVal := .agg [.int .i64 cap, .int .i64 first, a]
def F23 : List AVal → Option AVal := pureF C0 1 23
theorem sound23 : Sound Tryz.prog 23 F23 := sound_self ok0 1 23
theorem F23_eq {n lo hi : Int} : F23 [.int .i64 n, .int .i64 lo, .int .i64 hi] = some (.bool (decide (lo ≤ n ∧ n ≤ hi))) := by
  unfold F23
  refine pureF_of (x := x23) rfl rfl ?_
  rw [x23_eq.1, x23_eq.2.1]
  by_cases h1 : lo ≤ n
  · by_cases h2 : n ≤ hi
    · have d1 := decide_eq_true h1
      have d2 := decide_eq_true h2
      rw [decide_eq_true (show lo ≤ n ∧ n ≤ hi from ⟨h1, h2⟩)]
      simp (disch := first | omega | simp only [go_sem, ↓reduceIte, Nra, Nrb, Nrc, Nrd, Nre, Nrf, Irg, Irh, Iri, Irj, Irk, Irl, Irm, Irn, Iro, Irp, Irq, Nrr, Irs, dropK_eq]) only [x23b, go_sem, ↓reduceIte, Nra, Nrb, Nrc, Nrd, Nre, Nrf, Irg, Irh, Iri, Irj, Irk, Irl, Irm, Irn, Iro, Irp, Irq, Nrr, Irs, dropK_eq, d1, d2]
      exact Ends_plain rfl rfl
    · have d1 := decide_eq_true h1
      have d2 := decide_eq_false h2
      rw [decide_eq_false (fun h : lo ≤ n ∧ n ≤ hi => h2 h.2)]
      simp (disch := first | omega | simp only [go_sem, ↓reduceIte, Nra, Nrb, Nrc, Nrd, Nre, Nrf, Irg, Irh, Iri, Irj, Irk, Irl, Irm, Irn, Iro, Irp, Irq, Nrr, Irs, dropK_eq]) only [x23b, go_sem, ↓reduceIte, Nra, Nrb, Nrc, Nrd, Nre, Nrf, Irg, Irh, Iri, Irj, Irk, Irl, Irm, Irn, Iro, Irp, Irq, Nrr, Irs, dropK_eq, d1, d2]
      exact Ends_plain rfl rfl
  · have d1 := decide_eq_false h1
    rw [decide_eq_false (fun h : lo ≤ n ∧ n ≤ hi => h1 h.1)]
    simp (disch := first | omega | simp only [go_sem, ↓reduceIte, Nra, Nrb, Nrc, Nrd, Nre, Nrf, Irg, Irh, Iri, Irj, Irk, Irl, Irm, Irn, Iro, Irp, Irq, Nrr, Irs, dropK_eq]) only [x23b, go_sem, ↓reduceIte, Nra, Nrb, Nrc, Nrd, Nre, Nrf, Irg, Irh, Iri, Irj, Irk, Irl, Irm, Irn, Iro, Irp, Irq, Nrr, Irs, dropK_eq, d1]
    exact Ends_plain rfl rfl
def C1 : Cfg := C0.add 23 F23
theorem ok1 : CfgOk Tryz.prog C1 := ok0.add sound23
def F21 : List AVal → Option AVal := pureF C1 1 21
theorem sound21 : Sound Tryz.prog 21 F21 := sound_self ok1 1 21
theorem F21_eq {e : En} : F21 [EK e] = some (.bool (decide (enOk e))) := by
  obtain ⟨k, c, s, v⟩ := e
  unfold F21
  refine pureF_of (x := x21) rfl rfl ?_
  rw [x21_eq.1, x21_eq.2.1]
  simp (disch := first | omega | simp only [go_sem, ↓reduceIte, Nra, Nrb, Nrc, Nrd, Nre, Nrf, Irg, Irh, Iri, Irj, Irk, Irl, Irm, Irn, Iro, Irp, Irq, Nrr, Irs, dropK_eq]) only [x21b, go_sem, ↓reduceIte, Nra, Nrb, Nrc, Nrd, Nre, Nrf, Irg, Irh, Iri, Irj, Irk, Irl, Irm, Irn, Iro, Irp, Irq, Nrr, Irs, dropK_eq, callX_known (C := C1) (g := 23) rfl, ft_call (C := C1) (g := 23) rfl, F23_eq]
  repeat' (first | refine Ends_plain rfl ?_ | (first | refine Gd_split_t (fun h => ?_) (fun h => ?_) | refine Gd_split_f (fun h => ?_) (fun h => ?_) | refine Cd_split (fun h => ?_) (fun h => ?_)) <;> (try simp (disch := first | omega | simp only [go_sem, ↓reduceIte, Nra, Nrb, Nrc, Nrd, Nre, Nrf, Irg, Irh, Iri, Irj, Irk, Irl, Irm, Irn, Iro, Irp, Irq, Nrr, Irs, dropK_eq]) only [*, go_sem, ↓reduceIte, Nra, Nrb, Nrc, Nrd, Nre, Nrf, Irg, Irh, Iri, Irj, Irk, Irl, Irm, Irn, Iro, Irp, Irq, Nrr, Irs, dropK_eq, callX_known (C := C1) (g := 23) rfl, ft_call (C := C1) (g := 23) rfl, F23_eq]))
  all_goals (congr 1; try simp only [Bool.not_eq_true', Bool.not_eq_false', decide_eq_true_eq, decide_eq_false_iff_not] at *)
  all_goals first | exact decide_eq_decide.2 (by simp only [enOk]; omega) | exact (decide_eq_false (by simp only [enOk]; omega)).symm | exact (decide_eq_true (by simp only [enOk]; omega)).symm
def F14 : List AVal → Option AVal := pureF C1 1 14
theorem sound14 : Sound Tryz.prog 14 F14 := sound_self ok1 1 14
theorem F14_eq {e : En} : F14 [EK e] = some (.bool (decide (enOk e))) := by
  obtain ⟨k, c, s, v⟩ := e
  unfold F14
  refine pureF_of (x := x14) rfl rfl ?_
  rw [x14_eq.1, x14_eq.2.1]
  simp (disch := first | omega | simp only [go_sem, ↓reduceIte, Nra, Nrb, Nrc, Nrd, Nre, Nrf, Irg, Irh, Iri, Irj, Irk, Irl, Irm, Irn, Iro, Irp, Irq, Nrr, Irs, dropK_eq]) only [x14b, go_sem, ↓reduceIte, Nra, Nrb, Nrc, Nrd, Nre, Nrf, Irg, Irh, Iri, Irj, Irk, Irl, Irm, Irn, Iro, Irp, Irq, Nrr, Irs, dropK_eq]
  repeat' (first | refine Ends_plain rfl ?_ | (first | refine Gd_split_t (fun h => ?_) (fun h => ?_) | refine Gd_split_f (fun h => ?_) (fun h => ?_) | refine Cd_split (fun h => ?_) (fun h => ?_)) <;> (try simp (disch := first | omega | simp only [go_sem, ↓reduceIte, Nra, Nrb, Nrc, Nrd, Nre, Nrf, Irg, Irh, Iri, Irj, Irk, Irl, Irm, Irn, Iro, Irp, Irq, Nrr, Irs, dropK_eq]) only [*, go_sem, ↓reduceIte, Nra, Nrb, Nrc, Nrd, Nre, Nrf, Irg, Irh, Iri, Irj, Irk, Irl, Irm, Irn, Iro, Irp, Irq, Nrr, Irs, dropK_eq]))
  all_goals (congr 1; try simp only [Bool.not_eq_true', Bool.not_eq_false', decide_eq_true_eq, decide_eq_false_iff_not] at *)
  all_goals first | exact decide_eq_decide.2 (by simp only [enOk]; omega) | exact (decide_eq_false (by simp only [enOk]; omega)).symm | exact (decide_eq_true (by simp only [enOk]; omega)).symm
def C2 : Cfg := (C1.add 21 F21).add 14 F14
theorem ok2 : CfgOk Tryz.prog C2 := (ok1.add sound21).add sound14
def F25 : List AVal → Option AVal := pureF C2 1 25
theorem sound25 : Sound Tryz.prog 25 F25 := sound_self ok2 1 25
theorem F25_eq {e : En} : F25 [EK e] = some (.bool (!decide (enOk e))) := by
  unfold F25
  refine pureF_of (x := x25) rfl rfl ?_
  rw [x25_eq.1, x25_eq.2.1]
  simp (disch := first | omega | simp only [go_sem, ↓reduceIte, Nra, Nrb, Nrc, Nrd, Nre, Nrf, Irg, Irh, Iri, Irj, Irk, Irl, Irm, Irn, Iro, Irp, Irq, Nrr, Irs, dropK_eq]) only [x25b, go_sem, ↓reduceIte, Nra, Nrb, Nrc, Nrd, Nre, Nrf, Irg, Irh, Iri, Irj, Irk, Irl, Irm, Irn, Iro, Irp, Irq, Nrr, Irs, dropK_eq, callX_known (C := C2) (g := 21) rfl, ft_call (C := C2) (g := 21) rfl, F21_eq]
  exact Ends_plain rfl rfl
def C3 : Cfg := C2.add 25 F25
theorem ok3 : CfgOk Tryz.prog C3 := ok2.add sound25
/-- ContainsFunc, with the test of entries. -/
theorem index39 {d : Nat} {a : AVal} {l : List En} {hp : Heap} {nc : Nat} {K : AVal × Heap × Nat → Prop} (ha : RE a l) (hl : l.length ≤ 140737488355328)
    (hK : ∀ nc' (r : Int), decide (0 ≤ r) = decide (¬ allEn l) → K (.int .i64 r, hp, nc')) : Bd (inlD C3 (d + 1) 39 [a, .fn (.func 25) [] []] hp nc) K := by
  refine inl_of (x := x39) rfl rfl ?_
  rw [x39_eq.1, x39_eq.2.1]
  simp (disch := first | omega | simp only [go_sem, ↓reduceIte, Nra, Nrb, Nrc, Nrd, Nre, Nrf, Irg, Irh, Iri, Irj, Irk, Irl, Irm, Irn, Iro, Irp, Irq, Nrr, Irs, dropK_eq]) only [x39b, go_sem, ↓reduceIte, Nra, Nrb, Nrc, Nrd, Nre, Nrf, Irg, Irh, Iri, Irj, Irk, Irl, Irm, Irn, Iro, Irp, Irq, Nrr, Irs, dropK_eq, ha.len]
  refine Ev_rangeH (ti := 8) (len := l.length) (J := fun i tm => allEn (l.take i)) (by omega) (by simp only [go_sem, ↓reduceIte, Nra, Nrb, Nrc, Nrd, Nre, Nrf, Irg, Irh, Iri, Irj, Irk, Irl, Irm, Irn, Iro, Irp, Irq, Nrr, Irs, dropK_eq]) (by intro e he; simp at he) ?_
  intro i tm nc hi hc k8 hj
  have k0 := hc 0 rfl; have k1 := hc 1 rfl; have k7 := hc 7 rfl; simp only [go_sem, ↓reduceIte, Nra, Nrb, Nrc, Nrd, Nre, Nrf, Irg, Irh, Iri, Irj, Irk, Irl, Irm, Irn, Iro, Irp, Irq, Nrr, Irs, dropK_eq] at k0 k1 k7
  rcases Nat.lt_or_ge i l.length with hlt | hge
  · have d1 : decide ((i : Int) < (l.length : Int)) = true := decide_eq_true (by omega)
    have ia := ha.ia hlt
    have e25 := F25_eq (e := l[i])
    by_cases hk : enOk l[i]
    · rw [decide_eq_true hk] at e25
      simp (disch := first | omega | simp only [go_sem, ↓reduceIte, Nra, Nrb, Nrc, Nrd, Nre, Nrf, Irg, Irh, Iri, Irj, Irk, Irl, Irm, Irn, Iro, Irp, Irq, Nrr, Irs, dropK_eq]) only [x39l2, go_sem, ↓reduceIte, Nra, Nrb, Nrc, Nrd, Nre, Nrf, Irg, Irh, Iri, Irj, Irk, Irl, Irm, Irn, Iro, Irp, Irq, Nrr, Irs, dropK_eq, k0, k1, k7, k8, d1, ia, callX_known (C := C3) (g := 25) rfl, ft_call (C := C3) (g := 25) rfl, e25, Bool.not_true]
      refine ⟨hlt, by simp, ?_⟩
      rw [take_next hlt]
      intro e he
      rcases List.mem_append.1 he with he | he
      · exact hj e he
      · rw [List.mem_singleton.1 he]; exact hk
    · rw [decide_eq_false hk] at e25
      simp (disch := first | omega | simp only [go_sem, ↓reduceIte, Nra, Nrb, Nrc, Nrd, Nre, Nrf, Irg, Irh, Iri, Irj, Irk, Irl, Irm, Irn, Iro, Irp, Irq, Nrr, Irs, dropK_eq]) only [x39l2, go_sem, ↓reduceIte, Nra, Nrb, Nrc, Nrd, Nre, Nrf, Irg, Irh, Iri, Irj, Irk, Irl, Irm, Irn, Iro, Irp, Irq, Nrr, Irs, dropK_eq, k0, k1, k7, k8, d1, ia, callX_known (C := C3) (g := 25) rfl, ft_call (C := C3) (g := 25) rfl, e25, Bool.not_false]
      exact hK _ _ (by rw [decide_eq_true (show (0 : Int) ≤ (i : Int) by omega)]; exact (decide_eq_true (show ¬ allEn l from fun h => hk (h _ (List.getElem_mem hlt)))).symm)
  · obtain rfl : i = l.length := by omega
    have d1 : decide ((l.length : Int) < (l.length : Int)) = false := decide_eq_false (by omega)
    rw [List.take_length] at hj
    simp (disch := first | omega | simp only [go_sem, ↓reduceIte, Nra, Nrb, Nrc, Nrd, Nre, Nrf, Irg, Irh, Iri, Irj, Irk, Irl, Irm, Irn, Iro, Irp, Irq, Nrr, Irs, dropK_eq]) only [x39l2, go_sem, ↓reduceIte, Nra, Nrb, Nrc, Nrd, Nre, Nrf, Irg, Irh, Iri, Irj, Irk, Irl, Irm, Irn, Iro, Irp, Irq, Nrr, Irs, dropK_eq, k0, k1, k7, k8, d1]
    exact hK _ _ (by rw [decide_eq_false (show ¬ (0 : Int) ≤ -1 by decide)]; exact (decide_eq_false (show ¬ ¬ allEn l from fun h => h hj)).symm)
abbrev jOk (cap first : Int) (l : List En) : Prop := 1 ≤ cap ∧ cap ≤ 16 ∧ (l.length : Int) ≤ cap ∧ 0 ≤ first ∧ first + l.length ≤ 1000000000 ∧ (first = 0 ∨ (l.length : Int) = cap) ∧ allEn l
def F10 : List AVal → Option AVal := pureF C3 3 10
theorem sound10 : Sound Tryz.prog 10 F10 := sound_self ok3 3 10
theorem F10_eq {cap first : Int} {a : AVal} {l : List En} (ha : RE a l) (hl : l.length ≤ 100000) : F10 [JV cap first a] = some (.bool (decide (jOk cap first l))) := by
  have hsc := ha.sc
  have hcl := ha.cells
  have hlen := ha.len
  have e24 : ∀ {d : Nat} {hp : Heap} {nc : Nat} {K : AVal × Heap × Nat → Prop}, (∀ nc', K (.bool (decide (¬ allEn l)), hp, nc')) → Bd (inlD C3 (d + 2) 24 [a, .fn (.func 25) [] []] hp nc) K := by
    intro d hp nc K hK
    refine inl_of (x := x24) rfl rfl ?_
    rw [x24_eq.1, x24_eq.2.1]
    simp (disch := first | omega | simp only [go_sem, ↓reduceIte, Nra, Nrb, Nrc, Nrd, Nre, Nrf, Irg, Irh, Iri, Irj, Irk, Irl, Irm, Irn, Iro, Irp, Irq, Nrr, Irs, dropK_eq]) only [x24b, go_sem, ↓reduceIte, Nra, Nrb, Nrc, Nrd, Nre, Nrf, Irg, Irh, Iri, Irj, Irk, Irl, Irm, Irn, Iro, Irp, Irq, Nrr, Irs, dropK_eq, call_inl (C := C3) (g := 39) rfl]
    refine index39 ha (by omega) fun nc' r hr => ?_
    simp (disch := first | omega | simp only [go_sem, ↓reduceIte, Nra, Nrb, Nrc, Nrd, Nre, Nrf, Irg, Irh, Iri, Irj, Irk, Irl, Irm, Irn, Iro, Irp, Irq, Nrr, Irs, dropK_eq]) only [go_sem, ↓reduceIte, Nra, Nrb, Nrc, Nrd, Nre, Nrf, Irg, Irh, Iri, Irj, Irk, Irl, Irm, Irn, Iro, Irp, Irq, Nrr, Irs, dropK_eq, hr]
    exact hK _
  unfold F10
  refine pureF_of (x := x10) rfl rfl ?_
  rw [x10_eq.1, x10_eq.2.1]
  by_cases c1 : 1 ≤ cap ∧ cap ≤ 16
  · have d1 := decide_eq_true c1
    by_cases c2 : cap < (l.length : Int)
    · have d2 := decide_eq_true c2
      rw [decide_eq_false (fun h : jOk cap first l => by have := h.2.2.1; omega)]
      simp (disch := first | omega | simp only [go_sem, ↓reduceIte, Nra, Nrb, Nrc, Nrd, Nre, Nrf, Irg, Irh, Iri, Irj, Irk, Irl, Irm, Irn, Iro, Irp, Irq, Nrr, Irs, dropK_eq]) only [x10b, go_sem, ↓reduceIte, Nra, Nrb, Nrc, Nrd, Nre, Nrf, Irg, Irh, Iri, Irj, Irk, Irl, Irm, Irn, Iro, Irp, Irq, Nrr, Irs, dropK_eq, hsc, hcl, hlen, callX_known (C := C3) (g := 23) rfl, ft_call (C := C3) (g := 23) rfl, F23_eq, d1, d2]
      exact Ends_plain rfl rfl
    · have d2 := decide_eq_false c2
      by_cases c3 : 0 ≤ first ∧ first ≤ 1000000000 - (l.length : Int)
      · have d3 := decide_eq_true c3
        by_cases c4 : 0 < first
        · have d4 := decide_eq_true c4
          by_cases c5 : (l.length : Int) < cap
          · have d5 := decide_eq_true c5
            rw [decide_eq_false (fun h : jOk cap first l => by have := h.2.2.2.2.2.1; omega)]
            simp (disch := first | omega | simp only [go_sem, ↓reduceIte, Nra, Nrb, Nrc, Nrd, Nre, Nrf, Irg, Irh, Iri, Irj, Irk, Irl, Irm, Irn, Iro, Irp, Irq, Nrr, Irs, dropK_eq]) only [x10b, go_sem, ↓reduceIte, Nra, Nrb, Nrc, Nrd, Nre, Nrf, Irg, Irh, Iri, Irj, Irk, Irl, Irm, Irn, Iro, Irp, Irq, Nrr, Irs, dropK_eq, hsc, hcl, hlen, callX_known (C := C3) (g := 23) rfl, ft_call (C := C3) (g := 23) rfl, F23_eq, d1, d2, d3, d4, d5]
            exact Ends_plain rfl rfl
          · have d5 := decide_eq_false c5
            have e : decide (jOk cap first l) = !decide (¬ allEn l) := by
              by_cases h : allEn l
              · rw [decide_eq_true (show jOk cap first l from ⟨c1.1, c1.2, by omega, c3.1, by omega, by omega, h⟩), decide_eq_false (fun h' => h' h)]; rfl
              · rw [decide_eq_false (fun h' : jOk cap first l => h h'.2.2.2.2.2.2), decide_eq_true h]; rfl
            rw [e]
            simp (disch := first | omega | simp only [go_sem, ↓reduceIte, Nra, Nrb, Nrc, Nrd, Nre, Nrf, Irg, Irh, Iri, Irj, Irk, Irl, Irm, Irn, Iro, Irp, Irq, Nrr, Irs, dropK_eq]) only [x10b, go_sem, ↓reduceIte, Nra, Nrb, Nrc, Nrd, Nre, Nrf, Irg, Irh, Iri, Irj, Irk, Irl, Irm, Irn, Iro, Irp, Irq, Nrr, Irs, dropK_eq, hsc, hcl, hlen, callX_known (C := C3) (g := 23) rfl, ft_call (C := C3) (g := 23) rfl, F23_eq, d1, d2, d3, d4, d5, call_inl (C := C3) (g := 24) rfl]
            refine e24 fun nc' => ?_
            simp (disch := first | omega | simp only [go_sem, ↓reduceIte, Nra, Nrb, Nrc, Nrd, Nre, Nrf, Irg, Irh, Iri, Irj, Irk, Irl, Irm, Irn, Iro, Irp, Irq, Nrr, Irs, dropK_eq]) only [go_sem, ↓reduceIte, Nra, Nrb, Nrc, Nrd, Nre, Nrf, Irg, Irh, Iri, Irj, Irk, Irl, Irm, Irn, Iro, Irp, Irq, Nrr, Irs, dropK_eq]
            exact Ends_plain rfl rfl
        · have d4 := decide_eq_false c4
          have e : decide (jOk cap first l) = !decide (¬ allEn l) := by
            by_cases h : allEn l
            · rw [decide_eq_true (show jOk cap first l from ⟨c1.1, c1.2, by omega, c3.1, by omega, by omega, h⟩), decide_eq_false (fun h' => h' h)]; rfl
            · rw [decide_eq_false (fun h' : jOk cap first l => h h'.2.2.2.2.2.2), decide_eq_true h]; rfl
          rw [e]
          simp (disch := first | omega | simp only [go_sem, ↓reduceIte, Nra, Nrb, Nrc, Nrd, Nre, Nrf, Irg, Irh, Iri, Irj, Irk, Irl, Irm, Irn, Iro, Irp, Irq, Nrr, Irs, dropK_eq]) only [x10b, go_sem, ↓reduceIte, Nra, Nrb, Nrc, Nrd, Nre, Nrf, Irg, Irh, Iri, Irj, Irk, Irl, Irm, Irn, Iro, Irp, Irq, Nrr, Irs, dropK_eq, hsc, hcl, hlen, callX_known (C := C3) (g := 23) rfl, ft_call (C := C3) (g := 23) rfl, F23_eq, d1, d2, d3, d4, call_inl (C := C3) (g := 24) rfl]
          refine e24 fun nc' => ?_
          simp (disch := first | omega | simp only [go_sem, ↓reduceIte, Nra, Nrb, Nrc, Nrd, Nre, Nrf, Irg, Irh, Iri, Irj, Irk, Irl, Irm, Irn, Iro, Irp, Irq, Nrr, Irs, dropK_eq]) only [go_sem, ↓reduceIte, Nra, Nrb, Nrc, Nrd, Nre, Nrf, Irg, Irh, Iri, Irj, Irk, Irl, Irm, Irn, Iro, Irp, Irq, Nrr, Irs, dropK_eq]
          exact Ends_plain rfl rfl
      · have d3 := decide_eq_false c3
        rw [decide_eq_false (fun h : jOk cap first l => c3 ⟨h.2.2.2.1, by have := h.2.2.2.2.1; omega⟩)]
        simp (disch := first | omega | simp only [go_sem, ↓reduceIte, Nra, Nrb, Nrc, Nrd, Nre, Nrf, Irg, Irh, Iri, Irj, Irk, Irl, Irm, Irn, Iro, Irp, Irq, Nrr, Irs, dropK_eq]) only [x10b, go_sem, ↓reduceIte, Nra, Nrb, Nrc, Nrd, Nre, Nrf, Irg, Irh, Iri, Irj, Irk, Irl, Irm, Irn, Iro, Irp, Irq, Nrr, Irs, dropK_eq, hsc, hcl, hlen, callX_known (C := C3) (g := 23) rfl, ft_call (C := C3) (g := 23) rfl, F23_eq, d1, d2, d3]
        exact Ends_plain rfl rfl
  · have d1 := decide_eq_false c1
    rw [decide_eq_false (fun h : jOk cap first l => c1 ⟨h.1, h.2.1⟩)]
    simp (disch := first | omega | simp only [go_sem, ↓reduceIte, Nra, Nrb, Nrc, Nrd, Nre, Nrf, Irg, Irh, Iri, Irj, Irk, Irl, Irm, Irn, Iro, Irp, Irq, Nrr, Irs, dropK_eq]) only [x10b, go_sem, ↓reduceIte, Nra, Nrb, Nrc, Nrd, Nre, Nrf, Irg, Irh, Iri, Irj, Irk, Irl, Irm, Irn, Iro, Irp, Irq, Nrr, Irs, dropK_eq, hsc, hcl, hlen, callX_known (C := C3) (g := 23) rfl, ft_call (C := C3) (g := 23) rfl, F23_eq, d1]
    exact Ends_plain rfl rfl
end Go.Proofs.YtaoodcnhmjokoaaGreatDoor
