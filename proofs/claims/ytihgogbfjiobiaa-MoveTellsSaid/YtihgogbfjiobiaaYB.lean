/-
  Moves: which may be; steps; rows that are the same.
-/
import Derived.Test.YtihgogbfjiobiaaYA
set_option linter.unusedVariables false
set_option linter.unusedSimpArgs false
namespace Go.Proofs.Ytihgogbfjiobiaa
open Go Go.Xec
attribute [local go_sem] tm0 ne_eq not_false_eq_true List.length_append List.length_replicate List.replicate_succ List.replicate_zero Int.cast_ofNat_Int not_true_eq_false decide_true decide_false ite_self beq_self_eq_true Bool.true_beq Bool.false_beq Bool.not_true Bool.not_false
open Nat renaming reduceAdd → Nra, reduceMul → Nrb, reduceSub → Nrc, reduceLeDiff → Nrd, reduceLT → Nre, reduceEqDiff → Nrf, reducePow → Nrr
open Int renaming reduceLT → Irg, reduceLE → Irh, reduceAdd → Iri, reduceSub → Irj, reduceMul → Irk, reduceToNat → Irl, reducePow → Irm, reduceNe → Irn, reduceMod → Iro, reduceDiv → Irp, reduceEq → Irq, reduceNeg → Irs

set_option maxRecDepth 10000
abbrev MV (n l s : Int) : AVal := .agg [.int .i64 n, .int .i64 l, .int .i64 s]
abbrev xOk (x : Int) : Prop := -1000000 ≤ x ∧ x ≤ 1000000
abbrev allX (l : List Int) : Prop := ∀ x ∈ l, xOk x
abbrev mOk (n l s : Int) : Prop := (n = 0 ∧ l = 0 ∧ s = 0) ∨ (0 < n ∧ n ≤ 1000000000 ∧ xOk l ∧ 0 ≤ s ∧ s ≤ 2000000 * (n - 1))
abbrev RI (a : AVal) (l : List Int) : Prop := Rg 1 (AVal.int .i64) a l
def F18 : List AVal → Option AVal := pureF C0 1 18
theorem sound18 : Sound Try.prog 18 F18 := sound_self ok0 1 18
theorem F18_eq {x : Int} : F18 [.int .i64 x] = some (.bool (decide (xOk x))) := by
  unfold F18
  refine pureF_of (x := x18) rfl rfl ?_
  rw [x18_eq.1, x18_eq.2.1]
  simp (disch := first | omega | simp only [go_sem, ↓reduceIte, Nra, Nrb, Nrc, Nrd, Nre, Nrf, Irg, Irh, Iri, Irj, Irk, Irl, Irm, Irn, Iro, Irp, Irq, Nrr, Irs, dropK_eq]) only [x18b, go_sem, ↓reduceIte, Nra, Nrb, Nrc, Nrd, Nre, Nrf, Irg, Irh, Iri, Irj, Irk, Irl, Irm, Irn, Iro, Irp, Irq, Nrr, Irs, dropK_eq]
  repeat' (first | refine Ends_plain rfl ?_ | (first | refine Gd_split_t (fun h => ?_) (fun h => ?_) | refine Gd_split_f (fun h => ?_) (fun h => ?_) | refine Cd_split (fun h => ?_) (fun h => ?_)) <;> (try simp (disch := first | omega | simp only [go_sem, ↓reduceIte, Nra, Nrb, Nrc, Nrd, Nre, Nrf, Irg, Irh, Iri, Irj, Irk, Irl, Irm, Irn, Iro, Irp, Irq, Nrr, Irs, dropK_eq]) only [*, go_sem, ↓reduceIte, Nra, Nrb, Nrc, Nrd, Nre, Nrf, Irg, Irh, Iri, Irj, Irk, Irl, Irm, Irn, Iro, Irp, Irq, Nrr, Irs, dropK_eq]))
  all_goals (congr 1; try simp only [Bool.not_eq_true', Bool.not_eq_false', decide_eq_true_eq, decide_eq_false_iff_not] at *)
  all_goals first | exact decide_eq_decide.2 (by simp only [xOk]; omega) | exact (decide_eq_false (by simp only [xOk]; omega)).symm | exact (decide_eq_true (by simp only [xOk]; omega)).symm
def C1 : Cfg := C0.add 18 F18
theorem ok1 : CfgOk Try.prog C1 := ok0.add sound18
def F17 : List AVal → Option AVal := pureF C1 1 17
theorem sound17 : Sound Try.prog 17 F17 := sound_self ok1 1 17
theorem F17_eq {x : Int} : F17 [.int .i64 x] = some (.bool (!decide (xOk x))) := by
  unfold F17
  refine pureF_of (x := x17) rfl rfl ?_
  rw [x17_eq.1, x17_eq.2.1]
  simp (disch := first | omega | simp only [go_sem, ↓reduceIte, Nra, Nrb, Nrc, Nrd, Nre, Nrf, Irg, Irh, Iri, Irj, Irk, Irl, Irm, Irn, Iro, Irp, Irq, Nrr, Irs, dropK_eq]) only [x17b, go_sem, ↓reduceIte, Nra, Nrb, Nrc, Nrd, Nre, Nrf, Irg, Irh, Iri, Irj, Irk, Irl, Irm, Irn, Iro, Irp, Irq, Nrr, Irs, dropK_eq, callX_known (C := C1) (g := 18) rfl, ft_call (C := C1) (g := 18) rfl, F18_eq]
  exact Ends_plain rfl rfl
def F11 : List AVal → Option AVal := pureF C0 1 11
theorem sound11 : Sound Try.prog 11 F11 := sound_self ok0 1 11
theorem F11_eq {n l s : Int} (hn : -9223372036854775808 ≤ n ∧ n ≤ 9223372036854775807) : F11 [MV n l s] = some (.bool (decide (mOk n l s))) := by
  unfold F11
  refine pureF_of (x := x11) rfl rfl ?_
  rw [x11_eq.1, x11_eq.2.1]
  by_cases h0 : n = 0
  · have d0 := decide_eq_true h0
    simp (disch := first | omega | simp only [go_sem, ↓reduceIte, Nra, Nrb, Nrc, Nrd, Nre, Nrf, Irg, Irh, Iri, Irj, Irk, Irl, Irm, Irn, Iro, Irp, Irq, Nrr, Irs, dropK_eq]) only [x11b, go_sem, ↓reduceIte, Nra, Nrb, Nrc, Nrd, Nre, Nrf, Irg, Irh, Iri, Irj, Irk, Irl, Irm, Irn, Iro, Irp, Irq, Nrr, Irs, dropK_eq, d0]
    repeat' (first | refine Ends_plain rfl ?_ | (first | refine Gd_split_t (fun h => ?_) (fun h => ?_) | refine Gd_split_f (fun h => ?_) (fun h => ?_) | refine Cd_split (fun h => ?_) (fun h => ?_)) <;> (try simp (disch := first | omega | simp only [go_sem, ↓reduceIte, Nra, Nrb, Nrc, Nrd, Nre, Nrf, Irg, Irh, Iri, Irj, Irk, Irl, Irm, Irn, Iro, Irp, Irq, Nrr, Irs, dropK_eq]) only [*, go_sem, ↓reduceIte, Nra, Nrb, Nrc, Nrd, Nre, Nrf, Irg, Irh, Iri, Irj, Irk, Irl, Irm, Irn, Iro, Irp, Irq, Nrr, Irs, dropK_eq]))
    all_goals (congr 1; try simp only [decide_eq_true_eq, decide_eq_false_iff_not] at *)
    all_goals first | (rw [← Bool.decide_and]; exact decide_eq_decide.2 (by first | omega | (simp only [mOk]; omega))) | exact decide_eq_decide.2 (by first | omega | (simp only [mOk]; omega)) | exact (decide_eq_false (by first | omega | (simp only [mOk]; omega))).symm
  · have d0 := decide_eq_false h0
    by_cases h1 : 0 < n
    · have d1 := decide_eq_true h1
      by_cases h2 : n ≤ 1000000000
      · have d2 := decide_eq_true h2
        simp (disch := first | omega | simp only [go_sem, ↓reduceIte, Nra, Nrb, Nrc, Nrd, Nre, Nrf, Irg, Irh, Iri, Irj, Irk, Irl, Irm, Irn, Iro, Irp, Irq, Nrr, Irs, dropK_eq]) only [x11b, go_sem, ↓reduceIte, Nra, Nrb, Nrc, Nrd, Nre, Nrf, Irg, Irh, Iri, Irj, Irk, Irl, Irm, Irn, Iro, Irp, Irq, Nrr, Irs, dropK_eq, d0, d1, d2]
        repeat' (first | refine Ends_plain rfl ?_ | (first | refine Gd_split_t (fun h => ?_) (fun h => ?_) | refine Gd_split_f (fun h => ?_) (fun h => ?_) | refine Cd_split (fun h => ?_) (fun h => ?_)) <;> (try simp (disch := first | omega | simp only [go_sem, ↓reduceIte, Nra, Nrb, Nrc, Nrd, Nre, Nrf, Irg, Irh, Iri, Irj, Irk, Irl, Irm, Irn, Iro, Irp, Irq, Nrr, Irs, dropK_eq]) only [*, go_sem, ↓reduceIte, Nra, Nrb, Nrc, Nrd, Nre, Nrf, Irg, Irh, Iri, Irj, Irk, Irl, Irm, Irn, Iro, Irp, Irq, Nrr, Irs, dropK_eq]))
        all_goals (congr 1; try simp only [decide_eq_true_eq, decide_eq_false_iff_not] at *)
        all_goals first | exact decide_eq_decide.2 (by simp only [mOk]; omega) | exact (decide_eq_false (by simp only [mOk]; omega)).symm
      · have d2 := decide_eq_false h2
        rw [decide_eq_false (fun h : mOk n l s => by simp only [mOk] at h; omega)]
        simp (disch := first | omega | simp only [go_sem, ↓reduceIte, Nra, Nrb, Nrc, Nrd, Nre, Nrf, Irg, Irh, Iri, Irj, Irk, Irl, Irm, Irn, Iro, Irp, Irq, Nrr, Irs, dropK_eq]) only [x11b, go_sem, ↓reduceIte, Nra, Nrb, Nrc, Nrd, Nre, Nrf, Irg, Irh, Iri, Irj, Irk, Irl, Irm, Irn, Iro, Irp, Irq, Nrr, Irs, dropK_eq, d0, d1, d2]
        exact Ends_plain rfl rfl
    · have d1 := decide_eq_false h1
      rw [decide_eq_false (fun h : mOk n l s => by simp only [mOk] at h; omega)]
      simp (disch := first | omega | simp only [go_sem, ↓reduceIte, Nra, Nrb, Nrc, Nrd, Nre, Nrf, Irg, Irh, Iri, Irj, Irk, Irl, Irm, Irn, Iro, Irp, Irq, Nrr, Irs, dropK_eq]) only [x11b, go_sem, ↓reduceIte, Nra, Nrb, Nrc, Nrd, Nre, Nrf, Irg, Irh, Iri, Irj, Irk, Irl, Irm, Irn, Iro, Irp, Irq, Nrr, Irs, dropK_eq, d0, d1]
      exact Ends_plain rfl rfl
def F10 : List AVal → Option AVal := pureF C1 1 10
theorem sound10 : Sound Try.prog 10 F10 := sound_self ok1 1 10
theorem F10_eq {n l s : Int} (hn : -9223372036854775808 ≤ n ∧ n ≤ 9223372036854775807) : F10 [MV n l s] = some (.bool (decide (mOk n l s))) := by
  unfold F10
  refine pureF_of (x := x10) rfl rfl ?_
  rw [x10_eq.1, x10_eq.2.1]
  by_cases h0 : n = 0
  · have d0 := decide_eq_true h0
    simp (disch := first | omega | simp only [go_sem, ↓reduceIte, Nra, Nrb, Nrc, Nrd, Nre, Nrf, Irg, Irh, Iri, Irj, Irk, Irl, Irm, Irn, Iro, Irp, Irq, Nrr, Irs, dropK_eq]) only [x10b, go_sem, ↓reduceIte, Nra, Nrb, Nrc, Nrd, Nre, Nrf, Irg, Irh, Iri, Irj, Irk, Irl, Irm, Irn, Iro, Irp, Irq, Nrr, Irs, dropK_eq, callX_known (C := C1) (g := 18) rfl, ft_call (C := C1) (g := 18) rfl, F18_eq, d0]
    repeat' (first | refine Ends_plain rfl ?_ | (first | refine Gd_split_t (fun h => ?_) (fun h => ?_) | refine Gd_split_f (fun h => ?_) (fun h => ?_) | refine Cd_split (fun h => ?_) (fun h => ?_)) <;> (try simp (disch := first | omega | simp only [go_sem, ↓reduceIte, Nra, Nrb, Nrc, Nrd, Nre, Nrf, Irg, Irh, Iri, Irj, Irk, Irl, Irm, Irn, Iro, Irp, Irq, Nrr, Irs, dropK_eq]) only [*, go_sem, ↓reduceIte, Nra, Nrb, Nrc, Nrd, Nre, Nrf, Irg, Irh, Iri, Irj, Irk, Irl, Irm, Irn, Iro, Irp, Irq, Nrr, Irs, dropK_eq, callX_known (C := C1) (g := 18) rfl, ft_call (C := C1) (g := 18) rfl, F18_eq]))
    all_goals (congr 1; try simp only [decide_eq_true_eq, decide_eq_false_iff_not] at *)
    all_goals first | (rw [← Bool.decide_and]; exact decide_eq_decide.2 (by first | omega | (simp only [mOk]; omega))) | exact decide_eq_decide.2 (by first | omega | (simp only [mOk]; omega)) | exact (decide_eq_false (by first | omega | (simp only [mOk]; omega))).symm
  · have d0 := decide_eq_false h0
    by_cases h1 : 0 < n
    · have d1 := decide_eq_true h1
      by_cases h2 : n ≤ 1000000000
      · have d2 := decide_eq_true h2
        simp (disch := first | omega | simp only [go_sem, ↓reduceIte, Nra, Nrb, Nrc, Nrd, Nre, Nrf, Irg, Irh, Iri, Irj, Irk, Irl, Irm, Irn, Iro, Irp, Irq, Nrr, Irs, dropK_eq]) only [x10b, go_sem, ↓reduceIte, Nra, Nrb, Nrc, Nrd, Nre, Nrf, Irg, Irh, Iri, Irj, Irk, Irl, Irm, Irn, Iro, Irp, Irq, Nrr, Irs, dropK_eq, callX_known (C := C1) (g := 18) rfl, ft_call (C := C1) (g := 18) rfl, F18_eq, d0, d1, d2]
        repeat' (first | refine Ends_plain rfl ?_ | (first | refine Gd_split_t (fun h => ?_) (fun h => ?_) | refine Gd_split_f (fun h => ?_) (fun h => ?_) | refine Cd_split (fun h => ?_) (fun h => ?_)) <;> (try simp (disch := first | omega | simp only [go_sem, ↓reduceIte, Nra, Nrb, Nrc, Nrd, Nre, Nrf, Irg, Irh, Iri, Irj, Irk, Irl, Irm, Irn, Iro, Irp, Irq, Nrr, Irs, dropK_eq]) only [*, go_sem, ↓reduceIte, Nra, Nrb, Nrc, Nrd, Nre, Nrf, Irg, Irh, Iri, Irj, Irk, Irl, Irm, Irn, Iro, Irp, Irq, Nrr, Irs, dropK_eq, callX_known (C := C1) (g := 18) rfl, ft_call (C := C1) (g := 18) rfl, F18_eq]))
        all_goals (congr 1; try simp only [decide_eq_true_eq, decide_eq_false_iff_not] at *)
        all_goals first | exact decide_eq_decide.2 (by simp only [mOk]; omega) | exact (decide_eq_false (by simp only [mOk]; omega)).symm
      · have d2 := decide_eq_false h2
        rw [decide_eq_false (fun h : mOk n l s => by simp only [mOk] at h; omega)]
        simp (disch := first | omega | simp only [go_sem, ↓reduceIte, Nra, Nrb, Nrc, Nrd, Nre, Nrf, Irg, Irh, Iri, Irj, Irk, Irl, Irm, Irn, Iro, Irp, Irq, Nrr, Irs, dropK_eq]) only [x10b, go_sem, ↓reduceIte, Nra, Nrb, Nrc, Nrd, Nre, Nrf, Irg, Irh, Iri, Irj, Irk, Irl, Irm, Irn, Iro, Irp, Irq, Nrr, Irs, dropK_eq, callX_known (C := C1) (g := 18) rfl, ft_call (C := C1) (g := 18) rfl, F18_eq, d0, d1, d2]
        exact Ends_plain rfl rfl
    · have d1 := decide_eq_false h1
      rw [decide_eq_false (fun h : mOk n l s => by simp only [mOk] at h; omega)]
      simp (disch := first | omega | simp only [go_sem, ↓reduceIte, Nra, Nrb, Nrc, Nrd, Nre, Nrf, Irg, Irh, Iri, Irj, Irk, Irl, Irm, Irn, Iro, Irp, Irq, Nrr, Irs, dropK_eq]) only [x10b, go_sem, ↓reduceIte, Nra, Nrb, Nrc, Nrd, Nre, Nrf, Irg, Irh, Iri, Irj, Irk, Irl, Irm, Irn, Iro, Irp, Irq, Nrr, Irs, dropK_eq, callX_known (C := C1) (g := 18) rfl, ft_call (C := C1) (g := 18) rfl, F18_eq, d0, d1]
      exact Ends_plain rfl rfl
end Go.Proofs.Ytihgogbfjiobiaa
