/-
  Is one of them not within?
-/
import Derived.Test.YtihgogbfjiobiaaYD
set_option linter.unusedVariables false
set_option linter.unusedSimpArgs false
namespace Go.Proofs.Ytihgogbfjiobiaa
open Go Go.Xec
attribute [local go_sem] tm0 ne_eq not_false_eq_true List.length_append List.length_replicate List.replicate_succ List.replicate_zero Int.cast_ofNat_Int not_true_eq_false decide_true decide_false ite_self beq_self_eq_true Bool.true_beq Bool.false_beq Bool.not_true Bool.not_false
open Nat renaming reduceAdd → Nra, reduceMul → Nrb, reduceSub → Nrc, reduceLeDiff → Nrd, reduceLT → Nre, reduceEqDiff → Nrf, reducePow → Nrr
open Int renaming reduceLT → Irg, reduceLE → Irh, reduceAdd → Iri, reduceSub → Irj, reduceMul → Irk, reduceToNat → Irl, reducePow → Irm, reduceNe → Irn, reduceMod → Iro, reduceDiv → Irp, reduceEq → Irq, reduceNeg → Irs

set_option maxRecDepth 10000
theorem index21 {d : Nat} {a : AVal} {l : List Int} {hp : Heap} {nc : Nat} {K : AVal × Heap × Nat → Prop} (ha : RI a l) (hl : l.length ≤ 140737488355328)
    (hK : ∀ nc' (r : Int), decide (0 ≤ r) = decide (¬ allX l) → K (.int .i64 r, hp, nc')) : Bd (inlD C3 (d + 1) 21 [a, .fn (.func 17) [] []] hp nc) K := by
  refine inl_of (x := x21) rfl rfl ?_
  rw [x21_eq.1, x21_eq.2.1]
  simp (disch := first | omega | simp only [go_sem, ↓reduceIte, Nra, Nrb, Nrc, Nrd, Nre, Nrf, Irg, Irh, Iri, Irj, Irk, Irl, Irm, Irn, Iro, Irp, Irq, Nrr, Irs, dropK_eq]) only [x21b, go_sem, ↓reduceIte, Nra, Nrb, Nrc, Nrd, Nre, Nrf, Irg, Irh, Iri, Irj, Irk, Irl, Irm, Irn, Iro, Irp, Irq, Nrr, Irs, dropK_eq, ha.len]
  refine Ev_rangeH (ti := 8) (len := l.length) (J := fun i tm => allX (l.take i)) (by omega) (by simp only [go_sem, ↓reduceIte, Nra, Nrb, Nrc, Nrd, Nre, Nrf, Irg, Irh, Iri, Irj, Irk, Irl, Irm, Irn, Iro, Irp, Irq, Nrr, Irs, dropK_eq]) (by intro e he; simp at he) ?_
  intro i tm nc hi hc k8 hj
  have k0 := hc 0 rfl; have k1 := hc 1 rfl; have k7 := hc 7 rfl; simp only [go_sem, ↓reduceIte, Nra, Nrb, Nrc, Nrd, Nre, Nrf, Irg, Irh, Iri, Irj, Irk, Irl, Irm, Irn, Iro, Irp, Irq, Nrr, Irs, dropK_eq] at k0 k1 k7
  rcases Nat.lt_or_ge i l.length with hlt | hge
  · have d1 : decide ((i : Int) < (l.length : Int)) = true := decide_eq_true (by omega)
    have ia := ha.ia hlt
    have e17 := F17_eq (x := l[i])
    by_cases hk : xOk l[i]
    · rw [decide_eq_true hk] at e17
      simp (disch := first | omega | simp only [go_sem, ↓reduceIte, Nra, Nrb, Nrc, Nrd, Nre, Nrf, Irg, Irh, Iri, Irj, Irk, Irl, Irm, Irn, Iro, Irp, Irq, Nrr, Irs, dropK_eq]) only [x21l2, go_sem, ↓reduceIte, Nra, Nrb, Nrc, Nrd, Nre, Nrf, Irg, Irh, Iri, Irj, Irk, Irl, Irm, Irn, Iro, Irp, Irq, Nrr, Irs, dropK_eq, k0, k1, k7, k8, d1, ia, callX_known (C := C3) (g := 17) rfl, ft_call (C := C3) (g := 17) rfl, e17, Bool.not_true]
      refine ⟨hlt, by simp, ?_⟩
      rw [take_next hlt]
      intro e he
      rcases List.mem_append.1 he with he | he
      · exact hj e he
      · rw [List.mem_singleton.1 he]; exact hk
    · rw [decide_eq_false hk] at e17
      simp (disch := first | omega | simp only [go_sem, ↓reduceIte, Nra, Nrb, Nrc, Nrd, Nre, Nrf, Irg, Irh, Iri, Irj, Irk, Irl, Irm, Irn, Iro, Irp, Irq, Nrr, Irs, dropK_eq]) only [x21l2, go_sem, ↓reduceIte, Nra, Nrb, Nrc, Nrd, Nre, Nrf, Irg, Irh, Iri, Irj, Irk, Irl, Irm, Irn, Iro, Irp, Irq, Nrr, Irs, dropK_eq, k0, k1, k7, k8, d1, ia, callX_known (C := C3) (g := 17) rfl, ft_call (C := C3) (g := 17) rfl, e17, Bool.not_false]
      exact hK _ _ (by rw [decide_eq_true (show (0 : Int) ≤ (i : Int) by omega)]; exact (decide_eq_true (show ¬ allX l from fun h => hk (h _ (List.getElem_mem hlt)))).symm)
  · obtain rfl : i = l.length := by omega
    have d1 : decide ((l.length : Int) < (l.length : Int)) = false := decide_eq_false (by omega)
    rw [List.take_length] at hj
    simp (disch := first | omega | simp only [go_sem, ↓reduceIte, Nra, Nrb, Nrc, Nrd, Nre, Nrf, Irg, Irh, Iri, Irj, Irk, Irl, Irm, Irn, Iro, Irp, Irq, Nrr, Irs, dropK_eq]) only [x21l2, go_sem, ↓reduceIte, Nra, Nrb, Nrc, Nrd, Nre, Nrf, Irg, Irh, Iri, Irj, Irk, Irl, Irm, Irn, Iro, Irp, Irq, Nrr, Irs, dropK_eq, k0, k1, k7, k8, d1]
    exact hK _ _ (by rw [decide_eq_false (show ¬ (0 : Int) ≤ -1 by decide)]; exact (decide_eq_false (show ¬ ¬ allX l from fun h => h hj)).symm)
def F16 : List AVal → Option AVal := pureF C3 3 16
theorem sound16 : Sound Try.prog 16 F16 := sound_self ok3 3 16
theorem F16_eq {a : AVal} {l : List Int} (ha : RI a l) (hl : l.length ≤ 100000) : F16 [a, .fn (.func 17) [] []] = some (.bool (decide (¬ allX l))) := by
  unfold F16
  refine pureF_of (x := x16) rfl rfl ?_
  rw [x16_eq.1, x16_eq.2.1]
  simp (disch := first | omega | simp only [go_sem, ↓reduceIte, Nra, Nrb, Nrc, Nrd, Nre, Nrf, Irg, Irh, Iri, Irj, Irk, Irl, Irm, Irn, Iro, Irp, Irq, Nrr, Irs, dropK_eq]) only [x16b, go_sem, ↓reduceIte, Nra, Nrb, Nrc, Nrd, Nre, Nrf, Irg, Irh, Iri, Irj, Irk, Irl, Irm, Irn, Iro, Irp, Irq, Nrr, Irs, dropK_eq, call_inl (C := C3) (g := 21) rfl]
  refine index21 ha (by omega) fun nc' r hr => ?_
  simp (disch := first | omega | simp only [go_sem, ↓reduceIte, Nra, Nrb, Nrc, Nrd, Nre, Nrf, Irg, Irh, Iri, Irj, Irk, Irl, Irm, Irn, Iro, Irp, Irq, Nrr, Irs, dropK_eq]) only [go_sem, ↓reduceIte, Nra, Nrb, Nrc, Nrd, Nre, Nrf, Irg, Irh, Iri, Irj, Irk, Irl, Irm, Irn, Iro, Irp, Irq, Nrr, Irs, dropK_eq, hr]
  exact Ends_plain rfl rfl
end Go.Proofs.Ytihgogbfjiobiaa
