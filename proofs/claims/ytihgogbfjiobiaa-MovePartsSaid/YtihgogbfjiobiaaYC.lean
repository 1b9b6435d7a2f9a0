/-
  Steps, one behind the other: the document's; rows that are the same; samples that are within.
-/
import Derived.Test.YtihgogbfjiobiaaYB
set_option linter.unusedVariables false
set_option linter.unusedSimpArgs false
namespace Go.Proofs.Ytihgogbfjiobiaa
open Go Go.Xec
attribute [local go_sem] tm0 ne_eq not_false_eq_true List.length_append List.length_replicate List.replicate_succ List.replicate_zero Int.cast_ofNat_Int not_true_eq_false decide_true decide_false ite_self beq_self_eq_true Bool.true_beq Bool.false_beq Bool.not_true Bool.not_false
open Nat renaming reduceAdd → Nra, reduceMul → Nrb, reduceSub → Nrc, reduceLeDiff → Nrd, reduceLT → Nre, reduceEqDiff → Nrf, reducePow → Nrr
open Int renaming reduceLT → Irg, reduceLE → Irh, reduceAdd → Iri, reduceSub → Irj, reduceMul → Irk, reduceToNat → Irl, reducePow → Irm, reduceNe → Irn, reduceMod → Iro, reduceDiv → Irp, reduceEq → Irq, reduceNeg → Irs

set_option maxRecDepth 10000
def stepD (a b : Int) : Int := if b < a then a - b else b - a
structure Mv where
  n : Int
  l : Int
  s : Int
  deriving DecidableEq
abbrev mvOk (m : Mv) : Prop := mOk m.n m.l m.s
def dOf (m : Mv) (x : Int) : Int := if 0 < m.n then stepD m.l x else 0
def nextM (m : Mv) (x : Int) : Mv := ⟨m.n + 1, x, m.s + dOf m x⟩
abbrev MA (m : Mv) : AVal := MV m.n m.l m.s
def stepM (q : Mv × List Int) (x : Int) : Mv × List Int := (nextM q.1 x, q.2 ++ if 0 < q.1.n then [dOf q.1 x] else [])
def runM (m : Mv) (xs : List Int) : Mv × List Int := xs.foldl stepM (m, [])
theorem runM_snoc (m : Mv) (xs : List Int) (x : Int) : runM m (xs ++ [x]) = stepM (runM m xs) x := by simp [runM, List.foldl_append]
theorem dOf_le {m : Mv} {x : Int} (h : mvOk m) (hx : xOk x) : 0 ≤ dOf m x ∧ dOf m x ≤ 2000000 ∧ (m.n = 0 → dOf m x = 0) := by
  obtain ⟨n, l, s⟩ := m
  unfold dOf stepD
  simp only [mvOk, mOk, xOk] at h hx ⊢
  split
  · split <;> omega
  · omega
theorem next_ok {m : Mv} {x : Int} (h : mvOk m) (hx : xOk x) (hn : m.n < 1000000000) : mvOk (nextM m x) := by
  have hd := dOf_le h hx
  obtain ⟨n, l, s⟩ := m
  unfold nextM
  generalize dOf ⟨n, l, s⟩ x = d at *
  simp only [mvOk, mOk, xOk] at h hx hd hn ⊢
  omega
theorem run_ok {m : Mv} : ∀ {xs : List Int}, mvOk m → allX xs → m.n + xs.length ≤ 1000000000 → ∀ i, i ≤ xs.length → mvOk (runM m (xs.take i)).1 ∧ (runM m (xs.take i)).1.n = m.n + i ∧ (runM m (xs.take i)).2.length ≤ i := by
  intro xs h hx hn i
  induction i with
  | zero => intro _; exact ⟨by simpa [runM] using h, by simp [runM], by simp [runM]⟩
  | succ i ih =>
    intro hi
    obtain ⟨h1, h2, h3⟩ := ih (by omega)
    rw [take_next (by omega), runM_snoc]
    refine ⟨next_ok h1 (hx _ (List.getElem_mem _)) (by omega), ?_, ?_⟩
    · show (runM m (xs.take i)).1.n + 1 = _
      omega
    · show ((runM m (xs.take i)).2 ++ _).length ≤ _
      rw [List.length_append]
      split <;> simp <;> omega
def F20 : List AVal → Option AVal := pureF C0 1 20
theorem sound20 : Sound Try.prog 20 F20 := sound_self ok0 1 20
theorem F20_eq {a b : Int} (ha : xOk a) (hb : xOk b) : F20 [.int .i64 a, .int .i64 b] = some (.int .i64 (stepD a b)) := by
  unfold F20 stepD
  refine pureF_of (x := x20) rfl rfl ?_
  rw [x20_eq.1, x20_eq.2.1]
  by_cases h : b < a
  · have d1 := decide_eq_true h
    rw [if_pos h]
    simp (disch := first | omega | simp only [go_sem, ↓reduceIte, Nra, Nrb, Nrc, Nrd, Nre, Nrf, Irg, Irh, Iri, Irj, Irk, Irl, Irm, Irn, Iro, Irp, Irq, Nrr, Irs, dropK_eq]) only [x20b, go_sem, ↓reduceIte, Nra, Nrb, Nrc, Nrd, Nre, Nrf, Irg, Irh, Iri, Irj, Irk, Irl, Irm, Irn, Iro, Irp, Irq, Nrr, Irs, dropK_eq, d1]
    exact Ends_plain rfl rfl
  · have d1 := decide_eq_false h
    rw [if_neg h]
    simp (disch := first | omega | simp only [go_sem, ↓reduceIte, Nra, Nrb, Nrc, Nrd, Nre, Nrf, Irg, Irh, Iri, Irj, Irk, Irl, Irm, Irn, Iro, Irp, Irq, Nrr, Irs, dropK_eq]) only [x20b, go_sem, ↓reduceIte, Nra, Nrb, Nrc, Nrd, Nre, Nrf, Irg, Irh, Iri, Irj, Irk, Irl, Irm, Irn, Iro, Irp, Irq, Nrr, Irs, dropK_eq, d1]
    exact Ends_plain rfl rfl
def C2 : Cfg := C1.add 20 F20
theorem ok2 : CfgOk Try.prog C2 := ok1.add sound20
def F12 : List AVal → Option AVal := pureF C2 1 12
theorem sound12 : Sound Try.prog 12 F12 := sound_self ok2 1 12
theorem F12_eq {m : Mv} {x : Int} (h : mvOk m) (hx : xOk x) (hn : m.n < 1000000000) : F12 [MA m, .int .i64 x] = some (.tup [MA (nextM m x), .int .i64 (dOf m x)]) := by
  have hd := dOf_le h hx
  obtain ⟨n, l, s⟩ := m
  unfold F12 nextM
  have hs : 0 ≤ s ∧ s ≤ 2000000000000000 := by simp only [mvOk, mOk] at h; omega
  have hn0 : 0 ≤ n := by simp only [mvOk, mOk] at h; omega
  simp only at hn
  refine pureF_of (x := x12) rfl rfl ?_
  rw [x12_eq.1, x12_eq.2.1]
  by_cases h1 : 0 < n
  · have d1 := decide_eq_true h1
    have hl : xOk l := by simp only [mvOk, mOk] at h; simp only [xOk] at h ⊢; omega
    have e20 := F20_eq hl hx
    have e : dOf ⟨n, l, s⟩ x = stepD l x := if_pos h1
    rw [e] at hd ⊢
    simp (disch := first | omega | simp only [*, go_sem, ↓reduceIte, Nra, Nrb, Nrc, Nrd, Nre, Nrf, Irg, Irh, Iri, Irj, Irk, Irl, Irm, Irn, Iro, Irp, Irq, Nrr, Irs, dropK_eq]) only [x12b, go_sem, ↓reduceIte, Nra, Nrb, Nrc, Nrd, Nre, Nrf, Irg, Irh, Iri, Irj, Irk, Irl, Irm, Irn, Iro, Irp, Irq, Nrr, Irs, dropK_eq, d1, callX_known (C := C2) (g := 20) rfl, ft_call (C := C2) (g := 20) rfl, e20]
    exact Ends_plain rfl rfl
  · have d1 := decide_eq_false h1
    have e : dOf ⟨n, l, s⟩ x = 0 := if_neg h1
    rw [e]
    simp (disch := first | omega | simp only [*, go_sem, ↓reduceIte, Nra, Nrb, Nrc, Nrd, Nre, Nrf, Irg, Irh, Iri, Irj, Irk, Irl, Irm, Irn, Iro, Irp, Irq, Nrr, Irs, dropK_eq]) only [x12b, go_sem, ↓reduceIte, Nra, Nrb, Nrc, Nrd, Nre, Nrf, Irg, Irh, Iri, Irj, Irk, Irl, Irm, Irn, Iro, Irp, Irq, Nrr, Irs, dropK_eq, d1]
    exact Ends_plain rfl rfl
def F13 : List AVal → Option AVal := pureF C0 1 13
theorem sound13 : Sound Try.prog 13 F13 := sound_self ok0 1 13
theorem F13_eq {a : AVal} {l : List Int} (ha : RI a l) (hl : l.length ≤ 100000) : F13 [a] = some (.bool (decide (allX l))) := by
  unfold F13
  refine pureF_of (x := x13) rfl rfl ?_
  rw [x13_eq.1, x13_eq.2.1]
  simp (disch := first | omega | simp only [go_sem, ↓reduceIte, Nra, Nrb, Nrc, Nrd, Nre, Nrf, Irg, Irh, Iri, Irj, Irk, Irl, Irm, Irn, Iro, Irp, Irq, Nrr, Irs, dropK_eq]) only [x13b, go_sem, ↓reduceIte, Nra, Nrb, Nrc, Nrd, Nre, Nrf, Irg, Irh, Iri, Irj, Irk, Irl, Irm, Irn, Iro, Irp, Irq, Nrr, Irs, dropK_eq, ha.len]
  refine Ev_range (ti := 7) (len := l.length) (J := fun i tm hp nc => allX (l.take i)) (by omega) (by simp only [go_sem, ↓reduceIte, Nra, Nrb, Nrc, Nrd, Nre, Nrf, Irg, Irh, Iri, Irj, Irk, Irl, Irm, Irn, Iro, Irp, Irq, Nrr, Irs, dropK_eq]) (by intro e he; simp at he) ?_
  intro i tm hp nc hi hc k7 hj
  have k5 := hc 5 rfl; have k6 := hc 6 rfl; simp only [go_sem, ↓reduceIte, Nra, Nrb, Nrc, Nrd, Nre, Nrf, Irg, Irh, Iri, Irj, Irk, Irl, Irm, Irn, Iro, Irp, Irq, Nrr, Irs, dropK_eq] at k5 k6
  rcases Nat.lt_or_ge i l.length with hlt | hge
  · have d1 : decide ((i : Int) < (l.length : Int)) = true := decide_eq_true (by omega)
    have ia := ha.ia hlt
    by_cases h1 : l[i] < -1000000
    · have d2 := decide_eq_true h1
      rw [decide_eq_false (fun h : allX l => by have := h _ (List.getElem_mem hlt); simp only [xOk] at this; omega)]
      simp (disch := first | omega | simp only [go_sem, ↓reduceIte, Nra, Nrb, Nrc, Nrd, Nre, Nrf, Irg, Irh, Iri, Irj, Irk, Irl, Irm, Irn, Iro, Irp, Irq, Nrr, Irs, dropK_eq]) only [x13l2, go_sem, ↓reduceIte, Nra, Nrb, Nrc, Nrd, Nre, Nrf, Irg, Irh, Iri, Irj, Irk, Irl, Irm, Irn, Iro, Irp, Irq, Nrr, Irs, dropK_eq, k5, k6, k7, d1, ia, d2]
      exact Ends_plain rfl rfl
    · have d2 := decide_eq_false h1
      by_cases h2 : 1000000 < l[i]
      · have d3 := decide_eq_true h2
        rw [decide_eq_false (fun h : allX l => by have := h _ (List.getElem_mem hlt); simp only [xOk] at this; omega)]
        simp (disch := first | omega | simp only [go_sem, ↓reduceIte, Nra, Nrb, Nrc, Nrd, Nre, Nrf, Irg, Irh, Iri, Irj, Irk, Irl, Irm, Irn, Iro, Irp, Irq, Nrr, Irs, dropK_eq]) only [x13l2, go_sem, ↓reduceIte, Nra, Nrb, Nrc, Nrd, Nre, Nrf, Irg, Irh, Iri, Irj, Irk, Irl, Irm, Irn, Iro, Irp, Irq, Nrr, Irs, dropK_eq, k5, k6, k7, d1, ia, d2, d3]
        exact Ends_plain rfl rfl
      · have d3 := decide_eq_false h2
        simp (disch := first | omega | simp only [go_sem, ↓reduceIte, Nra, Nrb, Nrc, Nrd, Nre, Nrf, Irg, Irh, Iri, Irj, Irk, Irl, Irm, Irn, Iro, Irp, Irq, Nrr, Irs, dropK_eq]) only [x13l2, go_sem, ↓reduceIte, Nra, Nrb, Nrc, Nrd, Nre, Nrf, Irg, Irh, Iri, Irj, Irk, Irl, Irm, Irn, Iro, Irp, Irq, Nrr, Irs, dropK_eq, k5, k6, k7, d1, ia, d2, d3]
        refine ⟨hlt, by simp, ?_⟩
        rw [take_next hlt]
        intro e he
        rcases List.mem_append.1 he with he | he
        · exact hj e he
        · rw [List.mem_singleton.1 he]; exact ⟨by omega, by omega⟩
  · obtain rfl : i = l.length := by omega
    have d1 : decide ((l.length : Int) < (l.length : Int)) = false := decide_eq_false (by omega)
    rw [List.take_length] at hj
    rw [decide_eq_true hj]
    simp (disch := first | omega | simp only [go_sem, ↓reduceIte, Nra, Nrb, Nrc, Nrd, Nre, Nrf, Irg, Irh, Iri, Irj, Irk, Irl, Irm, Irn, Iro, Irp, Irq, Nrr, Irs, dropK_eq]) only [x13l2, go_sem, ↓reduceIte, Nra, Nrb, Nrc, Nrd, Nre, Nrf, Irg, Irh, Iri, Irj, Irk, Irl, Irm, Irn, Iro, Irp, Irq, Nrr, Irs, dropK_eq, k5, k6, k7, d1]
    exact Ends_plain rfl rfl
end Go.Proofs.Ytihgogbfjiobiaa
