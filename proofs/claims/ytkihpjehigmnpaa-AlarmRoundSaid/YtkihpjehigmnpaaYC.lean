/-
  Which alarms may be; rows that are the same.
-/
import Derived.Test.YtkihpjehigmnpaaYB
set_option linter.unusedVariables false
set_option linter.unusedSimpArgs false
namespace Go.Proofs.Ytkihpjehigmnpaa
open Go Go.Xec
attribute [local go_sem] tm0 ne_eq not_false_eq_true List.length_append List.length_replicate List.replicate_succ List.replicate_zero Int.cast_ofNat_Int not_true_eq_false decide_true decide_false ite_self beq_self_eq_true Bool.true_beq Bool.false_beq Bool.not_true Bool.not_false
open Nat renaming reduceAdd → Nra, reduceMul → Nrb, reduceSub → Nrc, reduceLeDiff → Nrd, reduceLT → Nre, reduceEqDiff → Nrf, reducePow → Nrr
open Int renaming reduceLT → Irg, reduceLE → Irh, reduceAdd → Iri, reduceSub → Irj, reduceMul → Irk, reduceToNat → Irl, reducePow → Irm, reduceNe → Irn, reduceMod → Iro, reduceDiv → Irp, reduceEq → Irq, reduceNeg → Irs

set_option maxRecDepth 10000
def alOk (l : List Al) : Prop := (∀ a ∈ l, aOk a) ∧ l.Pairwise fun a b => num a < num b
theorem alOk_nil : alOk [] := ⟨by simp, List.Pairwise.nil⟩
theorem alOk_take {l : List Al} (h : alOk l) (i : Nat) : alOk (l.take i) := ⟨fun a ha => h.1 a (List.mem_of_mem_take ha), h.2.sublist (List.take_sublist _ _)⟩
theorem alOk_step {l : List Al} {i : Nat} (hlt : i < l.length) : alOk (l.take (i + 1)) ↔ alOk (l.take i) ∧ aOk l[i] ∧ ∀ h : 0 < i, num (l[i - 1]'(by omega)) < num l[i] := by
  rw [take_next hlt]
  unfold alOk
  rw [List.pairwise_append]
  constructor
  · rintro ⟨h1, h2, _, h3⟩
    refine ⟨⟨fun a ha => h1 a (List.mem_append.2 (.inl ha)), h2⟩, h1 _ (List.mem_append.2 (.inr (List.mem_singleton.2 rfl))), fun h0 => h3 _ ?_ _ (List.mem_singleton.2 rfl)⟩
    rw [List.mem_take_iff_getElem]
    exact ⟨i - 1, by omega, rfl⟩
  · rintro ⟨⟨h1, h2⟩, h3, h4⟩
    refine ⟨fun a ha => ?_, h2, by simp, fun a ha b hb => ?_⟩
    · rcases List.mem_append.1 ha with ha | ha
      · exact h1 a ha
      · rw [List.mem_singleton.1 ha]; exact h3
    · rw [List.mem_singleton.1 hb]
      obtain ⟨j, hj, rfl⟩ := List.mem_take_iff_getElem.1 ha
      have h5 := h4 (by omega)
      rcases Nat.lt_or_ge j (i - 1) with h6 | h6
      · have h7 := List.pairwise_iff_getElem.1 h2 j (i - 1) (by simp; omega) (by simp; omega) h6
        simp only [List.getElem_take] at h7
        omega
      · have : j = i - 1 := by omega
        subst this
        exact h5
open Classical in
noncomputable def okB (l : List Al) : Bool := decide (alOk l)
theorem okB_true {l : List Al} (h : alOk l) : okB l = true := by simp [okB, h]
theorem okB_false {l : List Al} (h : ¬ alOk l) : okB l = false := by simp [okB, h]
noncomputable def F14 : List AVal → Option AVal := pureF C3 1 14
theorem sound14 : Sound Try.prog 14 F14 := sound_self ok3 1 14
theorem F14_eq {a : AVal} {l : List Al} (ha : RA a l) (hl : l.length ≤ 100000) : F14 [a] = some (.bool (okB l)) := by
  unfold F14
  refine pureF_of (x := x14) rfl rfl ?_
  rw [x14_eq.1, x14_eq.2.1]
  simp (disch := first | omega | simp only [go_sem, ↓reduceIte, Nra, Nrb, Nrc, Nrd, Nre, Nrf, Irg, Irh, Iri, Irj, Irk, Irl, Irm, Irn, Iro, Irp, Irq, Nrr, Irs, dropK_eq]) only [x14b, go_sem, ↓reduceIte, Nra, Nrb, Nrc, Nrd, Nre, Nrf, Irg, Irh, Iri, Irj, Irk, Irl, Irm, Irn, Iro, Irp, Irq, Nrr, Irs, dropK_eq, ha.len]
  refine Ev_range (ti := 7) (len := l.length) (J := fun i tm hp nc => alOk (l.take i)) (by omega) (by simp only [go_sem, ↓reduceIte, Nra, Nrb, Nrc, Nrd, Nre, Nrf, Irg, Irh, Iri, Irj, Irk, Irl, Irm, Irn, Iro, Irp, Irq, Nrr, Irs, dropK_eq]) alOk_nil ?_
  rintro i tm hp nc hi hc k7 hj
  have k0 := hc 0 rfl; have k5 := hc 5 rfl; have k6 := hc 6 rfl; simp only [go_sem, ↓reduceIte, Nra, Nrb, Nrc, Nrd, Nre, Nrf, Irg, Irh, Iri, Irj, Irk, Irl, Irm, Irn, Iro, Irp, Irq, Nrr, Irs, dropK_eq] at k0 k5 k6
  rcases Nat.lt_or_ge i l.length with hlt | hge
  · have d1 : decide ((i : Int) < (l.length : Int)) = true := decide_eq_true (by omega)
    have ia := ha.ia hlt
    have e17 := F17_eq (c := l[i].c) (k := l[i].k)
    have hno : ¬ alOk (l.take (i + 1)) → okB l = false := fun h => okB_false (fun k => h (alOk_take k _))
    rw [alOk_step hlt] at hno
    by_cases h1 : kOk l[i].c l[i].k
    · rw [decide_eq_true h1] at e17
      by_cases h2 : l[i].s < 1
      · have d2 := decide_eq_true h2
        rw [hno (fun h => by have := h.2.1.2; omega)]
        simp (disch := first | omega | simp only [go_sem, ↓reduceIte, Nra, Nrb, Nrc, Nrd, Nre, Nrf, Irg, Irh, Iri, Irj, Irk, Irl, Irm, Irn, Iro, Irp, Irq, Nrr, Irs, dropK_eq]) only [x14l2, go_sem, ↓reduceIte, Nra, Nrb, Nrc, Nrd, Nre, Nrf, Irg, Irh, Iri, Irj, Irk, Irl, Irm, Irn, Iro, Irp, Irq, Nrr, Irs, dropK_eq, k0, k5, k6, k7, d1, ia, callX_known (C := C3) (g := 17) rfl, ft_call (C := C3) (g := 17) rfl, e17, d2]
        exact Ends_plain rfl rfl
      · have d2 := decide_eq_false h2
        by_cases h3 : 2 < l[i].s
        · have d3 := decide_eq_true h3
          rw [hno (fun h => by have := h.2.1.2; omega)]
          simp (disch := first | omega | simp only [go_sem, ↓reduceIte, Nra, Nrb, Nrc, Nrd, Nre, Nrf, Irg, Irh, Iri, Irj, Irk, Irl, Irm, Irn, Iro, Irp, Irq, Nrr, Irs, dropK_eq]) only [x14l2, go_sem, ↓reduceIte, Nra, Nrb, Nrc, Nrd, Nre, Nrf, Irg, Irh, Iri, Irj, Irk, Irl, Irm, Irn, Iro, Irp, Irq, Nrr, Irs, dropK_eq, k0, k5, k6, k7, d1, ia, callX_known (C := C3) (g := 17) rfl, ft_call (C := C3) (g := 17) rfl, e17, d2, d3]
          exact Ends_plain rfl rfl
        · have d3 := decide_eq_false h3
          have hok : aOk l[i] := ⟨h1, by omega, by omega⟩
          by_cases h4 : 0 < i
          · have d4 : decide ((0 : Int) < (i : Int)) = true := decide_eq_true (by omega)
            have e1 : ((i - 1 : Nat) : Int) = (i : Int) - 1 := by omega
            have ib := ha.ia (i := i - 1) (by omega)
            rw [e1] at ib
            have hb := hj.1 (l[i - 1]'(by omega)) (by rw [List.mem_take_iff_getElem]; exact ⟨i - 1, by omega, rfl⟩)
            simp only [aOk, kOk] at hb h1
            by_cases h5 : num (l[i - 1]'(by omega)) < num l[i]
            · simp only [num] at h5
              have d5 : decide (16 * l[i].c + l[i].k ≤ 16 * (l[i - 1]'(by omega)).c + (l[i - 1]'(by omega)).k) = false := decide_eq_false (by omega)
              simp (disch := first | omega | simp only [go_sem, ↓reduceIte, Nra, Nrb, Nrc, Nrd, Nre, Nrf, Irg, Irh, Iri, Irj, Irk, Irl, Irm, Irn, Iro, Irp, Irq, Nrr, Irs, dropK_eq]) only [x14l2, go_sem, ↓reduceIte, Nra, Nrb, Nrc, Nrd, Nre, Nrf, Irg, Irh, Iri, Irj, Irk, Irl, Irm, Irn, Iro, Irp, Irq, Nrr, Irs, dropK_eq, k0, k5, k6, k7, d1, ia, ib, callX_known (C := C3) (g := 17) rfl, ft_call (C := C3) (g := 17) rfl, e17, d2, d3, d4, d5]
              exact ⟨hlt, by simp, (alOk_step hlt).2 ⟨hj, hok, fun _ => h5⟩⟩
            · rw [hno (fun h => h5 (h.2.2 h4))]
              simp only [num] at h5
              have d5 : decide (16 * l[i].c + l[i].k ≤ 16 * (l[i - 1]'(by omega)).c + (l[i - 1]'(by omega)).k) = true := decide_eq_true (by omega)
              simp (disch := first | omega | simp only [go_sem, ↓reduceIte, Nra, Nrb, Nrc, Nrd, Nre, Nrf, Irg, Irh, Iri, Irj, Irk, Irl, Irm, Irn, Iro, Irp, Irq, Nrr, Irs, dropK_eq]) only [x14l2, go_sem, ↓reduceIte, Nra, Nrb, Nrc, Nrd, Nre, Nrf, Irg, Irh, Iri, Irj, Irk, Irl, Irm, Irn, Iro, Irp, Irq, Nrr, Irs, dropK_eq, k0, k5, k6, k7, d1, ia, ib, callX_known (C := C3) (g := 17) rfl, ft_call (C := C3) (g := 17) rfl, e17, d2, d3, d4, d5]
              exact Ends_plain rfl rfl
          · have d4 : decide ((0 : Int) < (i : Int)) = false := decide_eq_false (by omega)
            simp (disch := first | omega | simp only [go_sem, ↓reduceIte, Nra, Nrb, Nrc, Nrd, Nre, Nrf, Irg, Irh, Iri, Irj, Irk, Irl, Irm, Irn, Iro, Irp, Irq, Nrr, Irs, dropK_eq]) only [x14l2, go_sem, ↓reduceIte, Nra, Nrb, Nrc, Nrd, Nre, Nrf, Irg, Irh, Iri, Irj, Irk, Irl, Irm, Irn, Iro, Irp, Irq, Nrr, Irs, dropK_eq, k0, k5, k6, k7, d1, ia, callX_known (C := C3) (g := 17) rfl, ft_call (C := C3) (g := 17) rfl, e17, d2, d3, d4]
            exact ⟨hlt, by simp, (alOk_step hlt).2 ⟨hj, hok, fun h => absurd h h4⟩⟩
    · rw [decide_eq_false h1] at e17
      rw [hno (fun h => h1 h.2.1.1)]
      simp (disch := first | omega | simp only [go_sem, ↓reduceIte, Nra, Nrb, Nrc, Nrd, Nre, Nrf, Irg, Irh, Iri, Irj, Irk, Irl, Irm, Irn, Iro, Irp, Irq, Nrr, Irs, dropK_eq]) only [x14l2, go_sem, ↓reduceIte, Nra, Nrb, Nrc, Nrd, Nre, Nrf, Irg, Irh, Iri, Irj, Irk, Irl, Irm, Irn, Iro, Irp, Irq, Nrr, Irs, dropK_eq, k0, k5, k6, k7, d1, ia, callX_known (C := C3) (g := 17) rfl, ft_call (C := C3) (g := 17) rfl, e17]
      exact Ends_plain rfl rfl
  · obtain rfl : i = l.length := by omega
    have d1 : decide ((l.length : Int) < (l.length : Int)) = false := decide_eq_false (by omega)
    rw [List.take_length] at hj
    rw [okB_true hj]
    simp (disch := first | omega | simp only [go_sem, ↓reduceIte, Nra, Nrb, Nrc, Nrd, Nre, Nrf, Irg, Irh, Iri, Irj, Irk, Irl, Irm, Irn, Iro, Irp, Irq, Nrr, Irs, dropK_eq]) only [x14l2, go_sem, ↓reduceIte, Nra, Nrb, Nrc, Nrd, Nre, Nrf, Irg, Irh, Iri, Irj, Irk, Irl, Irm, Irn, Iro, Irp, Irq, Nrr, Irs, dropK_eq, k0, k5, k6, k7, d1]
    exact Ends_plain rfl rfl
def F15 : List AVal → Option AVal := pureF C0 1 15
theorem sound15 : Sound Try.prog 15 F15 := sound_self ok0 1 15
theorem F15_eq {a b : AVal} {l m : List Al} (ha : RA a l) (hb : RA b m) (hl : l.length ≤ 100000) (hm : m.length ≤ 100000) : F15 [a, b] = some (.bool (decide (l = m))) := by
  have alen := ha.len
  have blen := hb.len
  unfold F15
  refine pureF_of (x := x15) rfl rfl ?_
  rw [x15_eq.1, x15_eq.2.1]
  by_cases c3 : l.length = m.length
  · have e3 : decide (¬ (l.length : Int) = (m.length : Int)) = false := decide_eq_false (by omega)
    simp (disch := first | omega | simp only [go_sem, ↓reduceIte, Nra, Nrb, Nrc, Nrd, Nre, Nrf, Irg, Irh, Iri, Irj, Irk, Irl, Irm, Irn, Iro, Irp, Irq, Nrr, Irs, dropK_eq]) only [x15b, go_sem, ↓reduceIte, Nra, Nrb, Nrc, Nrd, Nre, Nrf, Irg, Irh, Iri, Irj, Irk, Irl, Irm, Irn, Iro, Irp, Irq, Nrr, Irs, dropK_eq, alen, blen, e3]
    refine Ev_range (ti := 13) (len := l.length) (J := fun i tm hp nc => l.take i = m.take i) (by omega) (by simp only [go_sem, ↓reduceIte, Nra, Nrb, Nrc, Nrd, Nre, Nrf, Irg, Irh, Iri, Irj, Irk, Irl, Irm, Irn, Iro, Irp, Irq, Nrr, Irs, dropK_eq]) rfl ?_
    rintro i tm hp nc hi hc ki hj
    have k0 := hc 0 rfl; have k1 := hc 1 rfl; have k12 := hc 12 rfl; simp only [go_sem, ↓reduceIte, Nra, Nrb, Nrc, Nrd, Nre, Nrf, Irg, Irh, Iri, Irj, Irk, Irl, Irm, Irn, Iro, Irp, Irq, Nrr, Irs, dropK_eq] at k0 k1 k12
    rcases Nat.lt_or_ge i l.length with hlt | hge
    · have hlt' : i < m.length := by omega
      have d1 : decide ((i : Int) < (l.length : Int)) = true := decide_eq_true (by omega)
      have ia := ha.ia hlt
      have ib := hb.ia hlt'
      by_cases e : l[i] = m[i]
      · rw [← e] at ib
        have d2 : (!(decide (l[i].c = l[i].c) && (decide (l[i].k = l[i].k) && decide (l[i].s = l[i].s)))) = false := by simp
        simp (disch := first | omega | simp only [*, go_sem, ↓reduceIte, Nra, Nrb, Nrc, Nrd, Nre, Nrf, Irg, Irh, Iri, Irj, Irk, Irl, Irm, Irn, Iro, Irp, Irq, Nrr, Irs, dropK_eq]) only [x15l4, go_sem, ↓reduceIte, Nra, Nrb, Nrc, Nrd, Nre, Nrf, Irg, Irh, Iri, Irj, Irk, Irl, Irm, Irn, Iro, Irp, Irq, Nrr, Irs, dropK_eq, k0, k1, k12, ki, d1, ia, ib, d2]
        refine ⟨hlt, by simp, ?_⟩
        rw [take_next hlt, take_next hlt', hj, e]
      · have d2 : (!(decide (l[i].c = m[i].c) && (decide (l[i].k = m[i].k) && decide (l[i].s = m[i].s)))) = true := by
          rw [Bool.not_eq_true']
          refine Bool.eq_false_iff.2 fun h => e ?_
          simp only [Bool.and_eq_true, decide_eq_true_eq] at h
          obtain ⟨h1, h2, h3⟩ := h
          generalize l[i] = x at *
          generalize m[i] = y at *
          obtain ⟨x1, x2, x3⟩ := x
          obtain ⟨y1, y2, y3⟩ := y
          simp only at h1 h2 h3
          subst h1; subst h2; subst h3
          rfl
        rw [decide_eq_false (fun h : l = m => e (by subst h; rfl))]
        simp (disch := first | omega | simp only [*, go_sem, ↓reduceIte, Nra, Nrb, Nrc, Nrd, Nre, Nrf, Irg, Irh, Iri, Irj, Irk, Irl, Irm, Irn, Iro, Irp, Irq, Nrr, Irs, dropK_eq]) only [x15l4, go_sem, ↓reduceIte, Nra, Nrb, Nrc, Nrd, Nre, Nrf, Irg, Irh, Iri, Irj, Irk, Irl, Irm, Irn, Iro, Irp, Irq, Nrr, Irs, dropK_eq, k0, k1, k12, ki, d1, ia, ib, d2]
        exact Ends_plain rfl rfl
    · obtain rfl : i = l.length := by omega
      have d1 : decide ((l.length : Int) < (l.length : Int)) = false := decide_eq_false (by omega)
      rw [List.take_length, c3, List.take_length] at hj
      rw [decide_eq_true hj]
      simp (disch := first | omega | simp only [go_sem, ↓reduceIte, Nra, Nrb, Nrc, Nrd, Nre, Nrf, Irg, Irh, Iri, Irj, Irk, Irl, Irm, Irn, Iro, Irp, Irq, Nrr, Irs, dropK_eq]) only [x15l4, go_sem, ↓reduceIte, Nra, Nrb, Nrc, Nrd, Nre, Nrf, Irg, Irh, Iri, Irj, Irk, Irl, Irm, Irn, Iro, Irp, Irq, Nrr, Irs, dropK_eq, k0, k1, k12, ki, d1]
      exact Ends_plain rfl rfl
  · have e3 : decide (¬ (l.length : Int) = (m.length : Int)) = true := decide_eq_true (by omega)
    rw [decide_eq_false (fun h : l = m => c3 (by rw [h]))]
    simp (disch := first | omega | simp only [go_sem, ↓reduceIte, Nra, Nrb, Nrc, Nrd, Nre, Nrf, Irg, Irh, Iri, Irj, Irk, Irl, Irm, Irn, Iro, Irp, Irq, Nrr, Irs, dropK_eq]) only [x15b, go_sem, ↓reduceIte, Nra, Nrb, Nrc, Nrd, Nre, Nrf, Irg, Irh, Iri, Irj, Irk, Irl, Irm, Irn, Iro, Irp, Irq, Nrr, Irs, dropK_eq, alen, blen, e3]
    exact Ends_plain rfl rfl
def F12 : List AVal → Option AVal := pureF C0 1 12
theorem sound12 : Sound Try.prog 12 F12 := sound_self ok0 1 12
theorem F12_eq {a : AVal} {l0 : List Al} (ha : RA a l0) (hl : l0.length ≤ 140737488355328) : F12 [a] = some (rwTake (min l0.length 70) a) := by
  have hmn : mnxA false (.int .i64 (l0.length : Int)) [.int .i64 70] = some (.int .i64 ((min l0.length 70 : Nat) : Int)) := mnx_min2 l0.length 70
  have hsl := ha.sliceTo (n := min l0.length 70) (Nat.min_le_left _ _)
  have hp := (ha.take (min l0.length 70)).plain
  have halen := ha.len
  unfold F12
  refine pureF_of (x := x12) rfl rfl ?_
  rw [x12_eq.1, x12_eq.2.1]
  simp (disch := first | omega | simp only [go_sem, ↓reduceIte, Nra, Nrb, Nrc, Nrd, Nre, Nrf, Irg, Irh, Iri, Irj, Irk, Irl, Irm, Irn, Iro, Irp, Irq, Nrr, Irs, dropK_eq]) only [x12b, go_sem, ↓reduceIte, Nra, Nrb, Nrc, Nrd, Nre, Nrf, Irg, Irh, Iri, Irj, Irk, Irl, Irm, Irn, Iro, Irp, Irq, Nrr, Irs, dropK_eq, halen, hmn, hsl]
  exact Ends_plain (hp _) rfl
end Go.Proofs.Ytkihpjehigmnpaa
