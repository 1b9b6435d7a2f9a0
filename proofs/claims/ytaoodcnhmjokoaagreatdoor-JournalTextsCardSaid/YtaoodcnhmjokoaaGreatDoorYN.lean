/-
  Journals: new ones, one more entry; the document's.
-/
import Derived.Test.YtaoodcnhmjokoaaGreatDoorYM
set_option linter.unusedVariables false
set_option linter.unusedSimpArgs false
namespace Go.Proofs.YtaoodcnhmjokoaaGreatDoor
open Go Go.Xec
attribute [local go_sem] tm0 ne_eq not_false_eq_true List.length_append List.length_replicate List.replicate_succ List.replicate_zero Int.cast_ofNat_Int not_true_eq_false decide_true decide_false ite_self beq_self_eq_true Bool.true_beq Bool.false_beq Bool.not_true Bool.not_false
open Nat renaming reduceAdd → Nra, reduceMul → Nrb, reduceSub → Nrc, reduceLeDiff → Nrd, reduceLT → Nre, reduceEqDiff → Nrf, reducePow → Nrr
open Int renaming reduceLT → Irg, reduceLE → Irh, reduceAdd → Iri, reduceSub → Irj, reduceMul → Irk, reduceToNat → Irl, reducePow → Irm, reduceNe → Irn, reduceMod → Iro, reduceDiv → Irp, reduceEq → Irq, reduceNeg → Irs

set_option maxRecDepth 10000
def F11 : List AVal → Option AVal := pureF C3 1 11
theorem sound11 : Sound Tryz.prog 11 F11 := sound_self ok3 1 11
theorem F11_eq {cap first : Int} {a : AVal} {l : List En} (ha : RE a l) (hl : l.length ≤ 100000) (hf : -9223372036854775808 ≤ first ∧ first ≤ 9223372036854775807) : F11 [JV cap first a] = some (.bool (decide (jOk cap first l))) := by
  have hsc := ha.sc
  have hcl := ha.cells
  have hlen := ha.len
  unfold F11
  refine pureF_of (x := x11) rfl rfl ?_
  rw [x11_eq.1, x11_eq.2.1]
  simp (disch := first | omega | simp only [go_sem, ↓reduceIte, Nra, Nrb, Nrc, Nrd, Nre, Nrf, Irg, Irh, Iri, Irj, Irk, Irl, Irm, Irn, Iro, Irp, Irq, Nrr, Irs, dropK_eq]) only [x11b, go_sem, ↓reduceIte, Nra, Nrb, Nrc, Nrd, Nre, Nrf, Irg, Irh, Iri, Irj, Irk, Irl, Irm, Irn, Iro, Irp, Irq, Nrr, Irs, dropK_eq, hsc, hcl, hlen]
  refine Ev_range (ti := 9) (len := l.length) (J := fun i tm hp nc => allEn (l.take i) ∧ hp (11000000, 0) = some (.var [.int .i64 cap, .int .i64 first, a])) (by omega) (by simp only [go_sem, ↓reduceIte, Nra, Nrb, Nrc, Nrd, Nre, Nrf, Irg, Irh, Iri, Irj, Irk, Irl, Irm, Irn, Iro, Irp, Irq, Nrr, Irs, dropK_eq]) ⟨by intro e he; simp at he, by simp only [go_sem, ↓reduceIte, Nra, Nrb, Nrc, Nrd, Nre, Nrf, Irg, Irh, Iri, Irj, Irk, Irl, Irm, Irn, Iro, Irp, Irq, Nrr, Irs, dropK_eq]⟩ ?_
  rintro i tm hp nc hi hc k9 ⟨hj, hk0⟩
  have k1 := hc 1 rfl; have k7 := hc 7 rfl; have k8 := hc 8 rfl; simp only [go_sem, ↓reduceIte, Nra, Nrb, Nrc, Nrd, Nre, Nrf, Irg, Irh, Iri, Irj, Irk, Irl, Irm, Irn, Iro, Irp, Irq, Nrr, Irs, dropK_eq] at k1 k7 k8
  rcases Nat.lt_or_ge i l.length with hlt | hge
  · have d1 : decide ((i : Int) < (l.length : Int)) = true := decide_eq_true (by omega)
    have ia := ha.ia hlt
    have e14 := F14_eq (e := l[i])
    by_cases hk : enOk l[i]
    · rw [decide_eq_true hk] at e14
      simp (disch := first | omega | simp only [go_sem, ↓reduceIte, Nra, Nrb, Nrc, Nrd, Nre, Nrf, Irg, Irh, Iri, Irj, Irk, Irl, Irm, Irn, Iro, Irp, Irq, Nrr, Irs, dropK_eq]) only [x11l2, go_sem, ↓reduceIte, Nra, Nrb, Nrc, Nrd, Nre, Nrf, Irg, Irh, Iri, Irj, Irk, Irl, Irm, Irn, Iro, Irp, Irq, Nrr, Irs, dropK_eq, k1, k7, k8, k9, d1, ia, callX_known (C := C3) (g := 14) rfl, ft_call (C := C3) (g := 14) rfl, e14, hk0]
      refine ⟨hlt, by simp, ?_⟩
      rw [take_next hlt]
      intro e he
      rcases List.mem_append.1 he with he | he
      · exact hj e he
      · rw [List.mem_singleton.1 he]; exact hk
    · rw [decide_eq_false hk] at e14
      simp (disch := first | omega | simp only [go_sem, ↓reduceIte, Nra, Nrb, Nrc, Nrd, Nre, Nrf, Irg, Irh, Iri, Irj, Irk, Irl, Irm, Irn, Iro, Irp, Irq, Nrr, Irs, dropK_eq]) only [x11l2, go_sem, ↓reduceIte, Nra, Nrb, Nrc, Nrd, Nre, Nrf, Irg, Irh, Iri, Irj, Irk, Irl, Irm, Irn, Iro, Irp, Irq, Nrr, Irs, dropK_eq, k1, k7, k8, k9, d1, ia, callX_known (C := C3) (g := 14) rfl, ft_call (C := C3) (g := 14) rfl, e14]
      refine Ends_plain rfl ?_
      rw [decide_eq_false (fun h : jOk cap first l => hk (h.2.2.2.2.2.2 _ (List.getElem_mem hlt)))]
  · obtain rfl : i = l.length := by omega
    have d1 : decide ((l.length : Int) < (l.length : Int)) = false := decide_eq_false (by omega)
    rw [List.take_length] at hj
    have hjj : ∀ p : Prop, [Decidable p] → (jOk cap first l ↔ p) → decide (jOk cap first l) = decide p := fun p _ h => decide_eq_decide.2 h
    by_cases c1 : 1 ≤ cap
    · have e1 := decide_eq_true c1
      by_cases c2 : cap ≤ 16
      · have e2 := decide_eq_true c2
        by_cases c3 : (l.length : Int) ≤ cap
        · have e3 := decide_eq_true c3
          by_cases c4 : 0 ≤ first
          · have e4 := decide_eq_true c4
            by_cases c5 : first ≤ 1000000000
            · have e5 := decide_eq_true c5
              by_cases c6 : first = 0
              · have e6 := decide_eq_true c6
                simp (disch := first | omega | simp only [go_sem, ↓reduceIte, Nra, Nrb, Nrc, Nrd, Nre, Nrf, Irg, Irh, Iri, Irj, Irk, Irl, Irm, Irn, Iro, Irp, Irq, Nrr, Irs, dropK_eq]) only [x11l2, go_sem, ↓reduceIte, Nra, Nrb, Nrc, Nrd, Nre, Nrf, Irg, Irh, Iri, Irj, Irk, Irl, Irm, Irn, Iro, Irp, Irq, Nrr, Irs, dropK_eq, k1, k7, k8, k9, d1, hk0, hlen, e1, e2, e3, e4, e5, e6]
                refine Ends_plain rfl ?_
                congr 1
                exact decide_eq_decide.2 ⟨fun h => ⟨c1, c2, c3, c4, h, .inl c6, hj⟩, fun h => h.2.2.2.2.1⟩
              · have e6 := decide_eq_false c6
                by_cases c7 : (l.length : Int) = cap
                · have e7 := decide_eq_true c7
                  simp (disch := first | omega | simp only [go_sem, ↓reduceIte, Nra, Nrb, Nrc, Nrd, Nre, Nrf, Irg, Irh, Iri, Irj, Irk, Irl, Irm, Irn, Iro, Irp, Irq, Nrr, Irs, dropK_eq]) only [x11l2, go_sem, ↓reduceIte, Nra, Nrb, Nrc, Nrd, Nre, Nrf, Irg, Irh, Iri, Irj, Irk, Irl, Irm, Irn, Iro, Irp, Irq, Nrr, Irs, dropK_eq, k1, k7, k8, k9, d1, hk0, hlen, e1, e2, e3, e4, e5, e6, e7]
                  refine Ends_plain rfl ?_
                  congr 1
                  exact decide_eq_decide.2 ⟨fun h => ⟨c1, c2, c3, c4, h, .inr c7, hj⟩, fun h => h.2.2.2.2.1⟩
                · have e7 := decide_eq_false c7
                  simp (disch := first | omega | simp only [go_sem, ↓reduceIte, Nra, Nrb, Nrc, Nrd, Nre, Nrf, Irg, Irh, Iri, Irj, Irk, Irl, Irm, Irn, Iro, Irp, Irq, Nrr, Irs, dropK_eq]) only [x11l2, go_sem, ↓reduceIte, Nra, Nrb, Nrc, Nrd, Nre, Nrf, Irg, Irh, Iri, Irj, Irk, Irl, Irm, Irn, Iro, Irp, Irq, Nrr, Irs, dropK_eq, k1, k7, k8, k9, d1, hk0, hlen, e1, e2, e3, e4, e5, e6, e7]
                  refine Ends_plain rfl ?_
                  rw [decide_eq_false (fun h : jOk cap first l => by have := h.2.2.2.2.2.1; omega)]
            · have e5 := decide_eq_false c5
              simp (disch := first | omega | simp only [go_sem, ↓reduceIte, Nra, Nrb, Nrc, Nrd, Nre, Nrf, Irg, Irh, Iri, Irj, Irk, Irl, Irm, Irn, Iro, Irp, Irq, Nrr, Irs, dropK_eq]) only [x11l2, go_sem, ↓reduceIte, Nra, Nrb, Nrc, Nrd, Nre, Nrf, Irg, Irh, Iri, Irj, Irk, Irl, Irm, Irn, Iro, Irp, Irq, Nrr, Irs, dropK_eq, k1, k7, k8, k9, d1, hk0, hlen, e1, e2, e3, e4, e5]
              refine Ends_plain rfl ?_
              rw [decide_eq_false (fun h : jOk cap first l => by have := h.2.2.2.2.1; omega)]
          · have e4 := decide_eq_false c4
            simp (disch := first | omega | simp only [go_sem, ↓reduceIte, Nra, Nrb, Nrc, Nrd, Nre, Nrf, Irg, Irh, Iri, Irj, Irk, Irl, Irm, Irn, Iro, Irp, Irq, Nrr, Irs, dropK_eq]) only [x11l2, go_sem, ↓reduceIte, Nra, Nrb, Nrc, Nrd, Nre, Nrf, Irg, Irh, Iri, Irj, Irk, Irl, Irm, Irn, Iro, Irp, Irq, Nrr, Irs, dropK_eq, k1, k7, k8, k9, d1, hk0, hlen, e1, e2, e3, e4]
            refine Ends_plain rfl ?_
            rw [decide_eq_false (fun h : jOk cap first l => c4 h.2.2.2.1)]
        · have e3 := decide_eq_false c3
          simp (disch := first | omega | simp only [go_sem, ↓reduceIte, Nra, Nrb, Nrc, Nrd, Nre, Nrf, Irg, Irh, Iri, Irj, Irk, Irl, Irm, Irn, Iro, Irp, Irq, Nrr, Irs, dropK_eq]) only [x11l2, go_sem, ↓reduceIte, Nra, Nrb, Nrc, Nrd, Nre, Nrf, Irg, Irh, Iri, Irj, Irk, Irl, Irm, Irn, Iro, Irp, Irq, Nrr, Irs, dropK_eq, k1, k7, k8, k9, d1, hk0, hlen, e1, e2, e3]
          refine Ends_plain rfl ?_
          rw [decide_eq_false (fun h : jOk cap first l => c3 h.2.2.1)]
      · have e2 := decide_eq_false c2
        simp (disch := first | omega | simp only [go_sem, ↓reduceIte, Nra, Nrb, Nrc, Nrd, Nre, Nrf, Irg, Irh, Iri, Irj, Irk, Irl, Irm, Irn, Iro, Irp, Irq, Nrr, Irs, dropK_eq]) only [x11l2, go_sem, ↓reduceIte, Nra, Nrb, Nrc, Nrd, Nre, Nrf, Irg, Irh, Iri, Irj, Irk, Irl, Irm, Irn, Iro, Irp, Irq, Nrr, Irs, dropK_eq, k1, k7, k8, k9, d1, hk0, hlen, e1, e2]
        refine Ends_plain rfl ?_
        rw [decide_eq_false (fun h : jOk cap first l => c2 h.2.1)]
    · have e1 := decide_eq_false c1
      simp (disch := first | omega | simp only [go_sem, ↓reduceIte, Nra, Nrb, Nrc, Nrd, Nre, Nrf, Irg, Irh, Iri, Irj, Irk, Irl, Irm, Irn, Iro, Irp, Irq, Nrr, Irs, dropK_eq]) only [x11l2, go_sem, ↓reduceIte, Nra, Nrb, Nrc, Nrd, Nre, Nrf, Irg, Irh, Iri, Irj, Irk, Irl, Irm, Irn, Iro, Irp, Irq, Nrr, Irs, dropK_eq, k1, k7, k8, k9, d1, hk0, hlen, e1]
      refine Ends_plain rfl ?_
      rw [decide_eq_false (fun h : jOk cap first l => c1 h.1)]
def C4 : Cfg := (C3.add 10 F10).add 11 F11
theorem ok4 : CfgOk Tryz.prog C4 := (ok3.add sound10).add sound11
def F8 : List AVal → Option AVal := pureF C4 1 8
theorem sound8 : Sound Tryz.prog 8 F8 := sound_self ok4 1 8
theorem F8_eq {n : Int} : F8 [.int .i64 n] = some (if 1 ≤ n ∧ n ≤ 16 then .tup [JV n 0 .nils, .int .i64 0] else .tup [JV 0 0 .nils, .int .i64 1]) := by
  have e10 := F10_eq (cap := n) (first := 0) (a := .nils) (l := []) Rg.nils (by simp)
  unfold F8
  refine pureF_of (x := x8) rfl rfl ?_
  rw [x8_eq.1, x8_eq.2.1]
  by_cases h : 1 ≤ n ∧ n ≤ 16
  · rw [decide_eq_true (show jOk n 0 [] from ⟨h.1, h.2, by simp; omega, by omega, by simp, .inl rfl, by intro e he; simp at he⟩)] at e10
    rw [if_pos h]
    simp (disch := first | omega | simp only [go_sem, ↓reduceIte, Nra, Nrb, Nrc, Nrd, Nre, Nrf, Irg, Irh, Iri, Irj, Irk, Irl, Irm, Irn, Iro, Irp, Irq, Nrr, Irs, dropK_eq]) only [x8b, go_sem, ↓reduceIte, Nra, Nrb, Nrc, Nrd, Nre, Nrf, Irg, Irh, Iri, Irj, Irk, Irl, Irm, Irn, Iro, Irp, Irq, Nrr, Irs, dropK_eq, callX_known (C := C4) (g := 10) rfl, ft_call (C := C4) (g := 10) rfl, e10]
    exact Ends_plain rfl rfl
  · rw [decide_eq_false (fun h' : jOk n 0 [] => h ⟨h'.1, h'.2.1⟩)] at e10
    rw [if_neg h]
    simp (disch := first | omega | simp only [go_sem, ↓reduceIte, Nra, Nrb, Nrc, Nrd, Nre, Nrf, Irg, Irh, Iri, Irj, Irk, Irl, Irm, Irn, Iro, Irp, Irq, Nrr, Irs, dropK_eq]) only [x8b, go_sem, ↓reduceIte, Nra, Nrb, Nrc, Nrd, Nre, Nrf, Irg, Irh, Iri, Irj, Irk, Irl, Irm, Irn, Iro, Irp, Irq, Nrr, Irs, dropK_eq, callX_known (C := C4) (g := 10) rfl, ft_call (C := C4) (g := 10) rfl, e10]
    exact Ends_plain rfl rfl
def F15 : List AVal → Option AVal := pureF C4 1 15
theorem sound15 : Sound Tryz.prog 15 F15 := sound_self ok4 1 15
theorem F15_eq {cap first : Int} {a : AVal} {l : List En} (ha : RE a l) (hl : l.length ≤ 100000) (h : 0 ≤ first ∧ first ≤ 1000000000) : F15 [JV cap first a] = some (.bool (decide (first + (l.length : Int) = 1000000000))) := by
  have hsc := ha.sc
  have hcl := ha.cells
  have hlen := ha.len
  unfold F15
  refine pureF_of (x := x15) rfl rfl ?_
  rw [x15_eq.1, x15_eq.2.1]
  simp (disch := first | omega | simp only [go_sem, ↓reduceIte, Nra, Nrb, Nrc, Nrd, Nre, Nrf, Irg, Irh, Iri, Irj, Irk, Irl, Irm, Irn, Iro, Irp, Irq, Nrr, Irs, dropK_eq]) only [x15b, go_sem, ↓reduceIte, Nra, Nrb, Nrc, Nrd, Nre, Nrf, Irg, Irh, Iri, Irj, Irk, Irl, Irm, Irn, Iro, Irp, Irq, Nrr, Irs, dropK_eq, hsc, hcl, hlen]
  exact Ends_plain rfl rfl
def F7 : List AVal → Option AVal := pureF C4 1 7
theorem sound7 : Sound Tryz.prog 7 F7 := sound_self ok4 1 7
theorem F7_eq {cap first : Int} {a : AVal} {l : List En} (ha : RE a l) (hl : l.length ≤ 140737488355328) : ∃ b, RE b (l.take 20) ∧ F7 [JV cap first a] = some (JV cap first b) := by
  have hsc := ha.sc
  have hcl := ha.cells
  have hm : mnxA false (.int .i64 l.length) [.int .i64 20] = some (.int .i64 ((min l.length 20 : Nat) : Int)) := mnx_min2 l.length 20
  have hs := ha.sliceTo (n := min l.length 20) (Nat.min_le_left _ _)
  have hcu := ha.cut 20
  have hs2 := hcu.sc
  have hc2 := hcu.cells
  have hp2 := hcu.plain
  refine ⟨_, hcu, ?_⟩
  unfold F7
  refine pureF_of (x := x7) rfl rfl ?_
  rw [x7_eq.1, x7_eq.2.1]
  generalize rwTake (min l.length 20) a = b at *
  simp (disch := first | omega | simp only [go_sem, ↓reduceIte, Nra, Nrb, Nrc, Nrd, Nre, Nrf, Irg, Irh, Iri, Irj, Irk, Irl, Irm, Irn, Iro, Irp, Irq, Nrr, Irs, dropK_eq]) only [x7b, go_sem, ↓reduceIte, Nra, Nrb, Nrc, Nrd, Nre, Nrf, Irg, Irh, Iri, Irj, Irk, Irl, Irm, Irn, Iro, Irp, Irq, Nrr, Irs, dropK_eq, hsc, hcl, ha.len, hm, hs, hs2, hc2]
  exact Ends_plain (by simp [plain, plainL, hp2, Xec.freeze]) rfl
theorem en_eq {s t : En} : (decide (s.k = t.k) && (decide (s.c = t.c) && (decide (s.s = t.s) && decide (s.v = t.v)))) = decide (s = t) := by
  obtain ⟨a, b, c, d⟩ := s
  obtain ⟨a', b', c', d'⟩ := t
  simp only [En.mk.injEq, Bool.decide_and]
theorem step_eq {α : Type} {l m : List α} {i : Nat} (hl : i < l.length) (hm : i < m.length) (h : l.take i = m.take i) (e : l[i] = m[i]) : l.take (i + 1) = m.take (i + 1) := by
  rw [take_next hl, take_next hm, h, e]
theorem step_ne {α : Type} {l m : List α} {i : Nat} (hl : i < l.length) (hm : i < m.length) (e : l[i] ≠ m[i]) : l ≠ m := fun h => e (by subst h; rfl)
def F13 : List AVal → Option AVal := pureF C4 1 13
theorem sound13 : Sound Tryz.prog 13 F13 := sound_self ok4 1 13
theorem F13_eq {c f c' f' : Int} {a b : AVal} {l m : List En} (ha : RE a l) (hb : RE b m) (hl : l.length ≤ 100000) (hm : m.length ≤ 100000) : F13 [JV c f a, JV c' f' b] = some (.bool (decide (c = c' ∧ f = f' ∧ l = m))) := by
  have hsc := ha.sc
  have hcl := ha.cells
  have hlen := ha.len
  have bsc := hb.sc
  have bcl := hb.cells
  have blen := hb.len
  unfold F13
  refine pureF_of (x := x13) rfl rfl ?_
  rw [x13_eq.1, x13_eq.2.1]
  by_cases c1 : c = c'
  · have e1 : decide (¬ c = c') = false := decide_eq_false (fun h => h c1)
    by_cases c2 : f = f'
    · have e2 : decide (¬ f = f') = false := decide_eq_false (fun h => h c2)
      by_cases c3 : l.length = m.length
      · have e3 : decide (¬ (l.length : Int) = (m.length : Int)) = false := decide_eq_false (by omega)
        simp (disch := first | omega | simp only [go_sem, ↓reduceIte, Nra, Nrb, Nrc, Nrd, Nre, Nrf, Irg, Irh, Iri, Irj, Irk, Irl, Irm, Irn, Iro, Irp, Irq, Nrr, Irs, dropK_eq]) only [x13b, go_sem, ↓reduceIte, Nra, Nrb, Nrc, Nrd, Nre, Nrf, Irg, Irh, Iri, Irj, Irk, Irl, Irm, Irn, Iro, Irp, Irq, Nrr, Irs, dropK_eq, hsc, hcl, hlen, bsc, bcl, blen, e1, e2, e3]
        refine Ev_range (ti := 30) (len := l.length) (J := fun i tm hp nc => l.take i = m.take i ∧ hp (13000000, 0) = some (.var [.int .i64 c, .int .i64 f, a]) ∧ hp (13000001, 0) = some (.var [.int .i64 c', .int .i64 f', b])) (by omega) (by simp only [go_sem, ↓reduceIte, Nra, Nrb, Nrc, Nrd, Nre, Nrf, Irg, Irh, Iri, Irj, Irk, Irl, Irm, Irn, Iro, Irp, Irq, Nrr, Irs, dropK_eq]) ⟨rfl, by simp only [go_sem, ↓reduceIte, Nra, Nrb, Nrc, Nrd, Nre, Nrf, Irg, Irh, Iri, Irj, Irk, Irl, Irm, Irn, Iro, Irp, Irq, Nrr, Irs, dropK_eq], by simp only [go_sem, ↓reduceIte, Nra, Nrb, Nrc, Nrd, Nre, Nrf, Irg, Irh, Iri, Irj, Irk, Irl, Irm, Irn, Iro, Irp, Irq, Nrr, Irs, dropK_eq]⟩ ?_
        rintro i tm hp nc hi hc ki ⟨hj, h1, h2⟩
        have k2 := hc 2 rfl; have k3 := hc 3 rfl; have k29 := hc 29 rfl; simp only [go_sem, ↓reduceIte, Nra, Nrb, Nrc, Nrd, Nre, Nrf, Irg, Irh, Iri, Irj, Irk, Irl, Irm, Irn, Iro, Irp, Irq, Nrr, Irs, dropK_eq] at k2 k3 k29
        rcases Nat.lt_or_ge i l.length with hlt | hge
        · have hlt' : i < m.length := by omega
          have d1 : decide ((i : Int) < (l.length : Int)) = true := decide_eq_true (by omega)
          have ia := ha.ia hlt
          have ib := hb.ia hlt'
          simp (disch := first | omega | simp only [go_sem, ↓reduceIte, Nra, Nrb, Nrc, Nrd, Nre, Nrf, Irg, Irh, Iri, Irj, Irk, Irl, Irm, Irn, Iro, Irp, Irq, Nrr, Irs, dropK_eq]) only [x13l4, go_sem, ↓reduceIte, Nra, Nrb, Nrc, Nrd, Nre, Nrf, Irg, Irh, Iri, Irj, Irk, Irl, Irm, Irn, Iro, Irp, Irq, Nrr, Irs, dropK_eq, k2, k3, k29, ki, d1, ia, ib, h1, h2]
          simp only [en_eq]
          by_cases e : l[i] = m[i]
          · rw [decide_eq_true e]
            simp (disch := first | omega | simp only [go_sem, ↓reduceIte, Nra, Nrb, Nrc, Nrd, Nre, Nrf, Irg, Irh, Iri, Irj, Irk, Irl, Irm, Irn, Iro, Irp, Irq, Nrr, Irs, dropK_eq]) only [go_sem, ↓reduceIte, Nra, Nrb, Nrc, Nrd, Nre, Nrf, Irg, Irh, Iri, Irj, Irk, Irl, Irm, Irn, Iro, Irp, Irq, Nrr, Irs, dropK_eq, k2, k3, k29, ki, Bool.not_true]
            exact ⟨hlt, by simp, step_eq hlt hlt' hj e, h1, h2⟩
          · rw [decide_eq_false e, decide_eq_false (fun h : c = c' ∧ f = f' ∧ l = m => step_ne hlt hlt' e h.2.2)]
            simp (disch := first | omega | simp only [go_sem, ↓reduceIte, Nra, Nrb, Nrc, Nrd, Nre, Nrf, Irg, Irh, Iri, Irj, Irk, Irl, Irm, Irn, Iro, Irp, Irq, Nrr, Irs, dropK_eq]) only [go_sem, ↓reduceIte, Nra, Nrb, Nrc, Nrd, Nre, Nrf, Irg, Irh, Iri, Irj, Irk, Irl, Irm, Irn, Iro, Irp, Irq, Nrr, Irs, dropK_eq, k2, k3, k29, ki, Bool.not_false]
            exact Ends_plain rfl rfl
        · obtain rfl : i = l.length := by omega
          have d1 : decide ((l.length : Int) < (l.length : Int)) = false := decide_eq_false (by omega)
          rw [List.take_length, c3, List.take_length] at hj
          rw [decide_eq_true (show c = c' ∧ f = f' ∧ l = m from ⟨c1, c2, hj⟩)]
          simp (disch := first | omega | simp only [go_sem, ↓reduceIte, Nra, Nrb, Nrc, Nrd, Nre, Nrf, Irg, Irh, Iri, Irj, Irk, Irl, Irm, Irn, Iro, Irp, Irq, Nrr, Irs, dropK_eq]) only [x13l4, go_sem, ↓reduceIte, Nra, Nrb, Nrc, Nrd, Nre, Nrf, Irg, Irh, Iri, Irj, Irk, Irl, Irm, Irn, Iro, Irp, Irq, Nrr, Irs, dropK_eq, k2, k3, k29, ki, d1]
          exact Ends_plain rfl rfl
      · have e3 : decide (¬ (l.length : Int) = (m.length : Int)) = true := decide_eq_true (by omega)
        rw [decide_eq_false (fun h : c = c' ∧ f = f' ∧ l = m => c3 (by rw [h.2.2]))]
        simp (disch := first | omega | simp only [go_sem, ↓reduceIte, Nra, Nrb, Nrc, Nrd, Nre, Nrf, Irg, Irh, Iri, Irj, Irk, Irl, Irm, Irn, Iro, Irp, Irq, Nrr, Irs, dropK_eq]) only [x13b, go_sem, ↓reduceIte, Nra, Nrb, Nrc, Nrd, Nre, Nrf, Irg, Irh, Iri, Irj, Irk, Irl, Irm, Irn, Iro, Irp, Irq, Nrr, Irs, dropK_eq, hsc, hcl, hlen, bsc, bcl, blen, e1, e2, e3]
        exact Ends_plain rfl rfl
    · have e2 : decide (¬ f = f') = true := decide_eq_true c2
      rw [decide_eq_false (fun h : c = c' ∧ f = f' ∧ l = m => c2 h.2.1)]
      simp (disch := first | omega | simp only [go_sem, ↓reduceIte, Nra, Nrb, Nrc, Nrd, Nre, Nrf, Irg, Irh, Iri, Irj, Irk, Irl, Irm, Irn, Iro, Irp, Irq, Nrr, Irs, dropK_eq]) only [x13b, go_sem, ↓reduceIte, Nra, Nrb, Nrc, Nrd, Nre, Nrf, Irg, Irh, Iri, Irj, Irk, Irl, Irm, Irn, Iro, Irp, Irq, Nrr, Irs, dropK_eq, hsc, hcl, hlen, bsc, bcl, blen, e1, e2]
      exact Ends_plain rfl rfl
  · have e1 : decide (¬ c = c') = true := decide_eq_true c1
    rw [decide_eq_false (fun h : c = c' ∧ f = f' ∧ l = m => c1 h.1)]
    simp (disch := first | omega | simp only [go_sem, ↓reduceIte, Nra, Nrb, Nrc, Nrd, Nre, Nrf, Irg, Irh, Iri, Irj, Irk, Irl, Irm, Irn, Iro, Irp, Irq, Nrr, Irs, dropK_eq]) only [x13b, go_sem, ↓reduceIte, Nra, Nrb, Nrc, Nrd, Nre, Nrf, Irg, Irh, Iri, Irj, Irk, Irl, Irm, Irn, Iro, Irp, Irq, Nrr, Irs, dropK_eq, hsc, hcl, hlen, bsc, bcl, blen, e1]
    exact Ends_plain rfl rfl
end Go.Proofs.YtaoodcnhmjokoaaGreatDoor
