/-
  MoveTells, as the interpreter sees it.
-/
import Derived.Test.YtihgogbfjiobiaaYN
set_option linter.unusedVariables false
set_option linter.unusedSimpArgs false
namespace Go.Proofs.Ytihgogbfjiobiaa
open Go Go.Xec
attribute [local go_sem] tm0 ne_eq not_false_eq_true List.length_append List.length_replicate List.replicate_succ List.replicate_zero Int.cast_ofNat_Int not_true_eq_false decide_true decide_false ite_self beq_self_eq_true Bool.true_beq Bool.false_beq Bool.not_true Bool.not_false
open Nat renaming reduceAdd → Nra, reduceMul → Nrb, reduceSub → Nrc, reduceLeDiff → Nrd, reduceLT → Nre, reduceEqDiff → Nrf, reducePow → Nrr
open Int renaming reduceLT → Irg, reduceLE → Irh, reduceAdd → Iri, reduceSub → Irj, reduceMul → Irk, reduceToNat → Irl, reducePow → Irm, reduceNe → Irn, reduceMod → Iro, reduceDiv → Irp, reduceEq → Irq, reduceNeg → Irs

set_option maxRecDepth 10000
theorem law4 : ∀ xs, WTL [tM, tI, tS] xs → pureF C5 1 4 xs = some (.bool true) := by
  intro xs h
  simp only [WTL] at h
  obtain ⟨g, _, rfl, hg, xv, _, rfl, hxv, b, _, rfl, hb, rfl⟩ := h
  obtain ⟨m, rfl, hmn0⟩ := wt_M hg
  obtain ⟨x, rfl, _⟩ := (by simpa only [WT] using hxv : ∃ n, xv = .int .i64 n ∧ IntKind.i64.min ≤ n ∧ n ≤ IntKind.i64.max)
  obtain ⟨l0, hb, hb8⟩ := wt_S hb
  have bt := hb.cut 200
  have bp := hb.plain
  have btp := bt.plain
  have hsl := hb.sliceTo (n := min l0.length 200) (Nat.min_le_left _ _)
  have hmn : mnxA false (.int .i64 l0.length) [.int .i64 200] = some (.int .i64 ((min l0.length 200 : Nat) : Int)) := mnx_min2 l0.length 200
  have hlen : (l0.take 200).length ≤ 200 := by simp; omega
  generalize l0.take 200 = l at *
  generalize hbv : rwTake (min l0.length 200) b = bv at *
  have e10 := F10_eq (n := m.n) (l := m.l) (s := m.s) hmn0
  have e11 := F11_eq (n := m.n) (l := m.l) (s := m.s) hmn0
  refine pureF_of (x := x4) rfl rfl ?_
  rw [x4_eq.1, x4_eq.2.1]
  by_cases hm : mvOk m
  · rw [decide_eq_true (show mOk m.n m.l m.s from hm)] at e10 e11
    have hm2 := hm
    have hnn : 0 ≤ m.n ∧ m.n ≤ 1000000000 := by
      obtain ⟨n, l, s⟩ := m
      simp only [mvOk, mOk] at hm ⊢
      omega
    have e13 := F13_eq bt (by omega)
    have e9c : x < -1000000 ∨ (¬ x < -1000000 ∧ 1000000 < x) ∨ (¬ x < -1000000 ∧ ¬ 1000000 < x ∧ m.n = 1000000000) ∨ (¬ x < -1000000 ∧ ¬ 1000000 < x ∧ ¬ m.n = 1000000000) := by omega
    by_cases hx : allX l
    · rw [decide_eq_true hx] at e13
      by_cases hf : m.n + l.length ≤ 1000000000
      · have e7 : F7 [MA m, bv] = some (.tup [MA (runM m l).1, rowN 1 ((runM m l).2.map (AVal.int .i64)), .int .i64 0]) := F7_0 hmn0 bt (by omega) hm hx hf
        have e14 := F14_eq bt (by omega) hm hx hf
        have e15 := F15_eq (rowN_rg (es := 1) (enc := AVal.int .i64) (runM m l).2) (Rg.slc (es := 1) (enc := AVal.int .i64) (runM m l).2) (by have := (run_ok hm hx hf l.length (Nat.le_refl _)).2.2; rw [List.take_length] at this; omega) (by have := (run_ok hm hx hf l.length (Nat.le_refl _)).2.2; rw [List.take_length] at this; omega)
        rw [decide_eq_true rfl] at e15
        have rp := (rowN_rg (es := 1) (enc := AVal.int .i64) (runM m l).2).plain
        have df : decide (1000000000 < m.n + (l.length : Int)) = false := decide_eq_false (by omega)
        have sp := (Rg.slc (es := 1) (enc := AVal.int .i64) (runM m l).2).plain
        have spl : ∀ d, plainL (d + 1) ((runM m l).2.map (AVal.int .i64)) = true := fun d => ints_plain d _
        generalize runM m l = q at *
        rcases e9c with g | ⟨g, h⟩ | ⟨g, h, k⟩ | ⟨g, h, k⟩
        · have e9 := F9_3 (x := x) hmn0 hm (by simp only [xOk]; omega)
          have d1 := decide_eq_true g
          simp (disch := first | omega | simp only [*, go_sem, ↓reduceIte, Nra, Nrb, Nrc, Nrd, Nre, Nrf, Irg, Irh, Iri, Irj, Irk, Irl, Irm, Irn, Iro, Irp, Irq, Nrr, Irs, dropK_eq]) only [x4b, go_sem, ↓reduceIte, Nra, Nrb, Nrc, Nrd, Nre, Nrf, Irg, Irh, Iri, Irj, Irk, Irl, Irm, Irn, Iro, Irp, Irq, Nrr, Irs, dropK_eq, hb.len, hmn, hsl, bt.len, e10, e11, callX_known (C := C5) (g := 7) rfl, ft_call (C := C5) (g := 7) rfl, callX_known (C := C5) (g := 9) rfl, ft_call (C := C5) (g := 9) rfl, callX_known (C := C5) (g := 10) rfl, ft_call (C := C5) (g := 10) rfl, callX_known (C := C5) (g := 11) rfl, ft_call (C := C5) (g := 11) rfl, callX_known (C := C5) (g := 12) rfl, ft_call (C := C5) (g := 12) rfl, callX_known (C := C5) (g := 13) rfl, ft_call (C := C5) (g := 13) rfl, callX_known (C := C5) (g := 14) rfl, ft_call (C := C5) (g := 14) rfl, callX_known (C := C5) (g := 15) rfl, ft_call (C := C5) (g := 15) rfl, F8_eq, callX_known (C := C5) (g := 8) rfl, ft_call (C := C5) (g := 8) rfl, Option.map_some, Option.map_none, e9, e7, e13, d1, df, e14, e15, sp, spl, rp]
          exact Ends_plain rfl rfl
        · have e9 := F9_3 (x := x) hmn0 hm (by simp only [xOk]; omega)
          have d1 := decide_eq_false g
          have d2 := decide_eq_true h
          simp (disch := first | omega | simp only [*, go_sem, ↓reduceIte, Nra, Nrb, Nrc, Nrd, Nre, Nrf, Irg, Irh, Iri, Irj, Irk, Irl, Irm, Irn, Iro, Irp, Irq, Nrr, Irs, dropK_eq]) only [x4b, go_sem, ↓reduceIte, Nra, Nrb, Nrc, Nrd, Nre, Nrf, Irg, Irh, Iri, Irj, Irk, Irl, Irm, Irn, Iro, Irp, Irq, Nrr, Irs, dropK_eq, hb.len, hmn, hsl, bt.len, e10, e11, callX_known (C := C5) (g := 7) rfl, ft_call (C := C5) (g := 7) rfl, callX_known (C := C5) (g := 9) rfl, ft_call (C := C5) (g := 9) rfl, callX_known (C := C5) (g := 10) rfl, ft_call (C := C5) (g := 10) rfl, callX_known (C := C5) (g := 11) rfl, ft_call (C := C5) (g := 11) rfl, callX_known (C := C5) (g := 12) rfl, ft_call (C := C5) (g := 12) rfl, callX_known (C := C5) (g := 13) rfl, ft_call (C := C5) (g := 13) rfl, callX_known (C := C5) (g := 14) rfl, ft_call (C := C5) (g := 14) rfl, callX_known (C := C5) (g := 15) rfl, ft_call (C := C5) (g := 15) rfl, F8_eq, callX_known (C := C5) (g := 8) rfl, ft_call (C := C5) (g := 8) rfl, Option.map_some, Option.map_none, e9, e7, e13, d1, d2, df, e14, e15, sp, spl, rp]
          exact Ends_plain rfl rfl
        · have e9 := F9_11 (x := x) hmn0 hm (by simp only [xOk]; omega) k
          have d1 := decide_eq_false g
          have d2 := decide_eq_false h
          have d3 := decide_eq_true k
          simp (disch := first | omega | simp only [*, go_sem, ↓reduceIte, Nra, Nrb, Nrc, Nrd, Nre, Nrf, Irg, Irh, Iri, Irj, Irk, Irl, Irm, Irn, Iro, Irp, Irq, Nrr, Irs, dropK_eq]) only [x4b, go_sem, ↓reduceIte, Nra, Nrb, Nrc, Nrd, Nre, Nrf, Irg, Irh, Iri, Irj, Irk, Irl, Irm, Irn, Iro, Irp, Irq, Nrr, Irs, dropK_eq, hb.len, hmn, hsl, bt.len, e10, e11, callX_known (C := C5) (g := 7) rfl, ft_call (C := C5) (g := 7) rfl, callX_known (C := C5) (g := 9) rfl, ft_call (C := C5) (g := 9) rfl, callX_known (C := C5) (g := 10) rfl, ft_call (C := C5) (g := 10) rfl, callX_known (C := C5) (g := 11) rfl, ft_call (C := C5) (g := 11) rfl, callX_known (C := C5) (g := 12) rfl, ft_call (C := C5) (g := 12) rfl, callX_known (C := C5) (g := 13) rfl, ft_call (C := C5) (g := 13) rfl, callX_known (C := C5) (g := 14) rfl, ft_call (C := C5) (g := 14) rfl, callX_known (C := C5) (g := 15) rfl, ft_call (C := C5) (g := 15) rfl, F8_eq, callX_known (C := C5) (g := 8) rfl, ft_call (C := C5) (g := 8) rfl, Option.map_some, Option.map_none, e9, e7, e13, d1, d2, d3, df, e14, e15, sp, spl, rp]
          exact Ends_plain rfl rfl
        · have e9 := F9_0 (x := x) hmn0 hm (by simp only [xOk]; omega) (by omega)
          have e12 := F12_eq (x := x) hm (by simp only [xOk]; omega) (by omega)
          have d1 := decide_eq_false g
          have d2 := decide_eq_false h
          have d3 := decide_eq_false k
          simp (disch := first | omega | simp only [*, go_sem, ↓reduceIte, Nra, Nrb, Nrc, Nrd, Nre, Nrf, Irg, Irh, Iri, Irj, Irk, Irl, Irm, Irn, Iro, Irp, Irq, Nrr, Irs, dropK_eq]) only [x4b, go_sem, ↓reduceIte, Nra, Nrb, Nrc, Nrd, Nre, Nrf, Irg, Irh, Iri, Irj, Irk, Irl, Irm, Irn, Iro, Irp, Irq, Nrr, Irs, dropK_eq, hb.len, hmn, hsl, bt.len, e10, e11, callX_known (C := C5) (g := 7) rfl, ft_call (C := C5) (g := 7) rfl, callX_known (C := C5) (g := 9) rfl, ft_call (C := C5) (g := 9) rfl, callX_known (C := C5) (g := 10) rfl, ft_call (C := C5) (g := 10) rfl, callX_known (C := C5) (g := 11) rfl, ft_call (C := C5) (g := 11) rfl, callX_known (C := C5) (g := 12) rfl, ft_call (C := C5) (g := 12) rfl, callX_known (C := C5) (g := 13) rfl, ft_call (C := C5) (g := 13) rfl, callX_known (C := C5) (g := 14) rfl, ft_call (C := C5) (g := 14) rfl, callX_known (C := C5) (g := 15) rfl, ft_call (C := C5) (g := 15) rfl, F8_eq, callX_known (C := C5) (g := 8) rfl, ft_call (C := C5) (g := 8) rfl, Option.map_some, Option.map_none, e9, e12, e7, e13, d1, d2, d3, df, e14, e15, sp, spl, rp]
          exact Ends_plain rfl rfl
      · have e7 := F7_11 hmn0 bt (by omega) hm hx (by omega)
        have df : decide (1000000000 < m.n + (l.length : Int)) = true := decide_eq_true (by omega)
        rcases e9c with g | ⟨g, h⟩ | ⟨g, h, k⟩ | ⟨g, h, k⟩
        · have e9 := F9_3 (x := x) hmn0 hm (by simp only [xOk]; omega)
          have d1 := decide_eq_true g
          simp (disch := first | omega | simp only [*, go_sem, ↓reduceIte, Nra, Nrb, Nrc, Nrd, Nre, Nrf, Irg, Irh, Iri, Irj, Irk, Irl, Irm, Irn, Iro, Irp, Irq, Nrr, Irs, dropK_eq]) only [x4b, go_sem, ↓reduceIte, Nra, Nrb, Nrc, Nrd, Nre, Nrf, Irg, Irh, Iri, Irj, Irk, Irl, Irm, Irn, Iro, Irp, Irq, Nrr, Irs, dropK_eq, hb.len, hmn, hsl, bt.len, e10, e11, callX_known (C := C5) (g := 7) rfl, ft_call (C := C5) (g := 7) rfl, callX_known (C := C5) (g := 9) rfl, ft_call (C := C5) (g := 9) rfl, callX_known (C := C5) (g := 10) rfl, ft_call (C := C5) (g := 10) rfl, callX_known (C := C5) (g := 11) rfl, ft_call (C := C5) (g := 11) rfl, callX_known (C := C5) (g := 12) rfl, ft_call (C := C5) (g := 12) rfl, callX_known (C := C5) (g := 13) rfl, ft_call (C := C5) (g := 13) rfl, callX_known (C := C5) (g := 14) rfl, ft_call (C := C5) (g := 14) rfl, callX_known (C := C5) (g := 15) rfl, ft_call (C := C5) (g := 15) rfl, F8_eq, callX_known (C := C5) (g := 8) rfl, ft_call (C := C5) (g := 8) rfl, Option.map_some, Option.map_none, e9, e7, e13, d1, df]
          exact Ends_plain rfl rfl
        · have e9 := F9_3 (x := x) hmn0 hm (by simp only [xOk]; omega)
          have d1 := decide_eq_false g
          have d2 := decide_eq_true h
          simp (disch := first | omega | simp only [*, go_sem, ↓reduceIte, Nra, Nrb, Nrc, Nrd, Nre, Nrf, Irg, Irh, Iri, Irj, Irk, Irl, Irm, Irn, Iro, Irp, Irq, Nrr, Irs, dropK_eq]) only [x4b, go_sem, ↓reduceIte, Nra, Nrb, Nrc, Nrd, Nre, Nrf, Irg, Irh, Iri, Irj, Irk, Irl, Irm, Irn, Iro, Irp, Irq, Nrr, Irs, dropK_eq, hb.len, hmn, hsl, bt.len, e10, e11, callX_known (C := C5) (g := 7) rfl, ft_call (C := C5) (g := 7) rfl, callX_known (C := C5) (g := 9) rfl, ft_call (C := C5) (g := 9) rfl, callX_known (C := C5) (g := 10) rfl, ft_call (C := C5) (g := 10) rfl, callX_known (C := C5) (g := 11) rfl, ft_call (C := C5) (g := 11) rfl, callX_known (C := C5) (g := 12) rfl, ft_call (C := C5) (g := 12) rfl, callX_known (C := C5) (g := 13) rfl, ft_call (C := C5) (g := 13) rfl, callX_known (C := C5) (g := 14) rfl, ft_call (C := C5) (g := 14) rfl, callX_known (C := C5) (g := 15) rfl, ft_call (C := C5) (g := 15) rfl, F8_eq, callX_known (C := C5) (g := 8) rfl, ft_call (C := C5) (g := 8) rfl, Option.map_some, Option.map_none, e9, e7, e13, d1, d2, df]
          exact Ends_plain rfl rfl
        · have e9 := F9_11 (x := x) hmn0 hm (by simp only [xOk]; omega) k
          have d1 := decide_eq_false g
          have d2 := decide_eq_false h
          have d3 := decide_eq_true k
          simp (disch := first | omega | simp only [*, go_sem, ↓reduceIte, Nra, Nrb, Nrc, Nrd, Nre, Nrf, Irg, Irh, Iri, Irj, Irk, Irl, Irm, Irn, Iro, Irp, Irq, Nrr, Irs, dropK_eq]) only [x4b, go_sem, ↓reduceIte, Nra, Nrb, Nrc, Nrd, Nre, Nrf, Irg, Irh, Iri, Irj, Irk, Irl, Irm, Irn, Iro, Irp, Irq, Nrr, Irs, dropK_eq, hb.len, hmn, hsl, bt.len, e10, e11, callX_known (C := C5) (g := 7) rfl, ft_call (C := C5) (g := 7) rfl, callX_known (C := C5) (g := 9) rfl, ft_call (C := C5) (g := 9) rfl, callX_known (C := C5) (g := 10) rfl, ft_call (C := C5) (g := 10) rfl, callX_known (C := C5) (g := 11) rfl, ft_call (C := C5) (g := 11) rfl, callX_known (C := C5) (g := 12) rfl, ft_call (C := C5) (g := 12) rfl, callX_known (C := C5) (g := 13) rfl, ft_call (C := C5) (g := 13) rfl, callX_known (C := C5) (g := 14) rfl, ft_call (C := C5) (g := 14) rfl, callX_known (C := C5) (g := 15) rfl, ft_call (C := C5) (g := 15) rfl, F8_eq, callX_known (C := C5) (g := 8) rfl, ft_call (C := C5) (g := 8) rfl, Option.map_some, Option.map_none, e9, e7, e13, d1, d2, d3, df]
          exact Ends_plain rfl rfl
        · have e9 := F9_0 (x := x) hmn0 hm (by simp only [xOk]; omega) (by omega)
          have e12 := F12_eq (x := x) hm (by simp only [xOk]; omega) (by omega)
          have d1 := decide_eq_false g
          have d2 := decide_eq_false h
          have d3 := decide_eq_false k
          simp (disch := first | omega | simp only [*, go_sem, ↓reduceIte, Nra, Nrb, Nrc, Nrd, Nre, Nrf, Irg, Irh, Iri, Irj, Irk, Irl, Irm, Irn, Iro, Irp, Irq, Nrr, Irs, dropK_eq]) only [x4b, go_sem, ↓reduceIte, Nra, Nrb, Nrc, Nrd, Nre, Nrf, Irg, Irh, Iri, Irj, Irk, Irl, Irm, Irn, Iro, Irp, Irq, Nrr, Irs, dropK_eq, hb.len, hmn, hsl, bt.len, e10, e11, callX_known (C := C5) (g := 7) rfl, ft_call (C := C5) (g := 7) rfl, callX_known (C := C5) (g := 9) rfl, ft_call (C := C5) (g := 9) rfl, callX_known (C := C5) (g := 10) rfl, ft_call (C := C5) (g := 10) rfl, callX_known (C := C5) (g := 11) rfl, ft_call (C := C5) (g := 11) rfl, callX_known (C := C5) (g := 12) rfl, ft_call (C := C5) (g := 12) rfl, callX_known (C := C5) (g := 13) rfl, ft_call (C := C5) (g := 13) rfl, callX_known (C := C5) (g := 14) rfl, ft_call (C := C5) (g := 14) rfl, callX_known (C := C5) (g := 15) rfl, ft_call (C := C5) (g := 15) rfl, F8_eq, callX_known (C := C5) (g := 8) rfl, ft_call (C := C5) (g := 8) rfl, Option.map_some, Option.map_none, e9, e12, e7, e13, d1, d2, d3, df]
          exact Ends_plain rfl rfl
    · rw [decide_eq_false hx] at e13
      have e7 := F7_3 hmn0 bt (by omega) hm hx
      rcases e9c with g | ⟨g, h⟩ | ⟨g, h, k⟩ | ⟨g, h, k⟩
      · have e9 := F9_3 (x := x) hmn0 hm (by simp only [xOk]; omega)
        have d1 := decide_eq_true g
        simp (disch := first | omega | simp only [*, go_sem, ↓reduceIte, Nra, Nrb, Nrc, Nrd, Nre, Nrf, Irg, Irh, Iri, Irj, Irk, Irl, Irm, Irn, Iro, Irp, Irq, Nrr, Irs, dropK_eq]) only [x4b, go_sem, ↓reduceIte, Nra, Nrb, Nrc, Nrd, Nre, Nrf, Irg, Irh, Iri, Irj, Irk, Irl, Irm, Irn, Iro, Irp, Irq, Nrr, Irs, dropK_eq, hb.len, hmn, hsl, bt.len, e10, e11, callX_known (C := C5) (g := 7) rfl, ft_call (C := C5) (g := 7) rfl, callX_known (C := C5) (g := 9) rfl, ft_call (C := C5) (g := 9) rfl, callX_known (C := C5) (g := 10) rfl, ft_call (C := C5) (g := 10) rfl, callX_known (C := C5) (g := 11) rfl, ft_call (C := C5) (g := 11) rfl, callX_known (C := C5) (g := 12) rfl, ft_call (C := C5) (g := 12) rfl, callX_known (C := C5) (g := 13) rfl, ft_call (C := C5) (g := 13) rfl, callX_known (C := C5) (g := 14) rfl, ft_call (C := C5) (g := 14) rfl, callX_known (C := C5) (g := 15) rfl, ft_call (C := C5) (g := 15) rfl, F8_eq, callX_known (C := C5) (g := 8) rfl, ft_call (C := C5) (g := 8) rfl, Option.map_some, Option.map_none, e9, e7, e13, d1]
        exact Ends_plain rfl rfl
      · have e9 := F9_3 (x := x) hmn0 hm (by simp only [xOk]; omega)
        have d1 := decide_eq_false g
        have d2 := decide_eq_true h
        simp (disch := first | omega | simp only [*, go_sem, ↓reduceIte, Nra, Nrb, Nrc, Nrd, Nre, Nrf, Irg, Irh, Iri, Irj, Irk, Irl, Irm, Irn, Iro, Irp, Irq, Nrr, Irs, dropK_eq]) only [x4b, go_sem, ↓reduceIte, Nra, Nrb, Nrc, Nrd, Nre, Nrf, Irg, Irh, Iri, Irj, Irk, Irl, Irm, Irn, Iro, Irp, Irq, Nrr, Irs, dropK_eq, hb.len, hmn, hsl, bt.len, e10, e11, callX_known (C := C5) (g := 7) rfl, ft_call (C := C5) (g := 7) rfl, callX_known (C := C5) (g := 9) rfl, ft_call (C := C5) (g := 9) rfl, callX_known (C := C5) (g := 10) rfl, ft_call (C := C5) (g := 10) rfl, callX_known (C := C5) (g := 11) rfl, ft_call (C := C5) (g := 11) rfl, callX_known (C := C5) (g := 12) rfl, ft_call (C := C5) (g := 12) rfl, callX_known (C := C5) (g := 13) rfl, ft_call (C := C5) (g := 13) rfl, callX_known (C := C5) (g := 14) rfl, ft_call (C := C5) (g := 14) rfl, callX_known (C := C5) (g := 15) rfl, ft_call (C := C5) (g := 15) rfl, F8_eq, callX_known (C := C5) (g := 8) rfl, ft_call (C := C5) (g := 8) rfl, Option.map_some, Option.map_none, e9, e7, e13, d1, d2]
        exact Ends_plain rfl rfl
      · have e9 := F9_11 (x := x) hmn0 hm (by simp only [xOk]; omega) k
        have d1 := decide_eq_false g
        have d2 := decide_eq_false h
        have d3 := decide_eq_true k
        simp (disch := first | omega | simp only [*, go_sem, ↓reduceIte, Nra, Nrb, Nrc, Nrd, Nre, Nrf, Irg, Irh, Iri, Irj, Irk, Irl, Irm, Irn, Iro, Irp, Irq, Nrr, Irs, dropK_eq]) only [x4b, go_sem, ↓reduceIte, Nra, Nrb, Nrc, Nrd, Nre, Nrf, Irg, Irh, Iri, Irj, Irk, Irl, Irm, Irn, Iro, Irp, Irq, Nrr, Irs, dropK_eq, hb.len, hmn, hsl, bt.len, e10, e11, callX_known (C := C5) (g := 7) rfl, ft_call (C := C5) (g := 7) rfl, callX_known (C := C5) (g := 9) rfl, ft_call (C := C5) (g := 9) rfl, callX_known (C := C5) (g := 10) rfl, ft_call (C := C5) (g := 10) rfl, callX_known (C := C5) (g := 11) rfl, ft_call (C := C5) (g := 11) rfl, callX_known (C := C5) (g := 12) rfl, ft_call (C := C5) (g := 12) rfl, callX_known (C := C5) (g := 13) rfl, ft_call (C := C5) (g := 13) rfl, callX_known (C := C5) (g := 14) rfl, ft_call (C := C5) (g := 14) rfl, callX_known (C := C5) (g := 15) rfl, ft_call (C := C5) (g := 15) rfl, F8_eq, callX_known (C := C5) (g := 8) rfl, ft_call (C := C5) (g := 8) rfl, Option.map_some, Option.map_none, e9, e7, e13, d1, d2, d3]
        exact Ends_plain rfl rfl
      · have e9 := F9_0 (x := x) hmn0 hm (by simp only [xOk]; omega) (by omega)
        have e12 := F12_eq (x := x) hm (by simp only [xOk]; omega) (by omega)
        have d1 := decide_eq_false g
        have d2 := decide_eq_false h
        have d3 := decide_eq_false k
        simp (disch := first | omega | simp only [*, go_sem, ↓reduceIte, Nra, Nrb, Nrc, Nrd, Nre, Nrf, Irg, Irh, Iri, Irj, Irk, Irl, Irm, Irn, Iro, Irp, Irq, Nrr, Irs, dropK_eq]) only [x4b, go_sem, ↓reduceIte, Nra, Nrb, Nrc, Nrd, Nre, Nrf, Irg, Irh, Iri, Irj, Irk, Irl, Irm, Irn, Iro, Irp, Irq, Nrr, Irs, dropK_eq, hb.len, hmn, hsl, bt.len, e10, e11, callX_known (C := C5) (g := 7) rfl, ft_call (C := C5) (g := 7) rfl, callX_known (C := C5) (g := 9) rfl, ft_call (C := C5) (g := 9) rfl, callX_known (C := C5) (g := 10) rfl, ft_call (C := C5) (g := 10) rfl, callX_known (C := C5) (g := 11) rfl, ft_call (C := C5) (g := 11) rfl, callX_known (C := C5) (g := 12) rfl, ft_call (C := C5) (g := 12) rfl, callX_known (C := C5) (g := 13) rfl, ft_call (C := C5) (g := 13) rfl, callX_known (C := C5) (g := 14) rfl, ft_call (C := C5) (g := 14) rfl, callX_known (C := C5) (g := 15) rfl, ft_call (C := C5) (g := 15) rfl, F8_eq, callX_known (C := C5) (g := 8) rfl, ft_call (C := C5) (g := 8) rfl, Option.map_some, Option.map_none, e9, e12, e7, e13, d1, d2, d3]
        exact Ends_plain rfl rfl
  · rw [decide_eq_false (show ¬ mOk m.n m.l m.s from hm)] at e10 e11
    have e9 := F9_1 (x := x) hmn0 hm
    have e7 := F7_1 hmn0 bt (by omega) hm
    simp (disch := first | omega | simp only [*, go_sem, ↓reduceIte, Nra, Nrb, Nrc, Nrd, Nre, Nrf, Irg, Irh, Iri, Irj, Irk, Irl, Irm, Irn, Iro, Irp, Irq, Nrr, Irs, dropK_eq]) only [x4b, go_sem, ↓reduceIte, Nra, Nrb, Nrc, Nrd, Nre, Nrf, Irg, Irh, Iri, Irj, Irk, Irl, Irm, Irn, Iro, Irp, Irq, Nrr, Irs, dropK_eq, hb.len, hmn, hsl, bt.len, e10, e11, callX_known (C := C5) (g := 7) rfl, ft_call (C := C5) (g := 7) rfl, callX_known (C := C5) (g := 9) rfl, ft_call (C := C5) (g := 9) rfl, callX_known (C := C5) (g := 10) rfl, ft_call (C := C5) (g := 10) rfl, callX_known (C := C5) (g := 11) rfl, ft_call (C := C5) (g := 11) rfl, callX_known (C := C5) (g := 12) rfl, ft_call (C := C5) (g := 12) rfl, callX_known (C := C5) (g := 13) rfl, ft_call (C := C5) (g := 13) rfl, callX_known (C := C5) (g := 14) rfl, ft_call (C := C5) (g := 14) rfl, callX_known (C := C5) (g := 15) rfl, ft_call (C := C5) (g := 15) rfl, F8_eq, callX_known (C := C5) (g := 8) rfl, ft_call (C := C5) (g := 8) rfl, Option.map_some, Option.map_none, e9, e7]
    exact Ends_plain rfl rfl
end Go.Proofs.Ytihgogbfjiobiaa
