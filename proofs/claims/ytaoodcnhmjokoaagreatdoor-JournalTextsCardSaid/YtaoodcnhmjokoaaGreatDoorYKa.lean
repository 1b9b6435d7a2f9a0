/-
  The law of texts.
-/
import Derived.Test.YtaoodcnhmjokoaaGreatDoorYKb
set_option linter.unusedVariables false
set_option linter.unusedSimpArgs false
namespace Go.Proofs.YtaoodcnhmjokoaaGreatDoor
open Go Go.Xec
attribute [local go_sem] tm0 ne_eq not_false_eq_true List.length_append List.length_replicate List.replicate_succ List.replicate_zero Int.cast_ofNat_Int not_true_eq_false decide_true decide_false ite_self beq_self_eq_true Bool.true_beq Bool.false_beq Bool.not_true Bool.not_false
open Nat renaming reduceAdd → Nra, reduceMul → Nrb, reduceSub → Nrc, reduceLeDiff → Nrd, reduceLT → Nre, reduceEqDiff → Nrf, reducePow → Nrr
open Int renaming reduceLT → Irg, reduceLE → Irh, reduceAdd → Iri, reduceSub → Irj, reduceMul → Irk, reduceToNat → Irl, reducePow → Irm, reduceNe → Irn, reduceMod → Iro, reduceDiv → Irp, reduceEq → Irq, reduceNeg → Irs

set_option maxRecDepth 10000
theorem law4 (xs : List AVal) (h : WTL [tJ, .str] xs) : pureF C15 1 4 xs = some (.bool true) := by
  simp only [WTL] at h
  obtain ⟨a, _, rfl, ha, b, _, rfl, hb, rfl⟩ := h
  obtain ⟨c, f, w, l0, rfl, hw, hwl, hf1, hf2⟩ := wt_J ha
  obtain ⟨t0, rfl, ht0⟩ := wt_str hb
  clear ha hb
  have wp := hw.plain
  have wsc := hw.sc
  have wcl := hw.cells
  obtain ⟨b, hb, e7⟩ := F7_eq (cap := c) (first := f) hw (by omega)
  have hl : (l0.take 20).length ≤ 20 := by simp; omega
  generalize l0.take 20 = l at *
  have bp := hb.plain
  have bsc := hb.sc
  have bcl := hb.cells
  have hm : mnxA false (.int .i64 (t0.length : Int)) [.int .i64 2000] = some (.int .i64 ((min t0.length 2000 : Nat) : Int)) := mnx_min2 t0.length 2000
  have hsl := str_sliceTo (l := t0) (hi := min t0.length 2000) (Nat.min_le_left _ _)
  have htl : (t0.take (min t0.length 2000)).length ≤ 2000 := by simp; omega
  generalize t0.take (min t0.length 2000) = t at *
  have e12 := F12_eq
  have e17 := F17_eq (cap := c) (first := f) hb (by omega)
  have e11 := F11_eq (cap := c) (first := f) hb (by omega) ⟨hf1, hf2⟩
  have e18t := F18_eq (s := t) (by omega)
  have e20t := F20_eq (s := t) (by omega)
  unfold expV at e17
  obtain ⟨C, F, r, L, E, hE, hr, hL⟩ : ∃ (C F : Int) (r : AVal) (L : List En) (E : Int), impV (impS t) = .tup [JV C F r, .int .i64 E] ∧ RE r L ∧ L.length ≤ 100000 := by
    cases hi : impS t with
    | error e => exact ⟨0, 0, .nils, [], e, rfl, Rg.nils, by simp⟩
    | ok j =>
      obtain ⟨c', f', l'⟩ := j
      exact ⟨c', f', _, l', 0, rfl, rowE l', by have := impS_len hi; omega⟩
  rw [hE] at e18t e20t
  have rp := hr.plain
  have rsc := hr.sc
  have rcl := hr.cells
  have e13 := F13_eq (c := C) (f := F) (c' := C) (f' := F) hr hr hL hL
  rw [decide_eq_true (show C = C ∧ F = F ∧ L = L from ⟨rfl, rfl, rfl⟩)] at e13
  refine pureF_of (x := x4) rfl rfl ?_
  rw [x4_eq.1, x4_eq.2.1]
  by_cases hj : jOk c f l
  · rw [if_pos hj] at e17
    rw [decide_eq_true hj] at e11
    have e19 := F19_eq hb hj
    simp (disch := first | omega | simp only [*, go_sem, ↓reduceIte, Nra, Nrb, Nrc, Nrd, Nre, Nrf, Irg, Irh, Iri, Irj, Irk, Irl, Irm, Irn, Iro, Irp, Irq, Nrr, Irs, dropK_eq]) only [x4b, go_sem, ↓reduceIte, Nra, Nrb, Nrc, Nrd, Nre, Nrf, Irg, Irh, Iri, Irj, Irk, Irl, Irm, Irn, Iro, Irp, Irq, Nrr, Irs, dropK_eq, wsc, wcl, bsc, bcl, callX_known (C := C15) (g := 7) rfl, ft_call (C := C15) (g := 7) rfl, callX_known (C := C15) (g := 11) rfl, ft_call (C := C15) (g := 11) rfl, callX_known (C := C15) (g := 12) rfl, ft_call (C := C15) (g := 12) rfl, callX_known (C := C15) (g := 13) rfl, ft_call (C := C15) (g := 13) rfl, callX_known (C := C15) (g := 17) rfl, ft_call (C := C15) (g := 17) rfl, callX_known (C := C15) (g := 18) rfl, ft_call (C := C15) (g := 18) rfl, callX_known (C := C15) (g := 19) rfl, ft_call (C := C15) (g := 19) rfl, callX_known (C := C15) (g := 20) rfl, ft_call (C := C15) (g := 20) rfl, hm, hsl, e7, e11, e12, e17, e18t, e20t, e13, rsc, rcl, rp, bp, wp, e19]
    exact Ends_plain rfl rfl
  · rw [if_neg hj] at e17
    rw [decide_eq_false hj] at e11
    simp (disch := first | omega | simp only [*, go_sem, ↓reduceIte, Nra, Nrb, Nrc, Nrd, Nre, Nrf, Irg, Irh, Iri, Irj, Irk, Irl, Irm, Irn, Iro, Irp, Irq, Nrr, Irs, dropK_eq]) only [x4b, go_sem, ↓reduceIte, Nra, Nrb, Nrc, Nrd, Nre, Nrf, Irg, Irh, Iri, Irj, Irk, Irl, Irm, Irn, Iro, Irp, Irq, Nrr, Irs, dropK_eq, wsc, wcl, bsc, bcl, callX_known (C := C15) (g := 7) rfl, ft_call (C := C15) (g := 7) rfl, callX_known (C := C15) (g := 11) rfl, ft_call (C := C15) (g := 11) rfl, callX_known (C := C15) (g := 12) rfl, ft_call (C := C15) (g := 12) rfl, callX_known (C := C15) (g := 13) rfl, ft_call (C := C15) (g := 13) rfl, callX_known (C := C15) (g := 17) rfl, ft_call (C := C15) (g := 17) rfl, callX_known (C := C15) (g := 18) rfl, ft_call (C := C15) (g := 18) rfl, callX_known (C := C15) (g := 19) rfl, ft_call (C := C15) (g := 19) rfl, callX_known (C := C15) (g := 20) rfl, ft_call (C := C15) (g := 20) rfl, hm, hsl, e7, e11, e12, e17, e18t, e20t, e13, rsc, rcl, rp, bp, wp]
    exact Ends_plain rfl rfl
end Go.Proofs.YtaoodcnhmjokoaaGreatDoor
