/-
  The law of texts there and back.
-/
import Derived.Test.YtaoodcnhmjokoaaGreatDoorYK
set_option linter.unusedVariables false
set_option linter.unusedSimpArgs false
namespace Go.Proofs.YtaoodcnhmjokoaaGreatDoor
open Go Go.Xec
attribute [local go_sem] tm0 ne_eq not_false_eq_true List.length_append List.length_replicate List.replicate_succ List.replicate_zero Int.cast_ofNat_Int not_true_eq_false decide_true decide_false ite_self beq_self_eq_true Bool.true_beq Bool.false_beq Bool.not_true Bool.not_false
open Nat renaming reduceAdd → Nra, reduceMul → Nrb, reduceSub → Nrc, reduceLeDiff → Nrd, reduceLT → Nre, reduceEqDiff → Nrf, reducePow → Nrr
open Int renaming reduceLT → Irg, reduceLE → Irh, reduceAdd → Iri, reduceSub → Irj, reduceMul → Irk, reduceToNat → Irl, reducePow → Irm, reduceNe → Irn, reduceMod → Iro, reduceDiv → Irp, reduceEq → Irq, reduceNeg → Irs

set_option maxRecDepth 10000
theorem expT_len {c f : Int} {l : List En} (hj : jOk c f l) : (expT c f l).length ≤ 90000 := by
  obtain ⟨h1, h2, h3, h4, h5, _, h7⟩ := hj
  have hh : i64Ok [c, f] := by
    intro n hn
    simp only [List.mem_cons, List.not_mem_nil, or_false] at hn
    rcases hn with rfl | rfl <;> omega
  have h8 := rowT_len hh
  have h9 := rowsT_len (l := l) (f := f) h4 h5 h7
  simp only [expT, List.length_append, lineT_len, headT, List.length_cons, List.length_nil] at h8 h9 ⊢
  omega
theorem impS_err {s : List UInt8} {e : Int} (h : impS s = .error e) : ¬ e = 0 := by
  have hr : ∀ (ls : List (List UInt8)) (b : Bool) (j : JS), rdL b j ls = .error e → ¬ e = 0 := by
    intro ls
    induction ls with
    | nil => intro b j h; cases h
    | cons l r ih =>
      intro b j h
      rw [rdL] at h
      cases hs : rdS b j l with
      | error q =>
        rw [hs] at h
        cases h
        exact rdS_err hs
      | ok j' =>
        rw [hs] at h
        exact ih _ _ h
  unfold impS at h
  split at h
  · split at h
    · split at h
      · cases h
      · cases h; decide
    · rename_i hq
      cases h
      exact hr _ _ _ hq
  · cases h; decide
theorem impS_len {s : List UInt8} {c f : Int} {l : List En} (h : impS s = .ok (c, f, l)) : l.length ≤ 16 := by
  have := (imp_exp h).1
  have h1 := this.2.1
  have h2 := this.2.2.1
  omega
theorem wt_str {a : AVal} (h : WT .str a) : ∃ l, a = sv l ∧ l.length ≤ 140737488351232 := by
  rw [WT] at h
  obtain ⟨s, rfl, hs⟩ := h
  refine ⟨s.data.toList, by rw [sv, ← bs_of], ?_⟩
  rw [bs_of s, bs_size] at hs
  exact hs
theorem law5 (xs : List AVal) (h : WTL [tJ, .str] xs) : pureF C15 1 5 xs = some (.bool true) := by
  simp only [WTL] at h
  obtain ⟨a, _, rfl, ha, b, _, rfl, hb, rfl⟩ := h
  obtain ⟨c, f, w, l0, rfl, hw, hwl, hf1, hf2⟩ := wt_J ha
  obtain ⟨t0, rfl, ht0⟩ := wt_str hb
  clear ha hb
  have wp := hw.plain
  have wsc := hw.sc
  have wcl := hw.cells
  obtain ⟨b, hb, e7⟩ := F7_eq (cap := c) (first := f) hw (by omega)
  have hl : (l0.take 20).length ≤ 20 := by simp; omega
  generalize l0.take 20 = l at *
  have bp := hb.plain
  have bsc := hb.sc
  have bcl := hb.cells
  have hm : mnxA false (.int .i64 (t0.length : Int)) [.int .i64 2000] = some (.int .i64 ((min t0.length 2000 : Nat) : Int)) := mnx_min2 t0.length 2000
  have hsl := str_sliceTo (l := t0) (hi := min t0.length 2000) (Nat.min_le_left _ _)
  have htl : (t0.take (min t0.length 2000)).length ≤ 2000 := by simp; omega
  generalize t0.take (min t0.length 2000) = t at *
  have e12 := F12_eq
  have e17 := F17_eq (cap := c) (first := f) hb (by omega)
  have e18t := F18_eq (s := t) (by omega)
  unfold expV at e17
  refine pureF_of (x := x5) rfl rfl ?_
  rw [x5_eq.1, x5_eq.2.1]
  cases hi : impS t with
  | error e =>
    rw [hi] at e18t
    simp only [impV] at e18t
    have d2 : decide (¬ e = 0) = true := decide_eq_true (impS_err hi)
    have rp : ∀ d, plain d (.nils) = true := plain_nils
    have rsc : isSc .nils = true := rfl
    have rcl : cellsOf .nils = [.nils] := rfl
    by_cases hj : jOk c f l
    · rw [if_pos hj] at e17
      have e18 := F18_eq (s := expT c f l) (expT_len hj)
      rw [exp_imp hj] at e18
      simp only [impV] at e18
      have hq := rowE l
      have qp := hq.plain
      have qsc := hq.sc
      have qcl := hq.cells
      have e13 := F13_eq (c := c) (f := f) (c' := c) (f' := f) hq hb (by omega) (by omega)
      rw [decide_eq_true (show c = c ∧ f = f ∧ l = l from ⟨rfl, rfl, rfl⟩)] at e13
      generalize rowN 4 (l.map EK) = r at *
      simp (disch := first | omega | simp only [*, go_sem, ↓reduceIte, Nra, Nrb, Nrc, Nrd, Nre, Nrf, Irg, Irh, Iri, Irj, Irk, Irl, Irm, Irn, Iro, Irp, Irq, Nrr, Irs, dropK_eq]) only [x5b, go_sem, ↓reduceIte, Nra, Nrb, Nrc, Nrd, Nre, Nrf, Irg, Irh, Iri, Irj, Irk, Irl, Irm, Irn, Iro, Irp, Irq, Nrr, Irs, dropK_eq, wsc, wcl, bsc, bcl, callX_known (C := C15) (g := 7) rfl, ft_call (C := C15) (g := 7) rfl, callX_known (C := C15) (g := 10) rfl, ft_call (C := C15) (g := 10) rfl, callX_known (C := C15) (g := 12) rfl, ft_call (C := C15) (g := 12) rfl, callX_known (C := C15) (g := 13) rfl, ft_call (C := C15) (g := 13) rfl, callX_known (C := C15) (g := 17) rfl, ft_call (C := C15) (g := 17) rfl, callX_known (C := C15) (g := 18) rfl, ft_call (C := C15) (g := 18) rfl, hm, hsl, e7, e12, e17, e18t, rsc, rcl, rp, bp, wp, e18, e13, qp, qsc, qcl, d2]
      exact Ends_plain rfl rfl
    · rw [if_neg hj] at e17
      simp (disch := first | omega | simp only [*, go_sem, ↓reduceIte, Nra, Nrb, Nrc, Nrd, Nre, Nrf, Irg, Irh, Iri, Irj, Irk, Irl, Irm, Irn, Iro, Irp, Irq, Nrr, Irs, dropK_eq]) only [x5b, go_sem, ↓reduceIte, Nra, Nrb, Nrc, Nrd, Nre, Nrf, Irg, Irh, Iri, Irj, Irk, Irl, Irm, Irn, Iro, Irp, Irq, Nrr, Irs, dropK_eq, wsc, wcl, bsc, bcl, callX_known (C := C15) (g := 7) rfl, ft_call (C := C15) (g := 7) rfl, callX_known (C := C15) (g := 10) rfl, ft_call (C := C15) (g := 10) rfl, callX_known (C := C15) (g := 12) rfl, ft_call (C := C15) (g := 12) rfl, callX_known (C := C15) (g := 13) rfl, ft_call (C := C15) (g := 13) rfl, callX_known (C := C15) (g := 17) rfl, ft_call (C := C15) (g := 17) rfl, callX_known (C := C15) (g := 18) rfl, ft_call (C := C15) (g := 18) rfl, hm, hsl, e7, e12, e17, e18t, rsc, rcl, rp, bp, wp, d2]
      exact Ends_plain rfl rfl
  | ok j =>
    obtain ⟨c', f', l'⟩ := j
    rw [hi] at e18t
    simp only [impV] at e18t
    obtain ⟨hj', he'⟩ := imp_exp hi
    have hl' := impS_len hi
    have hr := rowE l'
    have rp := hr.plain
    have rsc := hr.sc
    have rcl := hr.cells
    have e17' := F17_eq (cap := c') (first := f') hr (by omega)
    unfold expV at e17'
    rw [if_pos hj', he'] at e17'
    have e10 := F10_eq (cap := c') (first := f') hr (by omega)
    rw [decide_eq_true hj'] at e10
    generalize rowN 4 (l'.map EK) = r' at *
    by_cases hj : jOk c f l
    · rw [if_pos hj] at e17
      have e18 := F18_eq (s := expT c f l) (expT_len hj)
      rw [exp_imp hj] at e18
      simp only [impV] at e18
      have hq := rowE l
      have qp := hq.plain
      have qsc := hq.sc
      have qcl := hq.cells
      have e13 := F13_eq (c := c) (f := f) (c' := c) (f' := f) hq hb (by omega) (by omega)
      rw [decide_eq_true (show c = c ∧ f = f ∧ l = l from ⟨rfl, rfl, rfl⟩)] at e13
      generalize rowN 4 (l.map EK) = r at *
      simp (disch := first | omega | simp only [*, go_sem, ↓reduceIte, Nra, Nrb, Nrc, Nrd, Nre, Nrf, Irg, Irh, Iri, Irj, Irk, Irl, Irm, Irn, Iro, Irp, Irq, Nrr, Irs, dropK_eq]) only [x5b, go_sem, ↓reduceIte, Nra, Nrb, Nrc, Nrd, Nre, Nrf, Irg, Irh, Iri, Irj, Irk, Irl, Irm, Irn, Iro, Irp, Irq, Nrr, Irs, dropK_eq, wsc, wcl, bsc, bcl, callX_known (C := C15) (g := 7) rfl, ft_call (C := C15) (g := 7) rfl, callX_known (C := C15) (g := 10) rfl, ft_call (C := C15) (g := 10) rfl, callX_known (C := C15) (g := 12) rfl, ft_call (C := C15) (g := 12) rfl, callX_known (C := C15) (g := 13) rfl, ft_call (C := C15) (g := 13) rfl, callX_known (C := C15) (g := 17) rfl, ft_call (C := C15) (g := 17) rfl, callX_known (C := C15) (g := 18) rfl, ft_call (C := C15) (g := 18) rfl, hm, hsl, e7, e12, e17, e18t, rsc, rcl, rp, bp, wp, e18, e13, qp, qsc, qcl, e17', e10]
      exact Ends_plain rfl rfl
    · rw [if_neg hj] at e17
      simp (disch := first | omega | simp only [*, go_sem, ↓reduceIte, Nra, Nrb, Nrc, Nrd, Nre, Nrf, Irg, Irh, Iri, Irj, Irk, Irl, Irm, Irn, Iro, Irp, Irq, Nrr, Irs, dropK_eq]) only [x5b, go_sem, ↓reduceIte, Nra, Nrb, Nrc, Nrd, Nre, Nrf, Irg, Irh, Iri, Irj, Irk, Irl, Irm, Irn, Iro, Irp, Irq, Nrr, Irs, dropK_eq, wsc, wcl, bsc, bcl, callX_known (C := C15) (g := 7) rfl, ft_call (C := C15) (g := 7) rfl, callX_known (C := C15) (g := 10) rfl, ft_call (C := C15) (g := 10) rfl, callX_known (C := C15) (g := 12) rfl, ft_call (C := C15) (g := 12) rfl, callX_known (C := C15) (g := 13) rfl, ft_call (C := C15) (g := 13) rfl, callX_known (C := C15) (g := 17) rfl, ft_call (C := C15) (g := 17) rfl, callX_known (C := C15) (g := 18) rfl, ft_call (C := C15) (g := 18) rfl, hm, hsl, e7, e12, e17, e18t, rsc, rcl, rp, bp, wp, e17', e10]
      exact Ends_plain rfl rfl
end Go.Proofs.YtaoodcnhmjokoaaGreatDoor
