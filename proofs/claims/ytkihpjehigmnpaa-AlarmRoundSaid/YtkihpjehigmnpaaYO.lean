/-
  AlarmApart.
-/
import Derived.Test.YtkihpjehigmnpaaYN
set_option linter.unusedVariables false
set_option linter.unusedSimpArgs false
namespace Go.Proofs.Ytkihpjehigmnpaa
open Go Go.Xec
attribute [local go_sem] tm0 ne_eq not_false_eq_true List.length_append List.length_replicate List.replicate_succ List.replicate_zero Int.cast_ofNat_Int not_true_eq_false decide_true decide_false ite_self beq_self_eq_true Bool.true_beq Bool.false_beq Bool.not_true Bool.not_false
open Nat renaming reduceAdd → Nra, reduceMul → Nrb, reduceSub → Nrc, reduceLeDiff → Nrd, reduceLT → Nre, reduceEqDiff → Nrf, reducePow → Nrr
open Int renaming reduceLT → Irg, reduceLE → Irh, reduceAdd → Iri, reduceSub → Irj, reduceMul → Irk, reduceToNat → Irl, reducePow → Irm, reduceNe → Irn, reduceMod → Iro, reduceDiv → Irp, reduceEq → Irq, reduceNeg → Irs

set_option maxRecDepth 10000
theorem rem_wrap (x m : Int) (hm : 0 < m) (hm2 : m ≤ 1000) : (IntKind.i64.wrap (x.tmod m + m)).tmod m = (x.tmod m + m).tmod m := by
  have h1 := Int.lt_tmod_of_pos x hm
  have h2 := Int.tmod_lt_of_pos x hm
  rw [wrap_i64 (by omega) (by omega)]
theorem rem_rng (x m : Int) (hm : 0 < m) (hm2 : m ≤ 1000) : 0 ≤ (IntKind.i64.wrap (x.tmod m + m)).tmod m ∧ (IntKind.i64.wrap (x.tmod m + m)).tmod m < m := by
  have h1 := Int.lt_tmod_of_pos x hm
  have h2 := Int.tmod_lt_of_pos x hm
  rw [wrap_i64 (by omega) (by omega)]
  exact ⟨Int.tmod_nonneg m (by omega), Int.tmod_lt_of_pos _ hm⟩
set_option maxHeartbeats 1000000 in
theorem law5 (xs : List AVal) (h : WTL [tAls, tI, tI, tI, tI] xs) : pureF C9 1 5 xs = some (.bool true) := by
  simp only [WTL] at h
  obtain ⟨a, _, rfl, ha, q, _, rfl, hq, r, _, rfl, hr, q2, _, rfl, hq2, r2, _, rfl, hr2, rfl⟩ := h
  obtain ⟨l0, ha, hl0⟩ := wt_als ha
  obtain ⟨c, rfl, hc1, hc2⟩ := wt_i hq
  obtain ⟨k, rfl, hk1, hk2⟩ := wt_i hr
  obtain ⟨o0, rfl, ho1, ho2⟩ := wt_i hq2
  obtain ⟨r0, rfl, hr1, hr2⟩ := wt_i hr2
  have hap := ha.plain
  have e12 := F12_eq ha hl0
  have hv := ha.cut 70
  have hl : (l0.take 70).length ≤ 100000 := by simp; omega
  generalize l0.take 70 = l at *
  generalize rwTake (min l0.length 70) a = v at *
  have hav := hv.plain
  have e6 := F6_eq (c := c) (k := k) hv hl
  have e7 := F7_eq (c := c) (k := k) hv hl
  have e8 := F8_eq (c := c) (k := k) hv hl
  have e13 := F13_eq (c := c) hv hl
  have e9 := fun x y => F9_eq (c := x) (k := y) hv hl
  have e11 := F11_eq
  refine pureF_of (x := x5) rfl rfl ?_
  rw [x5_eq.1, x5_eq.2.1]
  obtain ⟨o, heo⟩ : ∃ o, (IntKind.i64.wrap (o0.tmod 4 + 4)).tmod 4 = o := ⟨_, rfl⟩
  obtain ⟨r, her⟩ : ∃ r, (IntKind.i64.wrap (r0.tmod 16 + 16)).tmod 16 = r := ⟨_, rfl⟩
  have heo2 := heo
  have her2 := her
  rw [rem_wrap _ _ (by omega) (by omega)] at heo2 her2
  have hkor : kOk o r := by
    have h1 := rem_rng o0 4 (by omega) (by omega)
    have h2 := rem_rng r0 16 (by omega) (by omega)
    rw [heo] at h1
    rw [her] at h2
    simp only [kOk]
    omega
  have hz : ∀ N, ¬ (o = c ∧ r = k) → F9 [rowA (fullL (up (stL l) c k N)), .int .i64 o, .int .i64 r] = some (.int .i64 (stL l o r)) := by
    intro N hno
    rw [F9_eq (rowA_RA _) (full_len _), st_full hkor, up, if_neg hno]
  have zp := fun N => (rowA_RA (fullL (up (stL l) c k N))).plain
  clear hq hr hq2 hr2
  by_cases h3 : o = c
  · have d3 := decide_eq_true h3
    by_cases h4 : r = k
    · have d4 := decide_eq_true h4
      have hz' := hz
      clear hz
      by_cases hok : alOk l
      · by_cases hch : c < 0 ∨ 3 < c
        · have hk : ¬ kOk c k := by simp only [kOk]; omega
          have hk0 : ¬ kOk c 0 := by simp only [kOk]; omega
          unfold raiseA at e6
          unfold moveA at e7 e8
          unfold dropA at e13
          rw [if_neg (fun e => hk e.2)] at e6 e7 e8
          rw [if_neg (fun e => hk0 e.2)] at e13
          simp (disch := first | omega | simp only [*, go_sem, ↓reduceIte, Nra, Nrb, Nrc, Nrd, Nre, Nrf, Irg, Irh, Iri, Irj, Irk, Irl, Irm, Irn, Iro, Irp, Irq, Nrr, Irs, dropK_eq]) only [x5b, go_sem, ↓reduceIte, Nra, Nrb, Nrc, Nrd, Nre, Nrf, Irg, Irh, Iri, Irj, Irk, Irl, Irm, Irn, Iro, Irp, Irq, Nrr, Irs, dropK_eq, callX_known (C := C9) (g := 12) rfl, ft_call (C := C9) (g := 12) rfl, callX_known (C := C9) (g := 6) rfl, ft_call (C := C9) (g := 6) rfl, callX_known (C := C9) (g := 7) rfl, ft_call (C := C9) (g := 7) rfl, callX_known (C := C9) (g := 8) rfl, ft_call (C := C9) (g := 8) rfl, callX_known (C := C9) (g := 13) rfl, ft_call (C := C9) (g := 13) rfl, callX_known (C := C9) (g := 10) rfl, ft_call (C := C9) (g := 10) rfl, callX_known (C := C9) (g := 9) rfl, ft_call (C := C9) (g := 9) rfl, callX_known (C := C9) (g := 11) rfl, ft_call (C := C9) (g := 11) rfl, e12, e6, e7, e8, e13, e9, e11, hap, hav, heo, her, heo2, her2, d3, d4]
          exact Ends_plain rfl rfl
        · have hk0 : kOk c 0 := by simp only [kOk]; omega
          unfold dropA at e13
          rw [if_pos ⟨hok, hk0⟩, noC_full hok c] at e13
          have dx := rowA_RA (fullL (noC (stL l) c))
          have dx9 := F9_eq (c := o) (k := r) dx (full_len _)
          have dx10 := F10_eq dx (full_len _)
          rw [okB_true (noC_ok hok c)] at dx10
          rw [st_full hkor, noC, if_pos h3] at dx9
          have dxp := dx.plain
          by_cases hk : kOk c k
          · have hst := st_rng hok c k
            unfold raiseA at e6
            unfold moveA at e7 e8
            rw [if_pos ⟨hok, hk⟩] at e6 e7 e8
            by_cases h0 : stL l c k = 0
            · rw [if_pos h0] at e6 e7 e8
              simp (disch := first | omega | simp only [*, go_sem, ↓reduceIte, Nra, Nrb, Nrc, Nrd, Nre, Nrf, Irg, Irh, Iri, Irj, Irk, Irl, Irm, Irn, Iro, Irp, Irq, Nrr, Irs, dropK_eq]) only [x5b, go_sem, ↓reduceIte, Nra, Nrb, Nrc, Nrd, Nre, Nrf, Irg, Irh, Iri, Irj, Irk, Irl, Irm, Irn, Iro, Irp, Irq, Nrr, Irs, dropK_eq, callX_known (C := C9) (g := 12) rfl, ft_call (C := C9) (g := 12) rfl, callX_known (C := C9) (g := 6) rfl, ft_call (C := C9) (g := 6) rfl, callX_known (C := C9) (g := 7) rfl, ft_call (C := C9) (g := 7) rfl, callX_known (C := C9) (g := 8) rfl, ft_call (C := C9) (g := 8) rfl, callX_known (C := C9) (g := 13) rfl, ft_call (C := C9) (g := 13) rfl, callX_known (C := C9) (g := 10) rfl, ft_call (C := C9) (g := 10) rfl, callX_known (C := C9) (g := 9) rfl, ft_call (C := C9) (g := 9) rfl, callX_known (C := C9) (g := 11) rfl, ft_call (C := C9) (g := 11) rfl, e12, e6, e7, e8, e13, e9, e11, hap, hav, heo, her, heo2, her2, d3, d4, dx9, dx10, dxp, hz', zp]
              exact Ends_plain rfl rfl
            · rw [if_neg h0] at e6 e7 e8
              by_cases h1 : stL l c k = 1
              · have h2 : ¬ stL l c k = 2 := by omega
                rw [if_pos h1] at e7
                rw [if_neg h2] at e8
                simp (disch := first | omega | simp only [*, go_sem, ↓reduceIte, Nra, Nrb, Nrc, Nrd, Nre, Nrf, Irg, Irh, Iri, Irj, Irk, Irl, Irm, Irn, Iro, Irp, Irq, Nrr, Irs, dropK_eq]) only [x5b, go_sem, ↓reduceIte, Nra, Nrb, Nrc, Nrd, Nre, Nrf, Irg, Irh, Iri, Irj, Irk, Irl, Irm, Irn, Iro, Irp, Irq, Nrr, Irs, dropK_eq, callX_known (C := C9) (g := 12) rfl, ft_call (C := C9) (g := 12) rfl, callX_known (C := C9) (g := 6) rfl, ft_call (C := C9) (g := 6) rfl, callX_known (C := C9) (g := 7) rfl, ft_call (C := C9) (g := 7) rfl, callX_known (C := C9) (g := 8) rfl, ft_call (C := C9) (g := 8) rfl, callX_known (C := C9) (g := 13) rfl, ft_call (C := C9) (g := 13) rfl, callX_known (C := C9) (g := 10) rfl, ft_call (C := C9) (g := 10) rfl, callX_known (C := C9) (g := 9) rfl, ft_call (C := C9) (g := 9) rfl, callX_known (C := C9) (g := 11) rfl, ft_call (C := C9) (g := 11) rfl, e12, e6, e7, e8, e13, e9, e11, hap, hav, heo, her, heo2, her2, d3, d4, dx9, dx10, dxp, hz', zp]
                exact Ends_plain rfl rfl
              · have h2 : stL l c k = 2 := by omega
                rw [if_neg h1] at e7
                rw [if_pos h2] at e8
                simp (disch := first | omega | simp only [*, go_sem, ↓reduceIte, Nra, Nrb, Nrc, Nrd, Nre, Nrf, Irg, Irh, Iri, Irj, Irk, Irl, Irm, Irn, Iro, Irp, Irq, Nrr, Irs, dropK_eq]) only [x5b, go_sem, ↓reduceIte, Nra, Nrb, Nrc, Nrd, Nre, Nrf, Irg, Irh, Iri, Irj, Irk, Irl, Irm, Irn, Iro, Irp, Irq, Nrr, Irs, dropK_eq, callX_known (C := C9) (g := 12) rfl, ft_call (C := C9) (g := 12) rfl, callX_known (C := C9) (g := 6) rfl, ft_call (C := C9) (g := 6) rfl, callX_known (C := C9) (g := 7) rfl, ft_call (C := C9) (g := 7) rfl, callX_known (C := C9) (g := 8) rfl, ft_call (C := C9) (g := 8) rfl, callX_known (C := C9) (g := 13) rfl, ft_call (C := C9) (g := 13) rfl, callX_known (C := C9) (g := 10) rfl, ft_call (C := C9) (g := 10) rfl, callX_known (C := C9) (g := 9) rfl, ft_call (C := C9) (g := 9) rfl, callX_known (C := C9) (g := 11) rfl, ft_call (C := C9) (g := 11) rfl, e12, e6, e7, e8, e13, e9, e11, hap, hav, heo, her, heo2, her2, d3, d4, dx9, dx10, dxp, hz', zp]
                exact Ends_plain rfl rfl
          · unfold raiseA at e6
            unfold moveA at e7 e8
            rw [if_neg (fun e => hk e.2)] at e6 e7 e8
            simp (disch := first | omega | simp only [*, go_sem, ↓reduceIte, Nra, Nrb, Nrc, Nrd, Nre, Nrf, Irg, Irh, Iri, Irj, Irk, Irl, Irm, Irn, Iro, Irp, Irq, Nrr, Irs, dropK_eq]) only [x5b, go_sem, ↓reduceIte, Nra, Nrb, Nrc, Nrd, Nre, Nrf, Irg, Irh, Iri, Irj, Irk, Irl, Irm, Irn, Iro, Irp, Irq, Nrr, Irs, dropK_eq, callX_known (C := C9) (g := 12) rfl, ft_call (C := C9) (g := 12) rfl, callX_known (C := C9) (g := 6) rfl, ft_call (C := C9) (g := 6) rfl, callX_known (C := C9) (g := 7) rfl, ft_call (C := C9) (g := 7) rfl, callX_known (C := C9) (g := 8) rfl, ft_call (C := C9) (g := 8) rfl, callX_known (C := C9) (g := 13) rfl, ft_call (C := C9) (g := 13) rfl, callX_known (C := C9) (g := 10) rfl, ft_call (C := C9) (g := 10) rfl, callX_known (C := C9) (g := 9) rfl, ft_call (C := C9) (g := 9) rfl, callX_known (C := C9) (g := 11) rfl, ft_call (C := C9) (g := 11) rfl, e12, e6, e7, e8, e13, e9, e11, hap, hav, heo, her, heo2, her2, d3, d4, dx9, dx10, dxp]
            exact Ends_plain rfl rfl
      · unfold raiseA at e6
        unfold moveA at e7 e8
        unfold dropA at e13
        rw [if_neg (fun e => hok e.1)] at e6 e7 e8 e13
        simp (disch := first | omega | simp only [*, go_sem, ↓reduceIte, Nra, Nrb, Nrc, Nrd, Nre, Nrf, Irg, Irh, Iri, Irj, Irk, Irl, Irm, Irn, Iro, Irp, Irq, Nrr, Irs, dropK_eq]) only [x5b, go_sem, ↓reduceIte, Nra, Nrb, Nrc, Nrd, Nre, Nrf, Irg, Irh, Iri, Irj, Irk, Irl, Irm, Irn, Iro, Irp, Irq, Nrr, Irs, dropK_eq, callX_known (C := C9) (g := 12) rfl, ft_call (C := C9) (g := 12) rfl, callX_known (C := C9) (g := 6) rfl, ft_call (C := C9) (g := 6) rfl, callX_known (C := C9) (g := 7) rfl, ft_call (C := C9) (g := 7) rfl, callX_known (C := C9) (g := 8) rfl, ft_call (C := C9) (g := 8) rfl, callX_known (C := C9) (g := 13) rfl, ft_call (C := C9) (g := 13) rfl, callX_known (C := C9) (g := 10) rfl, ft_call (C := C9) (g := 10) rfl, callX_known (C := C9) (g := 9) rfl, ft_call (C := C9) (g := 9) rfl, callX_known (C := C9) (g := 11) rfl, ft_call (C := C9) (g := 11) rfl, e12, e6, e7, e8, e13, e9, e11, hap, hav, heo, her, heo2, her2, d3, d4]
        exact Ends_plain rfl rfl
    · have d4 := decide_eq_false h4
      have hz' := fun N => hz N (fun e => h4 e.2)
      clear hz
      by_cases hok : alOk l
      · by_cases hch : c < 0 ∨ 3 < c
        · have hk : ¬ kOk c k := by simp only [kOk]; omega
          have hk0 : ¬ kOk c 0 := by simp only [kOk]; omega
          unfold raiseA at e6
          unfold moveA at e7 e8
          unfold dropA at e13
          rw [if_neg (fun e => hk e.2)] at e6 e7 e8
          rw [if_neg (fun e => hk0 e.2)] at e13
          simp (disch := first | omega | simp only [*, go_sem, ↓reduceIte, Nra, Nrb, Nrc, Nrd, Nre, Nrf, Irg, Irh, Iri, Irj, Irk, Irl, Irm, Irn, Iro, Irp, Irq, Nrr, Irs, dropK_eq]) only [x5b, go_sem, ↓reduceIte, Nra, Nrb, Nrc, Nrd, Nre, Nrf, Irg, Irh, Iri, Irj, Irk, Irl, Irm, Irn, Iro, Irp, Irq, Nrr, Irs, dropK_eq, callX_known (C := C9) (g := 12) rfl, ft_call (C := C9) (g := 12) rfl, callX_known (C := C9) (g := 6) rfl, ft_call (C := C9) (g := 6) rfl, callX_known (C := C9) (g := 7) rfl, ft_call (C := C9) (g := 7) rfl, callX_known (C := C9) (g := 8) rfl, ft_call (C := C9) (g := 8) rfl, callX_known (C := C9) (g := 13) rfl, ft_call (C := C9) (g := 13) rfl, callX_known (C := C9) (g := 10) rfl, ft_call (C := C9) (g := 10) rfl, callX_known (C := C9) (g := 9) rfl, ft_call (C := C9) (g := 9) rfl, callX_known (C := C9) (g := 11) rfl, ft_call (C := C9) (g := 11) rfl, e12, e6, e7, e8, e13, e9, e11, hap, hav, heo, her, heo2, her2, d3, d4]
          exact Ends_plain rfl rfl
        · have hk0 : kOk c 0 := by simp only [kOk]; omega
          unfold dropA at e13
          rw [if_pos ⟨hok, hk0⟩, noC_full hok c] at e13
          have dx := rowA_RA (fullL (noC (stL l) c))
          have dx9 := F9_eq (c := o) (k := r) dx (full_len _)
          have dx10 := F10_eq dx (full_len _)
          rw [okB_true (noC_ok hok c)] at dx10
          rw [st_full hkor, noC, if_pos h3] at dx9
          have dxp := dx.plain
          by_cases hk : kOk c k
          · have hst := st_rng hok c k
            unfold raiseA at e6
            unfold moveA at e7 e8
            rw [if_pos ⟨hok, hk⟩] at e6 e7 e8
            by_cases h0 : stL l c k = 0
            · rw [if_pos h0] at e6 e7 e8
              simp (disch := first | omega | simp only [*, go_sem, ↓reduceIte, Nra, Nrb, Nrc, Nrd, Nre, Nrf, Irg, Irh, Iri, Irj, Irk, Irl, Irm, Irn, Iro, Irp, Irq, Nrr, Irs, dropK_eq]) only [x5b, go_sem, ↓reduceIte, Nra, Nrb, Nrc, Nrd, Nre, Nrf, Irg, Irh, Iri, Irj, Irk, Irl, Irm, Irn, Iro, Irp, Irq, Nrr, Irs, dropK_eq, callX_known (C := C9) (g := 12) rfl, ft_call (C := C9) (g := 12) rfl, callX_known (C := C9) (g := 6) rfl, ft_call (C := C9) (g := 6) rfl, callX_known (C := C9) (g := 7) rfl, ft_call (C := C9) (g := 7) rfl, callX_known (C := C9) (g := 8) rfl, ft_call (C := C9) (g := 8) rfl, callX_known (C := C9) (g := 13) rfl, ft_call (C := C9) (g := 13) rfl, callX_known (C := C9) (g := 10) rfl, ft_call (C := C9) (g := 10) rfl, callX_known (C := C9) (g := 9) rfl, ft_call (C := C9) (g := 9) rfl, callX_known (C := C9) (g := 11) rfl, ft_call (C := C9) (g := 11) rfl, e12, e6, e7, e8, e13, e9, e11, hap, hav, heo, her, heo2, her2, d3, d4, dx9, dx10, dxp, hz', zp]
              exact Ends_plain rfl rfl
            · rw [if_neg h0] at e6 e7 e8
              by_cases h1 : stL l c k = 1
              · have h2 : ¬ stL l c k = 2 := by omega
                rw [if_pos h1] at e7
                rw [if_neg h2] at e8
                simp (disch := first | omega | simp only [*, go_sem, ↓reduceIte, Nra, Nrb, Nrc, Nrd, Nre, Nrf, Irg, Irh, Iri, Irj, Irk, Irl, Irm, Irn, Iro, Irp, Irq, Nrr, Irs, dropK_eq]) only [x5b, go_sem, ↓reduceIte, Nra, Nrb, Nrc, Nrd, Nre, Nrf, Irg, Irh, Iri, Irj, Irk, Irl, Irm, Irn, Iro, Irp, Irq, Nrr, Irs, dropK_eq, callX_known (C := C9) (g := 12) rfl, ft_call (C := C9) (g := 12) rfl, callX_known (C := C9) (g := 6) rfl, ft_call (C := C9) (g := 6) rfl, callX_known (C := C9) (g := 7) rfl, ft_call (C := C9) (g := 7) rfl, callX_known (C := C9) (g := 8) rfl, ft_call (C := C9) (g := 8) rfl, callX_known (C := C9) (g := 13) rfl, ft_call (C := C9) (g := 13) rfl, callX_known (C := C9) (g := 10) rfl, ft_call (C := C9) (g := 10) rfl, callX_known (C := C9) (g := 9) rfl, ft_call (C := C9) (g := 9) rfl, callX_known (C := C9) (g := 11) rfl, ft_call (C := C9) (g := 11) rfl, e12, e6, e7, e8, e13, e9, e11, hap, hav, heo, her, heo2, her2, d3, d4, dx9, dx10, dxp, hz', zp]
                exact Ends_plain rfl rfl
              · have h2 : stL l c k = 2 := by omega
                rw [if_neg h1] at e7
                rw [if_pos h2] at e8
                simp (disch := first | omega | simp only [*, go_sem, ↓reduceIte, Nra, Nrb, Nrc, Nrd, Nre, Nrf, Irg, Irh, Iri, Irj, Irk, Irl, Irm, Irn, Iro, Irp, Irq, Nrr, Irs, dropK_eq]) only [x5b, go_sem, ↓reduceIte, Nra, Nrb, Nrc, Nrd, Nre, Nrf, Irg, Irh, Iri, Irj, Irk, Irl, Irm, Irn, Iro, Irp, Irq, Nrr, Irs, dropK_eq, callX_known (C := C9) (g := 12) rfl, ft_call (C := C9) (g := 12) rfl, callX_known (C := C9) (g := 6) rfl, ft_call (C := C9) (g := 6) rfl, callX_known (C := C9) (g := 7) rfl, ft_call (C := C9) (g := 7) rfl, callX_known (C := C9) (g := 8) rfl, ft_call (C := C9) (g := 8) rfl, callX_known (C := C9) (g := 13) rfl, ft_call (C := C9) (g := 13) rfl, callX_known (C := C9) (g := 10) rfl, ft_call (C := C9) (g := 10) rfl, callX_known (C := C9) (g := 9) rfl, ft_call (C := C9) (g := 9) rfl, callX_known (C := C9) (g := 11) rfl, ft_call (C := C9) (g := 11) rfl, e12, e6, e7, e8, e13, e9, e11, hap, hav, heo, her, heo2, her2, d3, d4, dx9, dx10, dxp, hz', zp]
                exact Ends_plain rfl rfl
          · unfold raiseA at e6
            unfold moveA at e7 e8
            rw [if_neg (fun e => hk e.2)] at e6 e7 e8
            simp (disch := first | omega | simp only [*, go_sem, ↓reduceIte, Nra, Nrb, Nrc, Nrd, Nre, Nrf, Irg, Irh, Iri, Irj, Irk, Irl, Irm, Irn, Iro, Irp, Irq, Nrr, Irs, dropK_eq]) only [x5b, go_sem, ↓reduceIte, Nra, Nrb, Nrc, Nrd, Nre, Nrf, Irg, Irh, Iri, Irj, Irk, Irl, Irm, Irn, Iro, Irp, Irq, Nrr, Irs, dropK_eq, callX_known (C := C9) (g := 12) rfl, ft_call (C := C9) (g := 12) rfl, callX_known (C := C9) (g := 6) rfl, ft_call (C := C9) (g := 6) rfl, callX_known (C := C9) (g := 7) rfl, ft_call (C := C9) (g := 7) rfl, callX_known (C := C9) (g := 8) rfl, ft_call (C := C9) (g := 8) rfl, callX_known (C := C9) (g := 13) rfl, ft_call (C := C9) (g := 13) rfl, callX_known (C := C9) (g := 10) rfl, ft_call (C := C9) (g := 10) rfl, callX_known (C := C9) (g := 9) rfl, ft_call (C := C9) (g := 9) rfl, callX_known (C := C9) (g := 11) rfl, ft_call (C := C9) (g := 11) rfl, e12, e6, e7, e8, e13, e9, e11, hap, hav, heo, her, heo2, her2, d3, d4, dx9, dx10, dxp]
            exact Ends_plain rfl rfl
      · unfold raiseA at e6
        unfold moveA at e7 e8
        unfold dropA at e13
        rw [if_neg (fun e => hok e.1)] at e6 e7 e8 e13
        simp (disch := first | omega | simp only [*, go_sem, ↓reduceIte, Nra, Nrb, Nrc, Nrd, Nre, Nrf, Irg, Irh, Iri, Irj, Irk, Irl, Irm, Irn, Iro, Irp, Irq, Nrr, Irs, dropK_eq]) only [x5b, go_sem, ↓reduceIte, Nra, Nrb, Nrc, Nrd, Nre, Nrf, Irg, Irh, Iri, Irj, Irk, Irl, Irm, Irn, Iro, Irp, Irq, Nrr, Irs, dropK_eq, callX_known (C := C9) (g := 12) rfl, ft_call (C := C9) (g := 12) rfl, callX_known (C := C9) (g := 6) rfl, ft_call (C := C9) (g := 6) rfl, callX_known (C := C9) (g := 7) rfl, ft_call (C := C9) (g := 7) rfl, callX_known (C := C9) (g := 8) rfl, ft_call (C := C9) (g := 8) rfl, callX_known (C := C9) (g := 13) rfl, ft_call (C := C9) (g := 13) rfl, callX_known (C := C9) (g := 10) rfl, ft_call (C := C9) (g := 10) rfl, callX_known (C := C9) (g := 9) rfl, ft_call (C := C9) (g := 9) rfl, callX_known (C := C9) (g := 11) rfl, ft_call (C := C9) (g := 11) rfl, e12, e6, e7, e8, e13, e9, e11, hap, hav, heo, her, heo2, her2, d3, d4]
        exact Ends_plain rfl rfl
  · have d3 := decide_eq_false h3
    have d4 : True := trivial
    have hz' := fun N => hz N (fun e => h3 e.1)
    clear hz
    by_cases hok : alOk l
    · by_cases hch : c < 0 ∨ 3 < c
      · have hk : ¬ kOk c k := by simp only [kOk]; omega
        have hk0 : ¬ kOk c 0 := by simp only [kOk]; omega
        unfold raiseA at e6
        unfold moveA at e7 e8
        unfold dropA at e13
        rw [if_neg (fun e => hk e.2)] at e6 e7 e8
        rw [if_neg (fun e => hk0 e.2)] at e13
        simp (disch := first | omega | simp only [*, go_sem, ↓reduceIte, Nra, Nrb, Nrc, Nrd, Nre, Nrf, Irg, Irh, Iri, Irj, Irk, Irl, Irm, Irn, Iro, Irp, Irq, Nrr, Irs, dropK_eq]) only [x5b, go_sem, ↓reduceIte, Nra, Nrb, Nrc, Nrd, Nre, Nrf, Irg, Irh, Iri, Irj, Irk, Irl, Irm, Irn, Iro, Irp, Irq, Nrr, Irs, dropK_eq, callX_known (C := C9) (g := 12) rfl, ft_call (C := C9) (g := 12) rfl, callX_known (C := C9) (g := 6) rfl, ft_call (C := C9) (g := 6) rfl, callX_known (C := C9) (g := 7) rfl, ft_call (C := C9) (g := 7) rfl, callX_known (C := C9) (g := 8) rfl, ft_call (C := C9) (g := 8) rfl, callX_known (C := C9) (g := 13) rfl, ft_call (C := C9) (g := 13) rfl, callX_known (C := C9) (g := 10) rfl, ft_call (C := C9) (g := 10) rfl, callX_known (C := C9) (g := 9) rfl, ft_call (C := C9) (g := 9) rfl, callX_known (C := C9) (g := 11) rfl, ft_call (C := C9) (g := 11) rfl, e12, e6, e7, e8, e13, e9, e11, hap, hav, heo, her, heo2, her2, d3, d4]
        exact Ends_plain rfl rfl
      · have hk0 : kOk c 0 := by simp only [kOk]; omega
        unfold dropA at e13
        rw [if_pos ⟨hok, hk0⟩, noC_full hok c] at e13
        have dx := rowA_RA (fullL (noC (stL l) c))
        have dx9 := F9_eq (c := o) (k := r) dx (full_len _)
        have dx10 := F10_eq dx (full_len _)
        rw [okB_true (noC_ok hok c)] at dx10
        rw [st_full hkor, noC, if_neg h3] at dx9
        have dxp := dx.plain
        by_cases hk : kOk c k
        · have hst := st_rng hok c k
          unfold raiseA at e6
          unfold moveA at e7 e8
          rw [if_pos ⟨hok, hk⟩] at e6 e7 e8
          by_cases h0 : stL l c k = 0
          · rw [if_pos h0] at e6 e7 e8
            simp (disch := first | omega | simp only [*, go_sem, ↓reduceIte, Nra, Nrb, Nrc, Nrd, Nre, Nrf, Irg, Irh, Iri, Irj, Irk, Irl, Irm, Irn, Iro, Irp, Irq, Nrr, Irs, dropK_eq]) only [x5b, go_sem, ↓reduceIte, Nra, Nrb, Nrc, Nrd, Nre, Nrf, Irg, Irh, Iri, Irj, Irk, Irl, Irm, Irn, Iro, Irp, Irq, Nrr, Irs, dropK_eq, callX_known (C := C9) (g := 12) rfl, ft_call (C := C9) (g := 12) rfl, callX_known (C := C9) (g := 6) rfl, ft_call (C := C9) (g := 6) rfl, callX_known (C := C9) (g := 7) rfl, ft_call (C := C9) (g := 7) rfl, callX_known (C := C9) (g := 8) rfl, ft_call (C := C9) (g := 8) rfl, callX_known (C := C9) (g := 13) rfl, ft_call (C := C9) (g := 13) rfl, callX_known (C := C9) (g := 10) rfl, ft_call (C := C9) (g := 10) rfl, callX_known (C := C9) (g := 9) rfl, ft_call (C := C9) (g := 9) rfl, callX_known (C := C9) (g := 11) rfl, ft_call (C := C9) (g := 11) rfl, e12, e6, e7, e8, e13, e9, e11, hap, hav, heo, her, heo2, her2, d3, d4, dx9, dx10, dxp, hz', zp]
            exact Ends_plain rfl rfl
          · rw [if_neg h0] at e6 e7 e8
            by_cases h1 : stL l c k = 1
            · have h2 : ¬ stL l c k = 2 := by omega
              rw [if_pos h1] at e7
              rw [if_neg h2] at e8
              simp (disch := first | omega | simp only [*, go_sem, ↓reduceIte, Nra, Nrb, Nrc, Nrd, Nre, Nrf, Irg, Irh, Iri, Irj, Irk, Irl, Irm, Irn, Iro, Irp, Irq, Nrr, Irs, dropK_eq]) only [x5b, go_sem, ↓reduceIte, Nra, Nrb, Nrc, Nrd, Nre, Nrf, Irg, Irh, Iri, Irj, Irk, Irl, Irm, Irn, Iro, Irp, Irq, Nrr, Irs, dropK_eq, callX_known (C := C9) (g := 12) rfl, ft_call (C := C9) (g := 12) rfl, callX_known (C := C9) (g := 6) rfl, ft_call (C := C9) (g := 6) rfl, callX_known (C := C9) (g := 7) rfl, ft_call (C := C9) (g := 7) rfl, callX_known (C := C9) (g := 8) rfl, ft_call (C := C9) (g := 8) rfl, callX_known (C := C9) (g := 13) rfl, ft_call (C := C9) (g := 13) rfl, callX_known (C := C9) (g := 10) rfl, ft_call (C := C9) (g := 10) rfl, callX_known (C := C9) (g := 9) rfl, ft_call (C := C9) (g := 9) rfl, callX_known (C := C9) (g := 11) rfl, ft_call (C := C9) (g := 11) rfl, e12, e6, e7, e8, e13, e9, e11, hap, hav, heo, her, heo2, her2, d3, d4, dx9, dx10, dxp, hz', zp]
              exact Ends_plain rfl rfl
            · have h2 : stL l c k = 2 := by omega
              rw [if_neg h1] at e7
              rw [if_pos h2] at e8
              simp (disch := first | omega | simp only [*, go_sem, ↓reduceIte, Nra, Nrb, Nrc, Nrd, Nre, Nrf, Irg, Irh, Iri, Irj, Irk, Irl, Irm, Irn, Iro, Irp, Irq, Nrr, Irs, dropK_eq]) only [x5b, go_sem, ↓reduceIte, Nra, Nrb, Nrc, Nrd, Nre, Nrf, Irg, Irh, Iri, Irj, Irk, Irl, Irm, Irn, Iro, Irp, Irq, Nrr, Irs, dropK_eq, callX_known (C := C9) (g := 12) rfl, ft_call (C := C9) (g := 12) rfl, callX_known (C := C9) (g := 6) rfl, ft_call (C := C9) (g := 6) rfl, callX_known (C := C9) (g := 7) rfl, ft_call (C := C9) (g := 7) rfl, callX_known (C := C9) (g := 8) rfl, ft_call (C := C9) (g := 8) rfl, callX_known (C := C9) (g := 13) rfl, ft_call (C := C9) (g := 13) rfl, callX_known (C := C9) (g := 10) rfl, ft_call (C := C9) (g := 10) rfl, callX_known (C := C9) (g := 9) rfl, ft_call (C := C9) (g := 9) rfl, callX_known (C := C9) (g := 11) rfl, ft_call (C := C9) (g := 11) rfl, e12, e6, e7, e8, e13, e9, e11, hap, hav, heo, her, heo2, her2, d3, d4, dx9, dx10, dxp, hz', zp]
              exact Ends_plain rfl rfl
        · unfold raiseA at e6
          unfold moveA at e7 e8
          rw [if_neg (fun e => hk e.2)] at e6 e7 e8
          simp (disch := first | omega | simp only [*, go_sem, ↓reduceIte, Nra, Nrb, Nrc, Nrd, Nre, Nrf, Irg, Irh, Iri, Irj, Irk, Irl, Irm, Irn, Iro, Irp, Irq, Nrr, Irs, dropK_eq]) only [x5b, go_sem, ↓reduceIte, Nra, Nrb, Nrc, Nrd, Nre, Nrf, Irg, Irh, Iri, Irj, Irk, Irl, Irm, Irn, Iro, Irp, Irq, Nrr, Irs, dropK_eq, callX_known (C := C9) (g := 12) rfl, ft_call (C := C9) (g := 12) rfl, callX_known (C := C9) (g := 6) rfl, ft_call (C := C9) (g := 6) rfl, callX_known (C := C9) (g := 7) rfl, ft_call (C := C9) (g := 7) rfl, callX_known (C := C9) (g := 8) rfl, ft_call (C := C9) (g := 8) rfl, callX_known (C := C9) (g := 13) rfl, ft_call (C := C9) (g := 13) rfl, callX_known (C := C9) (g := 10) rfl, ft_call (C := C9) (g := 10) rfl, callX_known (C := C9) (g := 9) rfl, ft_call (C := C9) (g := 9) rfl, callX_known (C := C9) (g := 11) rfl, ft_call (C := C9) (g := 11) rfl, e12, e6, e7, e8, e13, e9, e11, hap, hav, heo, her, heo2, her2, d3, d4, dx9, dx10, dxp]
          exact Ends_plain rfl rfl
    · unfold raiseA at e6
      unfold moveA at e7 e8
      unfold dropA at e13
      rw [if_neg (fun e => hok e.1)] at e6 e7 e8 e13
      simp (disch := first | omega | simp only [*, go_sem, ↓reduceIte, Nra, Nrb, Nrc, Nrd, Nre, Nrf, Irg, Irh, Iri, Irj, Irk, Irl, Irm, Irn, Iro, Irp, Irq, Nrr, Irs, dropK_eq]) only [x5b, go_sem, ↓reduceIte, Nra, Nrb, Nrc, Nrd, Nre, Nrf, Irg, Irh, Iri, Irj, Irk, Irl, Irm, Irn, Iro, Irp, Irq, Nrr, Irs, dropK_eq, callX_known (C := C9) (g := 12) rfl, ft_call (C := C9) (g := 12) rfl, callX_known (C := C9) (g := 6) rfl, ft_call (C := C9) (g := 6) rfl, callX_known (C := C9) (g := 7) rfl, ft_call (C := C9) (g := 7) rfl, callX_known (C := C9) (g := 8) rfl, ft_call (C := C9) (g := 8) rfl, callX_known (C := C9) (g := 13) rfl, ft_call (C := C9) (g := 13) rfl, callX_known (C := C9) (g := 10) rfl, ft_call (C := C9) (g := 10) rfl, callX_known (C := C9) (g := 9) rfl, ft_call (C := C9) (g := 9) rfl, callX_known (C := C9) (g := 11) rfl, ft_call (C := C9) (g := 11) rfl, e12, e6, e7, e8, e13, e9, e11, hap, hav, heo, her, heo2, her2, d3, d4]
      exact Ends_plain rfl rfl
end Go.Proofs.Ytkihpjehigmnpaa
