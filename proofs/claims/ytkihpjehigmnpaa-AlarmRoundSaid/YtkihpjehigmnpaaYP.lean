/-
  AlarmRound.
-/
import Derived.Test.YtkihpjehigmnpaaYO
set_option linter.unusedVariables false
set_option linter.unusedSimpArgs false
namespace Go.Proofs.Ytkihpjehigmnpaa
open Go Go.Xec
attribute [local go_sem] tm0 ne_eq not_false_eq_true List.length_append List.length_replicate List.replicate_succ List.replicate_zero Int.cast_ofNat_Int not_true_eq_false decide_true decide_false ite_self beq_self_eq_true Bool.true_beq Bool.false_beq Bool.not_true Bool.not_false
open Nat renaming reduceAdd → Nra, reduceMul → Nrb, reduceSub → Nrc, reduceLeDiff → Nrd, reduceLT → Nre, reduceEqDiff → Nrf, reducePow → Nrr
open Int renaming reduceLT → Irg, reduceLE → Irh, reduceAdd → Iri, reduceSub → Irj, reduceMul → Irk, reduceToNat → Irl, reducePow → Irm, reduceNe → Irn, reduceMod → Iro, reduceDiv → Irp, reduceEq → Irq, reduceNeg → Irs

set_option maxRecDepth 10000
abbrev tDeeds : ATy := .slice 3 24 (.arr 3 (.int .i64))
theorem wt_deeds {a : AVal} (h : WT tDeeds a) : ∃ l : List Al, RA a l ∧ l.length ≤ 140737488355328 := by
  rw [WT] at h
  rcases h with rfl | rfl | ⟨xs, rfl, hx, hb⟩
  · exact ⟨[], Rg.nils, by simp⟩
  · exact ⟨[], .inr (.inl ⟨rfl, rfl⟩), by simp⟩
  · have : ∃ l : List Al, xs = l.map AK := by
      clear hb
      induction xs with
      | nil => exact ⟨[], rfl⟩
      | cons x xs ih =>
        obtain ⟨l, rfl⟩ := ih fun y hy => hx y (by simp [hy])
        have hx0 := hx x (by simp)
        simp only [WT] at hx0
        obtain ⟨ps, rfl, h3, hp⟩ := hx0
        match ps, h3, hp with
        | [p, q, r], _, hp =>
          obtain ⟨n1, rfl, _⟩ := hp p (by simp)
          obtain ⟨n2, rfl, _⟩ := hp q (by simp)
          obtain ⟨n3, rfl, _⟩ := hp r (by simp)
          exact ⟨⟨n1, n2, n3⟩ :: l, rfl⟩
    obtain ⟨l, rfl⟩ := this
    refine ⟨l, Rg.slc l, ?_⟩
    simp at hb; omega
theorem tm13 : Int.tmod 1 3 = 1 := rfl
theorem tm23 : Int.tmod 2 3 = 2 := rfl
theorem tm33 : Int.tmod 3 3 = 0 := rfl
set_option maxHeartbeats 1000000 in
theorem law3 (xs : List AVal) (h : WTL [tDeeds, tI, tI] xs) : pureF C9 1 3 xs = some (.bool true) := by
  simp only [WTL] at h
  obtain ⟨a, _, rfl, ha, q, _, rfl, hq, r, _, rfl, hr, rfl⟩ := h
  obtain ⟨l0, ha, hl0⟩ := wt_deeds ha
  obtain ⟨c0, rfl, hc1, hc2⟩ := wt_i hq
  obtain ⟨k0, rfl, hk1, hk2⟩ := wt_i hr
  have hap := ha.plain
  have hal := ha.len
  have hmn : mnxA false (.int .i64 (l0.length : Int)) [.int .i64 100] = some (.int .i64 ((min l0.length 100 : Nat) : Int)) := mnx_min2 l0.length 100
  have hsl := ha.sliceTo (n := min l0.length 100) (Nat.min_le_left _ _)
  have hw := ha.cut 100
  have hl : (l0.take 100).length ≤ 100 := by simp; omega
  have hwl := hw.len
  generalize l0.take 100 = l at *
  generalize rwTake (min l0.length 100) a = w at *
  have e11 := F11_eq
  obtain ⟨ch, hch⟩ : ∃ ch, (IntKind.i64.wrap (c0.tmod 4 + 4)).tmod 4 = ch := ⟨_, rfl⟩
  obtain ⟨ca, hca⟩ : ∃ ca, (IntKind.i64.wrap (k0.tmod 16 + 16)).tmod 16 = ca := ⟨_, rfl⟩
  have hch2 := hch
  have hca2 := hca
  rw [rem_wrap _ _ (by omega) (by omega)] at hch2 hca2
  have hkk : kOk ch ca := by
    have h1 := rem_rng c0 4 (by omega) (by omega)
    have h2 := rem_rng k0 16 (by omega) (by omega)
    rw [hch] at h1
    rw [hca] at h2
    simp only [kOk]
    omega
  clear hq hr
  refine pureF_of (x := x3) rfl rfl ?_
  rw [x3_eq.1, x3_eq.2.1]
  simp (disch := first | omega | simp only [*, go_sem, ↓reduceIte, Nra, Nrb, Nrc, Nrd, Nre, Nrf, Irg, Irh, Iri, Irj, Irk, Irl, Irm, Irn, Iro, Irp, Irq, Nrr, Irs, dropK_eq]) only [x3b, go_sem, ↓reduceIte, Nra, Nrb, Nrc, Nrd, Nre, Nrf, Irg, Irh, Iri, Irj, Irk, Irl, Irm, Irn, Iro, Irp, Irq, Nrr, Irs, dropK_eq, hal, hmn, hsl, hwl, hch, hca, hch2, hca2, hap]
  refine Ev_range (ti := 34) (len := l.length) (J := fun i tm hp nc => ∃ L, RA (tm 7) L ∧ alOk L ∧ tm 8 = .int .i64 (stL L ch ca)) (by omega) (by simp only [go_sem, ↓reduceIte, Nra, Nrb, Nrc, Nrd, Nre, Nrf, Irg, Irh, Iri, Irj, Irk, Irl, Irm, Irn, Iro, Irp, Irq, Nrr, Irs, dropK_eq]) ?_ ?_
  · simp only [go_sem, ↓reduceIte, Nra, Nrb, Nrc, Nrd, Nre, Nrf, Irg, Irh, Iri, Irj, Irk, Irl, Irm, Irn, Iro, Irp, Irq, Nrr, Irs, dropK_eq]
    exact ⟨[], Rg.nils, alOk_nil, rfl⟩
  · rintro i tm hp' nc hi hc k34 ⟨L, hv, hok, k8⟩
    have k1 := hc 1 rfl; have k2 := hc 2 rfl; have k32 := hc 32 rfl; have k33 := hc 33 rfl; simp only [go_sem, ↓reduceIte, Nra, Nrb, Nrc, Nrd, Nre, Nrf, Irg, Irh, Iri, Irj, Irk, Irl, Irm, Irn, Iro, Irp, Irq, Nrr, Irs, dropK_eq] at k1 k2 k32 k33
    rcases Nat.lt_or_ge i l.length with hlt | hge
    · have d1 : decide ((i : Int) < (l.length : Int)) = true := decide_eq_true (by omega)
      have ia := hw.ia hlt
      obtain ⟨s, g0⟩ : ∃ s, (IntKind.i64.wrap (l[i].c.tmod 3 + 3)).tmod 3 = s := ⟨_, rfl⟩
      obtain ⟨c, g1⟩ : ∃ c, (IntKind.i64.wrap (l[i].k.tmod 4 + 4)).tmod 4 = c := ⟨_, rfl⟩
      obtain ⟨k, g2⟩ : ∃ k, (IntKind.i64.wrap (l[i].s.tmod 16 + 16)).tmod 16 = k := ⟨_, rfl⟩
      have g0b := g0
      have g1b := g1
      have g2b := g2
      rw [rem_wrap _ _ (by omega) (by omega)] at g0b g1b g2b
      have hs3 : s = 0 ∨ s = 1 ∨ s = 2 := by
        have h1 := rem_rng l[i].c 3 (by omega) (by omega)
        rw [g0] at h1
        omega
      have hkc : kOk c k := by
        have h1 := rem_rng l[i].k 4 (by omega) (by omega)
        have h2 := rem_rng l[i].s 16 (by omega) (by omega)
        rw [g1] at h1
        rw [g2] at h2
        simp only [kOk]
        omega
      obtain ⟨v, k7⟩ : ∃ v, tm 7 = v := ⟨_, rfl⟩
      rw [k7] at hv
      have hll : L.length ≤ 100000 := by have := alOk_len hok; omega
      have vp := hv.plain
      have e6 := F6_eq (c := c) (k := k) hv hll
      have e7 := F7_eq (c := c) (k := k) hv hll
      have e8 := F8_eq (c := c) (k := k) hv hll
      have e9 := fun x y => F9_eq (c := x) (k := y) hv hll
      have e10 := F10_eq hv hll
      rw [okB_true hok] at e10
      have hst := st_rng hok c k
      unfold raiseA at e6
      unfold moveA at e7 e8
      rw [if_pos ⟨hok, hkc⟩] at e6 e7 e8
      rcases hs3 with rfl | rfl | rfl
      · by_cases h0 : stL L c k = 0
        · rw [if_pos h0] at e6
          have hx := rowA_RA (fullL (up (stL L) c k 1))
          have hxo := upd_ok hok (c := c) (k := k) (s := 1) (by omega)
          have x9 := F9_eq (c := ch) (k := ca) hx (full_len _)
          have x10 := F10_eq hx (full_len _)
          rw [okB_true hxo] at x10
          have hxst := st_full (f := up (stL L) c k 1) hkk
          rw [hxst] at x9
          have xp := hx.plain
          by_cases h3 : c = ch
          · have d3 := decide_eq_true h3
            by_cases h4 : k = ca
            · have d4 := decide_eq_true h4
              have hu : up (stL L) c k 1 ch ca = 1 := if_pos ⟨h3.symm, h4.symm⟩
              have k8' : tm 8 = .int .i64 0 := by rw [k8, ← h3, ← h4, h0]
              rw [hu] at x9 hxst
              clear h3 h4
              simp (disch := first | omega | simp only [*, go_sem, ↓reduceIte, Nra, Nrb, Nrc, Nrd, Nre, Nrf, Irg, Irh, Iri, Irj, Irk, Irl, Irm, Irn, Iro, Irp, Irq, Nrr, Irs, dropK_eq]) only [x3l5, go_sem, ↓reduceIte, Nra, Nrb, Nrc, Nrd, Nre, Nrf, Irg, Irh, Iri, Irj, Irk, Irl, Irm, Irn, Iro, Irp, Irq, Nrr, Irs, dropK_eq, k1, k2, k7, k32, k33, k34, d1, ia, g0, g1, g2, g0b, g1b, g2b, callX_known (C := C9) (g := 6) rfl, ft_call (C := C9) (g := 6) rfl, callX_known (C := C9) (g := 7) rfl, ft_call (C := C9) (g := 7) rfl, callX_known (C := C9) (g := 8) rfl, ft_call (C := C9) (g := 8) rfl, callX_known (C := C9) (g := 9) rfl, ft_call (C := C9) (g := 9) rfl, callX_known (C := C9) (g := 10) rfl, ft_call (C := C9) (g := 10) rfl, e6, e7, e8, e9, e10, vp, tm13, tm23, tm33, x9, x10, xp, k8', d3, d4, h0]
              exact ⟨hlt, by simp, _, hx, hxo, by rw [hxst]⟩
            · have d4 := decide_eq_false h4
              have hu : up (stL L) c k 1 ch ca = stL L ch ca := if_neg (fun e => h4 e.2.symm)
              rw [hu] at x9 hxst
              clear h3 h4
              simp (disch := first | omega | simp only [*, go_sem, ↓reduceIte, Nra, Nrb, Nrc, Nrd, Nre, Nrf, Irg, Irh, Iri, Irj, Irk, Irl, Irm, Irn, Iro, Irp, Irq, Nrr, Irs, dropK_eq]) only [x3l5, go_sem, ↓reduceIte, Nra, Nrb, Nrc, Nrd, Nre, Nrf, Irg, Irh, Iri, Irj, Irk, Irl, Irm, Irn, Iro, Irp, Irq, Nrr, Irs, dropK_eq, k1, k2, k7, k32, k33, k34, d1, ia, g0, g1, g2, g0b, g1b, g2b, callX_known (C := C9) (g := 6) rfl, ft_call (C := C9) (g := 6) rfl, callX_known (C := C9) (g := 7) rfl, ft_call (C := C9) (g := 7) rfl, callX_known (C := C9) (g := 8) rfl, ft_call (C := C9) (g := 8) rfl, callX_known (C := C9) (g := 9) rfl, ft_call (C := C9) (g := 9) rfl, callX_known (C := C9) (g := 10) rfl, ft_call (C := C9) (g := 10) rfl, e6, e7, e8, e9, e10, vp, tm13, tm23, tm33, x9, x10, xp, k8, d3, d4, h0]
              exact ⟨hlt, by simp, _, hx, hxo, by rw [hxst]⟩
          · have d3 := decide_eq_false h3
            have hu : up (stL L) c k 1 ch ca = stL L ch ca := if_neg (fun e => h3 e.1.symm)
            rw [hu] at x9 hxst
            simp (disch := first | omega | simp only [*, go_sem, ↓reduceIte, Nra, Nrb, Nrc, Nrd, Nre, Nrf, Irg, Irh, Iri, Irj, Irk, Irl, Irm, Irn, Iro, Irp, Irq, Nrr, Irs, dropK_eq]) only [x3l5, go_sem, ↓reduceIte, Nra, Nrb, Nrc, Nrd, Nre, Nrf, Irg, Irh, Iri, Irj, Irk, Irl, Irm, Irn, Iro, Irp, Irq, Nrr, Irs, dropK_eq, k1, k2, k7, k32, k33, k34, d1, ia, g0, g1, g2, g0b, g1b, g2b, callX_known (C := C9) (g := 6) rfl, ft_call (C := C9) (g := 6) rfl, callX_known (C := C9) (g := 7) rfl, ft_call (C := C9) (g := 7) rfl, callX_known (C := C9) (g := 8) rfl, ft_call (C := C9) (g := 8) rfl, callX_known (C := C9) (g := 9) rfl, ft_call (C := C9) (g := 9) rfl, callX_known (C := C9) (g := 10) rfl, ft_call (C := C9) (g := 10) rfl, e6, e7, e8, e9, e10, vp, tm13, tm23, tm33, x9, x10, xp, k8, d3, h0]
            exact ⟨hlt, by simp, _, hx, hxo, by rw [hxst]⟩
        · rw [if_neg h0] at e6
          have d5 : decide (stL L c k = 0) = false := decide_eq_false h0
          simp (disch := first | omega | simp only [*, go_sem, ↓reduceIte, Nra, Nrb, Nrc, Nrd, Nre, Nrf, Irg, Irh, Iri, Irj, Irk, Irl, Irm, Irn, Iro, Irp, Irq, Nrr, Irs, dropK_eq]) only [x3l5, go_sem, ↓reduceIte, Nra, Nrb, Nrc, Nrd, Nre, Nrf, Irg, Irh, Iri, Irj, Irk, Irl, Irm, Irn, Iro, Irp, Irq, Nrr, Irs, dropK_eq, k1, k2, k7, k32, k33, k34, d1, ia, g0, g1, g2, g0b, g1b, g2b, callX_known (C := C9) (g := 6) rfl, ft_call (C := C9) (g := 6) rfl, callX_known (C := C9) (g := 7) rfl, ft_call (C := C9) (g := 7) rfl, callX_known (C := C9) (g := 8) rfl, ft_call (C := C9) (g := 8) rfl, callX_known (C := C9) (g := 9) rfl, ft_call (C := C9) (g := 9) rfl, callX_known (C := C9) (g := 10) rfl, ft_call (C := C9) (g := 10) rfl, e6, e7, e8, e9, e10, vp, tm13, tm23, tm33, k8, d5]
          exact ⟨hlt, by simp, L, hv, hok, rfl⟩
      · by_cases h0 : stL L c k = 0
        · rw [if_pos h0] at e7
          simp (disch := first | omega | simp only [*, go_sem, ↓reduceIte, Nra, Nrb, Nrc, Nrd, Nre, Nrf, Irg, Irh, Iri, Irj, Irk, Irl, Irm, Irn, Iro, Irp, Irq, Nrr, Irs, dropK_eq]) only [x3l5, go_sem, ↓reduceIte, Nra, Nrb, Nrc, Nrd, Nre, Nrf, Irg, Irh, Iri, Irj, Irk, Irl, Irm, Irn, Iro, Irp, Irq, Nrr, Irs, dropK_eq, k1, k2, k7, k32, k33, k34, d1, ia, g0, g1, g2, g0b, g1b, g2b, callX_known (C := C9) (g := 6) rfl, ft_call (C := C9) (g := 6) rfl, callX_known (C := C9) (g := 7) rfl, ft_call (C := C9) (g := 7) rfl, callX_known (C := C9) (g := 8) rfl, ft_call (C := C9) (g := 8) rfl, callX_known (C := C9) (g := 9) rfl, ft_call (C := C9) (g := 9) rfl, callX_known (C := C9) (g := 10) rfl, ft_call (C := C9) (g := 10) rfl, e6, e7, e8, e9, e10, vp, tm13, tm23, tm33, k8, h0]
          exact ⟨hlt, by simp, L, hv, hok, rfl⟩
        · rw [if_neg h0] at e7
          by_cases h1 : stL L c k = 1
          · rw [if_pos h1] at e7
            have hx := rowA_RA (fullL (up (stL L) c k 2))
            have hxo := upd_ok hok (c := c) (k := k) (s := 2) (by omega)
            have x9 := F9_eq (c := ch) (k := ca) hx (full_len _)
            have x10 := F10_eq hx (full_len _)
            rw [okB_true hxo] at x10
            have hxst := st_full (f := up (stL L) c k 2) hkk
            rw [hxst] at x9
            have xp := hx.plain
            by_cases h3 : c = ch
            · have d3 := decide_eq_true h3
              by_cases h4 : k = ca
              · have d4 := decide_eq_true h4
                have hu : up (stL L) c k 2 ch ca = 2 := if_pos ⟨h3.symm, h4.symm⟩
                have k8' : tm 8 = .int .i64 1 := by rw [k8, ← h3, ← h4, h1]
                rw [hu] at x9 hxst
                clear h3 h4
                simp (disch := first | omega | simp only [*, go_sem, ↓reduceIte, Nra, Nrb, Nrc, Nrd, Nre, Nrf, Irg, Irh, Iri, Irj, Irk, Irl, Irm, Irn, Iro, Irp, Irq, Nrr, Irs, dropK_eq]) only [x3l5, go_sem, ↓reduceIte, Nra, Nrb, Nrc, Nrd, Nre, Nrf, Irg, Irh, Iri, Irj, Irk, Irl, Irm, Irn, Iro, Irp, Irq, Nrr, Irs, dropK_eq, k1, k2, k7, k32, k33, k34, d1, ia, g0, g1, g2, g0b, g1b, g2b, callX_known (C := C9) (g := 6) rfl, ft_call (C := C9) (g := 6) rfl, callX_known (C := C9) (g := 7) rfl, ft_call (C := C9) (g := 7) rfl, callX_known (C := C9) (g := 8) rfl, ft_call (C := C9) (g := 8) rfl, callX_known (C := C9) (g := 9) rfl, ft_call (C := C9) (g := 9) rfl, callX_known (C := C9) (g := 10) rfl, ft_call (C := C9) (g := 10) rfl, e6, e7, e8, e9, e10, vp, tm13, tm23, tm33, x9, x10, xp, k8', d3, d4, h1]
                exact ⟨hlt, by simp, _, hx, hxo, by rw [hxst]⟩
              · have d4 := decide_eq_false h4
                have hu : up (stL L) c k 2 ch ca = stL L ch ca := if_neg (fun e => h4 e.2.symm)
                rw [hu] at x9 hxst
                clear h3 h4
                simp (disch := first | omega | simp only [*, go_sem, ↓reduceIte, Nra, Nrb, Nrc, Nrd, Nre, Nrf, Irg, Irh, Iri, Irj, Irk, Irl, Irm, Irn, Iro, Irp, Irq, Nrr, Irs, dropK_eq]) only [x3l5, go_sem, ↓reduceIte, Nra, Nrb, Nrc, Nrd, Nre, Nrf, Irg, Irh, Iri, Irj, Irk, Irl, Irm, Irn, Iro, Irp, Irq, Nrr, Irs, dropK_eq, k1, k2, k7, k32, k33, k34, d1, ia, g0, g1, g2, g0b, g1b, g2b, callX_known (C := C9) (g := 6) rfl, ft_call (C := C9) (g := 6) rfl, callX_known (C := C9) (g := 7) rfl, ft_call (C := C9) (g := 7) rfl, callX_known (C := C9) (g := 8) rfl, ft_call (C := C9) (g := 8) rfl, callX_known (C := C9) (g := 9) rfl, ft_call (C := C9) (g := 9) rfl, callX_known (C := C9) (g := 10) rfl, ft_call (C := C9) (g := 10) rfl, e6, e7, e8, e9, e10, vp, tm13, tm23, tm33, x9, x10, xp, k8, d3, d4, h1]
                exact ⟨hlt, by simp, _, hx, hxo, by rw [hxst]⟩
            · have d3 := decide_eq_false h3
              have hu : up (stL L) c k 2 ch ca = stL L ch ca := if_neg (fun e => h3 e.1.symm)
              rw [hu] at x9 hxst
              simp (disch := first | omega | simp only [*, go_sem, ↓reduceIte, Nra, Nrb, Nrc, Nrd, Nre, Nrf, Irg, Irh, Iri, Irj, Irk, Irl, Irm, Irn, Iro, Irp, Irq, Nrr, Irs, dropK_eq]) only [x3l5, go_sem, ↓reduceIte, Nra, Nrb, Nrc, Nrd, Nre, Nrf, Irg, Irh, Iri, Irj, Irk, Irl, Irm, Irn, Iro, Irp, Irq, Nrr, Irs, dropK_eq, k1, k2, k7, k32, k33, k34, d1, ia, g0, g1, g2, g0b, g1b, g2b, callX_known (C := C9) (g := 6) rfl, ft_call (C := C9) (g := 6) rfl, callX_known (C := C9) (g := 7) rfl, ft_call (C := C9) (g := 7) rfl, callX_known (C := C9) (g := 8) rfl, ft_call (C := C9) (g := 8) rfl, callX_known (C := C9) (g := 9) rfl, ft_call (C := C9) (g := 9) rfl, callX_known (C := C9) (g := 10) rfl, ft_call (C := C9) (g := 10) rfl, e6, e7, e8, e9, e10, vp, tm13, tm23, tm33, x9, x10, xp, k8, d3, h1]
              exact ⟨hlt, by simp, _, hx, hxo, by rw [hxst]⟩
          · have h2 : stL L c k = 2 := by omega
            rw [if_neg h1] at e7
            simp (disch := first | omega | simp only [*, go_sem, ↓reduceIte, Nra, Nrb, Nrc, Nrd, Nre, Nrf, Irg, Irh, Iri, Irj, Irk, Irl, Irm, Irn, Iro, Irp, Irq, Nrr, Irs, dropK_eq]) only [x3l5, go_sem, ↓reduceIte, Nra, Nrb, Nrc, Nrd, Nre, Nrf, Irg, Irh, Iri, Irj, Irk, Irl, Irm, Irn, Iro, Irp, Irq, Nrr, Irs, dropK_eq, k1, k2, k7, k32, k33, k34, d1, ia, g0, g1, g2, g0b, g1b, g2b, callX_known (C := C9) (g := 6) rfl, ft_call (C := C9) (g := 6) rfl, callX_known (C := C9) (g := 7) rfl, ft_call (C := C9) (g := 7) rfl, callX_known (C := C9) (g := 8) rfl, ft_call (C := C9) (g := 8) rfl, callX_known (C := C9) (g := 9) rfl, ft_call (C := C9) (g := 9) rfl, callX_known (C := C9) (g := 10) rfl, ft_call (C := C9) (g := 10) rfl, e6, e7, e8, e9, e10, vp, tm13, tm23, tm33, k8, h2]
            exact ⟨hlt, by simp, L, hv, hok, rfl⟩
      · by_cases h0 : stL L c k = 0
        · rw [if_pos h0] at e8
          simp (disch := first | omega | simp only [*, go_sem, ↓reduceIte, Nra, Nrb, Nrc, Nrd, Nre, Nrf, Irg, Irh, Iri, Irj, Irk, Irl, Irm, Irn, Iro, Irp, Irq, Nrr, Irs, dropK_eq]) only [x3l5, go_sem, ↓reduceIte, Nra, Nrb, Nrc, Nrd, Nre, Nrf, Irg, Irh, Iri, Irj, Irk, Irl, Irm, Irn, Iro, Irp, Irq, Nrr, Irs, dropK_eq, k1, k2, k7, k32, k33, k34, d1, ia, g0, g1, g2, g0b, g1b, g2b, callX_known (C := C9) (g := 6) rfl, ft_call (C := C9) (g := 6) rfl, callX_known (C := C9) (g := 7) rfl, ft_call (C := C9) (g := 7) rfl, callX_known (C := C9) (g := 8) rfl, ft_call (C := C9) (g := 8) rfl, callX_known (C := C9) (g := 9) rfl, ft_call (C := C9) (g := 9) rfl, callX_known (C := C9) (g := 10) rfl, ft_call (C := C9) (g := 10) rfl, e6, e7, e8, e9, e10, vp, tm13, tm23, tm33, k8, h0]
          exact ⟨hlt, by simp, L, hv, hok, rfl⟩
        · rw [if_neg h0] at e8
          by_cases h2 : stL L c k = 2
          · rw [if_pos h2] at e8
            have hx := rowA_RA (fullL (up (stL L) c k 0))
            have hxo := upd_ok hok (c := c) (k := k) (s := 0) (by omega)
            have x9 := F9_eq (c := ch) (k := ca) hx (full_len _)
            have x10 := F10_eq hx (full_len _)
            rw [okB_true hxo] at x10
            have hxst := st_full (f := up (stL L) c k 0) hkk
            rw [hxst] at x9
            have xp := hx.plain
            by_cases h3 : c = ch
            · have d3 := decide_eq_true h3
              by_cases h4 : k = ca
              · have d4 := decide_eq_true h4
                have hu : up (stL L) c k 0 ch ca = 0 := if_pos ⟨h3.symm, h4.symm⟩
                have k8' : tm 8 = .int .i64 2 := by rw [k8, ← h3, ← h4, h2]
                rw [hu] at x9 hxst
                clear h3 h4
                simp (disch := first | omega | simp only [*, go_sem, ↓reduceIte, Nra, Nrb, Nrc, Nrd, Nre, Nrf, Irg, Irh, Iri, Irj, Irk, Irl, Irm, Irn, Iro, Irp, Irq, Nrr, Irs, dropK_eq]) only [x3l5, go_sem, ↓reduceIte, Nra, Nrb, Nrc, Nrd, Nre, Nrf, Irg, Irh, Iri, Irj, Irk, Irl, Irm, Irn, Iro, Irp, Irq, Nrr, Irs, dropK_eq, k1, k2, k7, k32, k33, k34, d1, ia, g0, g1, g2, g0b, g1b, g2b, callX_known (C := C9) (g := 6) rfl, ft_call (C := C9) (g := 6) rfl, callX_known (C := C9) (g := 7) rfl, ft_call (C := C9) (g := 7) rfl, callX_known (C := C9) (g := 8) rfl, ft_call (C := C9) (g := 8) rfl, callX_known (C := C9) (g := 9) rfl, ft_call (C := C9) (g := 9) rfl, callX_known (C := C9) (g := 10) rfl, ft_call (C := C9) (g := 10) rfl, e6, e7, e8, e9, e10, vp, tm13, tm23, tm33, x9, x10, xp, k8', d3, d4, h2]
                exact ⟨hlt, by simp, _, hx, hxo, by rw [hxst]⟩
              · have d4 := decide_eq_false h4
                have hu : up (stL L) c k 0 ch ca = stL L ch ca := if_neg (fun e => h4 e.2.symm)
                rw [hu] at x9 hxst
                clear h3 h4
                simp (disch := first | omega | simp only [*, go_sem, ↓reduceIte, Nra, Nrb, Nrc, Nrd, Nre, Nrf, Irg, Irh, Iri, Irj, Irk, Irl, Irm, Irn, Iro, Irp, Irq, Nrr, Irs, dropK_eq]) only [x3l5, go_sem, ↓reduceIte, Nra, Nrb, Nrc, Nrd, Nre, Nrf, Irg, Irh, Iri, Irj, Irk, Irl, Irm, Irn, Iro, Irp, Irq, Nrr, Irs, dropK_eq, k1, k2, k7, k32, k33, k34, d1, ia, g0, g1, g2, g0b, g1b, g2b, callX_known (C := C9) (g := 6) rfl, ft_call (C := C9) (g := 6) rfl, callX_known (C := C9) (g := 7) rfl, ft_call (C := C9) (g := 7) rfl, callX_known (C := C9) (g := 8) rfl, ft_call (C := C9) (g := 8) rfl, callX_known (C := C9) (g := 9) rfl, ft_call (C := C9) (g := 9) rfl, callX_known (C := C9) (g := 10) rfl, ft_call (C := C9) (g := 10) rfl, e6, e7, e8, e9, e10, vp, tm13, tm23, tm33, x9, x10, xp, k8, d3, d4, h2]
                exact ⟨hlt, by simp, _, hx, hxo, by rw [hxst]⟩
            · have d3 := decide_eq_false h3
              have hu : up (stL L) c k 0 ch ca = stL L ch ca := if_neg (fun e => h3 e.1.symm)
              rw [hu] at x9 hxst
              simp (disch := first | omega | simp only [*, go_sem, ↓reduceIte, Nra, Nrb, Nrc, Nrd, Nre, Nrf, Irg, Irh, Iri, Irj, Irk, Irl, Irm, Irn, Iro, Irp, Irq, Nrr, Irs, dropK_eq]) only [x3l5, go_sem, ↓reduceIte, Nra, Nrb, Nrc, Nrd, Nre, Nrf, Irg, Irh, Iri, Irj, Irk, Irl, Irm, Irn, Iro, Irp, Irq, Nrr, Irs, dropK_eq, k1, k2, k7, k32, k33, k34, d1, ia, g0, g1, g2, g0b, g1b, g2b, callX_known (C := C9) (g := 6) rfl, ft_call (C := C9) (g := 6) rfl, callX_known (C := C9) (g := 7) rfl, ft_call (C := C9) (g := 7) rfl, callX_known (C := C9) (g := 8) rfl, ft_call (C := C9) (g := 8) rfl, callX_known (C := C9) (g := 9) rfl, ft_call (C := C9) (g := 9) rfl, callX_known (C := C9) (g := 10) rfl, ft_call (C := C9) (g := 10) rfl, e6, e7, e8, e9, e10, vp, tm13, tm23, tm33, x9, x10, xp, k8, d3, h2]
              exact ⟨hlt, by simp, _, hx, hxo, by rw [hxst]⟩
          · have h1 : stL L c k = 1 := by omega
            rw [if_neg h2] at e8
            simp (disch := first | omega | simp only [*, go_sem, ↓reduceIte, Nra, Nrb, Nrc, Nrd, Nre, Nrf, Irg, Irh, Iri, Irj, Irk, Irl, Irm, Irn, Iro, Irp, Irq, Nrr, Irs, dropK_eq]) only [x3l5, go_sem, ↓reduceIte, Nra, Nrb, Nrc, Nrd, Nre, Nrf, Irg, Irh, Iri, Irj, Irk, Irl, Irm, Irn, Iro, Irp, Irq, Nrr, Irs, dropK_eq, k1, k2, k7, k32, k33, k34, d1, ia, g0, g1, g2, g0b, g1b, g2b, callX_known (C := C9) (g := 6) rfl, ft_call (C := C9) (g := 6) rfl, callX_known (C := C9) (g := 7) rfl, ft_call (C := C9) (g := 7) rfl, callX_known (C := C9) (g := 8) rfl, ft_call (C := C9) (g := 8) rfl, callX_known (C := C9) (g := 9) rfl, ft_call (C := C9) (g := 9) rfl, callX_known (C := C9) (g := 10) rfl, ft_call (C := C9) (g := 10) rfl, e6, e7, e8, e9, e10, vp, tm13, tm23, tm33, k8, h1]
            exact ⟨hlt, by simp, L, hv, hok, rfl⟩
    · obtain rfl : i = l.length := by omega
      have d1 : decide ((l.length : Int) < (l.length : Int)) = false := decide_eq_false (by omega)
      simp (disch := first | omega | simp only [*, go_sem, ↓reduceIte, Nra, Nrb, Nrc, Nrd, Nre, Nrf, Irg, Irh, Iri, Irj, Irk, Irl, Irm, Irn, Iro, Irp, Irq, Nrr, Irs, dropK_eq]) only [x3l5, go_sem, ↓reduceIte, Nra, Nrb, Nrc, Nrd, Nre, Nrf, Irg, Irh, Iri, Irj, Irk, Irl, Irm, Irn, Iro, Irp, Irq, Nrr, Irs, dropK_eq, k1, k2, k32, k33, k34, d1, callX_known (C := C9) (g := 11) rfl, ft_call (C := C9) (g := 11) rfl, e11]
      exact Ends_plain rfl rfl
end Go.Proofs.Ytkihpjehigmnpaa
