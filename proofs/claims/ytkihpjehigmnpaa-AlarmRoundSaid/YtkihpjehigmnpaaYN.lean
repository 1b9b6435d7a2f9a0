/-
  AlarmTells, AlarmApart.
-/
import Derived.Test.YtkihpjehigmnpaaYM
set_option linter.unusedVariables false
set_option linter.unusedSimpArgs false
namespace Go.Proofs.Ytkihpjehigmnpaa
open Go Go.Xec
attribute [local go_sem] tm0 ne_eq not_false_eq_true List.length_append List.length_replicate List.replicate_succ List.replicate_zero Int.cast_ofNat_Int not_true_eq_false decide_true decide_false ite_self beq_self_eq_true Bool.true_beq Bool.false_beq Bool.not_true Bool.not_false
open Nat renaming reduceAdd → Nra, reduceMul → Nrb, reduceSub → Nrc, reduceLeDiff → Nrd, reduceLT → Nre, reduceEqDiff → Nrf, reducePow → Nrr
open Int renaming reduceLT → Irg, reduceLE → Irh, reduceAdd → Iri, reduceSub → Irj, reduceMul → Irk, reduceToNat → Irl, reducePow → Irm, reduceNe → Irn, reduceMod → Iro, reduceDiv → Irp, reduceEq → Irq, reduceNeg → Irs

set_option maxRecDepth 10000
noncomputable def C9 : Cfg := (((C8.add 18 F18).add 19 F19).add 20 F20).add 16 F16
theorem ok9 : CfgOk Try.prog C9 := (((ok8.add sound18).add sound19).add sound20).add sound16
abbrev tAl : ATy := .struct [.int .i64, .int .i64, .int .i64]
abbrev tAls : ATy := .slice 3 24 tAl
abbrev tI : ATy := .int .i64
theorem wt_al {a : AVal} (h : WT tAl a) : ∃ e : Al, a = AK e := by
  simp only [WT, WTL] at h
  obtain ⟨ps, rfl, a1, r1, rfl, ⟨k, rfl, _⟩, a2, r2, rfl, ⟨s, rfl, hs⟩, a3, r3, rfl, ⟨n, rfl, _⟩, rfl⟩ := h
  exact ⟨⟨k, s, n⟩, rfl⟩
theorem wt_als {a : AVal} (h : WT tAls a) : ∃ l : List Al, RA a l ∧ l.length ≤ 140737488355328 := by
  rw [WT] at h
  rcases h with rfl | rfl | ⟨xs, rfl, hx, hb⟩
  · exact ⟨[], Rg.nils, by simp⟩
  · exact ⟨[], .inr (.inl ⟨rfl, rfl⟩), by simp⟩
  · have : ∃ l : List Al, xs = l.map AK := by
      clear hb
      induction xs with
      | nil => exact ⟨[], rfl⟩
      | cons x xs ih =>
        obtain ⟨l, rfl⟩ := ih fun y hy => hx y (by simp [hy])
        obtain ⟨t, rfl⟩ := wt_al (hx x (by simp))
        exact ⟨t :: l, rfl⟩
    obtain ⟨l, rfl⟩ := this
    refine ⟨l, Rg.slc l, ?_⟩
    simp at hb; omega
theorem wt_i {a : AVal} (h : WT tI a) : ∃ n, a = .int .i64 n ∧ -9223372036854775808 ≤ n ∧ n ≤ 9223372036854775807 := by
  rw [WT] at h
  obtain ⟨n, rfl, h1, h2⟩ := h
  exact ⟨n, rfl, h1, h2⟩
theorem nil_RA : RA .nils [] := Rg.nils
theorem full_len (f : Int → Int → Int) : (fullL f).length ≤ 100000 := Nat.le_trans (pre_len f 64) (by omega)
set_option maxHeartbeats 1000000 in
theorem law4 (xs : List AVal) (h : WTL [tAls, tI, tI] xs) : pureF C9 1 4 xs = some (.bool true) := by
  simp only [WTL] at h
  obtain ⟨a, _, rfl, ha, q, _, rfl, hq, r, _, rfl, hr, rfl⟩ := h
  obtain ⟨l0, ha, hl0⟩ := wt_als ha
  obtain ⟨c, rfl, hc1, hc2⟩ := wt_i hq
  obtain ⟨k, rfl, hk1, hk2⟩ := wt_i hr
  have hap := ha.plain
  have e12 := F12_eq ha hl0
  have hv := ha.cut 70
  have hl : (l0.take 70).length ≤ 100000 := by simp; omega
  generalize l0.take 70 = l at *
  generalize rwTake (min l0.length 70) a = v at *
  have hav := hv.plain
  have e6 := F6_eq (c := c) (k := k) hv hl
  have e7 := F7_eq (c := c) (k := k) hv hl
  have e8 := F8_eq (c := c) (k := k) hv hl
  have e13 := F13_eq (c := c) hv hl
  have e10 := F10_eq hv hl
  have e14 := F14_eq hv hl
  have e11 := F11_eq
  have e17 := F17_eq (c := c) (k := k)
  refine pureF_of (x := x4) rfl rfl ?_
  rw [x4_eq.1, x4_eq.2.1]
  by_cases hok : alOk l
  · rw [okB_true hok] at e10 e14
    by_cases hch : c < 0 ∨ 3 < c
    · have hk : ¬ kOk c k := by simp only [kOk]; omega
      have hk0 : ¬ kOk c 0 := by simp only [kOk]; omega
      unfold raiseA at e6
      unfold moveA at e7 e8
      unfold dropA at e13
      rw [if_neg (fun e => hk e.2)] at e6 e7 e8
      rw [if_neg (fun e => hk0 e.2)] at e13
      rw [decide_eq_false hk] at e17
      by_cases hc0 : c < 0
      · have d1 := decide_eq_true hc0
        simp (disch := first | omega | simp only [*, go_sem, ↓reduceIte, Nra, Nrb, Nrc, Nrd, Nre, Nrf, Irg, Irh, Iri, Irj, Irk, Irl, Irm, Irn, Iro, Irp, Irq, Nrr, Irs, dropK_eq]) only [x4b, go_sem, ↓reduceIte, Nra, Nrb, Nrc, Nrd, Nre, Nrf, Irg, Irh, Iri, Irj, Irk, Irl, Irm, Irn, Iro, Irp, Irq, Nrr, Irs, dropK_eq, callX_known (C := C9) (g := 12) rfl, ft_call (C := C9) (g := 12) rfl, callX_known (C := C9) (g := 6) rfl, ft_call (C := C9) (g := 6) rfl, callX_known (C := C9) (g := 7) rfl, ft_call (C := C9) (g := 7) rfl, callX_known (C := C9) (g := 8) rfl, ft_call (C := C9) (g := 8) rfl, callX_known (C := C9) (g := 13) rfl, ft_call (C := C9) (g := 13) rfl, callX_known (C := C9) (g := 10) rfl, ft_call (C := C9) (g := 10) rfl, callX_known (C := C9) (g := 14) rfl, ft_call (C := C9) (g := 14) rfl, callX_known (C := C9) (g := 11) rfl, ft_call (C := C9) (g := 11) rfl, callX_known (C := C9) (g := 16) rfl, ft_call (C := C9) (g := 16) rfl, callX_known (C := C9) (g := 15) rfl, ft_call (C := C9) (g := 15) rfl, callX_known (C := C9) (g := 17) rfl, ft_call (C := C9) (g := 17) rfl, callX_known (C := C9) (g := 18) rfl, ft_call (C := C9) (g := 18) rfl, callX_known (C := C9) (g := 19) rfl, ft_call (C := C9) (g := 19) rfl, callX_known (C := C9) (g := 20) rfl, ft_call (C := C9) (g := 20) rfl, e12, e6, e7, e8, e13, e10, e14, e11, hap, hav, e17, d1]
        exact Ends_plain rfl rfl
      · have d1 := decide_eq_false hc0
        have d2 : decide (3 < c) = true := decide_eq_true (by omega)
        simp (disch := first | omega | simp only [*, go_sem, ↓reduceIte, Nra, Nrb, Nrc, Nrd, Nre, Nrf, Irg, Irh, Iri, Irj, Irk, Irl, Irm, Irn, Iro, Irp, Irq, Nrr, Irs, dropK_eq]) only [x4b, go_sem, ↓reduceIte, Nra, Nrb, Nrc, Nrd, Nre, Nrf, Irg, Irh, Iri, Irj, Irk, Irl, Irm, Irn, Iro, Irp, Irq, Nrr, Irs, dropK_eq, callX_known (C := C9) (g := 12) rfl, ft_call (C := C9) (g := 12) rfl, callX_known (C := C9) (g := 6) rfl, ft_call (C := C9) (g := 6) rfl, callX_known (C := C9) (g := 7) rfl, ft_call (C := C9) (g := 7) rfl, callX_known (C := C9) (g := 8) rfl, ft_call (C := C9) (g := 8) rfl, callX_known (C := C9) (g := 13) rfl, ft_call (C := C9) (g := 13) rfl, callX_known (C := C9) (g := 10) rfl, ft_call (C := C9) (g := 10) rfl, callX_known (C := C9) (g := 14) rfl, ft_call (C := C9) (g := 14) rfl, callX_known (C := C9) (g := 11) rfl, ft_call (C := C9) (g := 11) rfl, callX_known (C := C9) (g := 16) rfl, ft_call (C := C9) (g := 16) rfl, callX_known (C := C9) (g := 15) rfl, ft_call (C := C9) (g := 15) rfl, callX_known (C := C9) (g := 17) rfl, ft_call (C := C9) (g := 17) rfl, callX_known (C := C9) (g := 18) rfl, ft_call (C := C9) (g := 18) rfl, callX_known (C := C9) (g := 19) rfl, ft_call (C := C9) (g := 19) rfl, callX_known (C := C9) (g := 20) rfl, ft_call (C := C9) (g := 20) rfl, e12, e6, e7, e8, e13, e10, e14, e11, hap, hav, e17, d1, d2]
        exact Ends_plain rfl rfl
    · have hk0 : kOk c 0 := by simp only [kOk]; omega
      have d1 : decide (c < 0) = false := decide_eq_false (by omega)
      have d2 : decide (3 < c) = false := decide_eq_false (by omega)
      have e16 := F16_eq (c := c) hv hl
      rw [dropN_all] at e16
      unfold dropA at e13
      rw [if_pos ⟨hok, hk0⟩, noC_full hok c] at e13
      have hx := rowA_RA (fullL (noC (stL l) c))
      have hy : RA (.slc 3 ((fullL (noC (stL l) c)).map AK)) _ := Rg.slc _
      have e15 := F15_eq hx hy (full_len _) (full_len _)
      rw [decide_eq_true rfl] at e15
      have hxp := hx.plain
      have hyp := hy.plain
      clear hx hy
      generalize rowA (fullL (noC (stL l) c)) = rx at *
      generalize AVal.slc 3 ((fullL (noC (stL l) c)).map AK) = sx at *
      by_cases hk : kOk c k
      · rw [decide_eq_true hk] at e17
        have e18 := F18_eq (c := c) (k := k) hv hl
        have e19 := F19_eq (c := c) (k := k) hv hl
        have e20 := F20_eq (c := c) (k := k) hv hl
        have hst := st_rng hok c k
        have n15 := F15_eq nil_RA nil_RA (by simp) (by simp)
        have a15 := F15_eq hv hv hl hl
        rw [decide_eq_true rfl] at n15 a15
        unfold raiseA at e6
        unfold moveA at e7 e8
        unfold raiseR at e18
        unfold moveR at e19 e20
        rw [if_pos ⟨hok, hk⟩] at e6 e7 e8
        by_cases h0 : stL l c k = 0
        · rw [if_pos h0] at e6 e7 e8 e18 e19 e20
          have zx := rowA_RA (fullL (up (stL l) c k 1))
          have wx := with_RA l c k 1
          have z15 := F15_eq zx wx (full_len _) (full_len _)
          rw [decide_eq_true rfl] at z15
          have zp := zx.plain
          have wp := wx.plain
          clear zx wx
          generalize rowA (fullL (up (stL l) c k 1)) = zv at *
          generalize withA l c k 1 = wv at *
          simp (disch := first | omega | simp only [*, go_sem, ↓reduceIte, Nra, Nrb, Nrc, Nrd, Nre, Nrf, Irg, Irh, Iri, Irj, Irk, Irl, Irm, Irn, Iro, Irp, Irq, Nrr, Irs, dropK_eq]) only [x4b, go_sem, ↓reduceIte, Nra, Nrb, Nrc, Nrd, Nre, Nrf, Irg, Irh, Iri, Irj, Irk, Irl, Irm, Irn, Iro, Irp, Irq, Nrr, Irs, dropK_eq, callX_known (C := C9) (g := 12) rfl, ft_call (C := C9) (g := 12) rfl, callX_known (C := C9) (g := 6) rfl, ft_call (C := C9) (g := 6) rfl, callX_known (C := C9) (g := 7) rfl, ft_call (C := C9) (g := 7) rfl, callX_known (C := C9) (g := 8) rfl, ft_call (C := C9) (g := 8) rfl, callX_known (C := C9) (g := 13) rfl, ft_call (C := C9) (g := 13) rfl, callX_known (C := C9) (g := 10) rfl, ft_call (C := C9) (g := 10) rfl, callX_known (C := C9) (g := 14) rfl, ft_call (C := C9) (g := 14) rfl, callX_known (C := C9) (g := 11) rfl, ft_call (C := C9) (g := 11) rfl, callX_known (C := C9) (g := 16) rfl, ft_call (C := C9) (g := 16) rfl, callX_known (C := C9) (g := 15) rfl, ft_call (C := C9) (g := 15) rfl, callX_known (C := C9) (g := 17) rfl, ft_call (C := C9) (g := 17) rfl, callX_known (C := C9) (g := 18) rfl, ft_call (C := C9) (g := 18) rfl, callX_known (C := C9) (g := 19) rfl, ft_call (C := C9) (g := 19) rfl, callX_known (C := C9) (g := 20) rfl, ft_call (C := C9) (g := 20) rfl, e12, e6, e7, e8, e13, e10, e14, e11, hap, hav, e15, e16, e17, e18, e19, e20, hxp, hyp, d1, d2, n15, z15, zp, wp]
          exact Ends_plain rfl rfl
        · rw [if_neg h0] at e6 e7 e8 e18 e19 e20
          by_cases h1 : stL l c k = 1
          · have h2 : ¬ stL l c k = 2 := by omega
            rw [if_pos h1] at e7 e20
            rw [if_neg h2] at e8 e19
            have zx := rowA_RA (fullL (up (stL l) c k 2))
            have wx := with_RA l c k 2
            have z15 := F15_eq zx wx (full_len _) (full_len _)
            rw [decide_eq_true rfl] at z15
            have zp := zx.plain
            have wp := wx.plain
            clear zx wx
            generalize rowA (fullL (up (stL l) c k 2)) = zv at *
            generalize withA l c k 2 = wv at *
            simp (disch := first | omega | simp only [*, go_sem, ↓reduceIte, Nra, Nrb, Nrc, Nrd, Nre, Nrf, Irg, Irh, Iri, Irj, Irk, Irl, Irm, Irn, Iro, Irp, Irq, Nrr, Irs, dropK_eq]) only [x4b, go_sem, ↓reduceIte, Nra, Nrb, Nrc, Nrd, Nre, Nrf, Irg, Irh, Iri, Irj, Irk, Irl, Irm, Irn, Iro, Irp, Irq, Nrr, Irs, dropK_eq, callX_known (C := C9) (g := 12) rfl, ft_call (C := C9) (g := 12) rfl, callX_known (C := C9) (g := 6) rfl, ft_call (C := C9) (g := 6) rfl, callX_known (C := C9) (g := 7) rfl, ft_call (C := C9) (g := 7) rfl, callX_known (C := C9) (g := 8) rfl, ft_call (C := C9) (g := 8) rfl, callX_known (C := C9) (g := 13) rfl, ft_call (C := C9) (g := 13) rfl, callX_known (C := C9) (g := 10) rfl, ft_call (C := C9) (g := 10) rfl, callX_known (C := C9) (g := 14) rfl, ft_call (C := C9) (g := 14) rfl, callX_known (C := C9) (g := 11) rfl, ft_call (C := C9) (g := 11) rfl, callX_known (C := C9) (g := 16) rfl, ft_call (C := C9) (g := 16) rfl, callX_known (C := C9) (g := 15) rfl, ft_call (C := C9) (g := 15) rfl, callX_known (C := C9) (g := 17) rfl, ft_call (C := C9) (g := 17) rfl, callX_known (C := C9) (g := 18) rfl, ft_call (C := C9) (g := 18) rfl, callX_known (C := C9) (g := 19) rfl, ft_call (C := C9) (g := 19) rfl, callX_known (C := C9) (g := 20) rfl, ft_call (C := C9) (g := 20) rfl, e12, e6, e7, e8, e13, e10, e14, e11, hap, hav, e15, e16, e17, e18, e19, e20, hxp, hyp, d1, d2, n15, a15, z15, zp, wp]
            exact Ends_plain rfl rfl
          · have h2 : stL l c k = 2 := by omega
            rw [if_neg h1] at e7 e20
            rw [if_pos h2] at e8 e19
            have zx := rowA_RA (fullL (up (stL l) c k 0))
            have wx := with_RA l c k 0
            have z15 := F15_eq zx wx (full_len _) (full_len _)
            rw [decide_eq_true rfl] at z15
            have zp := zx.plain
            have wp := wx.plain
            clear zx wx
            generalize rowA (fullL (up (stL l) c k 0)) = zv at *
            generalize withA l c k 0 = wv at *
            simp (disch := first | omega | simp only [*, go_sem, ↓reduceIte, Nra, Nrb, Nrc, Nrd, Nre, Nrf, Irg, Irh, Iri, Irj, Irk, Irl, Irm, Irn, Iro, Irp, Irq, Nrr, Irs, dropK_eq]) only [x4b, go_sem, ↓reduceIte, Nra, Nrb, Nrc, Nrd, Nre, Nrf, Irg, Irh, Iri, Irj, Irk, Irl, Irm, Irn, Iro, Irp, Irq, Nrr, Irs, dropK_eq, callX_known (C := C9) (g := 12) rfl, ft_call (C := C9) (g := 12) rfl, callX_known (C := C9) (g := 6) rfl, ft_call (C := C9) (g := 6) rfl, callX_known (C := C9) (g := 7) rfl, ft_call (C := C9) (g := 7) rfl, callX_known (C := C9) (g := 8) rfl, ft_call (C := C9) (g := 8) rfl, callX_known (C := C9) (g := 13) rfl, ft_call (C := C9) (g := 13) rfl, callX_known (C := C9) (g := 10) rfl, ft_call (C := C9) (g := 10) rfl, callX_known (C := C9) (g := 14) rfl, ft_call (C := C9) (g := 14) rfl, callX_known (C := C9) (g := 11) rfl, ft_call (C := C9) (g := 11) rfl, callX_known (C := C9) (g := 16) rfl, ft_call (C := C9) (g := 16) rfl, callX_known (C := C9) (g := 15) rfl, ft_call (C := C9) (g := 15) rfl, callX_known (C := C9) (g := 17) rfl, ft_call (C := C9) (g := 17) rfl, callX_known (C := C9) (g := 18) rfl, ft_call (C := C9) (g := 18) rfl, callX_known (C := C9) (g := 19) rfl, ft_call (C := C9) (g := 19) rfl, callX_known (C := C9) (g := 20) rfl, ft_call (C := C9) (g := 20) rfl, e12, e6, e7, e8, e13, e10, e14, e11, hap, hav, e15, e16, e17, e18, e19, e20, hxp, hyp, d1, d2, n15, a15, z15, zp, wp]
            exact Ends_plain rfl rfl
      · rw [decide_eq_false hk] at e17
        unfold raiseA at e6
        unfold moveA at e7 e8
        rw [if_neg (fun e => hk e.2)] at e6 e7 e8
        simp (disch := first | omega | simp only [*, go_sem, ↓reduceIte, Nra, Nrb, Nrc, Nrd, Nre, Nrf, Irg, Irh, Iri, Irj, Irk, Irl, Irm, Irn, Iro, Irp, Irq, Nrr, Irs, dropK_eq]) only [x4b, go_sem, ↓reduceIte, Nra, Nrb, Nrc, Nrd, Nre, Nrf, Irg, Irh, Iri, Irj, Irk, Irl, Irm, Irn, Iro, Irp, Irq, Nrr, Irs, dropK_eq, callX_known (C := C9) (g := 12) rfl, ft_call (C := C9) (g := 12) rfl, callX_known (C := C9) (g := 6) rfl, ft_call (C := C9) (g := 6) rfl, callX_known (C := C9) (g := 7) rfl, ft_call (C := C9) (g := 7) rfl, callX_known (C := C9) (g := 8) rfl, ft_call (C := C9) (g := 8) rfl, callX_known (C := C9) (g := 13) rfl, ft_call (C := C9) (g := 13) rfl, callX_known (C := C9) (g := 10) rfl, ft_call (C := C9) (g := 10) rfl, callX_known (C := C9) (g := 14) rfl, ft_call (C := C9) (g := 14) rfl, callX_known (C := C9) (g := 11) rfl, ft_call (C := C9) (g := 11) rfl, callX_known (C := C9) (g := 16) rfl, ft_call (C := C9) (g := 16) rfl, callX_known (C := C9) (g := 15) rfl, ft_call (C := C9) (g := 15) rfl, callX_known (C := C9) (g := 17) rfl, ft_call (C := C9) (g := 17) rfl, callX_known (C := C9) (g := 18) rfl, ft_call (C := C9) (g := 18) rfl, callX_known (C := C9) (g := 19) rfl, ft_call (C := C9) (g := 19) rfl, callX_known (C := C9) (g := 20) rfl, ft_call (C := C9) (g := 20) rfl, e12, e6, e7, e8, e13, e10, e14, e11, hap, hav, e15, e16, e17, hxp, hyp, d1, d2]
        exact Ends_plain rfl rfl
  · rw [okB_false hok] at e10 e14
    unfold raiseA at e6
    unfold moveA at e7 e8
    unfold dropA at e13
    rw [if_neg (fun e => hok e.1)] at e6 e7 e8 e13
    simp (disch := first | omega | simp only [*, go_sem, ↓reduceIte, Nra, Nrb, Nrc, Nrd, Nre, Nrf, Irg, Irh, Iri, Irj, Irk, Irl, Irm, Irn, Iro, Irp, Irq, Nrr, Irs, dropK_eq]) only [x4b, go_sem, ↓reduceIte, Nra, Nrb, Nrc, Nrd, Nre, Nrf, Irg, Irh, Iri, Irj, Irk, Irl, Irm, Irn, Iro, Irp, Irq, Nrr, Irs, dropK_eq, callX_known (C := C9) (g := 12) rfl, ft_call (C := C9) (g := 12) rfl, callX_known (C := C9) (g := 6) rfl, ft_call (C := C9) (g := 6) rfl, callX_known (C := C9) (g := 7) rfl, ft_call (C := C9) (g := 7) rfl, callX_known (C := C9) (g := 8) rfl, ft_call (C := C9) (g := 8) rfl, callX_known (C := C9) (g := 13) rfl, ft_call (C := C9) (g := 13) rfl, callX_known (C := C9) (g := 10) rfl, ft_call (C := C9) (g := 10) rfl, callX_known (C := C9) (g := 14) rfl, ft_call (C := C9) (g := 14) rfl, callX_known (C := C9) (g := 11) rfl, ft_call (C := C9) (g := 11) rfl, callX_known (C := C9) (g := 16) rfl, ft_call (C := C9) (g := 16) rfl, callX_known (C := C9) (g := 15) rfl, ft_call (C := C9) (g := 15) rfl, callX_known (C := C9) (g := 17) rfl, ft_call (C := C9) (g := 17) rfl, callX_known (C := C9) (g := 18) rfl, ft_call (C := C9) (g := 18) rfl, callX_known (C := C9) (g := 19) rfl, ft_call (C := C9) (g := 19) rfl, callX_known (C := C9) (g := 20) rfl, ft_call (C := C9) (g := 20) rfl, e12, e6, e7, e8, e13, e10, e14, e11, hap, hav]
    exact Ends_plain rfl rfl
end Go.Proofs.Ytkihpjehigmnpaa
