/-
  The law of appends.
-/
import Derived.Test.YtaoodcnhmjokoaaGreatDoorYJ
set_option linter.unusedVariables false
set_option linter.unusedSimpArgs false
namespace Go.Proofs.YtaoodcnhmjokoaaGreatDoor
open Go Go.Xec
attribute [local go_sem] tm0 ne_eq not_false_eq_true List.length_append List.length_replicate List.replicate_succ List.replicate_zero Int.cast_ofNat_Int not_true_eq_false decide_true decide_false ite_self beq_self_eq_true Bool.true_beq Bool.false_beq Bool.not_true Bool.not_false
open Nat renaming reduceAdd → Nra, reduceMul → Nrb, reduceSub → Nrc, reduceLeDiff → Nrd, reduceLT → Nre, reduceEqDiff → Nrf, reducePow → Nrr
open Int renaming reduceLT → Irg, reduceLE → Irh, reduceAdd → Iri, reduceSub → Irj, reduceMul → Irk, reduceToNat → Irl, reducePow → Irm, reduceNe → Irn, reduceMod → Iro, reduceDiv → Irp, reduceEq → Irq, reduceNeg → Irs

set_option maxRecDepth 10000
noncomputable def C14 : Cfg := ((((((C13.add 18 F18).add 20 F20).add 8 F8).add 9 F9).add 15 F15).add 7 F7).add 13 F13 |>.add 16 F16
theorem ok14 : CfgOk Tryz.prog C14 := (((((((ok13.add sound18).add sound20).add sound8).add sound9).add sound15).add sound7).add sound13).add sound16
abbrev e0 : En := ⟨4, 1, 3, -5⟩
theorem jOk_e0 : jOk 2 0 [e0] := by
  refine ⟨by decide, by decide, by decide, by decide, by decide, .inl rfl, ?_⟩
  intro e he
  rw [List.mem_singleton.1 he]
  decide
noncomputable def F12 : List AVal → Option AVal := pureF C14 1 12
theorem F12_eq : F12 [] = some (.bool true) := by
  have e8 : F8 [.int .i64 2] = some (.tup [JV 2 0 .nils, .int .i64 0]) := by rw [F8_eq]; rfl
  have e9 : F9 [JV 2 0 .nils, EK e0] = some (.tup [JV 2 0 (.slc 4 [EK e0]), .int .i64 0]) := by
    rw [F9_eq (l := []) Rg.nils (by simp)]
    unfold appR'
    have h1 : jOk 2 0 [] := ⟨by decide, by decide, by decide, by decide, by decide, .inl rfl, fun e he => by simp at he⟩
    have h2 : enOk e0 := by decide
    rw [if_neg (fun h => h ⟨h1, h2⟩), if_neg (by decide), if_neg (by decide)]
    rfl
  have e17 : F17 [JV 2 0 (.slc 4 [EK e0])] = some (.tup [sv (expT 2 0 [e0]), .int .i64 0]) := by
    refine (F17_eq (l := [e0]) (Rg.slc [e0]) (by simp)).trans ?_
    unfold expV
    rw [if_pos jOk_e0]
  have hlen : (expT 2 0 [e0]).length ≤ 90000 := by
    have h1 := rowT_len (ns := [2, 0]) (by intro n hn; simp only [List.mem_cons, List.not_mem_nil, or_false] at hn; rcases hn with rfl | rfl <;> decide)
    have h2 := rowsT_len (l := [e0]) (f := 0) (by decide) (by decide) jOk_e0.2.2.2.2.2.2
    simp only [expT, List.length_append, lineT_len, headT, List.length_cons, List.length_nil] at h1 h2 ⊢
    omega
  have e18 : F18 [sv (expT 2 0 [e0])] = some (.tup [JV 2 0 (.slc 4 [EK e0]), .int .i64 0]) := by
    rw [F18_eq hlen, exp_imp jOk_e0]
    rfl
  simp only [EK] at e9 e17 e18
  unfold F12
  refine pureF_of (x := x12) rfl rfl ?_
  rw [x12_eq.1, x12_eq.2.1]
  simp (disch := first | omega | simp only [go_sem, ↓reduceIte, Nra, Nrb, Nrc, Nrd, Nre, Nrf, Irg, Irh, Iri, Irj, Irk, Irl, Irm, Irn, Iro, Irp, Irq, Nrr, Irs, dropK_eq]) only [x12b, go_sem, ↓reduceIte, Nra, Nrb, Nrc, Nrd, Nre, Nrf, Irg, Irh, Iri, Irj, Irk, Irl, Irm, Irn, Iro, Irp, Irq, Nrr, Irs, dropK_eq, callX_known (C := C14) (g := 8) rfl, ft_call (C := C14) (g := 8) rfl, callX_known (C := C14) (g := 9) rfl, ft_call (C := C14) (g := 9) rfl, callX_known (C := C14) (g := 17) rfl, ft_call (C := C14) (g := 17) rfl, callX_known (C := C14) (g := 18) rfl, ft_call (C := C14) (g := 18) rfl, e8, e9, e17, e18, lenVA_slc, List.length_cons, List.length_nil]
  exact Ends_plain rfl rfl
theorem sound12 : Sound Tryz.prog 12 F12 := sound_self ok14 1 12
noncomputable def C15 : Cfg := C14.add 12 F12
theorem ok15 : CfgOk Tryz.prog C15 := ok14.add sound12
abbrev tEn : ATy := .struct [.int .i64, .int .i64, .int .i64, .int .i64]
abbrev tEns : ATy := .slice 4 32 tEn
abbrev tJ : ATy := .struct [.int .i64, .int .i64, tEns]
theorem wt_en {a : AVal} (h : WT tEn a) : ∃ e : En, a = EK e := by
  simp only [WT, WTL] at h
  obtain ⟨ps, rfl, a1, r1, rfl, ⟨k, rfl, _⟩, a2, r2, rfl, ⟨s, rfl, hs⟩, a3, r3, rfl, ⟨n, rfl, _⟩, a4, r4, rfl, ⟨p, rfl, _⟩, rfl⟩ := h
  exact ⟨⟨k, s, n, p⟩, rfl⟩
theorem wt_ens {a : AVal} (h : WT tEns a) : ∃ l : List En, RE a l ∧ l.length ≤ 4398046510976 := by
  rw [WT] at h
  rcases h with rfl | rfl | ⟨xs, rfl, hx, hb⟩
  · exact ⟨[], Rg.nils, by simp⟩
  · exact ⟨[], .inr (.inl ⟨rfl, rfl⟩), by simp⟩
  · have : ∃ l : List En, xs = l.map EK := by
      clear hb
      induction xs with
      | nil => exact ⟨[], rfl⟩
      | cons x xs ih =>
        obtain ⟨l, rfl⟩ := ih fun y hy => hx y (by simp [hy])
        obtain ⟨t, rfl⟩ := wt_en (hx x (by simp))
        exact ⟨t :: l, rfl⟩
    obtain ⟨l, rfl⟩ := this
    refine ⟨l, Rg.slc l, ?_⟩
    simp at hb; omega
theorem wt_J {a : AVal} (h : WT tJ a) : ∃ (c f : Int) (b : AVal) (l : List En), a = JV c f b ∧ RE b l ∧ l.length ≤ 4398046510976 ∧ -9223372036854775808 ≤ f ∧ f ≤ 9223372036854775807 := by
  rw [WT] at h
  obtain ⟨ps, rfl, h⟩ := h
  simp only [WTL] at h
  obtain ⟨a1, r1, rfl, h1, a2, r2, rfl, h2, a3, r3, rfl, h3, rfl⟩ := h
  rw [WT] at h1 h2
  obtain ⟨c, rfl, _⟩ := h1
  obtain ⟨f, rfl, hf1, hf2⟩ := h2
  obtain ⟨l, hl, hn⟩ := wt_ens h3
  refine ⟨c, f, a3, l, ?_, hl, hn, hf1, hf2⟩
  have := hl.cells
  simp [List.flatMap_cons, this]
  simp [cellsOf]
theorem law3 (xs : List AVal) (h : WTL [.int .i64, tJ, tEn] xs) : pureF C15 1 3 xs = some (.bool true) := by
  simp only [WTL] at h
  obtain ⟨a, _, rfl, ha, b, _, rfl, hb, q, _, rfl, hq, rfl⟩ := h
  rw [WT] at ha
  obtain ⟨n, rfl, hn1, hn2⟩ := ha
  obtain ⟨c, f, w, l0, rfl, hw, hwl, hf1, hf2⟩ := wt_J hb
  obtain ⟨e, rfl⟩ := wt_en hq
  clear hb hq
  have wp := hw.plain
  have wsc := hw.sc
  have wcl := hw.cells
  obtain ⟨b, hb, e7⟩ := F7_eq (cap := c) (first := f) hw (by omega)
  have hl : (l0.take 20).length ≤ 20 := by simp; omega
  generalize l0.take 20 = l at *
  have bp := hb.plain
  have bsc := hb.sc
  have bcl := hb.cells
  have e8 := F8_eq (n := n)
  have e9 := F9_eq (cap := c) (first := f) (e := e) hb (by omega)
  have e10 := F10_eq (cap := c) (first := f) hb (by omega)
  have e11 := F11_eq (cap := c) (first := f) hb (by omega) ⟨hf1, hf2⟩
  have e14 := F14_eq (e := e)
  have en : F13 [JV 0 0 .nils, JV 0 0 .nils] = some (.bool true) := by rw [F13_eq Rg.nils Rg.nils (by simp) (by simp)]; rfl
  have e12 := F12_eq
  obtain ⟨k, q, s, v⟩ := e
  unfold appR' at e9
  simp only [EK] at e9 e14
  refine pureF_of (x := x3) rfl rfl ?_
  rw [x3_eq.1, x3_eq.2.1]
  by_cases hn : 1 ≤ n ∧ n ≤ 16
  · rw [if_pos hn] at e8
    have d1 : decide (n < 1) = false := decide_eq_false (by omega)
    have d2 : decide (16 < n) = false := decide_eq_false (by omega)
    have em : F13 [JV n 0 .nils, JV n 0 .nils] = some (.bool true) := by rw [F13_eq Rg.nils Rg.nils (by simp) (by simp)]; simp
    by_cases hj : jOk c f l
    · rw [decide_eq_true hj] at e10 e11
      by_cases he : enOk (En.mk k q s v)
      · rw [decide_eq_true he] at e14
        rw [if_neg (fun h => h ⟨hj, he⟩)] at e9
        have e15 := F15_eq (cap := c) (first := f) hb (by omega) (by have := hj.2.2.2.1; have := hj.2.2.2.2.1; omega)
        by_cases hfu : f + (l.length : Int) = 1000000000
        · rw [if_pos hfu] at e9
          rw [decide_eq_true hfu] at e15
          simp (disch := first | omega | simp only [*, go_sem, ↓reduceIte, Nra, Nrb, Nrc, Nrd, Nre, Nrf, Irg, Irh, Iri, Irj, Irk, Irl, Irm, Irn, Iro, Irp, Irq, Nrr, Irs, dropK_eq]) only [x3b, go_sem, ↓reduceIte, Nra, Nrb, Nrc, Nrd, Nre, Nrf, Irg, Irh, Iri, Irj, Irk, Irl, Irm, Irn, Iro, Irp, Irq, Nrr, Irs, dropK_eq, wsc, wcl, bsc, bcl, callX_known (C := C15) (g := 7) rfl, ft_call (C := C15) (g := 7) rfl, callX_known (C := C15) (g := 8) rfl, ft_call (C := C15) (g := 8) rfl, callX_known (C := C15) (g := 9) rfl, ft_call (C := C15) (g := 9) rfl, callX_known (C := C15) (g := 10) rfl, ft_call (C := C15) (g := 10) rfl, callX_known (C := C15) (g := 11) rfl, ft_call (C := C15) (g := 11) rfl, callX_known (C := C15) (g := 12) rfl, ft_call (C := C15) (g := 12) rfl, callX_known (C := C15) (g := 13) rfl, ft_call (C := C15) (g := 13) rfl, callX_known (C := C15) (g := 14) rfl, ft_call (C := C15) (g := 14) rfl, callX_known (C := C15) (g := 15) rfl, ft_call (C := C15) (g := 15) rfl, callX_known (C := C15) (g := 16) rfl, ft_call (C := C15) (g := 16) rfl, e7, e8, e9, e10, e11, e12, e14, en, em, d1, d2, e15]
          exact Ends_plain rfl rfl
        · rw [if_neg hfu] at e9
          rw [decide_eq_false hfu] at e15
          have e16 := F16_eq (e := En.mk k q s v) hb (by omega) hj
          unfold refA keepL at e16
          simp only [EK] at e16
          by_cases hc : (l.length : Int) = c
          · rw [if_pos hc] at e9 e16
            rw [if_neg (by omega)] at e16
            have ek : F13 [JV c (f + 1) (.slc 4 (((l ++ [En.mk k q s v]).drop 1).map EK)), JV c (f + 1) (.slc 4 ((l.drop 1 ++ [En.mk k q s v]).map EK))] = some (.bool true) := by
              rw [F13_eq (Rg.slc _) (Rg.slc _) (by simp; omega) (by simp; omega)]
              have hl0 : 1 ≤ l.length := by have := hj.1; omega
              rw [List.drop_append_of_le_length hl0]
              simp
            have hp1 : ∀ d (m : List En), plainL (d + 1) (m.map EK) = true := fun d m => plainL_map _ (fun x => EK_plain d x) _
            generalize (l ++ [En.mk k q s v]).drop 1 = m1 at *
            generalize l.drop 1 ++ [En.mk k q s v] = m2 at *
            simp (disch := first | omega | simp only [*, go_sem, ↓reduceIte, Nra, Nrb, Nrc, Nrd, Nre, Nrf, Irg, Irh, Iri, Irj, Irk, Irl, Irm, Irn, Iro, Irp, Irq, Nrr, Irs, dropK_eq]) only [x3b, go_sem, ↓reduceIte, Nra, Nrb, Nrc, Nrd, Nre, Nrf, Irg, Irh, Iri, Irj, Irk, Irl, Irm, Irn, Iro, Irp, Irq, Nrr, Irs, dropK_eq, wsc, wcl, bsc, bcl, callX_known (C := C15) (g := 7) rfl, ft_call (C := C15) (g := 7) rfl, callX_known (C := C15) (g := 8) rfl, ft_call (C := C15) (g := 8) rfl, callX_known (C := C15) (g := 9) rfl, ft_call (C := C15) (g := 9) rfl, callX_known (C := C15) (g := 10) rfl, ft_call (C := C15) (g := 10) rfl, callX_known (C := C15) (g := 11) rfl, ft_call (C := C15) (g := 11) rfl, callX_known (C := C15) (g := 12) rfl, ft_call (C := C15) (g := 12) rfl, callX_known (C := C15) (g := 13) rfl, ft_call (C := C15) (g := 13) rfl, callX_known (C := C15) (g := 14) rfl, ft_call (C := C15) (g := 14) rfl, callX_known (C := C15) (g := 15) rfl, ft_call (C := C15) (g := 15) rfl, callX_known (C := C15) (g := 16) rfl, ft_call (C := C15) (g := 16) rfl, e7, e8, e9, e10, e11, e12, e14, en, em, d1, d2, e15, e16, ek, plain_slc, hp1]
            exact Ends_plain rfl rfl
          · rw [if_neg hc] at e9 e16
            rw [if_pos (by have := hj.2.2.1; omega)] at e16
            have ek : F13 [JV c f (.slc 4 ((l ++ [En.mk k q s v]).map EK)), JV c f (.slc 4 ((l ++ [En.mk k q s v]).map EK))] = some (.bool true) := by
              rw [F13_eq (Rg.slc _) (Rg.slc _) (by simp; omega) (by simp; omega)]
              simp
            have hp1 : ∀ d (m : List En), plainL (d + 1) (m.map EK) = true := fun d m => plainL_map _ (fun x => EK_plain d x) _
            generalize l ++ [En.mk k q s v] = m1 at *
            simp (disch := first | omega | simp only [*, go_sem, ↓reduceIte, Nra, Nrb, Nrc, Nrd, Nre, Nrf, Irg, Irh, Iri, Irj, Irk, Irl, Irm, Irn, Iro, Irp, Irq, Nrr, Irs, dropK_eq]) only [x3b, go_sem, ↓reduceIte, Nra, Nrb, Nrc, Nrd, Nre, Nrf, Irg, Irh, Iri, Irj, Irk, Irl, Irm, Irn, Iro, Irp, Irq, Nrr, Irs, dropK_eq, wsc, wcl, bsc, bcl, callX_known (C := C15) (g := 7) rfl, ft_call (C := C15) (g := 7) rfl, callX_known (C := C15) (g := 8) rfl, ft_call (C := C15) (g := 8) rfl, callX_known (C := C15) (g := 9) rfl, ft_call (C := C15) (g := 9) rfl, callX_known (C := C15) (g := 10) rfl, ft_call (C := C15) (g := 10) rfl, callX_known (C := C15) (g := 11) rfl, ft_call (C := C15) (g := 11) rfl, callX_known (C := C15) (g := 12) rfl, ft_call (C := C15) (g := 12) rfl, callX_known (C := C15) (g := 13) rfl, ft_call (C := C15) (g := 13) rfl, callX_known (C := C15) (g := 14) rfl, ft_call (C := C15) (g := 14) rfl, callX_known (C := C15) (g := 15) rfl, ft_call (C := C15) (g := 15) rfl, callX_known (C := C15) (g := 16) rfl, ft_call (C := C15) (g := 16) rfl, e7, e8, e9, e10, e11, e12, e14, en, em, d1, d2, e15, e16, ek, plain_slc, hp1]
            exact Ends_plain rfl rfl
      · rw [decide_eq_false he] at e14
        rw [if_pos (fun h => he h.2)] at e9
        simp (disch := first | omega | simp only [*, go_sem, ↓reduceIte, Nra, Nrb, Nrc, Nrd, Nre, Nrf, Irg, Irh, Iri, Irj, Irk, Irl, Irm, Irn, Iro, Irp, Irq, Nrr, Irs, dropK_eq]) only [x3b, go_sem, ↓reduceIte, Nra, Nrb, Nrc, Nrd, Nre, Nrf, Irg, Irh, Iri, Irj, Irk, Irl, Irm, Irn, Iro, Irp, Irq, Nrr, Irs, dropK_eq, wsc, wcl, bsc, bcl, callX_known (C := C15) (g := 7) rfl, ft_call (C := C15) (g := 7) rfl, callX_known (C := C15) (g := 8) rfl, ft_call (C := C15) (g := 8) rfl, callX_known (C := C15) (g := 9) rfl, ft_call (C := C15) (g := 9) rfl, callX_known (C := C15) (g := 10) rfl, ft_call (C := C15) (g := 10) rfl, callX_known (C := C15) (g := 11) rfl, ft_call (C := C15) (g := 11) rfl, callX_known (C := C15) (g := 12) rfl, ft_call (C := C15) (g := 12) rfl, callX_known (C := C15) (g := 13) rfl, ft_call (C := C15) (g := 13) rfl, callX_known (C := C15) (g := 14) rfl, ft_call (C := C15) (g := 14) rfl, callX_known (C := C15) (g := 15) rfl, ft_call (C := C15) (g := 15) rfl, callX_known (C := C15) (g := 16) rfl, ft_call (C := C15) (g := 16) rfl, e7, e8, e9, e10, e11, e12, e14, en, em, d1, d2]
        exact Ends_plain rfl rfl
    · rw [decide_eq_false hj] at e10 e11
      rw [if_pos (fun h => hj h.1)] at e9
      simp (disch := first | omega | simp only [*, go_sem, ↓reduceIte, Nra, Nrb, Nrc, Nrd, Nre, Nrf, Irg, Irh, Iri, Irj, Irk, Irl, Irm, Irn, Iro, Irp, Irq, Nrr, Irs, dropK_eq]) only [x3b, go_sem, ↓reduceIte, Nra, Nrb, Nrc, Nrd, Nre, Nrf, Irg, Irh, Iri, Irj, Irk, Irl, Irm, Irn, Iro, Irp, Irq, Nrr, Irs, dropK_eq, wsc, wcl, bsc, bcl, callX_known (C := C15) (g := 7) rfl, ft_call (C := C15) (g := 7) rfl, callX_known (C := C15) (g := 8) rfl, ft_call (C := C15) (g := 8) rfl, callX_known (C := C15) (g := 9) rfl, ft_call (C := C15) (g := 9) rfl, callX_known (C := C15) (g := 10) rfl, ft_call (C := C15) (g := 10) rfl, callX_known (C := C15) (g := 11) rfl, ft_call (C := C15) (g := 11) rfl, callX_known (C := C15) (g := 12) rfl, ft_call (C := C15) (g := 12) rfl, callX_known (C := C15) (g := 13) rfl, ft_call (C := C15) (g := 13) rfl, callX_known (C := C15) (g := 14) rfl, ft_call (C := C15) (g := 14) rfl, callX_known (C := C15) (g := 15) rfl, ft_call (C := C15) (g := 15) rfl, callX_known (C := C15) (g := 16) rfl, ft_call (C := C15) (g := 16) rfl, e7, e8, e9, e10, e11, e12, e14, en, em, d1, d2]
      exact Ends_plain rfl rfl
  · rw [if_neg hn] at e8
    by_cases hn1 : n < 1
    · have d1 : decide (n < 1) = true := decide_eq_true hn1
      by_cases hj : jOk c f l
      · rw [decide_eq_true hj] at e10 e11
        by_cases he : enOk (En.mk k q s v)
        · rw [decide_eq_true he] at e14
          rw [if_neg (fun h => h ⟨hj, he⟩)] at e9
          have e15 := F15_eq (cap := c) (first := f) hb (by omega) (by have := hj.2.2.2.1; have := hj.2.2.2.2.1; omega)
          by_cases hfu : f + (l.length : Int) = 1000000000
          · rw [if_pos hfu] at e9
            rw [decide_eq_true hfu] at e15
            simp (disch := first | omega | simp only [*, go_sem, ↓reduceIte, Nra, Nrb, Nrc, Nrd, Nre, Nrf, Irg, Irh, Iri, Irj, Irk, Irl, Irm, Irn, Iro, Irp, Irq, Nrr, Irs, dropK_eq]) only [x3b, go_sem, ↓reduceIte, Nra, Nrb, Nrc, Nrd, Nre, Nrf, Irg, Irh, Iri, Irj, Irk, Irl, Irm, Irn, Iro, Irp, Irq, Nrr, Irs, dropK_eq, wsc, wcl, bsc, bcl, callX_known (C := C15) (g := 7) rfl, ft_call (C := C15) (g := 7) rfl, callX_known (C := C15) (g := 8) rfl, ft_call (C := C15) (g := 8) rfl, callX_known (C := C15) (g := 9) rfl, ft_call (C := C15) (g := 9) rfl, callX_known (C := C15) (g := 10) rfl, ft_call (C := C15) (g := 10) rfl, callX_known (C := C15) (g := 11) rfl, ft_call (C := C15) (g := 11) rfl, callX_known (C := C15) (g := 12) rfl, ft_call (C := C15) (g := 12) rfl, callX_known (C := C15) (g := 13) rfl, ft_call (C := C15) (g := 13) rfl, callX_known (C := C15) (g := 14) rfl, ft_call (C := C15) (g := 14) rfl, callX_known (C := C15) (g := 15) rfl, ft_call (C := C15) (g := 15) rfl, callX_known (C := C15) (g := 16) rfl, ft_call (C := C15) (g := 16) rfl, e7, e8, e9, e10, e11, e12, e14, en, d1, e15]
            exact Ends_plain rfl rfl
          · rw [if_neg hfu] at e9
            rw [decide_eq_false hfu] at e15
            have e16 := F16_eq (e := En.mk k q s v) hb (by omega) hj
            unfold refA keepL at e16
            simp only [EK] at e16
            by_cases hc : (l.length : Int) = c
            · rw [if_pos hc] at e9 e16
              rw [if_neg (by omega)] at e16
              have ek : F13 [JV c (f + 1) (.slc 4 (((l ++ [En.mk k q s v]).drop 1).map EK)), JV c (f + 1) (.slc 4 ((l.drop 1 ++ [En.mk k q s v]).map EK))] = some (.bool true) := by
                rw [F13_eq (Rg.slc _) (Rg.slc _) (by simp; omega) (by simp; omega)]
                have hl0 : 1 ≤ l.length := by have := hj.1; omega
                rw [List.drop_append_of_le_length hl0]
                simp
              have hp1 : ∀ d (m : List En), plainL (d + 1) (m.map EK) = true := fun d m => plainL_map _ (fun x => EK_plain d x) _
              generalize (l ++ [En.mk k q s v]).drop 1 = m1 at *
              generalize l.drop 1 ++ [En.mk k q s v] = m2 at *
              simp (disch := first | omega | simp only [*, go_sem, ↓reduceIte, Nra, Nrb, Nrc, Nrd, Nre, Nrf, Irg, Irh, Iri, Irj, Irk, Irl, Irm, Irn, Iro, Irp, Irq, Nrr, Irs, dropK_eq]) only [x3b, go_sem, ↓reduceIte, Nra, Nrb, Nrc, Nrd, Nre, Nrf, Irg, Irh, Iri, Irj, Irk, Irl, Irm, Irn, Iro, Irp, Irq, Nrr, Irs, dropK_eq, wsc, wcl, bsc, bcl, callX_known (C := C15) (g := 7) rfl, ft_call (C := C15) (g := 7) rfl, callX_known (C := C15) (g := 8) rfl, ft_call (C := C15) (g := 8) rfl, callX_known (C := C15) (g := 9) rfl, ft_call (C := C15) (g := 9) rfl, callX_known (C := C15) (g := 10) rfl, ft_call (C := C15) (g := 10) rfl, callX_known (C := C15) (g := 11) rfl, ft_call (C := C15) (g := 11) rfl, callX_known (C := C15) (g := 12) rfl, ft_call (C := C15) (g := 12) rfl, callX_known (C := C15) (g := 13) rfl, ft_call (C := C15) (g := 13) rfl, callX_known (C := C15) (g := 14) rfl, ft_call (C := C15) (g := 14) rfl, callX_known (C := C15) (g := 15) rfl, ft_call (C := C15) (g := 15) rfl, callX_known (C := C15) (g := 16) rfl, ft_call (C := C15) (g := 16) rfl, e7, e8, e9, e10, e11, e12, e14, en, d1, e15, e16, ek, plain_slc, hp1]
              exact Ends_plain rfl rfl
            · rw [if_neg hc] at e9 e16
              rw [if_pos (by have := hj.2.2.1; omega)] at e16
              have ek : F13 [JV c f (.slc 4 ((l ++ [En.mk k q s v]).map EK)), JV c f (.slc 4 ((l ++ [En.mk k q s v]).map EK))] = some (.bool true) := by
                rw [F13_eq (Rg.slc _) (Rg.slc _) (by simp; omega) (by simp; omega)]
                simp
              have hp1 : ∀ d (m : List En), plainL (d + 1) (m.map EK) = true := fun d m => plainL_map _ (fun x => EK_plain d x) _
              generalize l ++ [En.mk k q s v] = m1 at *
              simp (disch := first | omega | simp only [*, go_sem, ↓reduceIte, Nra, Nrb, Nrc, Nrd, Nre, Nrf, Irg, Irh, Iri, Irj, Irk, Irl, Irm, Irn, Iro, Irp, Irq, Nrr, Irs, dropK_eq]) only [x3b, go_sem, ↓reduceIte, Nra, Nrb, Nrc, Nrd, Nre, Nrf, Irg, Irh, Iri, Irj, Irk, Irl, Irm, Irn, Iro, Irp, Irq, Nrr, Irs, dropK_eq, wsc, wcl, bsc, bcl, callX_known (C := C15) (g := 7) rfl, ft_call (C := C15) (g := 7) rfl, callX_known (C := C15) (g := 8) rfl, ft_call (C := C15) (g := 8) rfl, callX_known (C := C15) (g := 9) rfl, ft_call (C := C15) (g := 9) rfl, callX_known (C := C15) (g := 10) rfl, ft_call (C := C15) (g := 10) rfl, callX_known (C := C15) (g := 11) rfl, ft_call (C := C15) (g := 11) rfl, callX_known (C := C15) (g := 12) rfl, ft_call (C := C15) (g := 12) rfl, callX_known (C := C15) (g := 13) rfl, ft_call (C := C15) (g := 13) rfl, callX_known (C := C15) (g := 14) rfl, ft_call (C := C15) (g := 14) rfl, callX_known (C := C15) (g := 15) rfl, ft_call (C := C15) (g := 15) rfl, callX_known (C := C15) (g := 16) rfl, ft_call (C := C15) (g := 16) rfl, e7, e8, e9, e10, e11, e12, e14, en, d1, e15, e16, ek, plain_slc, hp1]
              exact Ends_plain rfl rfl
        · rw [decide_eq_false he] at e14
          rw [if_pos (fun h => he h.2)] at e9
          simp (disch := first | omega | simp only [*, go_sem, ↓reduceIte, Nra, Nrb, Nrc, Nrd, Nre, Nrf, Irg, Irh, Iri, Irj, Irk, Irl, Irm, Irn, Iro, Irp, Irq, Nrr, Irs, dropK_eq]) only [x3b, go_sem, ↓reduceIte, Nra, Nrb, Nrc, Nrd, Nre, Nrf, Irg, Irh, Iri, Irj, Irk, Irl, Irm, Irn, Iro, Irp, Irq, Nrr, Irs, dropK_eq, wsc, wcl, bsc, bcl, callX_known (C := C15) (g := 7) rfl, ft_call (C := C15) (g := 7) rfl, callX_known (C := C15) (g := 8) rfl, ft_call (C := C15) (g := 8) rfl, callX_known (C := C15) (g := 9) rfl, ft_call (C := C15) (g := 9) rfl, callX_known (C := C15) (g := 10) rfl, ft_call (C := C15) (g := 10) rfl, callX_known (C := C15) (g := 11) rfl, ft_call (C := C15) (g := 11) rfl, callX_known (C := C15) (g := 12) rfl, ft_call (C := C15) (g := 12) rfl, callX_known (C := C15) (g := 13) rfl, ft_call (C := C15) (g := 13) rfl, callX_known (C := C15) (g := 14) rfl, ft_call (C := C15) (g := 14) rfl, callX_known (C := C15) (g := 15) rfl, ft_call (C := C15) (g := 15) rfl, callX_known (C := C15) (g := 16) rfl, ft_call (C := C15) (g := 16) rfl, e7, e8, e9, e10, e11, e12, e14, en, d1]
          exact Ends_plain rfl rfl
      · rw [decide_eq_false hj] at e10 e11
        rw [if_pos (fun h => hj h.1)] at e9
        simp (disch := first | omega | simp only [*, go_sem, ↓reduceIte, Nra, Nrb, Nrc, Nrd, Nre, Nrf, Irg, Irh, Iri, Irj, Irk, Irl, Irm, Irn, Iro, Irp, Irq, Nrr, Irs, dropK_eq]) only [x3b, go_sem, ↓reduceIte, Nra, Nrb, Nrc, Nrd, Nre, Nrf, Irg, Irh, Iri, Irj, Irk, Irl, Irm, Irn, Iro, Irp, Irq, Nrr, Irs, dropK_eq, wsc, wcl, bsc, bcl, callX_known (C := C15) (g := 7) rfl, ft_call (C := C15) (g := 7) rfl, callX_known (C := C15) (g := 8) rfl, ft_call (C := C15) (g := 8) rfl, callX_known (C := C15) (g := 9) rfl, ft_call (C := C15) (g := 9) rfl, callX_known (C := C15) (g := 10) rfl, ft_call (C := C15) (g := 10) rfl, callX_known (C := C15) (g := 11) rfl, ft_call (C := C15) (g := 11) rfl, callX_known (C := C15) (g := 12) rfl, ft_call (C := C15) (g := 12) rfl, callX_known (C := C15) (g := 13) rfl, ft_call (C := C15) (g := 13) rfl, callX_known (C := C15) (g := 14) rfl, ft_call (C := C15) (g := 14) rfl, callX_known (C := C15) (g := 15) rfl, ft_call (C := C15) (g := 15) rfl, callX_known (C := C15) (g := 16) rfl, ft_call (C := C15) (g := 16) rfl, e7, e8, e9, e10, e11, e12, e14, en, d1]
        exact Ends_plain rfl rfl
    · have d1 : decide (n < 1) = false := decide_eq_false hn1
      have d2 : decide (16 < n) = true := decide_eq_true (by omega)
      by_cases hj : jOk c f l
      · rw [decide_eq_true hj] at e10 e11
        by_cases he : enOk (En.mk k q s v)
        · rw [decide_eq_true he] at e14
          rw [if_neg (fun h => h ⟨hj, he⟩)] at e9
          have e15 := F15_eq (cap := c) (first := f) hb (by omega) (by have := hj.2.2.2.1; have := hj.2.2.2.2.1; omega)
          by_cases hfu : f + (l.length : Int) = 1000000000
          · rw [if_pos hfu] at e9
            rw [decide_eq_true hfu] at e15
            simp (disch := first | omega | simp only [*, go_sem, ↓reduceIte, Nra, Nrb, Nrc, Nrd, Nre, Nrf, Irg, Irh, Iri, Irj, Irk, Irl, Irm, Irn, Iro, Irp, Irq, Nrr, Irs, dropK_eq]) only [x3b, go_sem, ↓reduceIte, Nra, Nrb, Nrc, Nrd, Nre, Nrf, Irg, Irh, Iri, Irj, Irk, Irl, Irm, Irn, Iro, Irp, Irq, Nrr, Irs, dropK_eq, wsc, wcl, bsc, bcl, callX_known (C := C15) (g := 7) rfl, ft_call (C := C15) (g := 7) rfl, callX_known (C := C15) (g := 8) rfl, ft_call (C := C15) (g := 8) rfl, callX_known (C := C15) (g := 9) rfl, ft_call (C := C15) (g := 9) rfl, callX_known (C := C15) (g := 10) rfl, ft_call (C := C15) (g := 10) rfl, callX_known (C := C15) (g := 11) rfl, ft_call (C := C15) (g := 11) rfl, callX_known (C := C15) (g := 12) rfl, ft_call (C := C15) (g := 12) rfl, callX_known (C := C15) (g := 13) rfl, ft_call (C := C15) (g := 13) rfl, callX_known (C := C15) (g := 14) rfl, ft_call (C := C15) (g := 14) rfl, callX_known (C := C15) (g := 15) rfl, ft_call (C := C15) (g := 15) rfl, callX_known (C := C15) (g := 16) rfl, ft_call (C := C15) (g := 16) rfl, e7, e8, e9, e10, e11, e12, e14, en, d1, d2, e15]
            exact Ends_plain rfl rfl
          · rw [if_neg hfu] at e9
            rw [decide_eq_false hfu] at e15
            have e16 := F16_eq (e := En.mk k q s v) hb (by omega) hj
            unfold refA keepL at e16
            simp only [EK] at e16
            by_cases hc : (l.length : Int) = c
            · rw [if_pos hc] at e9 e16
              rw [if_neg (by omega)] at e16
              have ek : F13 [JV c (f + 1) (.slc 4 (((l ++ [En.mk k q s v]).drop 1).map EK)), JV c (f + 1) (.slc 4 ((l.drop 1 ++ [En.mk k q s v]).map EK))] = some (.bool true) := by
                rw [F13_eq (Rg.slc _) (Rg.slc _) (by simp; omega) (by simp; omega)]
                have hl0 : 1 ≤ l.length := by have := hj.1; omega
                rw [List.drop_append_of_le_length hl0]
                simp
              have hp1 : ∀ d (m : List En), plainL (d + 1) (m.map EK) = true := fun d m => plainL_map _ (fun x => EK_plain d x) _
              generalize (l ++ [En.mk k q s v]).drop 1 = m1 at *
              generalize l.drop 1 ++ [En.mk k q s v] = m2 at *
              simp (disch := first | omega | simp only [*, go_sem, ↓reduceIte, Nra, Nrb, Nrc, Nrd, Nre, Nrf, Irg, Irh, Iri, Irj, Irk, Irl, Irm, Irn, Iro, Irp, Irq, Nrr, Irs, dropK_eq]) only [x3b, go_sem, ↓reduceIte, Nra, Nrb, Nrc, Nrd, Nre, Nrf, Irg, Irh, Iri, Irj, Irk, Irl, Irm, Irn, Iro, Irp, Irq, Nrr, Irs, dropK_eq, wsc, wcl, bsc, bcl, callX_known (C := C15) (g := 7) rfl, ft_call (C := C15) (g := 7) rfl, callX_known (C := C15) (g := 8) rfl, ft_call (C := C15) (g := 8) rfl, callX_known (C := C15) (g := 9) rfl, ft_call (C := C15) (g := 9) rfl, callX_known (C := C15) (g := 10) rfl, ft_call (C := C15) (g := 10) rfl, callX_known (C := C15) (g := 11) rfl, ft_call (C := C15) (g := 11) rfl, callX_known (C := C15) (g := 12) rfl, ft_call (C := C15) (g := 12) rfl, callX_known (C := C15) (g := 13) rfl, ft_call (C := C15) (g := 13) rfl, callX_known (C := C15) (g := 14) rfl, ft_call (C := C15) (g := 14) rfl, callX_known (C := C15) (g := 15) rfl, ft_call (C := C15) (g := 15) rfl, callX_known (C := C15) (g := 16) rfl, ft_call (C := C15) (g := 16) rfl, e7, e8, e9, e10, e11, e12, e14, en, d1, d2, e15, e16, ek, plain_slc, hp1]
              exact Ends_plain rfl rfl
            · rw [if_neg hc] at e9 e16
              rw [if_pos (by have := hj.2.2.1; omega)] at e16
              have ek : F13 [JV c f (.slc 4 ((l ++ [En.mk k q s v]).map EK)), JV c f (.slc 4 ((l ++ [En.mk k q s v]).map EK))] = some (.bool true) := by
                rw [F13_eq (Rg.slc _) (Rg.slc _) (by simp; omega) (by simp; omega)]
                simp
              have hp1 : ∀ d (m : List En), plainL (d + 1) (m.map EK) = true := fun d m => plainL_map _ (fun x => EK_plain d x) _
              generalize l ++ [En.mk k q s v] = m1 at *
              simp (disch := first | omega | simp only [*, go_sem, ↓reduceIte, Nra, Nrb, Nrc, Nrd, Nre, Nrf, Irg, Irh, Iri, Irj, Irk, Irl, Irm, Irn, Iro, Irp, Irq, Nrr, Irs, dropK_eq]) only [x3b, go_sem, ↓reduceIte, Nra, Nrb, Nrc, Nrd, Nre, Nrf, Irg, Irh, Iri, Irj, Irk, Irl, Irm, Irn, Iro, Irp, Irq, Nrr, Irs, dropK_eq, wsc, wcl, bsc, bcl, callX_known (C := C15) (g := 7) rfl, ft_call (C := C15) (g := 7) rfl, callX_known (C := C15) (g := 8) rfl, ft_call (C := C15) (g := 8) rfl, callX_known (C := C15) (g := 9) rfl, ft_call (C := C15) (g := 9) rfl, callX_known (C := C15) (g := 10) rfl, ft_call (C := C15) (g := 10) rfl, callX_known (C := C15) (g := 11) rfl, ft_call (C := C15) (g := 11) rfl, callX_known (C := C15) (g := 12) rfl, ft_call (C := C15) (g := 12) rfl, callX_known (C := C15) (g := 13) rfl, ft_call (C := C15) (g := 13) rfl, callX_known (C := C15) (g := 14) rfl, ft_call (C := C15) (g := 14) rfl, callX_known (C := C15) (g := 15) rfl, ft_call (C := C15) (g := 15) rfl, callX_known (C := C15) (g := 16) rfl, ft_call (C := C15) (g := 16) rfl, e7, e8, e9, e10, e11, e12, e14, en, d1, d2, e15, e16, ek, plain_slc, hp1]
              exact Ends_plain rfl rfl
        · rw [decide_eq_false he] at e14
          rw [if_pos (fun h => he h.2)] at e9
          simp (disch := first | omega | simp only [*, go_sem, ↓reduceIte, Nra, Nrb, Nrc, Nrd, Nre, Nrf, Irg, Irh, Iri, Irj, Irk, Irl, Irm, Irn, Iro, Irp, Irq, Nrr, Irs, dropK_eq]) only [x3b, go_sem, ↓reduceIte, Nra, Nrb, Nrc, Nrd, Nre, Nrf, Irg, Irh, Iri, Irj, Irk, Irl, Irm, Irn, Iro, Irp, Irq, Nrr, Irs, dropK_eq, wsc, wcl, bsc, bcl, callX_known (C := C15) (g := 7) rfl, ft_call (C := C15) (g := 7) rfl, callX_known (C := C15) (g := 8) rfl, ft_call (C := C15) (g := 8) rfl, callX_known (C := C15) (g := 9) rfl, ft_call (C := C15) (g := 9) rfl, callX_known (C := C15) (g := 10) rfl, ft_call (C := C15) (g := 10) rfl, callX_known (C := C15) (g := 11) rfl, ft_call (C := C15) (g := 11) rfl, callX_known (C := C15) (g := 12) rfl, ft_call (C := C15) (g := 12) rfl, callX_known (C := C15) (g := 13) rfl, ft_call (C := C15) (g := 13) rfl, callX_known (C := C15) (g := 14) rfl, ft_call (C := C15) (g := 14) rfl, callX_known (C := C15) (g := 15) rfl, ft_call (C := C15) (g := 15) rfl, callX_known (C := C15) (g := 16) rfl, ft_call (C := C15) (g := 16) rfl, e7, e8, e9, e10, e11, e12, e14, en, d1, d2]
          exact Ends_plain rfl rfl
      · rw [decide_eq_false hj] at e10 e11
        rw [if_pos (fun h => hj h.1)] at e9
        simp (disch := first | omega | simp only [*, go_sem, ↓reduceIte, Nra, Nrb, Nrc, Nrd, Nre, Nrf, Irg, Irh, Iri, Irj, Irk, Irl, Irm, Irn, Iro, Irp, Irq, Nrr, Irs, dropK_eq]) only [x3b, go_sem, ↓reduceIte, Nra, Nrb, Nrc, Nrd, Nre, Nrf, Irg, Irh, Iri, Irj, Irk, Irl, Irm, Irn, Iro, Irp, Irq, Nrr, Irs, dropK_eq, wsc, wcl, bsc, bcl, callX_known (C := C15) (g := 7) rfl, ft_call (C := C15) (g := 7) rfl, callX_known (C := C15) (g := 8) rfl, ft_call (C := C15) (g := 8) rfl, callX_known (C := C15) (g := 9) rfl, ft_call (C := C15) (g := 9) rfl, callX_known (C := C15) (g := 10) rfl, ft_call (C := C15) (g := 10) rfl, callX_known (C := C15) (g := 11) rfl, ft_call (C := C15) (g := 11) rfl, callX_known (C := C15) (g := 12) rfl, ft_call (C := C15) (g := 12) rfl, callX_known (C := C15) (g := 13) rfl, ft_call (C := C15) (g := 13) rfl, callX_known (C := C15) (g := 14) rfl, ft_call (C := C15) (g := 14) rfl, callX_known (C := C15) (g := 15) rfl, ft_call (C := C15) (g := 15) rfl, callX_known (C := C15) (g := 16) rfl, ft_call (C := C15) (g := 16) rfl, e7, e8, e9, e10, e11, e12, e14, en, d1, d2]
        exact Ends_plain rfl rfl
end Go.Proofs.YtaoodcnhmjokoaaGreatDoor
