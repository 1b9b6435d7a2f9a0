/-
  The laws of Print, of texts there and back, of texts parsed and printed again.
-/
import Derived.Test.YtppehejnnjlkfaaGreatDoorYDb
set_option linter.unusedVariables false
set_option linter.unusedSimpArgs false
namespace Go.Proofs.YtppehejnnjlkfaaGreatDoor
open Go Go.Xec
attribute [local go_sem] tm0 ne_eq not_false_eq_true List.length_append List.length_replicate List.replicate_succ List.replicate_zero Int.cast_ofNat_Int not_true_eq_false decide_true decide_false ite_self beq_self_eq_true Bool.true_beq Bool.false_beq Bool.not_true Bool.not_false
attribute [local go_sem_proc] Nat.reduceAdd Nat.reduceMul Nat.reduceSub Nat.reduceLeDiff Nat.reduceLT Nat.reduceEqDiff Int.reduceLT Int.reduceLE Int.reduceAdd Int.reduceSub Int.reduceMul Int.reduceToNat Int.reducePow Int.reduceNe Int.reduceMod Int.reduceDiv Int.reduceEq Nat.reducePow Int.reduceNeg

set_option maxRecDepth 10000
noncomputable def C16 : Cfg := (((((C15.add 12 F12).add 13 F13).add 14 F14).add 15 F15).add 16 F16)
theorem ok16 : CfgOk Tryz.prog C16 := ((((ok15.add sound12).add sound13).add sound14).add sound15).add sound16
abbrev tCh : ATy := .struct [.str, .int .i64, .int .i64, .int .i64, .int .i64, .int .i64, .int .i64, .int .i64, .int .i64, .int .i64, .int .i64, .int .i64, .int .i64, .int .i64]
abbrev tRc : ATy := .struct [.slice 14 120 tCh]
theorem wt_ch {a : AVal} (h : WT tCh a) : ∃ c : Ch, a = CK c ∧ c.n.length ≤ 140737488351232 := by
  simp only [WT, WTL] at h
  obtain ⟨ps, rfl, a0, _, rfl, ⟨s, rfl, hs⟩, a1, _, rfl, ⟨n1, rfl, _⟩, a2, _, rfl, ⟨n2, rfl, _⟩, a3, _, rfl, ⟨n3, rfl, _⟩, a4, _, rfl, ⟨n4, rfl, _⟩, a5, _, rfl, ⟨n5, rfl, _⟩, a6, _, rfl, ⟨n6, rfl, _⟩, a7, _, rfl, ⟨n7, rfl, _⟩, a8, _, rfl, ⟨n8, rfl, _⟩, a9, _, rfl, ⟨n9, rfl, _⟩, a10, _, rfl, ⟨n10, rfl, _⟩, a11, _, rfl, ⟨n11, rfl, _⟩, a12, _, rfl, ⟨n12, rfl, _⟩, a13, _, rfl, ⟨n13, rfl, _⟩, rfl⟩ := h
  refine ⟨⟨s.data.toList, n1, n2, n3, n4, n5, n6, n7, n8, n9, n10, n11, n12, n13⟩, ?_, ?_⟩
  · simp only [CK, sv]
    rw [← bs_of]
    rfl
  · rw [bs_of s, bs_size] at hs
    exact hs
theorem wt_Rc {a : AVal} (h : WT tRc a) : ∃ (b : AVal) (l : List Ch), a = .agg [b] ∧ RC b l ∧ l.length ≤ 4398046510976 := by
  rw [WT] at h
  obtain ⟨ps, rfl, h⟩ := h
  simp only [WTL] at h
  obtain ⟨b, _, rfl, hb, rfl⟩ := h
  refine ⟨b, ?_⟩
  rw [WT] at hb
  rcases hb with rfl | rfl | ⟨xs, rfl, hx, hbd⟩
  · exact ⟨[], rfl, Rg.nils, by simp⟩
  · exact ⟨[], rfl, .inr (.inl ⟨rfl, rfl⟩), by simp⟩
  · have : ∃ l : List Ch, xs = l.map CK := by
      clear hbd
      induction xs with
      | nil => exact ⟨[], rfl⟩
      | cons x xs ih =>
        obtain ⟨l, rfl⟩ := ih fun y hy => hx y (by simp [hy])
        obtain ⟨t, rfl, _⟩ := wt_ch (hx x (by simp))
        exact ⟨t :: l, rfl⟩
    obtain ⟨l, rfl⟩ := this
    refine ⟨l, rfl, Rg.slc l, ?_⟩
    simp at hbd; omega
theorem few_len (l : List Ch) : (few l).length ≤ 100000 ∧ ∀ c ∈ few l, c.n.length ≤ 1000000 := by
  refine ⟨by simp [few]; omega, fun c hc => ?_⟩
  obtain ⟨d, _, rfl⟩ := List.mem_map.1 hc
  simp [cutC]
  omega
theorem chanS_e {l : List T.Tok} {k : Nat} {out : List Ch} (h : ¬ (chanS l k out).2.2 = 0) : parseS l k out = .error (chanS l k out).2 ∨ parseS l k out = .ok out := by
  by_cases hg : k < l.length ∨ out = []
  · exact .inl (parseS_err hg h)
  · exact .inr (parseS_end hg)
theorem parseS_e (l : List T.Tok) : ∀ (n k : Nat) (out : List Ch) (p : Nat) (e : Int), l.length - k ≤ n → parseS l k out = .error (p, e) → ¬ e = 0 := by
  intro n
  induction n with
  | zero =>
    intro k out p e hk h
    by_cases h0 : (chanS l k out).2.2 = 0
    · have := chanS_ok h0
      omega
    · rcases chanS_e h0 with h1 | h1
      · rw [h1] at h
        injection h with h
        rw [h] at h0
        exact h0
      · rw [h1] at h; cases h
  | succ n ih =>
    intro k out p e hk h
    by_cases h0 : (chanS l k out).2.2 = 0
    · have h2 := chanS_ok h0
      rw [parseS_ok (.inl h2.1) h0] at h
      exact ih _ _ _ _ (by omega) h
    · rcases chanS_e h0 with h1 | h1
      · rw [h1] at h
        injection h with h
        rw [h] at h0
        exact h0
      · rw [h1] at h; cases h
theorem parse_err {s : List UInt8} {i e : Int} (h : parse s = .error (i, e)) : ¬ e = 0 ∧ 0 ≤ i ∧ i ≤ s.length := by
  unfold parse at h
  cases ht : T.text s with
  | error x =>
    obtain ⟨p, q⟩ := x
    rw [ht] at h
    have := text_err ht
    cases h
    exact ⟨this.1, by omega, by omega⟩
  | ok l =>
    rw [ht] at h
    simp only at h
    cases hp : parseS l 0 [] with
    | ok out => rw [hp] at h; cases h
    | error x =>
      obtain ⟨n, q⟩ := x
      rw [hp] at h
      simp only at h
      cases h
      refine ⟨parseS_e l _ _ _ _ _ (Nat.le_refl _) hp, ?_⟩
      by_cases hn : n < l.length
      · rw [place_at hn]
        have hs4 := text_len ht
        have hsl : T.scan s 0 = .ok l := by unfold T.text at ht; rw [if_pos hs4] at ht; exact ht
        have := (scan_len _ _ _ _ (Nat.le_refl _) hsl).2 _ (List.getElem_mem hn)
        omega
      · unfold placeS
        rw [if_neg hn]
        omega
theorem law4 (xs : List AVal) (h : WTL [tRc] xs) : pureF C16 6 4 xs = some (.bool true) := by
  simp only [WTL] at h
  obtain ⟨a, _, rfl, ha, rfl⟩ := h
  obtain ⟨w, l, rfl, hw, hl⟩ := wt_Rc ha
  clear ha
  have wp := hw.plain
  have wsc := hw.sc
  have wcl := hw.cells
  have e12 := F12_eq hw (by omega)
  have hb : RC (rowN 14 ((few l).map CK)) (few l) := rowN_rg _
  have hf := few_len l
  generalize few l = r at *
  generalize rowN 14 (r.map CK) = b at *
  have bp := hb.plain
  have bsc := hb.sc
  have bcl := hb.cells
  have e13 := F13_eq hb hf.1 hf.2
  have e14 := F14_eq hb hf.1 hf.2
  have e15 := F15_eq hb hf.1 hf.2
  have e10 := F10_eq
  refine pureF_of (x := x4) rfl rfl ?_
  rw [x4_eq.1, x4_eq.2.1]
  unfold prtV at e13
  by_cases hr : rOk r
  · rw [if_pos hr] at e13
    rw [decide_eq_true hr] at e14 e15
    have e16 := F16_eq hb hr
    simp (disch := first | omega | simp only [*, go_sem, ↓reduceIte, dropK_eq]) only [x4b, go_sem, ↓reduceIte, dropK_eq, wsc, wcl, bsc, bcl, callX_known (C := C16) (g := 10) rfl, ft_call (C := C16) (g := 10) rfl, callX_known (C := C16) (g := 12) rfl, ft_call (C := C16) (g := 12) rfl, callX_known (C := C16) (g := 13) rfl, ft_call (C := C16) (g := 13) rfl, callX_known (C := C16) (g := 14) rfl, ft_call (C := C16) (g := 14) rfl, callX_known (C := C16) (g := 15) rfl, ft_call (C := C16) (g := 15) rfl, callX_known (C := C16) (g := 16) rfl, ft_call (C := C16) (g := 16) rfl, e10, e12, e13, e14, e15, e16, bp, wp]
    exact Ends_plain rfl rfl
  · rw [if_neg hr] at e13
    rw [decide_eq_false hr] at e14 e15
    simp (disch := first | omega | simp only [*, go_sem, ↓reduceIte, dropK_eq]) only [x4b, go_sem, ↓reduceIte, dropK_eq, wsc, wcl, bsc, bcl, callX_known (C := C16) (g := 10) rfl, ft_call (C := C16) (g := 10) rfl, callX_known (C := C16) (g := 12) rfl, ft_call (C := C16) (g := 12) rfl, callX_known (C := C16) (g := 13) rfl, ft_call (C := C16) (g := 13) rfl, callX_known (C := C16) (g := 14) rfl, ft_call (C := C16) (g := 14) rfl, callX_known (C := C16) (g := 15) rfl, ft_call (C := C16) (g := 15) rfl, callX_known (C := C16) (g := 16) rfl, ft_call (C := C16) (g := 16) rfl, e10, e12, e13, e14, e15, bp, wp]
    exact Ends_plain rfl rfl
theorem law5 (xs : List AVal) (h : WTL [tRc] xs) : pureF C16 6 5 xs = some (.bool true) := by
  simp only [WTL] at h
  obtain ⟨a, _, rfl, ha, rfl⟩ := h
  obtain ⟨w, l, rfl, hw, hl⟩ := wt_Rc ha
  clear ha
  have wp := hw.plain
  have wsc := hw.sc
  have wcl := hw.cells
  have e12 := F12_eq hw (by omega)
  have hb : RC (rowN 14 ((few l).map CK)) (few l) := rowN_rg _
  have hf := few_len l
  generalize few l = r at *
  generalize rowN 14 (r.map CK) = b at *
  have bp := hb.plain
  have bsc := hb.sc
  have bcl := hb.cells
  have e13 := F13_eq hb hf.1 hf.2
  have e10 := F10_eq
  refine pureF_of (x := x5) rfl rfl ?_
  rw [x5_eq.1, x5_eq.2.1]
  unfold prtV at e13
  by_cases hr : rOk r
  · rw [if_pos hr] at e13
    have hlen := prtR_len hr.1
    have hr4 := hr.2.2.2
    have e8 := F8_eq (s := prtR r) (by omega)
    rw [parse_prt hr] at e8
    simp only [parV] at e8
    have e11 := F11_eq (a := .slc 14 (r.map CK)) (b := b) (r := r) (q := r) (Rg.slc _) hb (by omega) (by omega)
    rw [decide_eq_true rfl] at e11
    have hp1 : ∀ d (m : List Ch), plainL (d + 1) (m.map CK) = true := fun d m => plainL_map _ (fun x => CK_plain d x) _
    generalize prtR r = p at *
    generalize r.map CK = m1 at *
    simp (disch := first | omega | simp only [*, go_sem, ↓reduceIte, dropK_eq]) only [x5b, go_sem, ↓reduceIte, dropK_eq, wsc, wcl, bsc, bcl, callX_known (C := C16) (g := 8) rfl, ft_call (C := C16) (g := 8) rfl, callX_known (C := C16) (g := 10) rfl, ft_call (C := C16) (g := 10) rfl, callX_known (C := C16) (g := 11) rfl, ft_call (C := C16) (g := 11) rfl, callX_known (C := C16) (g := 12) rfl, ft_call (C := C16) (g := 12) rfl, callX_known (C := C16) (g := 13) rfl, ft_call (C := C16) (g := 13) rfl, e8, e10, e11, e12, e13, bp, wp, plain_slc, hp1]
    exact Ends_plain rfl rfl
  · rw [if_neg hr] at e13
    simp (disch := first | omega | simp only [*, go_sem, ↓reduceIte, dropK_eq]) only [x5b, go_sem, ↓reduceIte, dropK_eq, wsc, wcl, bsc, bcl, callX_known (C := C16) (g := 8) rfl, ft_call (C := C16) (g := 8) rfl, callX_known (C := C16) (g := 10) rfl, ft_call (C := C16) (g := 10) rfl, callX_known (C := C16) (g := 11) rfl, ft_call (C := C16) (g := 11) rfl, callX_known (C := C16) (g := 12) rfl, ft_call (C := C16) (g := 12) rfl, callX_known (C := C16) (g := 13) rfl, ft_call (C := C16) (g := 13) rfl, e10, e12, e13, bp, wp]
    exact Ends_plain rfl rfl
theorem law6 (xs : List AVal) (h : WTL [.str] xs) : pureF C16 6 6 xs = some (.bool true) := by
  simp only [WTL, WT] at h
  obtain ⟨a, _, rfl, ⟨u, rfl, hu⟩, rfl⟩ := h
  obtain ⟨l, rfl⟩ : ∃ l, u = bs l := ⟨_, bs_of u⟩
  rw [bs_size] at hu
  have hm : mnxA false (.int .i64 (l.length : Int)) [.int .i64 4100] = some (.int .i64 ((min l.length 4100 : Nat) : Int)) := mnx_min2 l.length 4100
  have hsl := str_sliceTo (l := l) (hi := min l.length 4100) (Nat.min_le_left _ _)
  have hw : (l.take (min l.length 4100)).length ≤ 100000 := by simp; omega
  generalize l.take (min l.length 4100) = w at *
  have e8 := F8_eq hw
  have e10 := F10_eq
  refine pureF_of (x := x6) rfl rfl ?_
  rw [x6_eq.1, x6_eq.2.1]
  cases hp : parse w with
  | error x =>
    obtain ⟨i, e⟩ := x
    rw [hp] at e8
    simp only [parV] at e8
    obtain ⟨h1, h2, h3⟩ := parse_err hp
    have d1 : decide (¬ e = 0) = true := decide_eq_true h1
    have d2 : decide (0 ≤ i) = true := decide_eq_true h2
    have d3 : decide (i ≤ (w.length : Int)) = true := decide_eq_true h3
    simp (disch := first | omega | simp only [go_sem, ↓reduceIte, dropK_eq]) only [x6b, go_sem, ↓reduceIte, dropK_eq, hm, hsl, callX_known (C := C16) (g := 8) rfl, ft_call (C := C16) (g := 8) rfl, callX_known (C := C16) (g := 10) rfl, ft_call (C := C16) (g := 10) rfl, e8, e10, d1, d2, d3]
    exact Ends_plain rfl rfl
  | ok r =>
    rw [hp] at e8
    simp only [parV] at e8
    have hr := parse_ok hp
    have hlen := prtR_len hr.1
    have hr4 := hr.2.2.2
    have hn : ∀ c ∈ r, c.n.length ≤ 1000000 := fun c hc => by have := (hr.1 c hc).1.2.2; omega
    have hb : RC (.slc 14 (r.map CK)) r := Rg.slc _
    have e13 := F13_eq hb (by omega) hn
    have e14 := F14_eq hb (by omega) hn
    rw [decide_eq_true hr] at e14
    unfold prtV at e13
    rw [if_pos hr] at e13
    have e8b := F8_eq (s := prtR r) (by omega)
    rw [parse_prt hr] at e8b
    simp only [parV] at e8b
    have e11 := F11_eq (a := .slc 14 (r.map CK)) (b := .slc 14 (r.map CK)) (r := r) (q := r) (Rg.slc _) (Rg.slc _) (by omega) (by omega)
    rw [decide_eq_true rfl] at e11
    have hp1 : ∀ d (m : List Ch), plainL (d + 1) (m.map CK) = true := fun d m => plainL_map _ (fun x => CK_plain d x) _
    generalize prtR r = p at *
    generalize r.map CK = m1 at *
    simp (disch := first | omega | simp only [go_sem, ↓reduceIte, dropK_eq]) only [x6b, go_sem, ↓reduceIte, dropK_eq, hm, hsl, callX_known (C := C16) (g := 8) rfl, ft_call (C := C16) (g := 8) rfl, callX_known (C := C16) (g := 10) rfl, ft_call (C := C16) (g := 10) rfl, callX_known (C := C16) (g := 11) rfl, ft_call (C := C16) (g := 11) rfl, callX_known (C := C16) (g := 13) rfl, ft_call (C := C16) (g := 13) rfl, callX_known (C := C16) (g := 14) rfl, ft_call (C := C16) (g := 14) rfl, e8, e8b, e10, e11, e13, e14, plain_slc, hp1]
    exact Ends_plain rfl rfl
end Go.Proofs.YtppehejnnjlkfaaGreatDoor
