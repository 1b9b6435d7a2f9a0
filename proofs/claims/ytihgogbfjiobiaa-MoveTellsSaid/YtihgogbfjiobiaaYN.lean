/-
  The three samples that live; Next.
-/
import Derived.Test.YtihgogbfjiobiaaYM
set_option linter.unusedVariables false
set_option linter.unusedSimpArgs false
namespace Go.Proofs.Ytihgogbfjiobiaa
open Go Go.Xec
attribute [local go_sem] tm0 ne_eq not_false_eq_true List.length_append List.length_replicate List.replicate_succ List.replicate_zero Int.cast_ofNat_Int not_true_eq_false decide_true decide_false ite_self beq_self_eq_true Bool.true_beq Bool.false_beq Bool.not_true Bool.not_false
open Nat renaming reduceAdd → Nra, reduceMul → Nrb, reduceSub → Nrc, reduceLeDiff → Nrd, reduceLT → Nre, reduceEqDiff → Nrf, reducePow → Nrr
open Int renaming reduceLT → Irg, reduceLE → Irh, reduceAdd → Iri, reduceSub → Irj, reduceMul → Irk, reduceToNat → Irl, reducePow → Irm, reduceNe → Irn, reduceMod → Iro, reduceDiv → Irp, reduceEq → Irq, reduceNeg → Irs

set_option maxRecDepth 10000
noncomputable def C4 : Cfg := (((C3.add 7 F7).add 6 F6).add 10 F10).add 11 F11
theorem ok4 : CfgOk Try.prog C4 := (((ok3.add sound7).add sound6).add sound10).add sound11
abbrev ri (l : List Int) : List AVal := l.map (AVal.int .i64)
abbrev runOk (m : Mv) (l : List Int) : AVal := .tup [MA (runM m l).1, rowN 1 (ri (runM m l).2), .int .i64 0]
theorem F7_1 {m : Mv} {a : AVal} {l : List Int} (hn : i64In m.n) (ha : RI a l) (hl : l.length ≤ 100000) (h : ¬ mvOk m) : F7 [MA m, a] = some (.tup [MV 0 0 0, .nils, .int .i64 1]) := by
  rw [F7_eq hn ha hl]
  unfold runV
  rw [if_pos h]
theorem F7_3 {m : Mv} {a : AVal} {l : List Int} (hn : i64In m.n) (ha : RI a l) (hl : l.length ≤ 100000) (h : mvOk m) (hx : ¬ allX l) : F7 [MA m, a] = some (.tup [MV 0 0 0, .nils, .int .i64 3]) := by
  rw [F7_eq hn ha hl]
  unfold runV
  rw [if_neg (fun k => k h), if_pos hx]
theorem F7_11 {m : Mv} {a : AVal} {l : List Int} (hn : i64In m.n) (ha : RI a l) (hl : l.length ≤ 100000) (h : mvOk m) (hx : allX l) (hf : 1000000000 < m.n + l.length) : F7 [MA m, a] = some (.tup [MV 0 0 0, .nils, .int .i64 11]) := by
  rw [F7_eq hn ha hl]
  unfold runV
  rw [if_neg (fun k => k h), if_neg (fun k => k hx), if_pos (by show 1000000000 - m.n < _; omega)]
theorem F7_0 {m : Mv} {a : AVal} {l : List Int} (hn : i64In m.n) (ha : RI a l) (hl : l.length ≤ 100000) (h : mvOk m) (hx : allX l) (hf : m.n + l.length ≤ 1000000000) : F7 [MA m, a] = some (runOk m l) := by
  rw [F7_eq hn ha hl]
  unfold runV
  rw [if_neg (fun k => k h), if_neg (fun k => k hx), if_neg (by show ¬ 1000000000 - m.n < _; omega)]
theorem alive8 : pureF C4 1 8 [] = some (.bool true) := by
  have e7 := F7_0 (m := ⟨0, 0, 0⟩) (l := [1, 4, -2]) (by decide) (Rg.slc _) (by simp) (by simp [mvOk, mOk]) (by intro x hx; simp at hx; simp only [xOk]; omega) (by simp)
  have er : runM ⟨0, 0, 0⟩ [1, 4, -2] = (⟨3, -2, 9⟩, [3, 6]) := by decide
  simp only [runOk, er] at e7
  simp only [MA, ri, List.map_cons, List.map_nil, rowN] at e7
  refine pureF_of (x := x8) rfl rfl ?_
  rw [x8_eq.1, x8_eq.2.1]
  simp (disch := first | omega | simp only [go_sem, ↓reduceIte, Nra, Nrb, Nrc, Nrd, Nre, Nrf, Irg, Irh, Iri, Irj, Irk, Irl, Irm, Irn, Iro, Irp, Irq, Nrr, Irs, dropK_eq]) only [x8b, go_sem, ↓reduceIte, Nra, Nrb, Nrc, Nrd, Nre, Nrf, Irg, Irh, Iri, Irj, Irk, Irl, Irm, Irn, Iro, Irp, Irq, Nrr, Irs, dropK_eq, callX_names (C := C4) (g := 7) rfl, ftC_names (C := C4) (g := 7) rfl, e7]
  exact Ends_plain rfl rfl
noncomputable def F8 : List AVal → Option AVal := pureF C4 1 8
theorem F8_eq : F8 [] = some (.bool true) := alive8
theorem sound8 : Sound Try.prog 8 F8 := sound_self ok4 1 8
noncomputable def F9 : List AVal → Option AVal := pureF C4 1 9
theorem sound9 : Sound Try.prog 9 F9 := sound_self ok4 1 9
theorem F9_1 {m : Mv} {x : Int} (hn : i64In m.n) (h : ¬ mvOk m) : F9 [MA m, .int .i64 x] = some (.tup [MV 0 0 0, .int .i64 0, .int .i64 1]) := by
  have e7 := F7_1 (l := [x]) hn (Rg.slc _) (by simp) h
  simp only [List.map_cons, List.map_nil] at e7
  unfold F9
  refine pureF_of (x := x9) rfl rfl ?_
  rw [x9_eq.1, x9_eq.2.1]
  simp (disch := first | omega | simp only [go_sem, ↓reduceIte, Nra, Nrb, Nrc, Nrd, Nre, Nrf, Irg, Irh, Iri, Irj, Irk, Irl, Irm, Irn, Iro, Irp, Irq, Nrr, Irs, dropK_eq]) only [x9b, go_sem, ↓reduceIte, Nra, Nrb, Nrc, Nrd, Nre, Nrf, Irg, Irh, Iri, Irj, Irk, Irl, Irm, Irn, Iro, Irp, Irq, Nrr, Irs, dropK_eq, callX_names (C := C4) (g := 7) rfl, ftC_names (C := C4) (g := 7) rfl, e7]
  exact Ends_plain rfl rfl
theorem F9_3 {m : Mv} {x : Int} (hn : i64In m.n) (h : mvOk m) (hx : ¬ xOk x) : F9 [MA m, .int .i64 x] = some (.tup [MV 0 0 0, .int .i64 0, .int .i64 3]) := by
  have e7 := F7_3 (l := [x]) hn (Rg.slc _) (by simp) h (fun k => hx (k x (by simp)))
  simp only [List.map_cons, List.map_nil] at e7
  unfold F9
  refine pureF_of (x := x9) rfl rfl ?_
  rw [x9_eq.1, x9_eq.2.1]
  simp (disch := first | omega | simp only [go_sem, ↓reduceIte, Nra, Nrb, Nrc, Nrd, Nre, Nrf, Irg, Irh, Iri, Irj, Irk, Irl, Irm, Irn, Iro, Irp, Irq, Nrr, Irs, dropK_eq]) only [x9b, go_sem, ↓reduceIte, Nra, Nrb, Nrc, Nrd, Nre, Nrf, Irg, Irh, Iri, Irj, Irk, Irl, Irm, Irn, Iro, Irp, Irq, Nrr, Irs, dropK_eq, callX_names (C := C4) (g := 7) rfl, ftC_names (C := C4) (g := 7) rfl, e7]
  exact Ends_plain rfl rfl
theorem one_x {x : Int} (hx : xOk x) : allX [x] := fun y hy => by rw [List.mem_singleton.1 hy]; exact hx
theorem F9_11 {m : Mv} {x : Int} (hn : i64In m.n) (h : mvOk m) (hx : xOk x) (hf : m.n = 1000000000) : F9 [MA m, .int .i64 x] = some (.tup [MV 0 0 0, .int .i64 0, .int .i64 11]) := by
  have e7 := F7_11 (l := [x]) hn (Rg.slc _) (by simp) h (one_x hx) (by simp; omega)
  simp only [List.map_cons, List.map_nil] at e7
  unfold F9
  refine pureF_of (x := x9) rfl rfl ?_
  rw [x9_eq.1, x9_eq.2.1]
  simp (disch := first | omega | simp only [go_sem, ↓reduceIte, Nra, Nrb, Nrc, Nrd, Nre, Nrf, Irg, Irh, Iri, Irj, Irk, Irl, Irm, Irn, Iro, Irp, Irq, Nrr, Irs, dropK_eq]) only [x9b, go_sem, ↓reduceIte, Nra, Nrb, Nrc, Nrd, Nre, Nrf, Irg, Irh, Iri, Irj, Irk, Irl, Irm, Irn, Iro, Irp, Irq, Nrr, Irs, dropK_eq, callX_names (C := C4) (g := 7) rfl, ftC_names (C := C4) (g := 7) rfl, e7]
  exact Ends_plain rfl rfl
theorem F9_0 {m : Mv} {x : Int} (hn : i64In m.n) (h : mvOk m) (hx : xOk x) (hf : m.n < 1000000000) : F9 [MA m, .int .i64 x] = some (.tup [MA (nextM m x), .int .i64 (dOf m x), .int .i64 0]) := by
  have e7 := F7_0 (l := [x]) hn (Rg.slc _) (by simp) h (one_x hx) (by simp; omega)
  have er : runM m [x] = stepM (m, []) x := rfl
  have hd := dOf_le h hx
  simp only [runOk, er, stepM, List.map_cons, List.map_nil, List.nil_append] at e7
  unfold F9
  refine pureF_of (x := x9) rfl rfl ?_
  rw [x9_eq.1, x9_eq.2.1]
  by_cases h0 : 0 < m.n
  · rw [if_pos h0] at e7
    simp only [ri, List.map_cons, List.map_nil, rowN, MA] at e7
    simp (disch := first | omega | simp only [go_sem, ↓reduceIte, Nra, Nrb, Nrc, Nrd, Nre, Nrf, Irg, Irh, Iri, Irj, Irk, Irl, Irm, Irn, Iro, Irp, Irq, Nrr, Irs, dropK_eq]) only [x9b, go_sem, ↓reduceIte, Nra, Nrb, Nrc, Nrd, Nre, Nrf, Irg, Irh, Iri, Irj, Irk, Irl, Irm, Irn, Iro, Irp, Irq, Nrr, Irs, dropK_eq, callX_names (C := C4) (g := 7) rfl, ftC_names (C := C4) (g := 7) rfl, e7]
    exact Ends_plain rfl rfl
  · rw [if_neg h0] at e7
    have : m.n = 0 := by
      obtain ⟨n, l, s⟩ := m
      simp only [mvOk, mOk] at h h0 ⊢
      omega
    rw [hd.2.2 this]
    simp only [ri, List.map_nil, rowN, MA] at e7
    simp (disch := first | omega | simp only [go_sem, ↓reduceIte, Nra, Nrb, Nrc, Nrd, Nre, Nrf, Irg, Irh, Iri, Irj, Irk, Irl, Irm, Irn, Iro, Irp, Irq, Nrr, Irs, dropK_eq]) only [x9b, go_sem, ↓reduceIte, Nra, Nrb, Nrc, Nrd, Nre, Nrf, Irg, Irh, Iri, Irj, Irk, Irl, Irm, Irn, Iro, Irp, Irq, Nrr, Irs, dropK_eq, callX_names (C := C4) (g := 7) rfl, ftC_names (C := C4) (g := 7) rfl, e7]
    exact Ends_plain rfl rfl
noncomputable def C5 : Cfg := (((C4.add 8 F8).add 9 F9).add 14 F14).add 15 F15 |>.add 13 F13
theorem ok5 : CfgOk Try.prog C5 := ((((ok4.add sound8).add sound9).add sound14).add sound15).add sound13

/-! ### arguments -/
abbrev tI : ATy := .int .i64
abbrev tS : ATy := .slice 1 8 (.int .i64)
abbrev tM : ATy := .struct [tI, tI, tI]
theorem wt_S {b : AVal} (h : WT tS b) : ∃ l, RI b l ∧ l.length ≤ 17592186043904 := by
  obtain ⟨l, hl, h1, _⟩ := wt_ints (b := 8) h
  refine ⟨l, ?_, by omega⟩
  exact hl
theorem wt_M {g : AVal} (h : WT tM g) : ∃ m : Mv, g = MA m ∧ i64In m.n := by
  simp only [WT, WTL] at h
  obtain ⟨ps, rfl, _, _, rfl, ⟨n, rfl, hn⟩, _, _, rfl, ⟨l, rfl, _⟩, _, _, rfl, ⟨s, rfl, _⟩, rfl⟩ := h
  exact ⟨⟨n, l, s⟩, rfl, by simpa [IntKind.min, IntKind.max, IntKind.signed, IntKind.bits] using hn⟩
end Go.Proofs.Ytihgogbfjiobiaa
