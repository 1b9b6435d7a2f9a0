/-
  A run that may be; the document's run.
-/
import Derived.Test.YthnjboiecahbgaaYD
set_option linter.unusedVariables false
set_option linter.unusedSimpArgs false
namespace Go.Proofs.Ythnjboiecahbgaa
open Go Go.Xec

set_option maxRecDepth 10000
abbrev CuB (t s b : Int) : Prop := (-1000000 ≤ t ∧ t ≤ 1000000) ∧ (0 ≤ s ∧ s ≤ 1000000) ∧ (1 ≤ b ∧ b ≤ 1000000000)
theorem getD_mem {l : List Int} {i : Nat} (hi : i < l.length) : l.getD i 0 ∈ l := by
  rw [List.getD_eq_getElem?_getD, List.getElem?_eq_getElem hi]
  exact List.getElem_mem hi
theorem own_row {ss : List Nat} {hp : Heap} {v : AVal} {l : List Int} (h : Own ss 1 hp v (i64s l)) (h0 : l = [] → v = .nils) : sliceOf 1 v (i64s l) = rowV l := by
  cases l with
  | nil => rw [h0 rfl]; rfl
  | cons x l =>
    rcases h with ⟨rfl, h⟩ | ⟨s, c, g, hs, rfl, h2⟩
    · simp at h
    · rfl
theorem F6_ok {t s b : Int} {q : Cs} {a : AVal} {l : List Int} (ha : Rw a l) (hl : l.length ≤ 1000000) (hg : cuOk t s b q.n q.h q.l) (hi : inAll l) (hf : (l.length : Int) ≤ 1000000000 - q.n) :
    F6 [KQ t s b q, a] = some (.tup [KQ t s b (crun t s b q l), rowV (csig t s b q l), .int .i64 0]) := by
  have e13 := F13_eq (t := t) (s := s) (b := b) (n := q.n) (h := q.h) (l := q.l)
  rw [decide_eq_true hg] at e13
  have ap := ha.plain
  simp only [cuOk] at hg
  have hcb : CuB t s b := ⟨⟨hg.1, hg.2.1⟩, ⟨hg.2.2.1, hg.2.2.2.1⟩, ⟨hg.2.2.2.2.1, hg.2.2.2.2.2.1⟩⟩
  have hq : csOk b q := ⟨by omega, by omega, by omega, by omega, by omega⟩
  have d1 : decide (1000000000 - q.n < (l.length : Int)) = false := decide_eq_false (by omega)
  unfold F6
  refine pureF_of (x := x6) rfl rfl ?_
  rw [x6_eq.1, x6_eq.2.1]
  simp (disch := first | omega | simp only [*, go_sem, tm0, ↓reduceIte, Nat.reduceAdd, Nat.reduceMul, Nat.reduceSub, Nat.reduceLeDiff, Nat.reduceLT, Nat.reduceEqDiff, Int.reduceLT, Int.reduceLE, Int.reduceAdd, Int.reduceSub, Int.reduceMul, Int.reduceToNat, Int.reducePow, Int.reduceNe, Int.reduceMod, Int.reduceDiv, ne_eq, Int.reduceEq, not_false_eq_true, Nat.reducePow, List.length_append, List.length_replicate, List.replicate_succ, List.replicate_zero, Int.cast_ofNat_Int, not_true_eq_false, decide_true, decide_false, ite_self, dropK_eq]) only [go_sem, tm0, ↓reduceIte, Nat.reduceAdd, Nat.reduceMul, Nat.reduceSub, Nat.reduceLeDiff, Nat.reduceLT, Nat.reduceEqDiff, Int.reduceLT, Int.reduceLE, Int.reduceAdd, Int.reduceSub, Int.reduceMul, Int.reduceToNat, Int.reducePow, Int.reduceNe, Int.reduceMod, Int.reduceDiv, ne_eq, Int.reduceEq, not_false_eq_true, Nat.reducePow, List.length_append, List.length_replicate, List.replicate_succ, List.replicate_zero, Int.cast_ofNat_Int, not_true_eq_false, decide_true, decide_false, ite_self, dropK_eq, callX_known (C := C2) (g := 13) rfl, ft_call (C := C2) (g := 13) rfl, e13, ha.sc, ha.cells, ha.len, x6b, call_inl (C := C2) (g := 14) rfl]
  refine contains6 (d := 1) ha (by simp only [Lg]; omega) fun nc' => ?_
  rw [decide_eq_true hi]
  simp (disch := first | omega | simp only [*, go_sem, tm0, ↓reduceIte, Nat.reduceAdd, Nat.reduceMul, Nat.reduceSub, Nat.reduceLeDiff, Nat.reduceLT, Nat.reduceEqDiff, Int.reduceLT, Int.reduceLE, Int.reduceAdd, Int.reduceSub, Int.reduceMul, Int.reduceToNat, Int.reducePow, Int.reduceNe, Int.reduceMod, Int.reduceDiv, ne_eq, Int.reduceEq, not_false_eq_true, Nat.reducePow, List.length_append, List.length_replicate, List.replicate_succ, List.replicate_zero, Int.cast_ofNat_Int, not_true_eq_false, decide_true, decide_false, ite_self, dropK_eq]) only [go_sem, tm0, ↓reduceIte, Nat.reduceAdd, Nat.reduceMul, Nat.reduceSub, Nat.reduceLeDiff, Nat.reduceLT, Nat.reduceEqDiff, Int.reduceLT, Int.reduceLE, Int.reduceAdd, Int.reduceSub, Int.reduceMul, Int.reduceToNat, Int.reducePow, Int.reduceNe, Int.reduceMod, Int.reduceDiv, ne_eq, Int.reduceEq, not_false_eq_true, Nat.reducePow, List.length_append, List.length_replicate, List.replicate_succ, List.replicate_zero, Int.cast_ofNat_Int, not_true_eq_false, decide_true, decide_false, ite_self, dropK_eq, callX_known (C := C2) (g := 13) rfl, ft_call (C := C2) (g := 13) rfl, e13, ha.sc, ha.cells, ha.len, d1]
  refine Ev_range (ti := 29) (len := l.length) (J := fun i tm hp nc => Own [6011004] 1 hp (tm 7) (i64s (csig t s b q (l.take i))) ∧ (csig t s b q (l.take i) = [] → tm 7 = .nils) ∧
    hp (6000000, 0) = some (.var [.int .i64 t, .int .i64 s, .int .i64 b, .int .i64 (crun t s b q (l.take i)).n, .int .i64 (crun t s b q (l.take i)).h, .int .i64 (crun t s b q (l.take i)).l]) ∧
    hp (6000001, 0) = some (.var [.int .i64 0, .int .i64 0, .int .i64 0, .int .i64 0, .int .i64 0, .int .i64 0])) (by omega) ?_ ?_ ?_
  · simp only [go_sem, tm0, ↓reduceIte, Nat.reduceAdd, Nat.reduceMul, Nat.reduceSub, Nat.reduceLeDiff, Nat.reduceLT, Nat.reduceEqDiff, Int.reduceLT, Int.reduceLE, Int.reduceAdd, Int.reduceSub, Int.reduceMul, Int.reduceToNat, Int.reducePow, Int.reduceNe, Int.reduceMod, Int.reduceDiv, ne_eq, Int.reduceEq, not_false_eq_true, Nat.reducePow, List.length_append, List.length_replicate, List.replicate_succ, List.replicate_zero, Int.cast_ofNat_Int, not_true_eq_false, decide_true, decide_false, ite_self, dropK_eq]
  · simp only [go_sem, tm0, ↓reduceIte, Nat.reduceAdd, Nat.reduceMul, Nat.reduceSub, Nat.reduceLeDiff, Nat.reduceLT, Nat.reduceEqDiff, Int.reduceLT, Int.reduceLE, Int.reduceAdd, Int.reduceSub, Int.reduceMul, Int.reduceToNat, Int.reducePow, Int.reduceNe, Int.reduceMod, Int.reduceDiv, ne_eq, Int.reduceEq, not_false_eq_true, Nat.reducePow, List.length_append, List.length_replicate, List.replicate_succ, List.replicate_zero, Int.cast_ofNat_Int, not_true_eq_false, decide_true, decide_false, ite_self, dropK_eq, crun, csig, List.map_nil]
    exact ⟨Own.nils _ _ _, fun _ => trivial⟩
  · rintro i tm hp nc hi' hc k29 ⟨ho, h0, kq, kr⟩
    have k1 := hc 1 rfl; have k2 := hc 2 rfl; have k4 := hc 4 rfl; have k27 := hc 27 rfl; have k28 := hc 28 rfl; simp only [go_sem, tm0, ↓reduceIte, Nat.reduceAdd, Nat.reduceMul, Nat.reduceSub, Nat.reduceLeDiff, Nat.reduceLT, Nat.reduceEqDiff, Int.reduceLT, Int.reduceLE, Int.reduceAdd, Int.reduceSub, Int.reduceMul, Int.reduceToNat, Int.reducePow, Int.reduceNe, Int.reduceMod, Int.reduceDiv, ne_eq, Int.reduceEq, not_false_eq_true, Nat.reducePow, List.length_append, List.length_replicate, List.replicate_succ, List.replicate_zero, Int.cast_ofNat_Int, not_true_eq_false, decide_true, decide_false, ite_self, dropK_eq] at k1 k2 k4 k27 k28
    obtain ⟨hr1, hr2⟩ := crun_ok (t := t) (s := s) hg.2.2.2.2.1 hq (l.take i)
    simp only [List.length_take] at hr2
    rcases Nat.lt_or_ge i l.length with hlt | hge
    · have d1 : decide ((i : Int) < (l.length : Int)) = true := decide_eq_true (by omega)
      have ia := ha.ia hlt
      obtain ⟨hs1, hs2⟩ := crun_step (t := t) (s := s) (b := b) (q := q) hlt
      have hx := hi _ (getD_mem hlt)
      simp (disch := first | omega | simp only [*, go_sem, tm0, ↓reduceIte, Nat.reduceAdd, Nat.reduceMul, Nat.reduceSub, Nat.reduceLeDiff, Nat.reduceLT, Nat.reduceEqDiff, Int.reduceLT, Int.reduceLE, Int.reduceAdd, Int.reduceSub, Int.reduceMul, Int.reduceToNat, Int.reducePow, Int.reduceNe, Int.reduceMod, Int.reduceDiv, ne_eq, Int.reduceEq, not_false_eq_true, Nat.reducePow, List.length_append, List.length_replicate, List.replicate_succ, List.replicate_zero, Int.cast_ofNat_Int, not_true_eq_false, decide_true, decide_false, ite_self, dropK_eq]) only [go_sem, tm0, ↓reduceIte, Nat.reduceAdd, Nat.reduceMul, Nat.reduceSub, Nat.reduceLeDiff, Nat.reduceLT, Nat.reduceEqDiff, Int.reduceLT, Int.reduceLE, Int.reduceAdd, Int.reduceSub, Int.reduceMul, Int.reduceToNat, Int.reducePow, Int.reduceNe, Int.reduceMod, Int.reduceDiv, ne_eq, Int.reduceEq, not_false_eq_true, Nat.reducePow, List.length_append, List.length_replicate, List.replicate_succ, List.replicate_zero, Int.cast_ofNat_Int, not_true_eq_false, decide_true, decide_false, ite_self, dropK_eq, callX_known (C := C2) (g := 13) rfl, ft_call (C := C2) (g := 13) rfl, e13, ha.sc, ha.cells, ha.len, x6l9, k1, k2, k4, k27, k28, k29, d1, ia]
      refine next17 (d := 2) hcb.1 hcb.2.1 hcb.2.2 hr1 (by omega) hx kq fun hp' nc' hfr kq' => ?_
      obtain ⟨V, H, hA, hO⟩ := (ho.keep (hp' := hp') fun k hk => hfr k (by simp at hk; omega) (by rintro rfl; simp at hk)).push (s0 := 6011004) (s1 := 6011003) (z := .int .i64 (sig t s b (crun t s b q (l.take i)) (l.getD i 0))) (bytes := 8) (by simp) (by simp) (plain_int _ _ _) (by simp [cellsOf, isSc])
        (by simp only [List.length_map, csig_len, List.length_take]; omega)
      simp (disch := first | omega | simp only [*, go_sem, tm0, ↓reduceIte, Nat.reduceAdd, Nat.reduceMul, Nat.reduceSub, Nat.reduceLeDiff, Nat.reduceLT, Nat.reduceEqDiff, Int.reduceLT, Int.reduceLE, Int.reduceAdd, Int.reduceSub, Int.reduceMul, Int.reduceToNat, Int.reducePow, Int.reduceNe, Int.reduceMod, Int.reduceDiv, ne_eq, Int.reduceEq, not_false_eq_true, Nat.reducePow, List.length_append, List.length_replicate, List.replicate_succ, List.replicate_zero, Int.cast_ofNat_Int, not_true_eq_false, decide_true, decide_false, ite_self, dropK_eq]) only [go_sem, tm0, ↓reduceIte, Nat.reduceAdd, Nat.reduceMul, Nat.reduceSub, Nat.reduceLeDiff, Nat.reduceLT, Nat.reduceEqDiff, Int.reduceLT, Int.reduceLE, Int.reduceAdd, Int.reduceSub, Int.reduceMul, Int.reduceToNat, Int.reducePow, Int.reduceNe, Int.reduceMod, Int.reduceDiv, ne_eq, Int.reduceEq, not_false_eq_true, Nat.reducePow, List.length_append, List.length_replicate, List.replicate_succ, List.replicate_zero, Int.cast_ofNat_Int, not_true_eq_false, decide_true, decide_false, ite_self, dropK_eq, callX_known (C := C2) (g := 13) rfl, ft_call (C := C2) (g := 13) rfl, e13, ha.sc, ha.cells, ha.len, k1, k2, k4, k27, k28, k29, hA]
      refine ⟨hlt, by simp, ?_, ?_, ?_, ?_⟩
      · rw [hs2, i64s, List.map_append]; exact (hO _ _).1
      · rw [hs2]; intro h; simp at h
      · rw [hs1, (hO _ _).2 _ (by decide) (by decide)]; exact kq'
      · rw [(hO _ _).2 _ (by decide) (by decide), hfr _ (by decide) (by decide)]; exact kr
    · obtain rfl : i = l.length := by omega
      have d1 : decide ((l.length : Int) < (l.length : Int)) = false := decide_eq_false (by omega)
      rw [List.take_length] at *
      have hw := own_row ho h0
      have hlv : ∀ b', lendV 63 (tm 7) (upd hp (6000001, 0) b') = some (rowV (csig t s b q l)) := fun b' => by
        have := (ho.keep (hp' := upd hp (6000001, 0) b') (fun k hk => upd_ne _ _ (by rintro rfl; simp at hk))).lend 62 (plainL_ints _ _ _)
        rwa [hw] at this
      simp (disch := first | omega | simp only [*, go_sem, tm0, ↓reduceIte, Nat.reduceAdd, Nat.reduceMul, Nat.reduceSub, Nat.reduceLeDiff, Nat.reduceLT, Nat.reduceEqDiff, Int.reduceLT, Int.reduceLE, Int.reduceAdd, Int.reduceSub, Int.reduceMul, Int.reduceToNat, Int.reducePow, Int.reduceNe, Int.reduceMod, Int.reduceDiv, ne_eq, Int.reduceEq, not_false_eq_true, Nat.reducePow, List.length_append, List.length_replicate, List.replicate_succ, List.replicate_zero, Int.cast_ofNat_Int, not_true_eq_false, decide_true, decide_false, ite_self, dropK_eq]) only [go_sem, tm0, ↓reduceIte, Nat.reduceAdd, Nat.reduceMul, Nat.reduceSub, Nat.reduceLeDiff, Nat.reduceLT, Nat.reduceEqDiff, Int.reduceLT, Int.reduceLE, Int.reduceAdd, Int.reduceSub, Int.reduceMul, Int.reduceToNat, Int.reducePow, Int.reduceNe, Int.reduceMod, Int.reduceDiv, ne_eq, Int.reduceEq, not_false_eq_true, Nat.reducePow, List.length_append, List.length_replicate, List.replicate_succ, List.replicate_zero, Int.cast_ofNat_Int, not_true_eq_false, decide_true, decide_false, ite_self, dropK_eq, callX_known (C := C2) (g := 13) rfl, ft_call (C := C2) (g := 13) rfl, e13, ha.sc, ha.cells, ha.len, x6l9, k1, k2, k4, k27, k28, k29, d1, kq, kr]
      rw [Ends_eq]
      simp (disch := first | omega | simp only [*, go_sem, tm0, ↓reduceIte, Nat.reduceAdd, Nat.reduceMul, Nat.reduceSub, Nat.reduceLeDiff, Nat.reduceLT, Nat.reduceEqDiff, Int.reduceLT, Int.reduceLE, Int.reduceAdd, Int.reduceSub, Int.reduceMul, Int.reduceToNat, Int.reducePow, Int.reduceNe, Int.reduceMod, Int.reduceDiv, ne_eq, Int.reduceEq, not_false_eq_true, Nat.reducePow, List.length_append, List.length_replicate, List.replicate_succ, List.replicate_zero, Int.cast_ofNat_Int, not_true_eq_false, decide_true, decide_false, ite_self, dropK_eq]) only [go_sem, tm0, ↓reduceIte, Nat.reduceAdd, Nat.reduceMul, Nat.reduceSub, Nat.reduceLeDiff, Nat.reduceLT, Nat.reduceEqDiff, Int.reduceLT, Int.reduceLE, Int.reduceAdd, Int.reduceSub, Int.reduceMul, Int.reduceToNat, Int.reducePow, Int.reduceNe, Int.reduceMod, Int.reduceDiv, ne_eq, Int.reduceEq, not_false_eq_true, Nat.reducePow, List.length_append, List.length_replicate, List.replicate_succ, List.replicate_zero, Int.cast_ofNat_Int, not_true_eq_false, decide_true, decide_false, ite_self, dropK_eq, callX_known (C := C2) (g := 13) rfl, ft_call (C := C2) (g := 13) rfl, e13, ha.sc, ha.cells, ha.len, hlv]
theorem sound19 : Sound Try.prog 19 (pureF C2 1 19) := sound_self ok2 1 19
noncomputable def C3 : Cfg := (C2.add 6 F6).add 19 (pureF C2 1 19)
theorem ok3 : CfgOk Try.prog C3 := (ok2.add sound6).add sound19
/-- The document's run. -/
noncomputable def F10 : List AVal → Option AVal := pureF C3 1 10
theorem sound10 : Sound Try.prog 10 F10 := sound_self ok3 1 10
theorem F10_eq {t s b : Int} {q : Cs} {a : AVal} {l : List Int} (ha : Rw a l) (hl : l.length ≤ 1000000) (hcb : CuB t s b) (hq : csOk b q) (hn : q.n ≤ 1000000000) (hi : inAll l) :
    F10 [KQ t s b q, a] = some (.tup [KQ t s b (crun t s b q l), .slc 1 (i64s (csig t s b q l))]) := by
  have ap := ha.plain
  unfold F10
  refine pureF_of (x := x10) rfl rfl ?_
  rw [x10_eq.1, x10_eq.2.1]
  simp (disch := first | omega | simp only [*, go_sem, tm0, ↓reduceIte, Nat.reduceAdd, Nat.reduceMul, Nat.reduceSub, Nat.reduceLeDiff, Nat.reduceLT, Nat.reduceEqDiff, Int.reduceLT, Int.reduceLE, Int.reduceAdd, Int.reduceSub, Int.reduceMul, Int.reduceToNat, Int.reducePow, Int.reduceNe, Int.reduceMod, Int.reduceDiv, ne_eq, Int.reduceEq, not_false_eq_true, Nat.reducePow, List.length_append, List.length_replicate, List.replicate_succ, List.replicate_zero, Int.cast_ofNat_Int, not_true_eq_false, decide_true, decide_false, ite_self, dropK_eq]) only [x10b, go_sem, tm0, ↓reduceIte, Nat.reduceAdd, Nat.reduceMul, Nat.reduceSub, Nat.reduceLeDiff, Nat.reduceLT, Nat.reduceEqDiff, Int.reduceLT, Int.reduceLE, Int.reduceAdd, Int.reduceSub, Int.reduceMul, Int.reduceToNat, Int.reducePow, Int.reduceNe, Int.reduceMod, Int.reduceDiv, ne_eq, Int.reduceEq, not_false_eq_true, Nat.reducePow, List.length_append, List.length_replicate, List.replicate_succ, List.replicate_zero, Int.cast_ofNat_Int, not_true_eq_false, decide_true, decide_false, ite_self, dropK_eq, ha.len]
  refine Ev_range (ti := 14) (len := l.length) (J := fun i tm hp nc => (∃ c g, tm 6 = .sl (10001000, c) g 1 0 i ∧ hp (10001000, c) = some (.row g 1 (i64s (csig t s b q (l.take i))))) ∧
    hp (10000000, 0) = some (.var [.int .i64 t, .int .i64 s, .int .i64 b, .int .i64 (crun t s b q (l.take i)).n, .int .i64 (crun t s b q (l.take i)).h, .int .i64 (crun t s b q (l.take i)).l]) ∧
    hp (10000001, 0) = some (.var [.int .i64 0, .int .i64 0, .int .i64 0, .int .i64 0, .int .i64 0, .int .i64 0])) (by omega) ?_ ?_ ?_
  · simp only [go_sem, tm0, ↓reduceIte, Nat.reduceAdd, Nat.reduceMul, Nat.reduceSub, Nat.reduceLeDiff, Nat.reduceLT, Nat.reduceEqDiff, Int.reduceLT, Int.reduceLE, Int.reduceAdd, Int.reduceSub, Int.reduceMul, Int.reduceToNat, Int.reducePow, Int.reduceNe, Int.reduceMod, Int.reduceDiv, ne_eq, Int.reduceEq, not_false_eq_true, Nat.reducePow, List.length_append, List.length_replicate, List.replicate_succ, List.replicate_zero, Int.cast_ofNat_Int, not_true_eq_false, decide_true, decide_false, ite_self, dropK_eq]
  · simp only [go_sem, tm0, ↓reduceIte, Nat.reduceAdd, Nat.reduceMul, Nat.reduceSub, Nat.reduceLeDiff, Nat.reduceLT, Nat.reduceEqDiff, Int.reduceLT, Int.reduceLE, Int.reduceAdd, Int.reduceSub, Int.reduceMul, Int.reduceToNat, Int.reducePow, Int.reduceNe, Int.reduceMod, Int.reduceDiv, ne_eq, Int.reduceEq, not_false_eq_true, Nat.reducePow, List.length_append, List.length_replicate, List.replicate_succ, List.replicate_zero, Int.cast_ofNat_Int, not_true_eq_false, decide_true, decide_false, ite_self, dropK_eq, crun, csig, List.map_nil]
    exact ⟨_, _, rfl, by simp only [go_sem, tm0, ↓reduceIte, Nat.reduceAdd, Nat.reduceMul, Nat.reduceSub, Nat.reduceLeDiff, Nat.reduceLT, Nat.reduceEqDiff, Int.reduceLT, Int.reduceLE, Int.reduceAdd, Int.reduceSub, Int.reduceMul, Int.reduceToNat, Int.reducePow, Int.reduceNe, Int.reduceMod, Int.reduceDiv, ne_eq, Int.reduceEq, not_false_eq_true, Nat.reducePow, List.length_append, List.length_replicate, List.replicate_succ, List.replicate_zero, Int.cast_ofNat_Int, not_true_eq_false, decide_true, decide_false, ite_self, dropK_eq]⟩
  · rintro i tm hp nc hi' hc k14 ⟨⟨c, g, k6, hr6⟩, kq, kr⟩
    have k1 := hc 1 rfl; have k2 := hc 2 rfl; have k4 := hc 4 rfl; have k12 := hc 12 rfl; have k13 := hc 13 rfl; simp only [go_sem, tm0, ↓reduceIte, Nat.reduceAdd, Nat.reduceMul, Nat.reduceSub, Nat.reduceLeDiff, Nat.reduceLT, Nat.reduceEqDiff, Int.reduceLT, Int.reduceLE, Int.reduceAdd, Int.reduceSub, Int.reduceMul, Int.reduceToNat, Int.reducePow, Int.reduceNe, Int.reduceMod, Int.reduceDiv, ne_eq, Int.reduceEq, not_false_eq_true, Nat.reducePow, List.length_append, List.length_replicate, List.replicate_succ, List.replicate_zero, Int.cast_ofNat_Int, not_true_eq_false, decide_true, decide_false, ite_self, dropK_eq] at k1 k2 k4 k12 k13
    obtain ⟨hr1, hr2⟩ := crun_ok (t := t) (s := s) hcb.2.2.1 hq (l.take i)
    simp only [List.length_take] at hr2
    rcases Nat.lt_or_ge i l.length with hlt | hge
    · have d1 : decide ((i : Int) < (l.length : Int)) = true := decide_eq_true (by omega)
      have ia := ha.ia hlt
      obtain ⟨hs1, hs2⟩ := crun_step (t := t) (s := s) (b := b) (q := q) hlt
      have hx := hi _ (getD_mem hlt)
      have e19 := F19_eq (x := l.getD i 0) hcb.1 hcb.2.1 hcb.2.2 hr1 (by omega) hx
      have hcl : (csig t s b q (l.take i)).length = i := by rw [csig_len, List.length_take]; omega
      have hpi : ∀ (k : IntKind) (l : List Int), ((l.map (AVal.int k)).all fun e => (cellsOf e).all isSc) = true := fun k l => by simp [cellsOf, isSc]
      simp (disch := first | omega | simp only [*, go_sem, tm0, ↓reduceIte, Nat.reduceAdd, Nat.reduceMul, Nat.reduceSub, Nat.reduceLeDiff, Nat.reduceLT, Nat.reduceEqDiff, Int.reduceLT, Int.reduceLE, Int.reduceAdd, Int.reduceSub, Int.reduceMul, Int.reduceToNat, Int.reducePow, Int.reduceNe, Int.reduceMod, Int.reduceDiv, ne_eq, Int.reduceEq, not_false_eq_true, Nat.reducePow, List.length_append, List.length_replicate, List.replicate_succ, List.replicate_zero, Int.cast_ofNat_Int, not_true_eq_false, decide_true, decide_false, ite_self, dropK_eq]) only [x10l3, go_sem, tm0, ↓reduceIte, Nat.reduceAdd, Nat.reduceMul, Nat.reduceSub, Nat.reduceLeDiff, Nat.reduceLT, Nat.reduceEqDiff, Int.reduceLT, Int.reduceLE, Int.reduceAdd, Int.reduceSub, Int.reduceMul, Int.reduceToNat, Int.reducePow, Int.reduceNe, Int.reduceMod, Int.reduceDiv, ne_eq, Int.reduceEq, not_false_eq_true, Nat.reducePow, List.length_append, List.length_replicate, List.replicate_succ, List.replicate_zero, Int.cast_ofNat_Int, not_true_eq_false, decide_true, decide_false, ite_self, dropK_eq, k1, k2, k4, k12, k13, k14, k6, hr6, kq, kr, d1, ia, callX_known (C := C3) (g := 19) rfl, ft_call (C := C3) (g := 19) rfl, e19, hpi, List.length_map, hcl]
      refine ⟨hlt, by simp, ?_, ?_⟩
      · refine ⟨_, _, rfl, ?_⟩
        simp only [go_sem, tm0, ↓reduceIte, Nat.reduceAdd, Nat.reduceMul, Nat.reduceSub, Nat.reduceLeDiff, Nat.reduceLT, Nat.reduceEqDiff, Int.reduceLT, Int.reduceLE, Int.reduceAdd, Int.reduceSub, Int.reduceMul, Int.reduceToNat, Int.reducePow, Int.reduceNe, Int.reduceMod, Int.reduceDiv, ne_eq, Int.reduceEq, not_false_eq_true, Nat.reducePow, List.length_append, List.length_replicate, List.replicate_succ, List.replicate_zero, Int.cast_ofNat_Int, not_true_eq_false, decide_true, decide_false, ite_self, dropK_eq, hs2, List.map_append, List.map_cons, List.map_nil]
      · rw [hs1]
    · obtain rfl : i = l.length := by omega
      have d1 : decide ((l.length : Int) < (l.length : Int)) = false := decide_eq_false (by omega)
      rw [List.take_length] at *
      have hcl : (csig t s b q l).length = l.length := csig_len l
      have hk : List.take l.length (i64s (csig t s b q l)) = i64s (csig t s b q l) := List.take_of_length_le (by simp [hcl])
      have hv : ∀ d h, lendVL d (i64s (csig t s b q l)) h = some (i64s (csig t s b q l)) := fun d h => lendVL_plain (plainL_ints d _ _)
      simp (disch := first | omega | simp only [*, go_sem, tm0, ↓reduceIte, Nat.reduceAdd, Nat.reduceMul, Nat.reduceSub, Nat.reduceLeDiff, Nat.reduceLT, Nat.reduceEqDiff, Int.reduceLT, Int.reduceLE, Int.reduceAdd, Int.reduceSub, Int.reduceMul, Int.reduceToNat, Int.reducePow, Int.reduceNe, Int.reduceMod, Int.reduceDiv, ne_eq, Int.reduceEq, not_false_eq_true, Nat.reducePow, List.length_append, List.length_replicate, List.replicate_succ, List.replicate_zero, Int.cast_ofNat_Int, not_true_eq_false, decide_true, decide_false, ite_self, dropK_eq]) only [x10l3, go_sem, tm0, ↓reduceIte, Nat.reduceAdd, Nat.reduceMul, Nat.reduceSub, Nat.reduceLeDiff, Nat.reduceLT, Nat.reduceEqDiff, Int.reduceLT, Int.reduceLE, Int.reduceAdd, Int.reduceSub, Int.reduceMul, Int.reduceToNat, Int.reducePow, Int.reduceNe, Int.reduceMod, Int.reduceDiv, ne_eq, Int.reduceEq, not_false_eq_true, Nat.reducePow, List.length_append, List.length_replicate, List.replicate_succ, List.replicate_zero, Int.cast_ofNat_Int, not_true_eq_false, decide_true, decide_false, ite_self, dropK_eq, k1, k2, k4, k12, k13, k14, k6, hr6, kq, kr, d1]
      rw [Ends_eq]
      simp (disch := first | omega | simp only [*, go_sem, tm0, ↓reduceIte, Nat.reduceAdd, Nat.reduceMul, Nat.reduceSub, Nat.reduceLeDiff, Nat.reduceLT, Nat.reduceEqDiff, Int.reduceLT, Int.reduceLE, Int.reduceAdd, Int.reduceSub, Int.reduceMul, Int.reduceToNat, Int.reducePow, Int.reduceNe, Int.reduceMod, Int.reduceDiv, ne_eq, Int.reduceEq, not_false_eq_true, Nat.reducePow, List.length_append, List.length_replicate, List.replicate_succ, List.replicate_zero, Int.cast_ofNat_Int, not_true_eq_false, decide_true, decide_false, ite_self, dropK_eq]) only [go_sem, tm0, ↓reduceIte, Nat.reduceAdd, Nat.reduceMul, Nat.reduceSub, Nat.reduceLeDiff, Nat.reduceLT, Nat.reduceEqDiff, Int.reduceLT, Int.reduceLE, Int.reduceAdd, Int.reduceSub, Int.reduceMul, Int.reduceToNat, Int.reducePow, Int.reduceNe, Int.reduceMod, Int.reduceDiv, ne_eq, Int.reduceEq, not_false_eq_true, Nat.reducePow, List.length_append, List.length_replicate, List.replicate_succ, List.replicate_zero, Int.cast_ofNat_Int, not_true_eq_false, decide_true, decide_false, ite_self, dropK_eq, List.length_map, Nat.zero_add, Nat.le_refl, hr6, hk, hv, hcl]
end Go.Proofs.Ythnjboiecahbgaa
