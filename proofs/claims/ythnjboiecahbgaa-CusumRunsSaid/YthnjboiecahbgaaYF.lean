/-
  A new cusum; samples made to be within; the sample that lives.
-/
import Derived.Test.YthnjboiecahbgaaYE
set_option linter.unusedVariables false
set_option linter.unusedSimpArgs false
namespace Go.Proofs.Ythnjboiecahbgaa
open Go Go.Xec

set_option maxRecDepth 10000
noncomputable def C4 : Cfg := C3.add 10 F10
theorem ok4 : CfgOk Try.prog C4 := ok3.add sound10
noncomputable def F18 : List AVal → Option AVal := pureF C4 1 18
theorem sound18 : Sound Try.prog 18 F18 := sound_self ok4 1 18
theorem cuOk_new {t s b : Int} (h : CuB t s b) : cuOk t s b 0 0 0 := by
  obtain ⟨h1, h2, h3⟩ := h
  exact ⟨h1.1, h1.2, h2.1, h2.2, h3.1, h3.2, by omega, by omega, by omega, by omega, by omega, by omega, .inr ⟨rfl, rfl⟩⟩
theorem F18_ok {t s b : Int} (h : CuB t s b) : F18 [.int .i64 t, .int .i64 s, .int .i64 b] = some (.tup [K6 t s b 0 0 0, .int .i64 0]) := by
  have e13 := F13_eq (t := t) (s := s) (b := b) (n := 0) (h := 0) (l := 0)
  rw [decide_eq_true (cuOk_new h)] at e13
  unfold F18
  refine pureF_of (x := x18) rfl rfl ?_
  rw [x18_eq.1, x18_eq.2.1]
  simp (disch := first | omega | simp only [*, go_sem, tm0, ↓reduceIte, Nat.reduceAdd, Nat.reduceMul, Nat.reduceSub, Nat.reduceLeDiff, Nat.reduceLT, Nat.reduceEqDiff, Int.reduceLT, Int.reduceLE, Int.reduceAdd, Int.reduceSub, Int.reduceMul, Int.reduceToNat, Int.reducePow, Int.reduceNe, Int.reduceMod, Int.reduceDiv, ne_eq, Int.reduceEq, not_false_eq_true, Nat.reducePow, List.length_append, List.length_replicate, List.replicate_succ, List.replicate_zero, Int.cast_ofNat_Int, not_true_eq_false, decide_true, decide_false, ite_self, dropK_eq]) only [x18b, go_sem, tm0, ↓reduceIte, Nat.reduceAdd, Nat.reduceMul, Nat.reduceSub, Nat.reduceLeDiff, Nat.reduceLT, Nat.reduceEqDiff, Int.reduceLT, Int.reduceLE, Int.reduceAdd, Int.reduceSub, Int.reduceMul, Int.reduceToNat, Int.reducePow, Int.reduceNe, Int.reduceMod, Int.reduceDiv, ne_eq, Int.reduceEq, not_false_eq_true, Nat.reducePow, List.length_append, List.length_replicate, List.replicate_succ, List.replicate_zero, Int.cast_ofNat_Int, not_true_eq_false, decide_true, decide_false, ite_self, dropK_eq, callX_known (C := C4) (g := 13) rfl, ft_call (C := C4) (g := 13) rfl, e13]
  exact Ends_plain rfl rfl
theorem alive8 : pureF (C4.add 18 F18) 1 8 [] = some (.bool true) := by
  have e1 := F18_ok (t := 10) (s := 1) (b := 4) (by decide)
  have e2 : F6 [K6 10 1 4 0 0 0, .slc 1 [.int .i64 13, .int .i64 14, .int .i64 10]] = some (.tup [K6 10 1 4 3 0 0, .slc 1 [.int .i64 0, .int .i64 1, .int .i64 0], .int .i64 0]) :=
    F6_ok (t := 10) (s := 1) (b := 4) (q := ⟨0, 0, 0⟩) (Rw.slc [13, 14, 10]) (by decide) (by decide) (by decide) (by decide)
  refine pureF_of (x := x8) rfl rfl ?_
  rw [x8_eq.1, x8_eq.2.1]
  simp (disch := first | omega | simp only [go_sem, tm0, ↓reduceIte, Nat.reduceAdd, Nat.reduceMul, Nat.reduceSub, Nat.reduceLeDiff, Nat.reduceLT, Nat.reduceEqDiff, Int.reduceLT, Int.reduceLE, Int.reduceAdd, Int.reduceSub, Int.reduceMul, Int.reduceToNat, Int.reducePow, Int.reduceNe, Int.reduceMod, Int.reduceDiv, ne_eq, Int.reduceEq, not_false_eq_true, Nat.reducePow, List.length_append, List.length_replicate, List.replicate_succ, List.replicate_zero, Int.cast_ofNat_Int, not_true_eq_false, decide_true, decide_false, ite_self, dropK_eq]) only [x8b, go_sem, tm0, ↓reduceIte, Nat.reduceAdd, Nat.reduceMul, Nat.reduceSub, Nat.reduceLeDiff, Nat.reduceLT, Nat.reduceEqDiff, Int.reduceLT, Int.reduceLE, Int.reduceAdd, Int.reduceSub, Int.reduceMul, Int.reduceToNat, Int.reducePow, Int.reduceNe, Int.reduceMod, Int.reduceDiv, ne_eq, Int.reduceEq, not_false_eq_true, Nat.reducePow, List.length_append, List.length_replicate, List.replicate_succ, List.replicate_zero, Int.cast_ofNat_Int, not_true_eq_false, decide_true, decide_false, ite_self, dropK_eq, callX_names (C := C4.add 18 F18) (g := 18) rfl, callX_names (C := C4.add 18 F18) (g := 6) rfl, e1, e2]
  exact Ends_plain rfl rfl
noncomputable def F8 : List AVal → Option AVal := pureF (C4.add 18 F18) 1 8
theorem F8_eq : F8 [] = some (.bool true) := alive8
noncomputable def C5 : Cfg := (C4.add 18 F18).add 8 F8
theorem ok5 : CfgOk Try.prog C5 := (ok4.add sound18).add (sound_self (ok4.add sound18) 1 8)
/-- Samples, made to be within. -/
def clamp (x : Int) : Int := min (max x (-1000000)) 1000000
theorem clamp_in (l : List Int) : inAll (l.map clamp) := by
  intro x hx
  obtain ⟨y, _, rfl⟩ := List.mem_map.1 hx
  unfold clamp
  omega
theorem mnx_max' {k : IntKind} {a b : Int} : mnxA true (.int k a) [.int k b] = some (.int k (max a b)) := mnx_max
theorem mnx_minI {k : IntKind} {a b : Int} : mnxA false (.int k a) [.int k b] = some (.int k (min a b)) := by
  simp only [mnxA, Bool.false_eq_true, if_false]
  congr 2
  split <;> omega
theorem tmod_in (x : Int) {m : Int} (hm : 0 < m) : -m < x.tmod m ∧ x.tmod m < m ∧ 0 ≤ (x.tmod m + m).tmod m ∧ (x.tmod m + m).tmod m < m :=
  have h1 := Int.lt_tmod_of_pos x hm
  have h2 := Int.tmod_lt_of_pos x hm
  ⟨h1, h2, Int.tmod_nonneg m (by omega), Int.tmod_lt_of_pos _ hm⟩
abbrev tg (t : Int) : Int := t.tmod 1000001
abbrev st (s : Int) : Int := (s.tmod 1000001 + 1000001).tmod 1000001
abbrev bd (b : Int) : Int := 1 + (b.tmod 1000000000 + 1000000000).tmod 1000000000
theorem cub_some (t s b : Int) : CuB (tg t) (st s) (bd b) := by
  obtain ⟨a1, a2, _, _⟩ := tmod_in t (m := 1000001) (by decide)
  obtain ⟨_, _, b1, b2⟩ := tmod_in s (m := 1000001) (by decide)
  obtain ⟨_, _, c1, c2⟩ := tmod_in b (m := 1000000000) (by decide)
  simp only [CuB, tg, st, bd]
  omega
noncomputable def F12 : List AVal → Option AVal := pureF C5 1 12
theorem sound12 : Sound Try.prog 12 F12 := sound_self ok5 1 12
theorem F12_eq {t s b : Int} {a : AVal} {l : List Int} (ha : Rw a l) (hl : Lg l) : F12 [.int .i64 t, .int .i64 s, .int .i64 b, a] = some (.tup [K6 (tg t) (st s) (bd b) 0 0 0, rowV ((l.take 100).map clamp), .bool true]) := by
  have ap := ha.plain
  have hs := ha.sliceTo (n := min l.length 100) (Nat.min_le_left _ _)
  have hm : mnxA false (.int .i64 l.length) [.int .i64 100] = some (.int .i64 ((min l.length 100 : Nat) : Int)) := mnx_min2 l.length 100
  have hcu := ha.cut 100
  have hll : (l.take 100).length ≤ 100 := by simp; omega
  unfold F12
  refine pureF_of (x := x12) rfl rfl ?_
  rw [x12_eq.1, x12_eq.2.1]
  simp (disch := first | omega | simp only [*, go_sem, tm0, ↓reduceIte, Nat.reduceAdd, Nat.reduceMul, Nat.reduceSub, Nat.reduceLeDiff, Nat.reduceLT, Nat.reduceEqDiff, Int.reduceLT, Int.reduceLE, Int.reduceAdd, Int.reduceSub, Int.reduceMul, Int.reduceToNat, Int.reducePow, Int.reduceNe, Int.reduceMod, Int.reduceDiv, ne_eq, Int.reduceEq, not_false_eq_true, Nat.reducePow, List.length_append, List.length_replicate, List.replicate_succ, List.replicate_zero, Int.cast_ofNat_Int, not_true_eq_false, decide_true, decide_false, ite_self, dropK_eq]) only [x12b, go_sem, tm0, ↓reduceIte, Nat.reduceAdd, Nat.reduceMul, Nat.reduceSub, Nat.reduceLeDiff, Nat.reduceLT, Nat.reduceEqDiff, Int.reduceLT, Int.reduceLE, Int.reduceAdd, Int.reduceSub, Int.reduceMul, Int.reduceToNat, Int.reducePow, Int.reduceNe, Int.reduceMod, Int.reduceDiv, ne_eq, Int.reduceEq, not_false_eq_true, Nat.reducePow, List.length_append, List.length_replicate, List.replicate_succ, List.replicate_zero, Int.cast_ofNat_Int, not_true_eq_false, decide_true, decide_false, ite_self, dropK_eq, ha.len, hm, hs, hcu.len, Option.map_some, Option.map_none]
  generalize l.take 100 = l at *
  generalize rwTake (min _ 100) a = a at *
  refine Ev_range (ti := 22) (len := l.length) (J := fun i tm hp nc => Own [12005005] 1 hp (tm 11) (i64s ((l.take i).map clamp)) ∧ ((l.take i).map clamp = [] → tm 11 = .nils) ∧
    hp (12000000, 0) = some (.var [.int .i64 0, .int .i64 0, .int .i64 0, .int .i64 0, .int .i64 0, .int .i64 0])) (by omega) ?_ ?_ ?_
  · simp only [go_sem, tm0, ↓reduceIte, Nat.reduceAdd, Nat.reduceMul, Nat.reduceSub, Nat.reduceLeDiff, Nat.reduceLT, Nat.reduceEqDiff, Int.reduceLT, Int.reduceLE, Int.reduceAdd, Int.reduceSub, Int.reduceMul, Int.reduceToNat, Int.reducePow, Int.reduceNe, Int.reduceMod, Int.reduceDiv, ne_eq, Int.reduceEq, not_false_eq_true, Nat.reducePow, List.length_append, List.length_replicate, List.replicate_succ, List.replicate_zero, Int.cast_ofNat_Int, not_true_eq_false, decide_true, decide_false, ite_self, dropK_eq]
  · simp only [go_sem, tm0, ↓reduceIte, Nat.reduceAdd, Nat.reduceMul, Nat.reduceSub, Nat.reduceLeDiff, Nat.reduceLT, Nat.reduceEqDiff, Int.reduceLT, Int.reduceLE, Int.reduceAdd, Int.reduceSub, Int.reduceMul, Int.reduceToNat, Int.reducePow, Int.reduceNe, Int.reduceMod, Int.reduceDiv, ne_eq, Int.reduceEq, not_false_eq_true, Nat.reducePow, List.length_append, List.length_replicate, List.replicate_succ, List.replicate_zero, Int.cast_ofNat_Int, not_true_eq_false, decide_true, decide_false, ite_self, dropK_eq, List.map_nil]
    exact ⟨Own.nils _ _ _, fun _ => trivial⟩
  · rintro i tm hp nc hi' hc k22 ⟨ho, h0, kr⟩
    have k0 := hc 0 rfl; have k1 := hc 1 rfl; have k2 := hc 2 rfl; have k8 := hc 8 rfl; have k20 := hc 20 rfl; have k21 := hc 21 rfl; simp only [go_sem, tm0, ↓reduceIte, Nat.reduceAdd, Nat.reduceMul, Nat.reduceSub, Nat.reduceLeDiff, Nat.reduceLT, Nat.reduceEqDiff, Int.reduceLT, Int.reduceLE, Int.reduceAdd, Int.reduceSub, Int.reduceMul, Int.reduceToNat, Int.reducePow, Int.reduceNe, Int.reduceMod, Int.reduceDiv, ne_eq, Int.reduceEq, not_false_eq_true, Nat.reducePow, List.length_append, List.length_replicate, List.replicate_succ, List.replicate_zero, Int.cast_ofNat_Int, not_true_eq_false, decide_true, decide_false, ite_self, dropK_eq] at k0 k1 k2 k8 k20 k21
    rcases Nat.lt_or_ge i l.length with hlt | hge
    · have d1 : decide ((i : Int) < (l.length : Int)) = true := decide_eq_true (by omega)
      have ia := hcu.ia hlt
      obtain ⟨V, H, hA, hO⟩ := ho.push (s0 := 12005005) (s1 := 12005004) (z := .int .i64 (clamp (l.getD i 0))) (bytes := 8) (by simp) (by simp) (plain_int _ _ _) (by simp [cellsOf, isSc]) (by simp; omega)
      have ec : min (max (l.getD i 0) (-1000000)) 1000000 = clamp (l.getD i 0) := rfl
      simp (disch := first | omega | simp only [*, go_sem, tm0, ↓reduceIte, Nat.reduceAdd, Nat.reduceMul, Nat.reduceSub, Nat.reduceLeDiff, Nat.reduceLT, Nat.reduceEqDiff, Int.reduceLT, Int.reduceLE, Int.reduceAdd, Int.reduceSub, Int.reduceMul, Int.reduceToNat, Int.reducePow, Int.reduceNe, Int.reduceMod, Int.reduceDiv, ne_eq, Int.reduceEq, not_false_eq_true, Nat.reducePow, List.length_append, List.length_replicate, List.replicate_succ, List.replicate_zero, Int.cast_ofNat_Int, not_true_eq_false, decide_true, decide_false, ite_self, dropK_eq]) only [x12l3, go_sem, tm0, ↓reduceIte, Nat.reduceAdd, Nat.reduceMul, Nat.reduceSub, Nat.reduceLeDiff, Nat.reduceLT, Nat.reduceEqDiff, Int.reduceLT, Int.reduceLE, Int.reduceAdd, Int.reduceSub, Int.reduceMul, Int.reduceToNat, Int.reducePow, Int.reduceNe, Int.reduceMod, Int.reduceDiv, ne_eq, Int.reduceEq, not_false_eq_true, Nat.reducePow, List.length_append, List.length_replicate, List.replicate_succ, List.replicate_zero, Int.cast_ofNat_Int, not_true_eq_false, decide_true, decide_false, ite_self, dropK_eq, k8, k20, k21, k22, d1, ia, mnx_max, mnx_minI, ec, hA]
      have et : (l.take (i + 1)).map clamp = (l.take i).map clamp ++ [clamp (l.getD i 0)] := by rw [take_step hlt, List.map_append]; rfl
      refine ⟨hlt, by simp, ?_, ?_, ?_⟩
      · rw [et, i64s, List.map_append]; exact (hO _ _).1
      · rw [et]; intro h; simp at h
      · rw [(hO _ _).2 _ (by decide) (by decide)]; exact kr
    · obtain rfl : i = l.length := by omega
      have d1 : decide ((l.length : Int) < (l.length : Int)) = false := decide_eq_false (by omega)
      rw [List.take_length] at *
      have hw := own_row ho h0
      have hlv : ∀ hp', (∀ k : Key, k.1 ∈ [12005005] → hp' k = hp k) → lendV 63 (tm 11) hp' = some (rowV (l.map clamp)) := fun hp' hk => by
        have := (ho.keep hk).lend 62 (plainL_ints _ _ _)
        rwa [hw] at this
      obtain ⟨a1, a2, a3, a4⟩ := tmod_in s (m := 1000001) (by decide)
      obtain ⟨b1, b2, b3, b4⟩ := tmod_in b (m := 1000000000) (by decide)
      obtain ⟨c1, c2, _, _⟩ := tmod_in t (m := 1000001) (by decide)
      have e18 := F18_ok (cub_some t s b)
      simp only [tg, st, bd] at e18
      simp (disch := first | omega | simp only [*, go_sem, tm0, ↓reduceIte, Nat.reduceAdd, Nat.reduceMul, Nat.reduceSub, Nat.reduceLeDiff, Nat.reduceLT, Nat.reduceEqDiff, Int.reduceLT, Int.reduceLE, Int.reduceAdd, Int.reduceSub, Int.reduceMul, Int.reduceToNat, Int.reducePow, Int.reduceNe, Int.reduceMod, Int.reduceDiv, ne_eq, Int.reduceEq, not_false_eq_true, Nat.reducePow, List.length_append, List.length_replicate, List.replicate_succ, List.replicate_zero, Int.cast_ofNat_Int, not_true_eq_false, decide_true, decide_false, ite_self, dropK_eq]) only [x12l3, go_sem, tm0, ↓reduceIte, Nat.reduceAdd, Nat.reduceMul, Nat.reduceSub, Nat.reduceLeDiff, Nat.reduceLT, Nat.reduceEqDiff, Int.reduceLT, Int.reduceLE, Int.reduceAdd, Int.reduceSub, Int.reduceMul, Int.reduceToNat, Int.reducePow, Int.reduceNe, Int.reduceMod, Int.reduceDiv, ne_eq, Int.reduceEq, not_false_eq_true, Nat.reducePow, List.length_append, List.length_replicate, List.replicate_succ, List.replicate_zero, Int.cast_ofNat_Int, not_true_eq_false, decide_true, decide_false, ite_self, dropK_eq, k0, k1, k2, k8, k20, k21, k22, d1, kr, callX_known (C := C5) (g := 18) rfl, ft_call (C := C5) (g := 18) rfl, e18]
      rw [Ends_eq]
      simp (disch := first | omega | simp only [*, go_sem, tm0, ↓reduceIte, Nat.reduceAdd, Nat.reduceMul, Nat.reduceSub, Nat.reduceLeDiff, Nat.reduceLT, Nat.reduceEqDiff, Int.reduceLT, Int.reduceLE, Int.reduceAdd, Int.reduceSub, Int.reduceMul, Int.reduceToNat, Int.reducePow, Int.reduceNe, Int.reduceMod, Int.reduceDiv, ne_eq, Int.reduceEq, not_false_eq_true, Nat.reducePow, List.length_append, List.length_replicate, List.replicate_succ, List.replicate_zero, Int.cast_ofNat_Int, not_true_eq_false, decide_true, decide_false, ite_self, dropK_eq]) only [go_sem, tm0, ↓reduceIte, Nat.reduceAdd, Nat.reduceMul, Nat.reduceSub, Nat.reduceLeDiff, Nat.reduceLT, Nat.reduceEqDiff, Int.reduceLT, Int.reduceLE, Int.reduceAdd, Int.reduceSub, Int.reduceMul, Int.reduceToNat, Int.reducePow, Int.reduceNe, Int.reduceMod, Int.reduceDiv, ne_eq, Int.reduceEq, not_false_eq_true, Nat.reducePow, List.length_append, List.length_replicate, List.replicate_succ, List.replicate_zero, Int.cast_ofNat_Int, not_true_eq_false, decide_true, decide_false, ite_self, dropK_eq]
      rw [hlv _ (fun k hk => by repeat rw [upd_ne _ _ (by rintro rfl; simp at hk)])]
      simp only [go_sem, tm0, ↓reduceIte, Nat.reduceAdd, Nat.reduceMul, Nat.reduceSub, Nat.reduceLeDiff, Nat.reduceLT, Nat.reduceEqDiff, Int.reduceLT, Int.reduceLE, Int.reduceAdd, Int.reduceSub, Int.reduceMul, Int.reduceToNat, Int.reducePow, Int.reduceNe, Int.reduceMod, Int.reduceDiv, ne_eq, Int.reduceEq, not_false_eq_true, Nat.reducePow, List.length_append, List.length_replicate, List.replicate_succ, List.replicate_zero, Int.cast_ofNat_Int, not_true_eq_false, decide_true, decide_false, ite_self, dropK_eq]
end Go.Proofs.Ythnjboiecahbgaa
