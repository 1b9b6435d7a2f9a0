/-
  CusumSums: what the sums are.
-/
import Derived.Test.YthnjboiecahbgaaYH
set_option linter.unusedVariables false
set_option linter.unusedSimpArgs false
namespace Go.Proofs.Ythnjboiecahbgaa
open Go Go.Xec


set_option maxRecDepth 10000
/-- The greatest of 0 and the sums of the last, told from the front. -/
def top (d : Int → Int) : Int → List Int → Int
  | v, [] => v
  | v, x :: l => top d (max 0 (v + d x)) l
def tot (d : Int → Int) : List Int → Int
  | [] => 0
  | x :: l => d x + tot d l
theorem top_mono (d : Int → Int) : ∀ (l : List Int) (v : Int), 0 ≤ v → top d v l = max (top d 0 l) (v + tot d l)
  | [], v, h => by simp only [top, tot]; omega
  | x :: l, v, h => by
    simp only [top, tot]
    rw [top_mono d l (max 0 (v + d x)) (by omega), top_mono d l (max 0 (0 + d x)) (by omega)]
    have hl := top_mono d l 0 (by omega)
    omega
theorem top_cons (d : Int → Int) (x : Int) (l : List Int) : top d 0 (x :: l) = max (top d 0 l) (d x + tot d l) := by
  simp only [top]
  rw [top_mono d l _ (by omega)]
  have hl := top_mono d l 0 (by omega)
  omega
theorem top_app (d : Int → Int) : ∀ (l m : List Int) (v : Int), top d v (l ++ m) = top d (top d v l) m
  | [], m, v => rfl
  | x :: l, m, v => top_app d l m _
theorem top_nn (d : Int → Int) : ∀ (l : List Int) (v : Int), 0 ≤ v → 0 ≤ top d v l
  | [], v, h => h
  | x :: l, v, h => top_nn d l _ (by omega)
theorem tot_in (d : Int → Int) (M : Int) (hM : 0 ≤ M) : ∀ (l : List Int), (∀ x ∈ l, -M ≤ d x ∧ d x ≤ M) → -(M * l.length) ≤ tot d l ∧ tot d l ≤ M * l.length
  | [], _ => by simp [tot]
  | x :: l, h => by
    have h1 := tot_in d M hM l fun y hy => h y (by simp [hy])
    have h2 := h x (by simp)
    simp only [tot, List.length_cons, Int.natCast_add, Int.natCast_one, Int.mul_add, Int.mul_one]
    omega
theorem top_in (d : Int → Int) (M : Int) (hM : 0 ≤ M) : ∀ (l : List Int) (v : Int), 0 ≤ v → (∀ x ∈ l, -M ≤ d x ∧ d x ≤ M) → top d v l ≤ v + M * l.length
  | [], v, _, _ => by simp [top]
  | x :: l, v, hv, h => by
    have h1 := top_in d M hM l (max 0 (v + d x)) (by omega) fun y hy => h y (by simp [hy])
    have h2 := h x (by simp)
    simp only [top, List.length_cons, Int.natCast_add, Int.natCast_one, Int.mul_add, Int.mul_one]
    omega
abbrev du (t s x : Int) : Int := x - t - s
abbrev dd (t s x : Int) : Int := t - s - x
/-- As long as there is no signal. -/
theorem no_sig {t s b : Int} : ∀ (l : List Int) (q : Cs), (∀ x ∈ csig t s b q l, x = 0) → crun t s b q l = ⟨q.n + l.length, top (du t s) q.h l, top (dd t s) q.l l⟩
  | [], q, _ => by simp [crun, top]
  | x :: l, q, h => by
    have h1 : sig t s b q x = 0 := h _ (by simp [csig])
    have h2 : cs t s b q x = ⟨q.n + 1, up t s q x, dn t s q x⟩ := by
      unfold sig at h1
      unfold cs
      split at h1
      · omega
      · rename_i a1
        split at h1
        · omega
        · rename_i a2
          rw [if_neg (by omega)]
    simp only [crun]
    rw [no_sig l _ (fun y hy => h y (by simp [csig, hy])), h2]
    simp only [top, up, dn, List.length_cons]
    congr 1
    omega
theorem drop_cons {l : List Int} {n : Nat} (h : n < l.length) : l.drop n = l.getD n 0 :: l.drop (n + 1) := by
  rw [List.drop_eq_getElem_cons h]
  simp [List.getD_eq_getElem?_getD, List.getElem?_eq_getElem h]
theorem take_getD {l : List Int} {n m : Nat} (h : n < m) : (l.take m).getD n 0 = l.getD n 0 := by
  simp [List.getD_eq_getElem?_getD, List.getElem?_take, h]
theorem law4 : ∀ xs, WTL [tI, tI, tI, tS] xs → pureF C6 1 4 xs = some (.bool true) := by
  intro xs h
  simp only [WTL, WT] at h
  obtain ⟨_, _, rfl, ⟨t, rfl, _⟩, _, _, rfl, ⟨s, rfl, _⟩, _, _, rfl, ⟨b, rfl, _⟩, a, _, rfl, ha, rfl⟩ := h
  obtain ⟨l0, ha, ha8, _⟩ := wt_ints (b := 8) (by simpa only [WT] using ha)
  have ap := ha.plain
  have hl0 : Lg l0 := by simp only [Lg]; omega
  have e12 := F12_eq (t := t) (s := s) (b := b) ha hl0
  obtain ⟨hT, hS, hB⟩ := cub_some t s b
  have hoi := clamp_in (l0.take 100)
  have hol : ((l0.take 100).map clamp).length ≤ 100 := by simp; omega
  simp only [tg, st, bd] at *
  generalize (l0.take 100).map clamp = o at *
  generalize hT' : t.tmod 1000001 = T at *
  generalize (s.tmod 1000001 + 1000001).tmod 1000001 = S at *
  generalize 1 + (b.tmod 1000000000 + 1000000000).tmod 1000000000 = B at *
  have hq0 : csOk B ⟨0, 0, 0⟩ := ⟨by simp, by simp, by simp; omega, by simp, by simp; omega⟩
  have hor := rowV_rw o
  have orp := hor.plain
  refine pureF_of (x := x4) rfl rfl ?_
  rw [x4_eq.1, x4_eq.2.1]
  simp (disch := first | omega | simp only [*, go_sem, tm0, ↓reduceIte, Nat.reduceAdd, Nat.reduceMul, Nat.reduceSub, Nat.reduceLeDiff, Nat.reduceLT, Nat.reduceEqDiff, Int.reduceLT, Int.reduceLE, Int.reduceAdd, Int.reduceSub, Int.reduceMul, Int.reduceToNat, Int.reducePow, Int.reduceNe, Int.reduceMod, Int.reduceDiv, ne_eq, Int.reduceEq, not_false_eq_true, Nat.reducePow, List.length_append, List.length_replicate, List.replicate_succ, List.replicate_zero, Int.cast_ofNat_Int, not_true_eq_false, decide_true, decide_false, ite_self, beq_self_eq_true, Bool.true_beq, Bool.false_beq, Bool.not_true, Bool.not_false, Int.reduceNeg, List.mem_cons, List.not_mem_nil, or_false, or_self]) only [go_sem, tm0, ↓reduceIte, Nat.reduceAdd, Nat.reduceMul, Nat.reduceSub, Nat.reduceLeDiff, Nat.reduceLT, Nat.reduceEqDiff, Int.reduceLT, Int.reduceLE, Int.reduceAdd, Int.reduceSub, Int.reduceMul, Int.reduceToNat, Int.reducePow, Int.reduceNe, Int.reduceMod, Int.reduceDiv, ne_eq, Int.reduceEq, not_false_eq_true, Nat.reducePow, List.length_append, List.length_replicate, List.replicate_succ, List.replicate_zero, Int.cast_ofNat_Int, not_true_eq_false, decide_true, decide_false, ite_self, beq_self_eq_true, Bool.true_beq, Bool.false_beq, Bool.not_true, Bool.not_false, Int.reduceNeg, F8_eq, callX_known (C := C6) (g := 8) rfl, ft_call (C := C6) (g := 8) rfl, callX_known (C := C6) (g := 12) rfl, ft_call (C := C6) (g := 12) rfl, callX_known (C := C6) (g := 6) rfl, ft_call (C := C6) (g := 6) rfl, x4b, e12, hor.len]
  refine Ev_range (ti := 38) (len := o.length) (J := fun i tm hp nc => (∀ x ∈ csig T S B ⟨0, 0, 0⟩ (o.take i), x = 0) ∧
    hp (4001009, 1) = some (.var [.int .i64 T, .int .i64 S, .int .i64 B, .int .i64 0, .int .i64 0, .int .i64 0])) (by omega) ?_ ?_ ?_
  · simp only [go_sem, tm0, ↓reduceIte, Nat.reduceAdd, Nat.reduceMul, Nat.reduceSub, Nat.reduceLeDiff, Nat.reduceLT, Nat.reduceEqDiff, Int.reduceLT, Int.reduceLE, Int.reduceAdd, Int.reduceSub, Int.reduceMul, Int.reduceToNat, Int.reducePow, Int.reduceNe, Int.reduceMod, Int.reduceDiv, ne_eq, Int.reduceEq, not_false_eq_true, Nat.reducePow, List.length_append, List.length_replicate, List.replicate_succ, List.replicate_zero, Int.cast_ofNat_Int, not_true_eq_false, decide_true, decide_false, ite_self, beq_self_eq_true, Bool.true_beq, Bool.false_beq, Bool.not_true, Bool.not_false, Int.reduceNeg, dropK_eq]
  · simp only [go_sem, tm0, ↓reduceIte, Nat.reduceAdd, Nat.reduceMul, Nat.reduceSub, Nat.reduceLeDiff, Nat.reduceLT, Nat.reduceEqDiff, Int.reduceLT, Int.reduceLE, Int.reduceAdd, Int.reduceSub, Int.reduceMul, Int.reduceToNat, Int.reducePow, Int.reduceNe, Int.reduceMod, Int.reduceDiv, ne_eq, Int.reduceEq, not_false_eq_true, Nat.reducePow, List.length_append, List.length_replicate, List.replicate_succ, List.replicate_zero, Int.cast_ofNat_Int, not_true_eq_false, decide_true, decide_false, ite_self, beq_self_eq_true, Bool.true_beq, Bool.false_beq, Bool.not_true, Bool.not_false, Int.reduceNeg, dropK_eq, csig]
    simp
  · rintro i tm hp nc hi' hc k38 ⟨hns, ka⟩
    have k3 := hc 3 rfl; have k9 := hc 9 rfl; have k36 := hc 36 rfl; have k37 := hc 37 rfl; simp only [go_sem, tm0, ↓reduceIte, Nat.reduceAdd, Nat.reduceMul, Nat.reduceSub, Nat.reduceLeDiff, Nat.reduceLT, Nat.reduceEqDiff, Int.reduceLT, Int.reduceLE, Int.reduceAdd, Int.reduceSub, Int.reduceMul, Int.reduceToNat, Int.reducePow, Int.reduceNe, Int.reduceMod, Int.reduceDiv, ne_eq, Int.reduceEq, not_false_eq_true, Nat.reducePow, List.length_append, List.length_replicate, List.replicate_succ, List.replicate_zero, Int.cast_ofNat_Int, not_true_eq_false, decide_true, decide_false, ite_self, beq_self_eq_true, Bool.true_beq, Bool.false_beq, Bool.not_true, Bool.not_false, Int.reduceNeg, dropK_eq] at k3 k9 k36 k37
    rcases Nat.lt_or_ge i o.length with hlt | hge
    · have d1 : decide ((i : Int) < (o.length : Int)) = true := decide_eq_true (by omega)
      simp (disch := first | omega | simp only [*, go_sem, tm0, ↓reduceIte, Nat.reduceAdd, Nat.reduceMul, Nat.reduceSub, Nat.reduceLeDiff, Nat.reduceLT, Nat.reduceEqDiff, Int.reduceLT, Int.reduceLE, Int.reduceAdd, Int.reduceSub, Int.reduceMul, Int.reduceToNat, Int.reducePow, Int.reduceNe, Int.reduceMod, Int.reduceDiv, ne_eq, Int.reduceEq, not_false_eq_true, Nat.reducePow, List.length_append, List.length_replicate, List.replicate_succ, List.replicate_zero, Int.cast_ofNat_Int, not_true_eq_false, decide_true, decide_false, ite_self, beq_self_eq_true, Bool.true_beq, Bool.false_beq, Bool.not_true, Bool.not_false, Int.reduceNeg, List.mem_cons, List.not_mem_nil, or_false, or_self]) only [go_sem, tm0, ↓reduceIte, Nat.reduceAdd, Nat.reduceMul, Nat.reduceSub, Nat.reduceLeDiff, Nat.reduceLT, Nat.reduceEqDiff, Int.reduceLT, Int.reduceLE, Int.reduceAdd, Int.reduceSub, Int.reduceMul, Int.reduceToNat, Int.reducePow, Int.reduceNe, Int.reduceMod, Int.reduceDiv, ne_eq, Int.reduceEq, not_false_eq_true, Nat.reducePow, List.length_append, List.length_replicate, List.replicate_succ, List.replicate_zero, Int.cast_ofNat_Int, not_true_eq_false, decide_true, decide_false, ite_self, beq_self_eq_true, Bool.true_beq, Bool.false_beq, Bool.not_true, Bool.not_false, Int.reduceNeg, F8_eq, callX_known (C := C6) (g := 8) rfl, ft_call (C := C6) (g := 8) rfl, callX_known (C := C6) (g := 12) rfl, ft_call (C := C6) (g := 12) rfl, callX_known (C := C6) (g := 6) rfl, ft_call (C := C6) (g := 6) rfl, x4l5, k3, k9, k36, k37, k38, d1]
      have hpl : (o.take (i + 1)).length = i + 1 := by simp; omega
      refine Ev_loopW (I := fun n tm' hp' nc' => n ≤ i + 1 ∧ hp' = hp ∧ tm' 16 = .int .i64 ((n : Int) - 1) ∧ tm' 12 = .int .i64 (top (du T S) 0 ((o.take (i + 1)).drop n)) ∧ tm' 13 = .int .i64 (top (dd T S) 0 ((o.take (i + 1)).drop n)) ∧
        tm' 14 = .int .i64 (tot (du T S) ((o.take (i + 1)).drop n)) ∧ tm' 15 = .int .i64 (tot (dd T S) ((o.take (i + 1)).drop n))) (n := i + 1) ?_ (by omega) ?_
      · rw [List.drop_of_length_le (by omega)]
        simp only [go_sem, tm0, ↓reduceIte, Nat.reduceAdd, Nat.reduceMul, Nat.reduceSub, Nat.reduceLeDiff, Nat.reduceLT, Nat.reduceEqDiff, Int.reduceLT, Int.reduceLE, Int.reduceAdd, Int.reduceSub, Int.reduceMul, Int.reduceToNat, Int.reducePow, Int.reduceNe, Int.reduceMod, Int.reduceDiv, ne_eq, Int.reduceEq, not_false_eq_true, Nat.reducePow, List.length_append, List.length_replicate, List.replicate_succ, List.replicate_zero, Int.cast_ofNat_Int, not_true_eq_false, decide_true, decide_false, ite_self, beq_self_eq_true, Bool.true_beq, Bool.false_beq, Bool.not_true, Bool.not_false, Int.reduceNeg, dropK_eq, top, tot]
        refine ⟨by omega, ?_⟩
        congr 1
        omega
      · clear hc
        rintro n tm' hp' nc' hc ⟨hn, rfl, k16, k12, k13, k14, k15⟩
        have j3 := hc 3 rfl; have j9 := hc 9 rfl; have j11 := hc 11 rfl; have j36 := hc 36 rfl; have j37 := hc 37 rfl; have j38 := hc 38 rfl; simp only [go_sem, tm0, ↓reduceIte, Nat.reduceAdd, Nat.reduceMul, Nat.reduceSub, Nat.reduceLeDiff, Nat.reduceLT, Nat.reduceEqDiff, Int.reduceLT, Int.reduceLE, Int.reduceAdd, Int.reduceSub, Int.reduceMul, Int.reduceToNat, Int.reducePow, Int.reduceNe, Int.reduceMod, Int.reduceDiv, ne_eq, Int.reduceEq, not_false_eq_true, Nat.reducePow, List.length_append, List.length_replicate, List.replicate_succ, List.replicate_zero, Int.cast_ofNat_Int, not_true_eq_false, decide_true, decide_false, ite_self, beq_self_eq_true, Bool.true_beq, Bool.false_beq, Bool.not_true, Bool.not_false, Int.reduceNeg, dropK_eq, k3, k9, k36, k37, k38] at j3 j9 j11 j36 j37 j38
        have hpi : inAll (o.take (i + 1)) := fun x hx => hoi x (List.mem_of_mem_take hx)
        rcases Nat.eq_zero_or_pos n with rfl | hpos
        · have d2 : decide ((0 : Int) ≤ ((0 : Nat) : Int) - 1) = false := by decide
          rw [List.drop_zero] at k12 k13 k14 k15
          have hor1 := hor.take (i + 1)
          have o1p := hor1.plain
          have hs1 : slVA 1 (rowV o) none (some (.int .i64 ((i : Int) + 1))) none = some (rwTake (i + 1) (rowV o)) := hor.sliceTo (n := i + 1) (by omega)
          have e6 : F6 [K6 T S B 0 0 0, rwTake (i + 1) (rowV o)] = _ := F6_ok (t := T) (s := S) (b := B) (q := ⟨0, 0, 0⟩) hor1 (by omega) (cuOk_new ⟨hT, hS, hB⟩) hpi (by simp only [hpl]; omega)
          obtain ⟨c1, c2⟩ := crun_step (t := T) (s := S) (b := B) (q := ⟨0, 0, 0⟩) hlt
          have c3 := no_sig (o.take i) ⟨0, 0, 0⟩ hns
          obtain ⟨c4, c5⟩ := crun_ok (t := T) (s := S) hB.1 hq0 (o.take i)
          have c6 : up T S (crun T S B ⟨0, 0, 0⟩ (o.take i)) (o.getD i 0) = top (du T S) 0 (o.take (i + 1)) := by rw [c3, take_step hlt, top_app]; rfl
          have c7 : dn T S (crun T S B ⟨0, 0, 0⟩ (o.take i)) (o.getD i 0) = top (dd T S) 0 (o.take (i + 1)) := by rw [c3, take_step hlt, top_app]; rfl
          have c8 : ¬ (B < top (du T S) 0 (o.take (i + 1)) ∧ B < top (dd T S) 0 (o.take (i + 1))) := by
            rw [← c6, ← c7]
            simp only [csOk] at c4
            simp only [up, dn]
            omega
          have c9 : (crun T S B ⟨0, 0, 0⟩ (o.take i)).n = i := by rw [c5]; simp; omega
          have sl : (csig T S B ⟨0, 0, 0⟩ (o.take (i + 1))).length = i + 1 := by rw [csig_len, hpl]
          have sg : (csig T S B ⟨0, 0, 0⟩ (o.take (i + 1))).getD i 0 = sig T S B (crun T S B ⟨0, 0, 0⟩ (o.take i)) (o.getD i 0) := by
            rw [c2, List.getD_eq_getElem?_getD, List.getElem?_append_right (by rw [csig_len]; simp; omega)]
            have : i - (csig T S B ⟨0, 0, 0⟩ (o.take i)).length = 0 := by rw [csig_len]; simp; omega
            rw [this]
            rfl
          have ig := (rowV_rw (csig T S B ⟨0, 0, 0⟩ (o.take (i + 1)))).ia (i := i) (by omega)
          have rl := rowV_len (csig T S B ⟨0, 0, 0⟩ (o.take (i + 1)))
          have h0 : ∀ x ∈ csig T S B ⟨0, 0, 0⟩ (o.take i), x = 0 := hns
          rw [sg] at ig
          rw [sl] at rl
          rw [c1] at e6
          unfold cs at e6
          unfold sig at ig
          rw [c6, c7] at e6 ig
          have c10 : csig T S B ⟨0, 0, 0⟩ (o.take (i + 1)) = csig T S B ⟨0, 0, 0⟩ (o.take i) ++ [if B < top (dd T S) 0 (o.take (i + 1)) then -1 else if B < top (du T S) 0 (o.take (i + 1)) then 1 else 0] := by
            rw [c2]; unfold sig; rw [c6, c7]
          generalize top (du T S) 0 (o.take (i + 1)) = hi at *
          generalize top (dd T S) 0 (o.take (i + 1)) = lo at *
          generalize hsv : rowV (csig T S B ⟨0, 0, 0⟩ (o.take (i + 1))) = sv at *
          have svp : ∀ d, plain d sv = true := fun d => hsv ▸ (rowV_rw _).plain d
          have d4 : decide (¬ ((i + 1 : Nat) : Int) = (i : Int) + 1) = false := decide_eq_false (by omega)
          by_cases g1 : B < hi <;> by_cases g2 : B < lo
          · exact absurd ⟨g1, g2⟩ c8
          · rw [if_pos (.inr g1)] at e6
            rw [if_neg g2, if_pos g1] at ig
            simp only [c9] at e6
            simp (disch := first | omega | simp only [*, go_sem, tm0, ↓reduceIte, Nat.reduceAdd, Nat.reduceMul, Nat.reduceSub, Nat.reduceLeDiff, Nat.reduceLT, Nat.reduceEqDiff, Int.reduceLT, Int.reduceLE, Int.reduceAdd, Int.reduceSub, Int.reduceMul, Int.reduceToNat, Int.reducePow, Int.reduceNe, Int.reduceMod, Int.reduceDiv, ne_eq, Int.reduceEq, not_false_eq_true, Nat.reducePow, List.length_append, List.length_replicate, List.replicate_succ, List.replicate_zero, Int.cast_ofNat_Int, not_true_eq_false, decide_true, decide_false, ite_self, beq_self_eq_true, Bool.true_beq, Bool.false_beq, Bool.not_true, Bool.not_false, Int.reduceNeg, List.mem_cons, List.not_mem_nil, or_false, or_self]) only [go_sem, tm0, ↓reduceIte, Nat.reduceAdd, Nat.reduceMul, Nat.reduceSub, Nat.reduceLeDiff, Nat.reduceLT, Nat.reduceEqDiff, Int.reduceLT, Int.reduceLE, Int.reduceAdd, Int.reduceSub, Int.reduceMul, Int.reduceToNat, Int.reducePow, Int.reduceNe, Int.reduceMod, Int.reduceDiv, ne_eq, Int.reduceEq, not_false_eq_true, Nat.reducePow, List.length_append, List.length_replicate, List.replicate_succ, List.replicate_zero, Int.cast_ofNat_Int, not_true_eq_false, decide_true, decide_false, ite_self, beq_self_eq_true, Bool.true_beq, Bool.false_beq, Bool.not_true, Bool.not_false, Int.reduceNeg, F8_eq, callX_known (C := C6) (g := 8) rfl, ft_call (C := C6) (g := 8) rfl, callX_known (C := C6) (g := 12) rfl, ft_call (C := C6) (g := 12) rfl, callX_known (C := C6) (g := 6) rfl, ft_call (C := C6) (g := 6) rfl, x4l9, j3, j9, j11, j36, j37, j38, k16, k12, k13, k14, k15, d2, ka, hs1, e6, o1p, rl, ig, g1, g2, d4]
            exact Ends_plain rfl rfl
          · rw [if_pos (.inl g2)] at e6
            rw [if_pos g2] at ig
            simp only [c9] at e6
            simp (disch := first | omega | simp only [*, go_sem, tm0, ↓reduceIte, Nat.reduceAdd, Nat.reduceMul, Nat.reduceSub, Nat.reduceLeDiff, Nat.reduceLT, Nat.reduceEqDiff, Int.reduceLT, Int.reduceLE, Int.reduceAdd, Int.reduceSub, Int.reduceMul, Int.reduceToNat, Int.reducePow, Int.reduceNe, Int.reduceMod, Int.reduceDiv, ne_eq, Int.reduceEq, not_false_eq_true, Nat.reducePow, List.length_append, List.length_replicate, List.replicate_succ, List.replicate_zero, Int.cast_ofNat_Int, not_true_eq_false, decide_true, decide_false, ite_self, beq_self_eq_true, Bool.true_beq, Bool.false_beq, Bool.not_true, Bool.not_false, Int.reduceNeg, List.mem_cons, List.not_mem_nil, or_false, or_self]) only [go_sem, tm0, ↓reduceIte, Nat.reduceAdd, Nat.reduceMul, Nat.reduceSub, Nat.reduceLeDiff, Nat.reduceLT, Nat.reduceEqDiff, Int.reduceLT, Int.reduceLE, Int.reduceAdd, Int.reduceSub, Int.reduceMul, Int.reduceToNat, Int.reducePow, Int.reduceNe, Int.reduceMod, Int.reduceDiv, ne_eq, Int.reduceEq, not_false_eq_true, Nat.reducePow, List.length_append, List.length_replicate, List.replicate_succ, List.replicate_zero, Int.cast_ofNat_Int, not_true_eq_false, decide_true, decide_false, ite_self, beq_self_eq_true, Bool.true_beq, Bool.false_beq, Bool.not_true, Bool.not_false, Int.reduceNeg, F8_eq, callX_known (C := C6) (g := 8) rfl, ft_call (C := C6) (g := 8) rfl, callX_known (C := C6) (g := 12) rfl, ft_call (C := C6) (g := 12) rfl, callX_known (C := C6) (g := 6) rfl, ft_call (C := C6) (g := 6) rfl, x4l9, j3, j9, j11, j36, j37, j38, k16, k12, k13, k14, k15, d2, ka, hs1, e6, o1p, rl, ig, g1, g2, d4]
            exact Ends_plain rfl rfl
          · rw [if_neg (by simp [g1, g2])] at e6
            rw [if_neg g2, if_neg g1] at ig
            rw [if_neg g2, if_neg g1] at c10
            simp only [c9] at e6
            simp (disch := first | omega | simp only [*, go_sem, tm0, ↓reduceIte, Nat.reduceAdd, Nat.reduceMul, Nat.reduceSub, Nat.reduceLeDiff, Nat.reduceLT, Nat.reduceEqDiff, Int.reduceLT, Int.reduceLE, Int.reduceAdd, Int.reduceSub, Int.reduceMul, Int.reduceToNat, Int.reducePow, Int.reduceNe, Int.reduceMod, Int.reduceDiv, ne_eq, Int.reduceEq, not_false_eq_true, Nat.reducePow, List.length_append, List.length_replicate, List.replicate_succ, List.replicate_zero, Int.cast_ofNat_Int, not_true_eq_false, decide_true, decide_false, ite_self, beq_self_eq_true, Bool.true_beq, Bool.false_beq, Bool.not_true, Bool.not_false, Int.reduceNeg, List.mem_cons, List.not_mem_nil, or_false, or_self]) only [go_sem, tm0, ↓reduceIte, Nat.reduceAdd, Nat.reduceMul, Nat.reduceSub, Nat.reduceLeDiff, Nat.reduceLT, Nat.reduceEqDiff, Int.reduceLT, Int.reduceLE, Int.reduceAdd, Int.reduceSub, Int.reduceMul, Int.reduceToNat, Int.reducePow, Int.reduceNe, Int.reduceMod, Int.reduceDiv, ne_eq, Int.reduceEq, not_false_eq_true, Nat.reducePow, List.length_append, List.length_replicate, List.replicate_succ, List.replicate_zero, Int.cast_ofNat_Int, not_true_eq_false, decide_true, decide_false, ite_self, beq_self_eq_true, Bool.true_beq, Bool.false_beq, Bool.not_true, Bool.not_false, Int.reduceNeg, F8_eq, callX_known (C := C6) (g := 8) rfl, ft_call (C := C6) (g := 8) rfl, callX_known (C := C6) (g := 12) rfl, ft_call (C := C6) (g := 12) rfl, callX_known (C := C6) (g := 6) rfl, ft_call (C := C6) (g := 6) rfl, x4l9, j3, j9, j11, j36, j37, j38, k16, k12, k13, k14, k15, d2, ka, hs1, e6, o1p, rl, ig, g1, g2, d4]
            refine ⟨hlt, by simp, ?_⟩
            rw [c10]
            intro x hx
            rcases List.mem_append.1 hx with hx | hx
            · exact h0 x hx
            · simpa using hx
        · obtain ⟨n, rfl⟩ : ∃ n', n = n' + 1 := ⟨n - 1, by omega⟩
          have d2 : decide ((0 : Int) ≤ ((n + 1 : Nat) : Int) - 1) = true := decide_eq_true (by omega)
          have hdc := drop_cons (l := o.take (i + 1)) (n := n) (by omega)
          rw [take_getD (show n < i + 1 by omega)] at hdc
          have ia := hor.ia (i := n) (by omega)
          have hx := hoi _ (getD_mem (show n < o.length by omega))
          have z1 := tot_in (du T S) 3000000 (by decide) ((o.take (i + 1)).drop (n + 1)) fun x hx => by have := hpi x (List.mem_of_mem_drop hx); simp only [du]; omega
          have z2 := tot_in (dd T S) 3000000 (by decide) ((o.take (i + 1)).drop (n + 1)) fun x hx => by have := hpi x (List.mem_of_mem_drop hx); simp only [dd]; omega
          simp only [List.length_drop, hpl] at z1 z2
          have ec : ((n + 1 : Nat) : Int) - 1 = n := by omega
          rw [ec] at k16 d2
          simp (disch := first | omega | simp only [*, go_sem, tm0, ↓reduceIte, Nat.reduceAdd, Nat.reduceMul, Nat.reduceSub, Nat.reduceLeDiff, Nat.reduceLT, Nat.reduceEqDiff, Int.reduceLT, Int.reduceLE, Int.reduceAdd, Int.reduceSub, Int.reduceMul, Int.reduceToNat, Int.reducePow, Int.reduceNe, Int.reduceMod, Int.reduceDiv, ne_eq, Int.reduceEq, not_false_eq_true, Nat.reducePow, List.length_append, List.length_replicate, List.replicate_succ, List.replicate_zero, Int.cast_ofNat_Int, not_true_eq_false, decide_true, decide_false, ite_self, beq_self_eq_true, Bool.true_beq, Bool.false_beq, Bool.not_true, Bool.not_false, Int.reduceNeg, List.mem_cons, List.not_mem_nil, or_false, or_self]) only [go_sem, tm0, ↓reduceIte, Nat.reduceAdd, Nat.reduceMul, Nat.reduceSub, Nat.reduceLeDiff, Nat.reduceLT, Nat.reduceEqDiff, Int.reduceLT, Int.reduceLE, Int.reduceAdd, Int.reduceSub, Int.reduceMul, Int.reduceToNat, Int.reducePow, Int.reduceNe, Int.reduceMod, Int.reduceDiv, ne_eq, Int.reduceEq, not_false_eq_true, Nat.reducePow, List.length_append, List.length_replicate, List.replicate_succ, List.replicate_zero, Int.cast_ofNat_Int, not_true_eq_false, decide_true, decide_false, ite_self, beq_self_eq_true, Bool.true_beq, Bool.false_beq, Bool.not_true, Bool.not_false, Int.reduceNeg, F8_eq, callX_known (C := C6) (g := 8) rfl, ft_call (C := C6) (g := 8) rfl, callX_known (C := C6) (g := 12) rfl, ft_call (C := C6) (g := 12) rfl, callX_known (C := C6) (g := 6) rfl, ft_call (C := C6) (g := 6) rfl, x4l9, j3, j9, j11, j36, j37, j38, k16, k12, k13, k14, k15, d2, ka, ia, mnx_max]
          refine ⟨n, by omega, by omega, rfl, ?_, ?_, ?_, ?_⟩
          · rw [hdc, top_cons]; simp only [du]; congr 2; omega
          · rw [hdc, top_cons]; simp only [dd]; congr 2; omega
          · rw [hdc]; simp only [tot, du]; congr 1; omega
          · rw [hdc]; simp only [tot, dd]; congr 1; omega
    · obtain rfl : i = o.length := by omega
      have d1 : decide ((o.length : Int) < (o.length : Int)) = false := decide_eq_false (by omega)
      simp (disch := first | omega | simp only [*, go_sem, tm0, ↓reduceIte, Nat.reduceAdd, Nat.reduceMul, Nat.reduceSub, Nat.reduceLeDiff, Nat.reduceLT, Nat.reduceEqDiff, Int.reduceLT, Int.reduceLE, Int.reduceAdd, Int.reduceSub, Int.reduceMul, Int.reduceToNat, Int.reducePow, Int.reduceNe, Int.reduceMod, Int.reduceDiv, ne_eq, Int.reduceEq, not_false_eq_true, Nat.reducePow, List.length_append, List.length_replicate, List.replicate_succ, List.replicate_zero, Int.cast_ofNat_Int, not_true_eq_false, decide_true, decide_false, ite_self, beq_self_eq_true, Bool.true_beq, Bool.false_beq, Bool.not_true, Bool.not_false, Int.reduceNeg, List.mem_cons, List.not_mem_nil, or_false, or_self]) only [go_sem, tm0, ↓reduceIte, Nat.reduceAdd, Nat.reduceMul, Nat.reduceSub, Nat.reduceLeDiff, Nat.reduceLT, Nat.reduceEqDiff, Int.reduceLT, Int.reduceLE, Int.reduceAdd, Int.reduceSub, Int.reduceMul, Int.reduceToNat, Int.reducePow, Int.reduceNe, Int.reduceMod, Int.reduceDiv, ne_eq, Int.reduceEq, not_false_eq_true, Nat.reducePow, List.length_append, List.length_replicate, List.replicate_succ, List.replicate_zero, Int.cast_ofNat_Int, not_true_eq_false, decide_true, decide_false, ite_self, beq_self_eq_true, Bool.true_beq, Bool.false_beq, Bool.not_true, Bool.not_false, Int.reduceNeg, F8_eq, callX_known (C := C6) (g := 8) rfl, ft_call (C := C6) (g := 8) rfl, callX_known (C := C6) (g := 12) rfl, ft_call (C := C6) (g := 12) rfl, callX_known (C := C6) (g := 6) rfl, ft_call (C := C6) (g := 6) rfl, x4l5, k3, k9, k36, k37, k38, d1]
      exact Ends_plain rfl rfl
end Go.Proofs.Ythnjboiecahbgaa
