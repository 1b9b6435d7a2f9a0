/-
  One sample more, in place.
-/
import Derived.Test.YthnjboiecahbgaaYC
set_option linter.unusedVariables false
set_option linter.unusedSimpArgs false
namespace Go.Proofs.Ythnjboiecahbgaa
open Go Go.Xec

set_option maxRecDepth 10000
theorem next17 {d : Nat} {t s b x : Int} {q : Cs} {hp : Heap} {nc : Nat} {K : AVal × Heap × Nat → Prop} (ht : -1000000 ≤ t ∧ t ≤ 1000000) (hs : 0 ≤ s ∧ s ≤ 1000000) (hb : 1 ≤ b ∧ b ≤ 1000000000) (hq : csOk b q) (hn : q.n ≤ 2000000000) (hx : -1000000 ≤ x ∧ x ≤ 1000000)
    (hk : hp (6000000, 0) = some (.var [.int .i64 t, .int .i64 s, .int .i64 b, .int .i64 q.n, .int .i64 q.h, .int .i64 q.l]))
    (hK : ∀ hp' nc', (∀ k : Key, k.1 < 17000000 → k ≠ (6000000, 0) → hp' k = hp k) → hp' (6000000, 0) = some (.var [.int .i64 t, .int .i64 s, .int .i64 b, .int .i64 (cs t s b q x).n, .int .i64 (cs t s b q x).h, .int .i64 (cs t s b q x).l]) →
      K (.int .i64 (sig t s b q x), hp', nc')) :
    Bd (callX C2 (inlD C2 (d + 2)) (.fn (.func 17) [] []) [.ptr (6000000, 0) 0 0 0 0, .int .i64 x] hp nc) K := by
  obtain ⟨n, h, l⟩ := q
  simp only [csOk] at hq hn hk
  have e1 : max 0 (h + (x - t - s)) = up t s ⟨n, h, l⟩ x := rfl
  have e2 : max 0 (l + (t - s - x)) = dn t s ⟨n, h, l⟩ x := rfl
  rw [call_inl (C := C2) (g := 17) rfl]
  refine inl_of (x := x17) rfl rfl ?_
  rw [x17_eq.1, x17_eq.2.1]
  simp (disch := first | omega | simp only [go_sem, tm0, ↓reduceIte, Nat.reduceAdd, Nat.reduceMul, Nat.reduceSub, Nat.reduceLeDiff, Nat.reduceLT, Nat.reduceEqDiff, Int.reduceLT, Int.reduceLE, Int.reduceAdd, Int.reduceSub, Int.reduceMul, Int.reduceToNat, Int.reducePow, Int.reduceNe, Int.reduceMod, Int.reduceDiv, ne_eq, Int.reduceEq, not_false_eq_true, Nat.reducePow, List.length_append, List.length_replicate, List.replicate_succ, List.replicate_zero, Int.cast_ofNat_Int, not_true_eq_false, decide_true, decide_false, ite_self, dropK_eq]) only [x17b, go_sem, tm0, ↓reduceIte, Nat.reduceAdd, Nat.reduceMul, Nat.reduceSub, Nat.reduceLeDiff, Nat.reduceLT, Nat.reduceEqDiff, Int.reduceLT, Int.reduceLE, Int.reduceAdd, Int.reduceSub, Int.reduceMul, Int.reduceToNat, Int.reducePow, Int.reduceNe, Int.reduceMod, Int.reduceDiv, ne_eq, Int.reduceEq, not_false_eq_true, Nat.reducePow, List.length_append, List.length_replicate, List.replicate_succ, List.replicate_zero, Int.cast_ofNat_Int, not_true_eq_false, decide_true, decide_false, ite_self, dropK_eq, hk, call_inl (C := C2) (g := 21) rfl]
  refine inl_of (x := x21) rfl rfl ?_
  rw [x21_eq.1, x21_eq.2.1]
  simp (disch := first | omega | simp only [go_sem, tm0, ↓reduceIte, Nat.reduceAdd, Nat.reduceMul, Nat.reduceSub, Nat.reduceLeDiff, Nat.reduceLT, Nat.reduceEqDiff, Int.reduceLT, Int.reduceLE, Int.reduceAdd, Int.reduceSub, Int.reduceMul, Int.reduceToNat, Int.reducePow, Int.reduceNe, Int.reduceMod, Int.reduceDiv, ne_eq, Int.reduceEq, not_false_eq_true, Nat.reducePow, List.length_append, List.length_replicate, List.replicate_succ, List.replicate_zero, Int.cast_ofNat_Int, not_true_eq_false, decide_true, decide_false, ite_self, dropK_eq]) only [x21b, go_sem, tm0, ↓reduceIte, Nat.reduceAdd, Nat.reduceMul, Nat.reduceSub, Nat.reduceLeDiff, Nat.reduceLT, Nat.reduceEqDiff, Int.reduceLT, Int.reduceLE, Int.reduceAdd, Int.reduceSub, Int.reduceMul, Int.reduceToNat, Int.reducePow, Int.reduceNe, Int.reduceMod, Int.reduceDiv, ne_eq, Int.reduceEq, not_false_eq_true, Nat.reducePow, List.length_append, List.length_replicate, List.replicate_succ, List.replicate_zero, Int.cast_ofNat_Int, not_true_eq_false, decide_true, decide_false, ite_self, dropK_eq, ↓Ev_loop, ↓EvN_step, x21l3, x21l12, hk, mnx_max, e1, e2]
  by_cases h1 : b < up t s ⟨n, h, l⟩ x <;> by_cases h2 : b < dn t s ⟨n, h, l⟩ x
  all_goals
    simp (disch := first | omega | simp only [go_sem, tm0, ↓reduceIte, Nat.reduceAdd, Nat.reduceMul, Nat.reduceSub, Nat.reduceLeDiff, Nat.reduceLT, Nat.reduceEqDiff, Int.reduceLT, Int.reduceLE, Int.reduceAdd, Int.reduceSub, Int.reduceMul, Int.reduceToNat, Int.reducePow, Int.reduceNe, Int.reduceMod, Int.reduceDiv, ne_eq, Int.reduceEq, not_false_eq_true, Nat.reducePow, List.length_append, List.length_replicate, List.replicate_succ, List.replicate_zero, Int.cast_ofNat_Int, not_true_eq_false, decide_true, decide_false, ite_self, dropK_eq]) only [h1, h2, decide_true, decide_false, go_sem, tm0, ↓reduceIte, Nat.reduceAdd, Nat.reduceMul, Nat.reduceSub, Nat.reduceLeDiff, Nat.reduceLT, Nat.reduceEqDiff, Int.reduceLT, Int.reduceLE, Int.reduceAdd, Int.reduceSub, Int.reduceMul, Int.reduceToNat, Int.reducePow, Int.reduceNe, Int.reduceMod, Int.reduceDiv, ne_eq, Int.reduceEq, not_false_eq_true, Nat.reducePow, List.length_append, List.length_replicate, List.replicate_succ, List.replicate_zero, Int.cast_ofNat_Int, not_true_eq_false, decide_true, decide_false, ite_self, dropK_eq, ↓Ev_loop, ↓EvN_step, x21l3, x21l12, hk, mnx_max, e1, e2]
    simp only [sig, cs, h1, h2, if_true, if_false, or_true, true_or, or_self] at hK
    refine hK _ _ (fun k h3 h4 => ?_) ?_
    · repeat rw [upd_ne _ _ (by rintro rfl; first | exact h4 rfl | simp at h3)]
    · simp only [go_sem, tm0, ↓reduceIte, Nat.reduceAdd, Nat.reduceMul, Nat.reduceSub, Nat.reduceLeDiff, Nat.reduceLT, Nat.reduceEqDiff, Int.reduceLT, Int.reduceLE, Int.reduceAdd, Int.reduceSub, Int.reduceMul, Int.reduceToNat, Int.reducePow, Int.reduceNe, Int.reduceMod, Int.reduceDiv, ne_eq, Int.reduceEq, not_false_eq_true, Nat.reducePow, List.length_append, List.length_replicate, List.replicate_succ, List.replicate_zero, Int.cast_ofNat_Int, not_true_eq_false, decide_true, decide_false, ite_self, dropK_eq]
/-! ### a run -/
def crun (t s b : Int) : Cs → List Int → Cs
  | q, [] => q
  | q, x :: l => crun t s b (cs t s b q x) l
def csig (t s b : Int) : Cs → List Int → List Int
  | _, [] => []
  | q, x :: l => sig t s b q x :: csig t s b (cs t s b q x) l
theorem crun_app {t s b : Int} {q : Cs} (l m : List Int) : crun t s b q (l ++ m) = crun t s b (crun t s b q l) m := by
  induction l generalizing q with
  | nil => rfl
  | cons x l ih => exact ih
theorem csig_app {t s b : Int} {q : Cs} (l m : List Int) : csig t s b q (l ++ m) = csig t s b q l ++ csig t s b (crun t s b q l) m := by
  induction l generalizing q with
  | nil => rfl
  | cons x l ih => simp only [List.cons_append, csig, crun, ih]
theorem csig_len {t s b : Int} {q : Cs} (l : List Int) : (csig t s b q l).length = l.length := by
  induction l generalizing q with
  | nil => rfl
  | cons x l ih => simp only [csig, List.length_cons, ih]
theorem crun_ok {t s b : Int} (hb : 1 ≤ b) {q : Cs} (hq : csOk b q) (l : List Int) : csOk b (crun t s b q l) ∧ (crun t s b q l).n = q.n + l.length := by
  induction l generalizing q with
  | nil => exact ⟨hq, by simp [crun]⟩
  | cons x l ih =>
    obtain ⟨h1, h2⟩ := cs_ok (t := t) (s := s) hq hb x
    obtain ⟨h3, h4⟩ := ih h1
    refine ⟨h3, ?_⟩
    simp only [crun, h4, h2, List.length_cons]
    omega
theorem take_step {l : List Int} {i : Nat} (hi : i < l.length) : l.take (i + 1) = l.take i ++ [l.getD i 0] := by
  rw [List.take_add_one, List.getElem?_eq_getElem hi]
  simp [List.getD_eq_getElem?_getD, List.getElem?_eq_getElem hi]
theorem crun_step {t s b : Int} {q : Cs} {l : List Int} {i : Nat} (hi : i < l.length) : crun t s b q (l.take (i + 1)) = cs t s b (crun t s b q (l.take i)) (l.getD i 0) ∧
    csig t s b q (l.take (i + 1)) = csig t s b q (l.take i) ++ [sig t s b (crun t s b q (l.take i)) (l.getD i 0)] := by
  rw [take_step hi, crun_app, csig_app]
  exact ⟨rfl, rfl⟩
/-- A row that is none, if it is empty. -/
def rowV (l : List Int) : AVal := match l with
  | [] => .nils
  | _ => .slc 1 (i64s l)
theorem rowV_rw (l : List Int) : Rw (rowV l) l := by
  cases l with
  | nil => exact Rw.nils
  | cons => exact Rw.slc _
/-- IndexFunc, with a function that looks and changes nothing. -/
theorem index20 {d : Nat} {a f : AVal} {l : List Int} {p : Int → Bool} {hp : Heap} {nc : Nat} {K : AVal × Heap × Nat → Prop} (ha : Rw a l) (hl : Lg l)
    (hf : ∀ x nc (K : AVal × Heap × Nat → Prop), (∀ nc', K (.bool (p x), hp, nc')) → Bd (callX C2 (inlD C2 d) f [.int .i64 x] hp nc) K)
    (hK : ∀ nc' (r : Int), decide (0 ≤ r) = l.any p → K (.int .i64 r, hp, nc')) : Bd (inlD C2 (d + 1) 20 [a, f] hp nc) K := by
  refine inl_of (x := x20) rfl rfl ?_
  rw [x20_eq.1, x20_eq.2.1]
  simp (disch := first | omega | simp only [go_sem, tm0, ↓reduceIte, Nat.reduceAdd, Nat.reduceMul, Nat.reduceSub, Nat.reduceLeDiff, Nat.reduceLT, Nat.reduceEqDiff, Int.reduceLT, Int.reduceLE, Int.reduceAdd, Int.reduceSub, Int.reduceMul, Int.reduceToNat, Int.reducePow, Int.reduceNe, Int.reduceMod, Int.reduceDiv, ne_eq, Int.reduceEq, not_false_eq_true, Nat.reducePow, List.length_append, List.length_replicate, List.replicate_succ, List.replicate_zero, Int.cast_ofNat_Int, not_true_eq_false, decide_true, decide_false, ite_self, dropK_eq]) only [x20b, go_sem, tm0, ↓reduceIte, Nat.reduceAdd, Nat.reduceMul, Nat.reduceSub, Nat.reduceLeDiff, Nat.reduceLT, Nat.reduceEqDiff, Int.reduceLT, Int.reduceLE, Int.reduceAdd, Int.reduceSub, Int.reduceMul, Int.reduceToNat, Int.reducePow, Int.reduceNe, Int.reduceMod, Int.reduceDiv, ne_eq, Int.reduceEq, not_false_eq_true, Nat.reducePow, List.length_append, List.length_replicate, List.replicate_succ, List.replicate_zero, Int.cast_ofNat_Int, not_true_eq_false, decide_true, decide_false, ite_self, dropK_eq, ha.len]
  refine Ev_loop_inv (I := fun n st => ∃ (i : Nat) (tm : Nat → AVal) (nc : Nat), st = ⟨tm, hp, nc⟩ ∧ i ≤ l.length ∧ n = l.length - i ∧ tm 0 = a ∧ tm 1 = f ∧ tm 7 = .int .i64 l.length ∧ tm 8 = .int .i64 i ∧
      ∀ j, j < i → p (l.getD j 0) = false) (n := l.length) ?_ (by omega) ?_
  · refine ⟨0, _, _, rfl, by omega, rfl, ?_⟩
    simp only [go_sem, tm0, ↓reduceIte, Nat.reduceAdd, Nat.reduceMul, Nat.reduceSub, Nat.reduceLeDiff, Nat.reduceLT, Nat.reduceEqDiff, Int.reduceLT, Int.reduceLE, Int.reduceAdd, Int.reduceSub, Int.reduceMul, Int.reduceToNat, Int.reducePow, Int.reduceNe, Int.reduceMod, Int.reduceDiv, ne_eq, Int.reduceEq, not_false_eq_true, Nat.reducePow, List.length_append, List.length_replicate, List.replicate_succ, List.replicate_zero, Int.cast_ofNat_Int, not_true_eq_false, decide_true, decide_false, ite_self, dropK_eq, List.getD_cons_zero]
    exact fun j hj => absurd hj (Nat.not_lt_zero j)
  · rintro n st ⟨i, tm, nc, rfl, hi, rfl, k0, k1, k7, k8, hj⟩
    rcases Nat.lt_or_ge i l.length with hlt | hge
    · have d1 : decide ((i : Int) < (l.length : Int)) = true := decide_eq_true (by omega)
      have ia := ha.ia hlt
      simp (disch := first | omega | simp only [go_sem, tm0, ↓reduceIte, Nat.reduceAdd, Nat.reduceMul, Nat.reduceSub, Nat.reduceLeDiff, Nat.reduceLT, Nat.reduceEqDiff, Int.reduceLT, Int.reduceLE, Int.reduceAdd, Int.reduceSub, Int.reduceMul, Int.reduceToNat, Int.reducePow, Int.reduceNe, Int.reduceMod, Int.reduceDiv, ne_eq, Int.reduceEq, not_false_eq_true, Nat.reducePow, List.length_append, List.length_replicate, List.replicate_succ, List.replicate_zero, Int.cast_ofNat_Int, not_true_eq_false, decide_true, decide_false, ite_self, dropK_eq]) only [x20l2, go_sem, tm0, ↓reduceIte, Nat.reduceAdd, Nat.reduceMul, Nat.reduceSub, Nat.reduceLeDiff, Nat.reduceLT, Nat.reduceEqDiff, Int.reduceLT, Int.reduceLE, Int.reduceAdd, Int.reduceSub, Int.reduceMul, Int.reduceToNat, Int.reducePow, Int.reduceNe, Int.reduceMod, Int.reduceDiv, ne_eq, Int.reduceEq, not_false_eq_true, Nat.reducePow, List.length_append, List.length_replicate, List.replicate_succ, List.replicate_zero, Int.cast_ofNat_Int, not_true_eq_false, decide_true, decide_false, ite_self, dropK_eq, k0, k1, k7, k8, d1, ia]
      refine hf _ _ _ fun nc' => ?_
      cases hp' : p (l.getD i 0) with
      | true =>
        simp (disch := first | omega | simp only [go_sem, tm0, ↓reduceIte, Nat.reduceAdd, Nat.reduceMul, Nat.reduceSub, Nat.reduceLeDiff, Nat.reduceLT, Nat.reduceEqDiff, Int.reduceLT, Int.reduceLE, Int.reduceAdd, Int.reduceSub, Int.reduceMul, Int.reduceToNat, Int.reducePow, Int.reduceNe, Int.reduceMod, Int.reduceDiv, ne_eq, Int.reduceEq, not_false_eq_true, Nat.reducePow, List.length_append, List.length_replicate, List.replicate_succ, List.replicate_zero, Int.cast_ofNat_Int, not_true_eq_false, decide_true, decide_false, ite_self, dropK_eq]) only [go_sem, tm0, ↓reduceIte, Nat.reduceAdd, Nat.reduceMul, Nat.reduceSub, Nat.reduceLeDiff, Nat.reduceLT, Nat.reduceEqDiff, Int.reduceLT, Int.reduceLE, Int.reduceAdd, Int.reduceSub, Int.reduceMul, Int.reduceToNat, Int.reducePow, Int.reduceNe, Int.reduceMod, Int.reduceDiv, ne_eq, Int.reduceEq, not_false_eq_true, Nat.reducePow, List.length_append, List.length_replicate, List.replicate_succ, List.replicate_zero, Int.cast_ofNat_Int, not_true_eq_false, decide_true, decide_false, ite_self, dropK_eq, k0, k1, k7, k8]
        exact hK _ _ (by rw [any_getD hlt hp']; exact decide_eq_true (by omega))
      | false =>
        simp (disch := first | omega | simp only [go_sem, tm0, ↓reduceIte, Nat.reduceAdd, Nat.reduceMul, Nat.reduceSub, Nat.reduceLeDiff, Nat.reduceLT, Nat.reduceEqDiff, Int.reduceLT, Int.reduceLE, Int.reduceAdd, Int.reduceSub, Int.reduceMul, Int.reduceToNat, Int.reducePow, Int.reduceNe, Int.reduceMod, Int.reduceDiv, ne_eq, Int.reduceEq, not_false_eq_true, Nat.reducePow, List.length_append, List.length_replicate, List.replicate_succ, List.replicate_zero, Int.cast_ofNat_Int, not_true_eq_false, decide_true, decide_false, ite_self, dropK_eq]) only [go_sem, tm0, ↓reduceIte, Nat.reduceAdd, Nat.reduceMul, Nat.reduceSub, Nat.reduceLeDiff, Nat.reduceLT, Nat.reduceEqDiff, Int.reduceLT, Int.reduceLE, Int.reduceAdd, Int.reduceSub, Int.reduceMul, Int.reduceToNat, Int.reducePow, Int.reduceNe, Int.reduceMod, Int.reduceDiv, ne_eq, Int.reduceEq, not_false_eq_true, Nat.reducePow, List.length_append, List.length_replicate, List.replicate_succ, List.replicate_zero, Int.cast_ofNat_Int, not_true_eq_false, decide_true, decide_false, ite_self, dropK_eq, k0, k1, k7, k8]
        refine ⟨l.length - (i + 1), by omega, i + 1, _, _, rfl, by omega, rfl, ?_⟩
        simp (disch := first | omega | simp only [go_sem, tm0, ↓reduceIte, Nat.reduceAdd, Nat.reduceMul, Nat.reduceSub, Nat.reduceLeDiff, Nat.reduceLT, Nat.reduceEqDiff, Int.reduceLT, Int.reduceLE, Int.reduceAdd, Int.reduceSub, Int.reduceMul, Int.reduceToNat, Int.reducePow, Int.reduceNe, Int.reduceMod, Int.reduceDiv, ne_eq, Int.reduceEq, not_false_eq_true, Nat.reducePow, List.length_append, List.length_replicate, List.replicate_succ, List.replicate_zero, Int.cast_ofNat_Int, not_true_eq_false, decide_true, decide_false, ite_self, dropK_eq]) only [go_sem, tm0, ↓reduceIte, Nat.reduceAdd, Nat.reduceMul, Nat.reduceSub, Nat.reduceLeDiff, Nat.reduceLT, Nat.reduceEqDiff, Int.reduceLT, Int.reduceLE, Int.reduceAdd, Int.reduceSub, Int.reduceMul, Int.reduceToNat, Int.reducePow, Int.reduceNe, Int.reduceMod, Int.reduceDiv, ne_eq, Int.reduceEq, not_false_eq_true, Nat.reducePow, List.length_append, List.length_replicate, List.replicate_succ, List.replicate_zero, Int.cast_ofNat_Int, not_true_eq_false, decide_true, decide_false, ite_self, dropK_eq, k0, k1, k7, k8]
        refine ⟨by simp, fun j hj' => ?_⟩
        by_cases e : j = i
        · subst e; exact hp'
        · exact hj j (by omega)
    · obtain rfl : i = l.length := by omega
      have d1 : decide ((l.length : Int) < (l.length : Int)) = false := decide_eq_false (by omega)
      simp (disch := first | omega | simp only [go_sem, tm0, ↓reduceIte, Nat.reduceAdd, Nat.reduceMul, Nat.reduceSub, Nat.reduceLeDiff, Nat.reduceLT, Nat.reduceEqDiff, Int.reduceLT, Int.reduceLE, Int.reduceAdd, Int.reduceSub, Int.reduceMul, Int.reduceToNat, Int.reducePow, Int.reduceNe, Int.reduceMod, Int.reduceDiv, ne_eq, Int.reduceEq, not_false_eq_true, Nat.reducePow, List.length_append, List.length_replicate, List.replicate_succ, List.replicate_zero, Int.cast_ofNat_Int, not_true_eq_false, decide_true, decide_false, ite_self, dropK_eq]) only [x20l2, go_sem, tm0, ↓reduceIte, Nat.reduceAdd, Nat.reduceMul, Nat.reduceSub, Nat.reduceLeDiff, Nat.reduceLT, Nat.reduceEqDiff, Int.reduceLT, Int.reduceLE, Int.reduceAdd, Int.reduceSub, Int.reduceMul, Int.reduceToNat, Int.reducePow, Int.reduceNe, Int.reduceMod, Int.reduceDiv, ne_eq, Int.reduceEq, not_false_eq_true, Nat.reducePow, List.length_append, List.length_replicate, List.replicate_succ, List.replicate_zero, Int.cast_ofNat_Int, not_true_eq_false, decide_true, decide_false, ite_self, dropK_eq, k0, k1, k7, k8, d1]
      exact hK _ _ (by rw [any_none hj]; rfl)
/-- ContainsFunc. -/
theorem contains14 {d : Nat} {a f : AVal} {l : List Int} {p : Int → Bool} {hp : Heap} {nc : Nat} {K : AVal × Heap × Nat → Prop} (ha : Rw a l) (hl : Lg l)
    (hf : ∀ x nc (K : AVal × Heap × Nat → Prop), (∀ nc', K (.bool (p x), hp, nc')) → Bd (callX C2 (inlD C2 d) f [.int .i64 x] hp nc) K)
    (hK : ∀ nc', K (.bool (l.any p), hp, nc')) : Bd (inlD C2 (d + 2) 14 [a, f] hp nc) K := by
  refine inl_of (x := x14) rfl rfl ?_
  rw [x14_eq.1, x14_eq.2.1]
  simp (disch := first | omega | simp only [go_sem, tm0, ↓reduceIte, Nat.reduceAdd, Nat.reduceMul, Nat.reduceSub, Nat.reduceLeDiff, Nat.reduceLT, Nat.reduceEqDiff, Int.reduceLT, Int.reduceLE, Int.reduceAdd, Int.reduceSub, Int.reduceMul, Int.reduceToNat, Int.reducePow, Int.reduceNe, Int.reduceMod, Int.reduceDiv, ne_eq, Int.reduceEq, not_false_eq_true, Nat.reducePow, List.length_append, List.length_replicate, List.replicate_succ, List.replicate_zero, Int.cast_ofNat_Int, not_true_eq_false, decide_true, decide_false, ite_self, dropK_eq]) only [x14b, go_sem, tm0, ↓reduceIte, Nat.reduceAdd, Nat.reduceMul, Nat.reduceSub, Nat.reduceLeDiff, Nat.reduceLT, Nat.reduceEqDiff, Int.reduceLT, Int.reduceLE, Int.reduceAdd, Int.reduceSub, Int.reduceMul, Int.reduceToNat, Int.reducePow, Int.reduceNe, Int.reduceMod, Int.reduceDiv, ne_eq, Int.reduceEq, not_false_eq_true, Nat.reducePow, List.length_append, List.length_replicate, List.replicate_succ, List.replicate_zero, Int.cast_ofNat_Int, not_true_eq_false, decide_true, decide_false, ite_self, dropK_eq, call_inl (C := C2) (g := 20) rfl]
  refine index20 ha hl hf fun nc' r hr => ?_
  simp (disch := first | omega | simp only [go_sem, tm0, ↓reduceIte, Nat.reduceAdd, Nat.reduceMul, Nat.reduceSub, Nat.reduceLeDiff, Nat.reduceLT, Nat.reduceEqDiff, Int.reduceLT, Int.reduceLE, Int.reduceAdd, Int.reduceSub, Int.reduceMul, Int.reduceToNat, Int.reducePow, Int.reduceNe, Int.reduceMod, Int.reduceDiv, ne_eq, Int.reduceEq, not_false_eq_true, Nat.reducePow, List.length_append, List.length_replicate, List.replicate_succ, List.replicate_zero, Int.cast_ofNat_Int, not_true_eq_false, decide_true, decide_false, ite_self, dropK_eq]) only [go_sem, tm0, ↓reduceIte, Nat.reduceAdd, Nat.reduceMul, Nat.reduceSub, Nat.reduceLeDiff, Nat.reduceLT, Nat.reduceEqDiff, Int.reduceLT, Int.reduceLE, Int.reduceAdd, Int.reduceSub, Int.reduceMul, Int.reduceToNat, Int.reducePow, Int.reduceNe, Int.reduceMod, Int.reduceDiv, ne_eq, Int.reduceEq, not_false_eq_true, Nat.reducePow, List.length_append, List.length_replicate, List.replicate_succ, List.replicate_zero, Int.cast_ofNat_Int, not_true_eq_false, decide_true, decide_false, ite_self, dropK_eq, hr]
  exact hK _


theorem any_no {l : List Int} : (l.any fun x => !decide (-1000000 ≤ x ∧ x ≤ 1000000)) = !decide (inAll l) := by
  rw [Bool.eq_iff_iff]
  simp only [List.any_eq_true, Bool.not_eq_true', decide_eq_false_iff_not]
  constructor
  · rintro ⟨x, hx, h⟩ h'
    exact h (h' x hx)
  · intro h
    rw [inAll, Classical.not_forall] at h
    obtain ⟨x, hx⟩ := h
    rw [Classical.not_imp] at hx
    exact ⟨x, hx.1, hx.2⟩
noncomputable def F6 : List AVal → Option AVal := pureF C2 5 6
theorem sound6 : Sound Try.prog 6 F6 := sound_self ok2 5 6
section
variable {t s b : Int} {q : Cs} {a : AVal} {l : List Int}
theorem F6_arg (ha : Rw a l) (hl : Lg l) (hg : ¬ cuOk t s b q.n q.h q.l) : F6 [KQ t s b q, a] = some (.tup [K0, .nils, .int .i64 1]) := by
  have e13 := F13_eq (t := t) (s := s) (b := b) (n := q.n) (h := q.h) (l := q.l)
  rw [decide_eq_false hg] at e13
  have ap := ha.plain
  unfold F6
  refine pureF_of (x := x6) rfl rfl ?_
  rw [x6_eq.1, x6_eq.2.1]
  simp (disch := first | omega | simp only [*, go_sem, tm0, ↓reduceIte, Nat.reduceAdd, Nat.reduceMul, Nat.reduceSub, Nat.reduceLeDiff, Nat.reduceLT, Nat.reduceEqDiff, Int.reduceLT, Int.reduceLE, Int.reduceAdd, Int.reduceSub, Int.reduceMul, Int.reduceToNat, Int.reducePow, Int.reduceNe, Int.reduceMod, Int.reduceDiv, ne_eq, Int.reduceEq, not_false_eq_true, Nat.reducePow, List.length_append, List.length_replicate, List.replicate_succ, List.replicate_zero, Int.cast_ofNat_Int, not_true_eq_false, decide_true, decide_false, ite_self, dropK_eq]) only [go_sem, tm0, ↓reduceIte, Nat.reduceAdd, Nat.reduceMul, Nat.reduceSub, Nat.reduceLeDiff, Nat.reduceLT, Nat.reduceEqDiff, Int.reduceLT, Int.reduceLE, Int.reduceAdd, Int.reduceSub, Int.reduceMul, Int.reduceToNat, Int.reducePow, Int.reduceNe, Int.reduceMod, Int.reduceDiv, ne_eq, Int.reduceEq, not_false_eq_true, Nat.reducePow, List.length_append, List.length_replicate, List.replicate_succ, List.replicate_zero, Int.cast_ofNat_Int, not_true_eq_false, decide_true, decide_false, ite_self, dropK_eq, callX_known (C := C2) (g := 13) rfl, ft_call (C := C2) (g := 13) rfl, e13, ha.sc, ha.cells, ha.len, x6b]
  exact Ends_plain rfl rfl
theorem contains6 {d : Nat} {hp : Heap} {nc : Nat} {K : AVal × Heap × Nat → Prop} (ha : Rw a l) (hl : Lg l) (hK : ∀ nc', K (.bool (!decide (inAll l)), hp, nc')) : Bd (inlD C2 (d + 3) 14 [a, .fn (.func 15) [] []] hp nc) K := by
  rw [← any_no] at hK
  refine contains14 (d := d + 1) ha hl (fun x nc K hK => ?_) hK
  rw [call_inl (C := C2) (g := 15) rfl]
  refine inl_of (x := x15) rfl rfl ?_
  rw [x15_eq.1, x15_eq.2.1]
  simp (disch := first | omega | simp only [go_sem, tm0, ↓reduceIte, Nat.reduceAdd, Nat.reduceMul, Nat.reduceSub, Nat.reduceLeDiff, Nat.reduceLT, Nat.reduceEqDiff, Int.reduceLT, Int.reduceLE, Int.reduceAdd, Int.reduceSub, Int.reduceMul, Int.reduceToNat, Int.reducePow, Int.reduceNe, Int.reduceMod, Int.reduceDiv, ne_eq, Int.reduceEq, not_false_eq_true, Nat.reducePow, List.length_append, List.length_replicate, List.replicate_succ, List.replicate_zero, Int.cast_ofNat_Int, not_true_eq_false, decide_true, decide_false, ite_self, dropK_eq]) only [x15b, go_sem, tm0, ↓reduceIte, Nat.reduceAdd, Nat.reduceMul, Nat.reduceSub, Nat.reduceLeDiff, Nat.reduceLT, Nat.reduceEqDiff, Int.reduceLT, Int.reduceLE, Int.reduceAdd, Int.reduceSub, Int.reduceMul, Int.reduceToNat, Int.reducePow, Int.reduceNe, Int.reduceMod, Int.reduceDiv, ne_eq, Int.reduceEq, not_false_eq_true, Nat.reducePow, List.length_append, List.length_replicate, List.replicate_succ, List.replicate_zero, Int.cast_ofNat_Int, not_true_eq_false, decide_true, decide_false, ite_self, dropK_eq, callX_known (C := C2) (g := 16) rfl, ft_call (C := C2) (g := 16) rfl, F16_eq]
  exact hK _
theorem F6_range (ha : Rw a l) (hl : Lg l) (hg : cuOk t s b q.n q.h q.l) (hi : ¬ inAll l) : F6 [KQ t s b q, a] = some (.tup [K0, .nils, .int .i64 3]) := by
  have e13 := F13_eq (t := t) (s := s) (b := b) (n := q.n) (h := q.h) (l := q.l)
  rw [decide_eq_true hg] at e13
  have ap := ha.plain
  unfold F6
  refine pureF_of (x := x6) rfl rfl ?_
  rw [x6_eq.1, x6_eq.2.1]
  simp (disch := first | omega | simp only [*, go_sem, tm0, ↓reduceIte, Nat.reduceAdd, Nat.reduceMul, Nat.reduceSub, Nat.reduceLeDiff, Nat.reduceLT, Nat.reduceEqDiff, Int.reduceLT, Int.reduceLE, Int.reduceAdd, Int.reduceSub, Int.reduceMul, Int.reduceToNat, Int.reducePow, Int.reduceNe, Int.reduceMod, Int.reduceDiv, ne_eq, Int.reduceEq, not_false_eq_true, Nat.reducePow, List.length_append, List.length_replicate, List.replicate_succ, List.replicate_zero, Int.cast_ofNat_Int, not_true_eq_false, decide_true, decide_false, ite_self, dropK_eq]) only [go_sem, tm0, ↓reduceIte, Nat.reduceAdd, Nat.reduceMul, Nat.reduceSub, Nat.reduceLeDiff, Nat.reduceLT, Nat.reduceEqDiff, Int.reduceLT, Int.reduceLE, Int.reduceAdd, Int.reduceSub, Int.reduceMul, Int.reduceToNat, Int.reducePow, Int.reduceNe, Int.reduceMod, Int.reduceDiv, ne_eq, Int.reduceEq, not_false_eq_true, Nat.reducePow, List.length_append, List.length_replicate, List.replicate_succ, List.replicate_zero, Int.cast_ofNat_Int, not_true_eq_false, decide_true, decide_false, ite_self, dropK_eq, callX_known (C := C2) (g := 13) rfl, ft_call (C := C2) (g := 13) rfl, e13, ha.sc, ha.cells, ha.len, x6b, call_inl (C := C2) (g := 14) rfl]
  refine contains6 (d := 1) ha hl fun nc' => ?_
  rw [decide_eq_false hi]
  simp (disch := first | omega | simp only [*, go_sem, tm0, ↓reduceIte, Nat.reduceAdd, Nat.reduceMul, Nat.reduceSub, Nat.reduceLeDiff, Nat.reduceLT, Nat.reduceEqDiff, Int.reduceLT, Int.reduceLE, Int.reduceAdd, Int.reduceSub, Int.reduceMul, Int.reduceToNat, Int.reducePow, Int.reduceNe, Int.reduceMod, Int.reduceDiv, ne_eq, Int.reduceEq, not_false_eq_true, Nat.reducePow, List.length_append, List.length_replicate, List.replicate_succ, List.replicate_zero, Int.cast_ofNat_Int, not_true_eq_false, decide_true, decide_false, ite_self, dropK_eq]) only [go_sem, tm0, ↓reduceIte, Nat.reduceAdd, Nat.reduceMul, Nat.reduceSub, Nat.reduceLeDiff, Nat.reduceLT, Nat.reduceEqDiff, Int.reduceLT, Int.reduceLE, Int.reduceAdd, Int.reduceSub, Int.reduceMul, Int.reduceToNat, Int.reducePow, Int.reduceNe, Int.reduceMod, Int.reduceDiv, ne_eq, Int.reduceEq, not_false_eq_true, Nat.reducePow, List.length_append, List.length_replicate, List.replicate_succ, List.replicate_zero, Int.cast_ofNat_Int, not_true_eq_false, decide_true, decide_false, ite_self, dropK_eq, callX_known (C := C2) (g := 13) rfl, ft_call (C := C2) (g := 13) rfl, e13, ha.sc, ha.cells, ha.len]
  exact Ends_plain rfl rfl
theorem F6_full (ha : Rw a l) (hl : Lg l) (hg : cuOk t s b q.n q.h q.l) (hi : inAll l) (hf : 1000000000 - q.n < l.length) : F6 [KQ t s b q, a] = some (.tup [K0, .nils, .int .i64 11]) := by
  have e13 := F13_eq (t := t) (s := s) (b := b) (n := q.n) (h := q.h) (l := q.l)
  rw [decide_eq_true hg] at e13
  have ap := ha.plain
  simp only [cuOk] at hg
  have d1 : decide (1000000000 - q.n < (l.length : Int)) = true := decide_eq_true hf
  unfold F6
  refine pureF_of (x := x6) rfl rfl ?_
  rw [x6_eq.1, x6_eq.2.1]
  simp (disch := first | omega | simp only [*, go_sem, tm0, ↓reduceIte, Nat.reduceAdd, Nat.reduceMul, Nat.reduceSub, Nat.reduceLeDiff, Nat.reduceLT, Nat.reduceEqDiff, Int.reduceLT, Int.reduceLE, Int.reduceAdd, Int.reduceSub, Int.reduceMul, Int.reduceToNat, Int.reducePow, Int.reduceNe, Int.reduceMod, Int.reduceDiv, ne_eq, Int.reduceEq, not_false_eq_true, Nat.reducePow, List.length_append, List.length_replicate, List.replicate_succ, List.replicate_zero, Int.cast_ofNat_Int, not_true_eq_false, decide_true, decide_false, ite_self, dropK_eq]) only [go_sem, tm0, ↓reduceIte, Nat.reduceAdd, Nat.reduceMul, Nat.reduceSub, Nat.reduceLeDiff, Nat.reduceLT, Nat.reduceEqDiff, Int.reduceLT, Int.reduceLE, Int.reduceAdd, Int.reduceSub, Int.reduceMul, Int.reduceToNat, Int.reducePow, Int.reduceNe, Int.reduceMod, Int.reduceDiv, ne_eq, Int.reduceEq, not_false_eq_true, Nat.reducePow, List.length_append, List.length_replicate, List.replicate_succ, List.replicate_zero, Int.cast_ofNat_Int, not_true_eq_false, decide_true, decide_false, ite_self, dropK_eq, callX_known (C := C2) (g := 13) rfl, ft_call (C := C2) (g := 13) rfl, e13, ha.sc, ha.cells, ha.len, x6b, call_inl (C := C2) (g := 14) rfl]
  refine contains6 (d := 1) ha hl fun nc' => ?_
  rw [decide_eq_true hi]
  simp (disch := first | omega | simp only [*, go_sem, tm0, ↓reduceIte, Nat.reduceAdd, Nat.reduceMul, Nat.reduceSub, Nat.reduceLeDiff, Nat.reduceLT, Nat.reduceEqDiff, Int.reduceLT, Int.reduceLE, Int.reduceAdd, Int.reduceSub, Int.reduceMul, Int.reduceToNat, Int.reducePow, Int.reduceNe, Int.reduceMod, Int.reduceDiv, ne_eq, Int.reduceEq, not_false_eq_true, Nat.reducePow, List.length_append, List.length_replicate, List.replicate_succ, List.replicate_zero, Int.cast_ofNat_Int, not_true_eq_false, decide_true, decide_false, ite_self, dropK_eq]) only [go_sem, tm0, ↓reduceIte, Nat.reduceAdd, Nat.reduceMul, Nat.reduceSub, Nat.reduceLeDiff, Nat.reduceLT, Nat.reduceEqDiff, Int.reduceLT, Int.reduceLE, Int.reduceAdd, Int.reduceSub, Int.reduceMul, Int.reduceToNat, Int.reducePow, Int.reduceNe, Int.reduceMod, Int.reduceDiv, ne_eq, Int.reduceEq, not_false_eq_true, Nat.reducePow, List.length_append, List.length_replicate, List.replicate_succ, List.replicate_zero, Int.cast_ofNat_Int, not_true_eq_false, decide_true, decide_false, ite_self, dropK_eq, callX_known (C := C2) (g := 13) rfl, ft_call (C := C2) (g := 13) rfl, e13, ha.sc, ha.cells, ha.len, d1]
  exact Ends_plain rfl rfl
end
end Go.Proofs.Ythnjboiecahbgaa
