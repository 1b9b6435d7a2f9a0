/-
  One sample more.
-/
import Derived.Test.YthnjboiecahbgaaYB
set_option linter.unusedVariables false
set_option linter.unusedSimpArgs false
namespace Go.Proofs.Ythnjboiecahbgaa
open Go Go.Xec

set_option maxRecDepth 10000
noncomputable def C2 : Cfg := ((C1.add 13 F13).add 7 F7).add 9 F9
theorem ok2 : CfgOk Try.prog C2 := ((ok1.add sound13).add sound7).add sound9

structure Cs where
  n : Int
  h : Int
  l : Int
abbrev up (t s : Int) (q : Cs) (x : Int) : Int := max 0 (q.h + (x - t - s))
abbrev dn (t s : Int) (q : Cs) (x : Int) : Int := max 0 (q.l + (t - s - x))
def sig (t s b : Int) (q : Cs) (x : Int) : Int := if b < dn t s q x then -1 else if b < up t s q x then 1 else 0
def cs (t s b : Int) (q : Cs) (x : Int) : Cs := if b < dn t s q x ∨ b < up t s q x then ⟨q.n + 1, 0, 0⟩ else ⟨q.n + 1, up t s q x, dn t s q x⟩
abbrev KQ (t s b : Int) (q : Cs) : AVal := K6 t s b q.n q.h q.l
abbrev csOk (b : Int) (q : Cs) : Prop := 0 ≤ q.n ∧ 0 ≤ q.h ∧ q.h ≤ b ∧ 0 ≤ q.l ∧ q.l ≤ b
theorem cs_ok {t s b : Int} {q : Cs} (h : csOk b q) (hb : 1 ≤ b) (x : Int) : csOk b (cs t s b q x) ∧ (cs t s b q x).n = q.n + 1 := by
  unfold cs
  split
  · exact ⟨⟨by simp; omega, by simp, by simp; omega, by simp, by simp; omega⟩, rfl⟩
  · rename_i h'
    refine ⟨⟨by simp only; omega, by simp only [up]; omega, by simp only [up] at h' ⊢; omega, by simp only [dn]; omega, by simp only [dn] at h' ⊢; omega⟩, rfl⟩
theorem F19_eq {t s b x : Int} {q : Cs} (ht : -1000000 ≤ t ∧ t ≤ 1000000) (hs : 0 ≤ s ∧ s ≤ 1000000) (hb : 1 ≤ b ∧ b ≤ 1000000000) (hq : csOk b q) (hn : q.n ≤ 2000000000) (hx : -1000000 ≤ x ∧ x ≤ 1000000) :
    pureF C2 1 19 [KQ t s b q, .int .i64 x] = some (.tup [KQ t s b (cs t s b q x), .int .i64 (sig t s b q x)]) := by
  obtain ⟨n, h, l⟩ := q
  simp only [csOk] at hq hn
  have e1 : max 0 (h + x - t - s) = up t s ⟨n, h, l⟩ x := by simp only [up]; congr 1; omega
  have e2 : max 0 (l + t - s - x) = dn t s ⟨n, h, l⟩ x := by simp only [dn]; congr 1; omega
  refine pureF_of (x := x19) rfl rfl ?_
  rw [x19_eq.1, x19_eq.2.1]
  simp (disch := first | omega | simp only [go_sem, tm0, ↓reduceIte, Nat.reduceAdd, Nat.reduceMul, Nat.reduceSub, Nat.reduceLeDiff, Nat.reduceLT, Nat.reduceEqDiff, Int.reduceLT, Int.reduceLE, Int.reduceAdd, Int.reduceSub, Int.reduceMul, Int.reduceToNat, Int.reducePow, Int.reduceNe, Int.reduceMod, Int.reduceDiv, ne_eq, Int.reduceEq, not_false_eq_true, Nat.reducePow, List.length_append, List.length_replicate, List.replicate_succ, List.replicate_zero, Int.cast_ofNat_Int, not_true_eq_false, decide_true, decide_false, ite_self, dropK_eq]) only [x19b, go_sem, tm0, ↓reduceIte, Nat.reduceAdd, Nat.reduceMul, Nat.reduceSub, Nat.reduceLeDiff, Nat.reduceLT, Nat.reduceEqDiff, Int.reduceLT, Int.reduceLE, Int.reduceAdd, Int.reduceSub, Int.reduceMul, Int.reduceToNat, Int.reducePow, Int.reduceNe, Int.reduceMod, Int.reduceDiv, ne_eq, Int.reduceEq, not_false_eq_true, Nat.reducePow, List.length_append, List.length_replicate, List.replicate_succ, List.replicate_zero, Int.cast_ofNat_Int, not_true_eq_false, decide_true, decide_false, ite_self, dropK_eq, mnx_max, e1, e2]
  by_cases h1 : b < up t s ⟨n, h, l⟩ x <;> by_cases h2 : b < dn t s ⟨n, h, l⟩ x
  all_goals
    simp (disch := first | omega | simp only [go_sem, tm0, ↓reduceIte, Nat.reduceAdd, Nat.reduceMul, Nat.reduceSub, Nat.reduceLeDiff, Nat.reduceLT, Nat.reduceEqDiff, Int.reduceLT, Int.reduceLE, Int.reduceAdd, Int.reduceSub, Int.reduceMul, Int.reduceToNat, Int.reducePow, Int.reduceNe, Int.reduceMod, Int.reduceDiv, ne_eq, Int.reduceEq, not_false_eq_true, Nat.reducePow, List.length_append, List.length_replicate, List.replicate_succ, List.replicate_zero, Int.cast_ofNat_Int, not_true_eq_false, decide_true, decide_false, ite_self, dropK_eq]) only [h1, h2, decide_true, decide_false, go_sem, tm0, ↓reduceIte, Nat.reduceAdd, Nat.reduceMul, Nat.reduceSub, Nat.reduceLeDiff, Nat.reduceLT, Nat.reduceEqDiff, Int.reduceLT, Int.reduceLE, Int.reduceAdd, Int.reduceSub, Int.reduceMul, Int.reduceToNat, Int.reducePow, Int.reduceNe, Int.reduceMod, Int.reduceDiv, ne_eq, Int.reduceEq, not_false_eq_true, Nat.reducePow, List.length_append, List.length_replicate, List.replicate_succ, List.replicate_zero, Int.cast_ofNat_Int, not_true_eq_false, decide_true, decide_false, ite_self, dropK_eq]
    refine Ends_plain rfl ?_
    simp [cs, sig, h1, h2]
end Go.Proofs.Ythnjboiecahbgaa
