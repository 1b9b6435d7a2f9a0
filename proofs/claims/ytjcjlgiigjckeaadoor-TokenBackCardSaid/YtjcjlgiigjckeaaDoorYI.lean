/-
  A scan: the program's.
-/
import Derived.Test.YtjcjlgiigjckeaaDoorYH
set_option linter.unusedVariables false
set_option linter.unusedSimpArgs false
namespace Go.Proofs.YtjcjlgiigjckeaaDoor
open Go Go.Xec

set_option maxRecDepth 10000
noncomputable def C8 : Cfg := (C4.add 31 F_index).add 45 (F_atoi 84)
theorem ok8 : CfgOk Tryd.prog C8 := (ok4.add sound31).add sound45
theorem while30 {d : Nat} {f : AVal} {p : UInt8 → Bool} {κ : Key} {hp : Heap} {nc : Nat} {s : List UInt8} {i : Nat} {K : AVal × Heap × Nat → Prop} (hs : s.length ≤ 100000) (hi : i ≤ s.length) (hk : hp κ = some (.var [sv s, .int .i64 i]))
    (hf : ∀ (b : UInt8) (hp : Heap) (nc : Nat) (K : AVal × Heap × Nat → Prop), (∀ nc', K (.bool (p b), hp, nc')) → Bd (callX C8 (inlD C8 d) f [.int .u8 b.toNat] hp nc) K)
    (hK : ∀ hp' nc', hp' κ = some (.var [sv s, .int .i64 ((i + ((s.drop i).takeWhile p).length : Nat) : Int)]) → (∀ k, k ≠ κ → hp' k = hp k) → K (sv ((s.drop i).takeWhile p), hp', nc')) :
    Bd (inlD C8 (d + 1) 30 [.ptr κ 0 0 0 0, f] hp nc) K := by
  refine inl_of (x := x30) rfl rfl ?_
  rw [x30_eq.1, x30_eq.2.1]
  simp (disch := first | omega | simp only [go_sem, tm0, ↓reduceIte, Nat.reduceAdd, Nat.reduceMul, Nat.reduceSub, Nat.reduceLeDiff, Nat.reduceLT, Nat.reduceEqDiff, Int.reduceLT, Int.reduceLE, Int.reduceAdd, Int.reduceSub, Int.reduceMul, Int.reduceToNat, Int.reducePow, Int.reduceNe, Int.reduceMod, Int.reduceDiv, ne_eq, Int.reduceEq, not_false_eq_true, Nat.reducePow, List.length_append, List.length_replicate, List.replicate_succ, List.replicate_zero, Int.cast_ofNat_Int, not_true_eq_false, decide_true, decide_false, ite_self, beq_self_eq_true, Bool.true_beq, Bool.false_beq, Bool.not_true, Bool.not_false, Int.reduceNeg, dropK_eq]) only [x30b, go_sem, tm0, ↓reduceIte, Nat.reduceAdd, Nat.reduceMul, Nat.reduceSub, Nat.reduceLeDiff, Nat.reduceLT, Nat.reduceEqDiff, Int.reduceLT, Int.reduceLE, Int.reduceAdd, Int.reduceSub, Int.reduceMul, Int.reduceToNat, Int.reducePow, Int.reduceNe, Int.reduceMod, Int.reduceDiv, ne_eq, Int.reduceEq, not_false_eq_true, Nat.reducePow, List.length_append, List.length_replicate, List.replicate_succ, List.replicate_zero, Int.cast_ofNat_Int, not_true_eq_false, decide_true, decide_false, ite_self, beq_self_eq_true, Bool.true_beq, Bool.false_beq, Bool.not_true, Bool.not_false, Int.reduceNeg, dropK_eq, hk]
  refine Ev_loopW (I := fun n tm hp' nc => ∃ e : Nat, i ≤ e ∧ e ≤ s.length ∧ n = s.length - e ∧ hp' κ = some (.var [sv s, .int .i64 e]) ∧ (∀ k, k ≠ κ → hp' k = hp k) ∧ ∀ j, i ≤ j → j < e → p (s.getD j 0) = true) (n := s.length - i) ?_ (by omega) ?_
  · exact ⟨i, by omega, hi, rfl, hk, fun k _ => rfl, fun j h1 h2 => by omega⟩
  · rintro n tm hp' nc' hc ⟨e, h1, h2, rfl, hk', hne, hj⟩
    have k0 := hc 0 rfl; have k1 := hc 1 rfl; have k5 := hc 5 rfl; simp only [go_sem, tm0, ↓reduceIte, Nat.reduceAdd, Nat.reduceMul, Nat.reduceSub, Nat.reduceLeDiff, Nat.reduceLT, Nat.reduceEqDiff, Int.reduceLT, Int.reduceLE, Int.reduceAdd, Int.reduceSub, Int.reduceMul, Int.reduceToNat, Int.reducePow, Int.reduceNe, Int.reduceMod, Int.reduceDiv, ne_eq, Int.reduceEq, not_false_eq_true, Nat.reducePow, List.length_append, List.length_replicate, List.replicate_succ, List.replicate_zero, Int.cast_ofNat_Int, not_true_eq_false, decide_true, decide_false, ite_self, beq_self_eq_true, Bool.true_beq, Bool.false_beq, Bool.not_true, Bool.not_false, Int.reduceNeg, dropK_eq] at k0 k1 k5
    have ee : i + (e - i) = e := by omega
    rcases Nat.lt_or_ge e s.length with hlt | hge
    · have e1 : decide ((e : Int) < (s.length : Int)) = true := decide_eq_true (by omega)
      have ix := str_ixN .i64 hlt
      simp (disch := first | omega | simp only [go_sem, tm0, ↓reduceIte, Nat.reduceAdd, Nat.reduceMul, Nat.reduceSub, Nat.reduceLeDiff, Nat.reduceLT, Nat.reduceEqDiff, Int.reduceLT, Int.reduceLE, Int.reduceAdd, Int.reduceSub, Int.reduceMul, Int.reduceToNat, Int.reducePow, Int.reduceNe, Int.reduceMod, Int.reduceDiv, ne_eq, Int.reduceEq, not_false_eq_true, Nat.reducePow, List.length_append, List.length_replicate, List.replicate_succ, List.replicate_zero, Int.cast_ofNat_Int, not_true_eq_false, decide_true, decide_false, ite_self, beq_self_eq_true, Bool.true_beq, Bool.false_beq, Bool.not_true, Bool.not_false, Int.reduceNeg, dropK_eq]) only [x30l2, go_sem, tm0, ↓reduceIte, Nat.reduceAdd, Nat.reduceMul, Nat.reduceSub, Nat.reduceLeDiff, Nat.reduceLT, Nat.reduceEqDiff, Int.reduceLT, Int.reduceLE, Int.reduceAdd, Int.reduceSub, Int.reduceMul, Int.reduceToNat, Int.reducePow, Int.reduceNe, Int.reduceMod, Int.reduceDiv, ne_eq, Int.reduceEq, not_false_eq_true, Nat.reducePow, List.length_append, List.length_replicate, List.replicate_succ, List.replicate_zero, Int.cast_ofNat_Int, not_true_eq_false, decide_true, decide_false, ite_self, beq_self_eq_true, Bool.true_beq, Bool.false_beq, Bool.not_true, Bool.not_false, Int.reduceNeg, dropK_eq, k0, k1, hk', e1, ix]
      refine hf _ _ _ _ fun nc'' => ?_
      cases hin : p (s.getD e 0) with
      | true =>
        simp (disch := first | omega | simp only [go_sem, tm0, ↓reduceIte, Nat.reduceAdd, Nat.reduceMul, Nat.reduceSub, Nat.reduceLeDiff, Nat.reduceLT, Nat.reduceEqDiff, Int.reduceLT, Int.reduceLE, Int.reduceAdd, Int.reduceSub, Int.reduceMul, Int.reduceToNat, Int.reducePow, Int.reduceNe, Int.reduceMod, Int.reduceDiv, ne_eq, Int.reduceEq, not_false_eq_true, Nat.reducePow, List.length_append, List.length_replicate, List.replicate_succ, List.replicate_zero, Int.cast_ofNat_Int, not_true_eq_false, decide_true, decide_false, ite_self, beq_self_eq_true, Bool.true_beq, Bool.false_beq, Bool.not_true, Bool.not_false, Int.reduceNeg, dropK_eq]) only [go_sem, tm0, ↓reduceIte, Nat.reduceAdd, Nat.reduceMul, Nat.reduceSub, Nat.reduceLeDiff, Nat.reduceLT, Nat.reduceEqDiff, Int.reduceLT, Int.reduceLE, Int.reduceAdd, Int.reduceSub, Int.reduceMul, Int.reduceToNat, Int.reducePow, Int.reduceNe, Int.reduceMod, Int.reduceDiv, ne_eq, Int.reduceEq, not_false_eq_true, Nat.reducePow, List.length_append, List.length_replicate, List.replicate_succ, List.replicate_zero, Int.cast_ofNat_Int, not_true_eq_false, decide_true, decide_false, ite_self, beq_self_eq_true, Bool.true_beq, Bool.false_beq, Bool.not_true, Bool.not_false, Int.reduceNeg, dropK_eq, k0, hk']
        refine ⟨s.length - (e + 1), by omega, e + 1, by omega, by omega, rfl, by simp, fun k hne' => ?_, run_step hj hin⟩
        rw [if_neg hne']
        exact hne k hne'
      | false =>
        have hrun := run_eq (p := p) (l := s) (a := i) (e := e) h1 h2 hj (fun _ => hin)
        rw [hrun, run_len h2, ee] at hK
        have hsl := str_slice (l := s) (lo := i) (hi := e) h1 h2
        simp (disch := first | omega | simp only [go_sem, tm0, ↓reduceIte, Nat.reduceAdd, Nat.reduceMul, Nat.reduceSub, Nat.reduceLeDiff, Nat.reduceLT, Nat.reduceEqDiff, Int.reduceLT, Int.reduceLE, Int.reduceAdd, Int.reduceSub, Int.reduceMul, Int.reduceToNat, Int.reducePow, Int.reduceNe, Int.reduceMod, Int.reduceDiv, ne_eq, Int.reduceEq, not_false_eq_true, Nat.reducePow, List.length_append, List.length_replicate, List.replicate_succ, List.replicate_zero, Int.cast_ofNat_Int, not_true_eq_false, decide_true, decide_false, ite_self, beq_self_eq_true, Bool.true_beq, Bool.false_beq, Bool.not_true, Bool.not_false, Int.reduceNeg, dropK_eq]) only [go_sem, tm0, ↓reduceIte, Nat.reduceAdd, Nat.reduceMul, Nat.reduceSub, Nat.reduceLeDiff, Nat.reduceLT, Nat.reduceEqDiff, Int.reduceLT, Int.reduceLE, Int.reduceAdd, Int.reduceSub, Int.reduceMul, Int.reduceToNat, Int.reducePow, Int.reduceNe, Int.reduceMod, Int.reduceDiv, ne_eq, Int.reduceEq, not_false_eq_true, Nat.reducePow, List.length_append, List.length_replicate, List.replicate_succ, List.replicate_zero, Int.cast_ofNat_Int, not_true_eq_false, decide_true, decide_false, ite_self, beq_self_eq_true, Bool.true_beq, Bool.false_beq, Bool.not_true, Bool.not_false, Int.reduceNeg, dropK_eq, k0, k5, hk', hsl]
        exact hK _ _ hk' hne
    · obtain rfl : e = s.length := by omega
      have e1 : decide ((s.length : Int) < (s.length : Int)) = false := decide_eq_false (by omega)
      have hrun := run_eq (p := p) (l := s) (a := i) (e := s.length) h1 h2 hj (fun h => by omega)
      rw [hrun, run_len h2, ee] at hK
      have hsl := str_slice (l := s) (lo := i) (hi := s.length) h1 h2
      simp (disch := first | omega | simp only [go_sem, tm0, ↓reduceIte, Nat.reduceAdd, Nat.reduceMul, Nat.reduceSub, Nat.reduceLeDiff, Nat.reduceLT, Nat.reduceEqDiff, Int.reduceLT, Int.reduceLE, Int.reduceAdd, Int.reduceSub, Int.reduceMul, Int.reduceToNat, Int.reducePow, Int.reduceNe, Int.reduceMod, Int.reduceDiv, ne_eq, Int.reduceEq, not_false_eq_true, Nat.reducePow, List.length_append, List.length_replicate, List.replicate_succ, List.replicate_zero, Int.cast_ofNat_Int, not_true_eq_false, decide_true, decide_false, ite_self, beq_self_eq_true, Bool.true_beq, Bool.false_beq, Bool.not_true, Bool.not_false, Int.reduceNeg, dropK_eq]) only [x30l2, go_sem, tm0, ↓reduceIte, Nat.reduceAdd, Nat.reduceMul, Nat.reduceSub, Nat.reduceLeDiff, Nat.reduceLT, Nat.reduceEqDiff, Int.reduceLT, Int.reduceLE, Int.reduceAdd, Int.reduceSub, Int.reduceMul, Int.reduceToNat, Int.reducePow, Int.reduceNe, Int.reduceMod, Int.reduceDiv, ne_eq, Int.reduceEq, not_false_eq_true, Nat.reducePow, List.length_append, List.length_replicate, List.replicate_succ, List.replicate_zero, Int.cast_ofNat_Int, not_true_eq_false, decide_true, decide_false, ite_self, beq_self_eq_true, Bool.true_beq, Bool.false_beq, Bool.not_true, Bool.not_false, Int.reduceNeg, dropK_eq, k0, k1, k5, hk', e1, hsl]
      exact hK _ _ hk' hne
abbrev mnB (b : UInt8) : Bool := decide ((b.toNat : Int) = 45)
theorem num_split {s : List UInt8} {i : Nat} (hi : i < s.length) :
    ((s.drop i).takeWhile mnB = [] ∧ numR (s.drop i) = numN false ((s.drop i).takeWhile dgB)) ∨
    ((s.drop i).takeWhile mnB = [45] ∧ numR (s.drop i) = numN true ((s.drop (i + 1)).takeWhile dgB)) ∨
    (1 < ((s.drop i).takeWhile mnB).length ∧ numR (s.drop i) = .error 7) := by
  rw [drop_cons hi]
  by_cases h : ((s.getD i 0).toNat : Int) = 45
  · have hb : s.getD i 0 = 45 := UInt8.toNat_inj.1 (by have : (45 : UInt8).toNat = 45 := rfl; omega)
    rw [List.takeWhile_cons, if_pos (decide_eq_true h), hb, numR, if_pos (by decide)]
    right
    cases hr : s.drop (i + 1) with
    | nil => exact .inl ⟨rfl, rfl⟩
    | cons c r =>
      by_cases h2 : (c.toNat : Int) = 45
      · right
        rw [List.takeWhile_cons, if_pos (decide_eq_true h2)]
        refine ⟨by simp, ?_⟩
        rw [List.takeWhile_cons, if_neg (by simp only [dgB, digB, digi, decide_eq_true_eq]; omega), numN, if_pos rfl]
      · left
        rw [List.takeWhile_cons, if_neg (by simpa using h2)]
        exact ⟨rfl, rfl⟩
  · left
    rw [List.takeWhile_cons, if_neg (by simpa using h), numR, if_neg h]
    exact ⟨rfl, rfl⟩
/-- What Atoi and Itoa have to do with a number. -/
theorem num_atoi {neg : Bool} {ds : List UInt8} (h : digs ds) (h0 : ds ≠ []) (hl : ds.length ≤ 100000) :
    ∃ v a : AVal, F_atoi 84 [sv ((if neg then [45] else []) ++ ds)] = some (.tup [v, a]) ∧
    ((a = .ifc 84 .any ∧ numN neg ds = .error 3) ∨ ∃ n : Int, v = .int .i64 n ∧ a = .nili ∧ -9223372036854775808 ≤ n ∧ n ≤ 9223372036854775807 ∧
      ((numOk n ∧ its n = (if neg then [45] else []) ++ ds ∧ numN neg ds = .ok (n, (if neg then 1 else 0) + ds.length)) ∨ (¬ (numOk n ∧ its n = (if neg then [45] else []) ++ ds) ∧ numN neg ds = .error 3))) := by
  have hsz : ∀ l : List UInt8, l.length ≤ 200000 → (bs l).size ≤ 281474976710656 := fun l h => by rw [bs_size]; omega
  cases neg with
  | false =>
    simp only [Bool.false_eq_true, if_false, List.nil_append, F_atoi, bs_data]
    rw [if_pos (hsz _ (by omega)), atoi_plain h h0]
    by_cases hv : vl ds < 9223372036854775808
    · rw [if_pos hv]
      refine ⟨_, _, rfl, .inr ⟨_, rfl, rfl, by omega, by omega, ?_⟩⟩
      have hi := its_plain h h0
      by_cases hc : numOk (vl ds : Int) ∧ its (vl ds : Int) = ds
      · left
        refine ⟨hc.1, hc.2, ?_⟩
        rw [numN, if_neg h0, if_neg]
        · simp
        · rintro (⟨h1, h2⟩ | h1)
          · rcases h2 with h2 | h2
            · exact hi.1 hc.2 ⟨h1, h2⟩
            · cases h2
          · have := hc.1; simp only [numOk] at this; omega
      · right
        refine ⟨hc, ?_⟩
        rw [numN, if_neg h0, if_pos]
        by_cases h1 : 1000000000 < vl ds
        · exact .inr h1
        · left
          rcases Classical.em (ds.head? = some 48 ∧ 1 < ds.length) with h2 | h2
          · exact ⟨h2.1, .inl h2.2⟩
          · exact absurd ⟨by simp only [numOk]; omega, hi.2 h2⟩ hc
    · rw [if_neg hv]
      refine ⟨_, _, rfl, .inl ⟨rfl, ?_⟩⟩
      rw [numN, if_neg h0, if_pos (.inr (by omega))]
  | true =>
    simp only [if_true, List.singleton_append, F_atoi, bs_data]
    rw [if_pos (hsz _ (by simp; omega)), atoi_minus h h0]
    by_cases hv : vl ds ≤ 9223372036854775808
    · rw [if_pos hv]
      refine ⟨_, _, rfl, .inr ⟨_, rfl, rfl, by omega, by omega, ?_⟩⟩
      have hi := its_minus h h0
      by_cases hc : numOk (-(vl ds : Int)) ∧ its (-(vl ds : Int)) = 45 :: ds
      · left
        refine ⟨hc.1, hc.2, ?_⟩
        rw [numN, if_neg h0, if_neg]
        · simp
        · rintro (⟨h1, h2⟩ | h1)
          · exact hi.1 hc.2 h1
          · have := hc.1; simp only [numOk] at this; omega
      · right
        refine ⟨hc, ?_⟩
        rw [numN, if_neg h0, if_pos]
        by_cases h1 : 1000000000 < vl ds
        · exact .inr h1
        · left
          rcases Classical.em (ds.head? = some 48) with h2 | h2
          · exact ⟨h2, .inr rfl⟩
          · exact absurd ⟨by simp only [numOk]; omega, hi.2 h2⟩ hc
    · rw [if_neg hv]
      refine ⟨_, _, rfl, .inl ⟨rfl, ?_⟩⟩
      rw [numN, if_neg h0, if_pos (.inr (by omega))]
theorem take_digs (r : List UInt8) : digs (r.takeWhile dgB) := by
  intro b hb
  have h : (r.takeWhile dgB).all dgB = true := List.all_takeWhile
  exact of_decide_eq_true (List.all_eq_true.1 h b hb)
end Go.Proofs.YtjcjlgiigjckeaaDoor
