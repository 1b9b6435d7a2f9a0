/-
  Tokens as texts.
-/
import Derived.Test.YtjcjlgiigjckeaaDoorYC
set_option linter.unusedVariables false
set_option linter.unusedSimpArgs false
namespace Go.Proofs.YtjcjlgiigjckeaaDoor
open Go Go.Xec

set_option maxRecDepth 10000
noncomputable def C3 : Cfg := ((((C2.add 13 F13).add 14 F14).add 42 F42).add 23 F_itoa).add 24 F_join
theorem ok3 : CfgOk Tryd.prog C3 := ((((ok2.add sound13).add sound14).add sound42).add sound23).add sound24
abbrev RT (a : AVal) (l : List Tok) : Prop := Rg 4 TK a l
theorem TK_plain (d : Nat) (t : Tok) : plain (d + 1) (TK t) = true := by
  simp only [plain_agg, plainL_cons, plain_int, plain_str, plainL_nil]; rfl
theorem TK_sc (t : Tok) : (cellsOf (TK t)).all isSc = true := rfl
/-- A sign. -/
def sgn (k : Int) : UInt8 := if k = 3 then 123 else if k = 4 then 125 else 59
/-- A token's text. -/
def txt (t : Tok) : List UInt8 := if t.k = 1 then t.s else if t.k = 2 then its t.n else [sgn t.k]
theorem txt_len {t : Tok} (h : tokOk t) : (txt t).length ≤ 21 := by
  unfold txt
  split
  · rcases h with h | h | h
    · have := h.2.1.2.2; omega
    · omega
    · omega
  · split
    · rcases h with h | h | h
      · omega
      · exact its_len (by have := h.2.2; simp only [numOk] at this; omega)
      · omega
    · simp
noncomputable def F28 : List AVal → Option AVal := pureF C3 1 28
theorem sound28 : Sound Tryd.prog 28 F28 := sound_self ok3 1 28
theorem F28_eq {t : Tok} (h : tokOk t) : F28 [TK t] = some (sv (txt t)) := by
  obtain ⟨k, s, n, at'⟩ := t
  unfold F28
  refine pureF_of (x := x28) rfl rfl ?_
  rw [x28_eq.1, x28_eq.2.1]
  simp only [tokOk] at h
  rcases h with ⟨rfl, hw, rfl⟩ | ⟨rfl, rfl, hn⟩ | ⟨hk, rfl, rfl⟩
  · simp (disch := first | omega | simp only [go_sem, tm0, ↓reduceIte, Nat.reduceAdd, Nat.reduceMul, Nat.reduceSub, Nat.reduceLeDiff, Nat.reduceLT, Nat.reduceEqDiff, Int.reduceLT, Int.reduceLE, Int.reduceAdd, Int.reduceSub, Int.reduceMul, Int.reduceToNat, Int.reducePow, Int.reduceNe, Int.reduceMod, Int.reduceDiv, ne_eq, Int.reduceEq, not_false_eq_true, Nat.reducePow, List.length_append, List.length_replicate, List.replicate_succ, List.replicate_zero, Int.cast_ofNat_Int, not_true_eq_false, decide_true, decide_false, ite_self, beq_self_eq_true, Bool.true_beq, Bool.false_beq, Bool.not_true, Bool.not_false, Int.reduceNeg, dropK_eq]) only [x28b, go_sem, tm0, ↓reduceIte, Nat.reduceAdd, Nat.reduceMul, Nat.reduceSub, Nat.reduceLeDiff, Nat.reduceLT, Nat.reduceEqDiff, Int.reduceLT, Int.reduceLE, Int.reduceAdd, Int.reduceSub, Int.reduceMul, Int.reduceToNat, Int.reducePow, Int.reduceNe, Int.reduceMod, Int.reduceDiv, ne_eq, Int.reduceEq, not_false_eq_true, Nat.reducePow, List.length_append, List.length_replicate, List.replicate_succ, List.replicate_zero, Int.cast_ofNat_Int, not_true_eq_false, decide_true, decide_false, ite_self, beq_self_eq_true, Bool.true_beq, Bool.false_beq, Bool.not_true, Bool.not_false, Int.reduceNeg, dropK_eq]
    exact Ends_plain rfl rfl
  · have e := F42_eq (n := n) (by simp only [numOk] at hn; omega)
    simp (disch := first | omega | simp only [go_sem, tm0, ↓reduceIte, Nat.reduceAdd, Nat.reduceMul, Nat.reduceSub, Nat.reduceLeDiff, Nat.reduceLT, Nat.reduceEqDiff, Int.reduceLT, Int.reduceLE, Int.reduceAdd, Int.reduceSub, Int.reduceMul, Int.reduceToNat, Int.reducePow, Int.reduceNe, Int.reduceMod, Int.reduceDiv, ne_eq, Int.reduceEq, not_false_eq_true, Nat.reducePow, List.length_append, List.length_replicate, List.replicate_succ, List.replicate_zero, Int.cast_ofNat_Int, not_true_eq_false, decide_true, decide_false, ite_self, beq_self_eq_true, Bool.true_beq, Bool.false_beq, Bool.not_true, Bool.not_false, Int.reduceNeg, dropK_eq]) only [x28b, go_sem, tm0, ↓reduceIte, Nat.reduceAdd, Nat.reduceMul, Nat.reduceSub, Nat.reduceLeDiff, Nat.reduceLT, Nat.reduceEqDiff, Int.reduceLT, Int.reduceLE, Int.reduceAdd, Int.reduceSub, Int.reduceMul, Int.reduceToNat, Int.reducePow, Int.reduceNe, Int.reduceMod, Int.reduceDiv, ne_eq, Int.reduceEq, not_false_eq_true, Nat.reducePow, List.length_append, List.length_replicate, List.replicate_succ, List.replicate_zero, Int.cast_ofNat_Int, not_true_eq_false, decide_true, decide_false, ite_self, beq_self_eq_true, Bool.true_beq, Bool.false_beq, Bool.not_true, Bool.not_false, Int.reduceNeg, dropK_eq, callX_known (C := C3) (g := 42) rfl, ft_call (C := C3) (g := 42) rfl, e]
    exact Ends_plain rfl rfl
  · have s0 : slSA (sv [123, 125, 59]) (some (.int .i64 0)) (some (.int .i64 1)) = some (sv [123]) := str_slice (lo := 0) (hi := 1) (by decide) (by decide)
    have s1 : slSA (sv [123, 125, 59]) (some (.int .i64 1)) (some (.int .i64 2)) = some (sv [125]) := str_slice (lo := 1) (hi := 2) (by decide) (by decide)
    have s2 : slSA (sv [123, 125, 59]) (some (.int .i64 2)) (some (.int .i64 3)) = some (sv [59]) := str_slice (lo := 2) (hi := 3) (by decide) (by decide)
    rcases hk with rfl | rfl | rfl <;>
    · simp (disch := first | omega | simp only [go_sem, tm0, ↓reduceIte, Nat.reduceAdd, Nat.reduceMul, Nat.reduceSub, Nat.reduceLeDiff, Nat.reduceLT, Nat.reduceEqDiff, Int.reduceLT, Int.reduceLE, Int.reduceAdd, Int.reduceSub, Int.reduceMul, Int.reduceToNat, Int.reducePow, Int.reduceNe, Int.reduceMod, Int.reduceDiv, ne_eq, Int.reduceEq, not_false_eq_true, Nat.reducePow, List.length_append, List.length_replicate, List.replicate_succ, List.replicate_zero, Int.cast_ofNat_Int, not_true_eq_false, decide_true, decide_false, ite_self, beq_self_eq_true, Bool.true_beq, Bool.false_beq, Bool.not_true, Bool.not_false, Int.reduceNeg, dropK_eq]) only [x28b, go_sem, tm0, ↓reduceIte, Nat.reduceAdd, Nat.reduceMul, Nat.reduceSub, Nat.reduceLeDiff, Nat.reduceLT, Nat.reduceEqDiff, Int.reduceLT, Int.reduceLE, Int.reduceAdd, Int.reduceSub, Int.reduceMul, Int.reduceToNat, Int.reducePow, Int.reduceNe, Int.reduceMod, Int.reduceDiv, ne_eq, Int.reduceEq, not_false_eq_true, Nat.reducePow, List.length_append, List.length_replicate, List.replicate_succ, List.replicate_zero, Int.cast_ofNat_Int, not_true_eq_false, decide_true, decide_false, ite_self, beq_self_eq_true, Bool.true_beq, Bool.false_beq, Bool.not_true, Bool.not_false, Int.reduceNeg, dropK_eq, s0, s1, s2]
      exact Ends_plain rfl rfl
noncomputable def C4 : Cfg := C3.add 28 F28
theorem ok4 : CfgOk Tryd.prog C4 := ok3.add sound28
/-- A text of tokens. -/
def prt (l : List Tok) : List UInt8 := Lib.join (l.map txt) [32]
theorem join_snoc (sep : List UInt8) : ∀ (xs : List (List UInt8)) (x : List UInt8), xs ≠ [] → Lib.join (xs ++ [x]) sep = Lib.join xs sep ++ (sep ++ x)
  | [], x, h => absurd rfl h
  | [y], x, _ => by simp [Lib.join, List.intercalate]
  | y :: z :: r, x, _ => by
    have := join_snoc sep (z :: r) x (by simp)
    simp only [Lib.join, List.intercalate, List.cons_append, List.intersperse_cons_cons, List.flatten_cons] at this ⊢
    rw [this]
    simp
theorem prt_nil : prt [] = [] := rfl
theorem prt_step {l : List Tok} {i : Nat} (hi : i < l.length) : prt (l.take (i + 1)) = if i = 0 then txt l[i] else prt (l.take i) ++ [32] ++ txt l[i] := by
  unfold prt
  rw [take_next hi, List.map_append]
  split
  · rename_i h
    subst h
    simp [Lib.join_one]
  · rename_i h
    rw [List.map_cons, List.map_nil, join_snoc _ _ _ (by simp; exact ⟨h, fun e => by rw [e] at hi; simp at hi⟩)]
    simp
theorem prt_len {l : List Tok} (h : ∀ t ∈ l, tokOk t) : ∀ i, i ≤ l.length → (prt (l.take i)).length ≤ 22 * i
  | 0, _ => by simp [prt_nil]
  | i + 1, hi => by
    have h1 := prt_len h i (by omega)
    have h2 := txt_len (h l[i] (List.getElem_mem _))
    rw [prt_step (by omega)]
    split
    · omega
    · simp; omega
abbrev allOk (l : List Tok) : Prop := ∀ t ∈ l, tokOk t
noncomputable def F16 : List AVal → Option AVal := pureF C4 1 16
theorem sound16 : Sound Tryd.prog 16 F16 := sound_self ok4 1 16
theorem F16_eq {a : AVal} {l : List Tok} (ha : RT a l) (hl : l.length ≤ 1000) (h : allOk l) : F16 [a] = some (sv (prt l)) := by
  unfold F16
  refine pureF_of (x := x16) rfl rfl ?_
  rw [x16_eq.1, x16_eq.2.1]
  simp (disch := first | omega | simp only [go_sem, tm0, ↓reduceIte, Nat.reduceAdd, Nat.reduceMul, Nat.reduceSub, Nat.reduceLeDiff, Nat.reduceLT, Nat.reduceEqDiff, Int.reduceLT, Int.reduceLE, Int.reduceAdd, Int.reduceSub, Int.reduceMul, Int.reduceToNat, Int.reducePow, Int.reduceNe, Int.reduceMod, Int.reduceDiv, ne_eq, Int.reduceEq, not_false_eq_true, Nat.reducePow, List.length_append, List.length_replicate, List.replicate_succ, List.replicate_zero, Int.cast_ofNat_Int, not_true_eq_false, decide_true, decide_false, ite_self, beq_self_eq_true, Bool.true_beq, Bool.false_beq, Bool.not_true, Bool.not_false, Int.reduceNeg, dropK_eq]) only [x16b, go_sem, tm0, ↓reduceIte, Nat.reduceAdd, Nat.reduceMul, Nat.reduceSub, Nat.reduceLeDiff, Nat.reduceLT, Nat.reduceEqDiff, Int.reduceLT, Int.reduceLE, Int.reduceAdd, Int.reduceSub, Int.reduceMul, Int.reduceToNat, Int.reducePow, Int.reduceNe, Int.reduceMod, Int.reduceDiv, ne_eq, Int.reduceEq, not_false_eq_true, Nat.reducePow, List.length_append, List.length_replicate, List.replicate_succ, List.replicate_zero, Int.cast_ofNat_Int, not_true_eq_false, decide_true, decide_false, ite_self, beq_self_eq_true, Bool.true_beq, Bool.false_beq, Bool.not_true, Bool.not_false, Int.reduceNeg, dropK_eq, ha.len]
  refine Ev_range (ti := 8) (len := l.length) (J := fun i tm hp nc => tm 3 = sv (prt (l.take i))) (by omega) (by simp only [go_sem, tm0, ↓reduceIte, Nat.reduceAdd, Nat.reduceMul, Nat.reduceSub, Nat.reduceLeDiff, Nat.reduceLT, Nat.reduceEqDiff, Int.reduceLT, Int.reduceLE, Int.reduceAdd, Int.reduceSub, Int.reduceMul, Int.reduceToNat, Int.reducePow, Int.reduceNe, Int.reduceMod, Int.reduceDiv, ne_eq, Int.reduceEq, not_false_eq_true, Nat.reducePow, List.length_append, List.length_replicate, List.replicate_succ, List.replicate_zero, Int.cast_ofNat_Int, not_true_eq_false, decide_true, decide_false, ite_self, beq_self_eq_true, Bool.true_beq, Bool.false_beq, Bool.not_true, Bool.not_false, Int.reduceNeg, dropK_eq]) (by simp only [go_sem, tm0, ↓reduceIte, Nat.reduceAdd, Nat.reduceMul, Nat.reduceSub, Nat.reduceLeDiff, Nat.reduceLT, Nat.reduceEqDiff, Int.reduceLT, Int.reduceLE, Int.reduceAdd, Int.reduceSub, Int.reduceMul, Int.reduceToNat, Int.reducePow, Int.reduceNe, Int.reduceMod, Int.reduceDiv, ne_eq, Int.reduceEq, not_false_eq_true, Nat.reducePow, List.length_append, List.length_replicate, List.replicate_succ, List.replicate_zero, Int.cast_ofNat_Int, not_true_eq_false, decide_true, decide_false, ite_self, beq_self_eq_true, Bool.true_beq, Bool.false_beq, Bool.not_true, Bool.not_false, Int.reduceNeg, dropK_eq]; rfl) ?_
  intro i tm hp nc hi hc k8 k3
  have k2 := hc 2 rfl; have k6 := hc 6 rfl; have k7 := hc 7 rfl; simp only [go_sem, tm0, ↓reduceIte, Nat.reduceAdd, Nat.reduceMul, Nat.reduceSub, Nat.reduceLeDiff, Nat.reduceLT, Nat.reduceEqDiff, Int.reduceLT, Int.reduceLE, Int.reduceAdd, Int.reduceSub, Int.reduceMul, Int.reduceToNat, Int.reducePow, Int.reduceNe, Int.reduceMod, Int.reduceDiv, ne_eq, Int.reduceEq, not_false_eq_true, Nat.reducePow, List.length_append, List.length_replicate, List.replicate_succ, List.replicate_zero, Int.cast_ofNat_Int, not_true_eq_false, decide_true, decide_false, ite_self, beq_self_eq_true, Bool.true_beq, Bool.false_beq, Bool.not_true, Bool.not_false, Int.reduceNeg, dropK_eq] at k2 k6 k7
  rcases Nat.lt_or_ge i l.length with hlt | hge
  · have d1 : decide ((i : Int) < (l.length : Int)) = true := decide_eq_true (by omega)
    have ia := ha.ia hlt
    have hok := h l[i] (List.getElem_mem _)
    have e28 := F28_eq hok
    have b1 := prt_len h i (by omega)
    have b2 := txt_len hok
    have hst := prt_step hlt
    by_cases h0 : i = 0
    · have d2 : decide ((0 : Int) < (i : Int)) = false := decide_eq_false (by omega)
      have l3 : (prt (l.take i)).length + (txt l[i]).length < 9223372036854775808 := by omega
      simp (disch := first | omega | simp only [go_sem, tm0, ↓reduceIte, Nat.reduceAdd, Nat.reduceMul, Nat.reduceSub, Nat.reduceLeDiff, Nat.reduceLT, Nat.reduceEqDiff, Int.reduceLT, Int.reduceLE, Int.reduceAdd, Int.reduceSub, Int.reduceMul, Int.reduceToNat, Int.reducePow, Int.reduceNe, Int.reduceMod, Int.reduceDiv, ne_eq, Int.reduceEq, not_false_eq_true, Nat.reducePow, List.length_append, List.length_replicate, List.replicate_succ, List.replicate_zero, Int.cast_ofNat_Int, not_true_eq_false, decide_true, decide_false, ite_self, beq_self_eq_true, Bool.true_beq, Bool.false_beq, Bool.not_true, Bool.not_false, Int.reduceNeg, dropK_eq]) only [x16l3, go_sem, tm0, ↓reduceIte, Nat.reduceAdd, Nat.reduceMul, Nat.reduceSub, Nat.reduceLeDiff, Nat.reduceLT, Nat.reduceEqDiff, Int.reduceLT, Int.reduceLE, Int.reduceAdd, Int.reduceSub, Int.reduceMul, Int.reduceToNat, Int.reducePow, Int.reduceNe, Int.reduceMod, Int.reduceDiv, ne_eq, Int.reduceEq, not_false_eq_true, Nat.reducePow, List.length_append, List.length_replicate, List.replicate_succ, List.replicate_zero, Int.cast_ofNat_Int, not_true_eq_false, decide_true, decide_false, ite_self, beq_self_eq_true, Bool.true_beq, Bool.false_beq, Bool.not_true, Bool.not_false, Int.reduceNeg, dropK_eq, k2, k6, k7, k8, k3, d1, ia, d2, callX_known (C := C4) (g := 28) rfl, ft_call (C := C4) (g := 28) rfl, e28, if_pos l3]
      refine ⟨hlt, by simp, ?_⟩
      rw [hst, if_pos h0]
      have : prt (l.take i) = [] := by rw [h0]; rfl
      rw [this, List.nil_append]
    · have d2 : decide ((0 : Int) < (i : Int)) = true := decide_eq_true (by omega)
      have l3 : (prt (l.take i)).length + 1 < 9223372036854775808 := by omega
      have l4 : (prt (l.take i)).length + 1 + (txt l[i]).length < 9223372036854775808 := by omega
      simp (disch := first | omega | simp only [go_sem, tm0, ↓reduceIte, Nat.reduceAdd, Nat.reduceMul, Nat.reduceSub, Nat.reduceLeDiff, Nat.reduceLT, Nat.reduceEqDiff, Int.reduceLT, Int.reduceLE, Int.reduceAdd, Int.reduceSub, Int.reduceMul, Int.reduceToNat, Int.reducePow, Int.reduceNe, Int.reduceMod, Int.reduceDiv, ne_eq, Int.reduceEq, not_false_eq_true, Nat.reducePow, List.length_append, List.length_replicate, List.replicate_succ, List.replicate_zero, Int.cast_ofNat_Int, not_true_eq_false, decide_true, decide_false, ite_self, beq_self_eq_true, Bool.true_beq, Bool.false_beq, Bool.not_true, Bool.not_false, Int.reduceNeg, dropK_eq]) only [x16l3, go_sem, tm0, ↓reduceIte, Nat.reduceAdd, Nat.reduceMul, Nat.reduceSub, Nat.reduceLeDiff, Nat.reduceLT, Nat.reduceEqDiff, Int.reduceLT, Int.reduceLE, Int.reduceAdd, Int.reduceSub, Int.reduceMul, Int.reduceToNat, Int.reducePow, Int.reduceNe, Int.reduceMod, Int.reduceDiv, ne_eq, Int.reduceEq, not_false_eq_true, Nat.reducePow, List.length_append, List.length_replicate, List.replicate_succ, List.replicate_zero, Int.cast_ofNat_Int, not_true_eq_false, decide_true, decide_false, ite_self, beq_self_eq_true, Bool.true_beq, Bool.false_beq, Bool.not_true, Bool.not_false, Int.reduceNeg, dropK_eq, k2, k6, k7, k8, k3, d1, ia, d2, callX_known (C := C4) (g := 28) rfl, ft_call (C := C4) (g := 28) rfl, e28, if_pos l3, if_pos l4]
      refine ⟨hlt, by simp, ?_⟩
      rw [hst, if_neg h0]
  · obtain rfl : i = l.length := by omega
    have d1 : decide ((l.length : Int) < (l.length : Int)) = false := decide_eq_false (by omega)
    rw [List.take_length] at k3
    simp (disch := first | omega | simp only [go_sem, tm0, ↓reduceIte, Nat.reduceAdd, Nat.reduceMul, Nat.reduceSub, Nat.reduceLeDiff, Nat.reduceLT, Nat.reduceEqDiff, Int.reduceLT, Int.reduceLE, Int.reduceAdd, Int.reduceSub, Int.reduceMul, Int.reduceToNat, Int.reducePow, Int.reduceNe, Int.reduceMod, Int.reduceDiv, ne_eq, Int.reduceEq, not_false_eq_true, Nat.reducePow, List.length_append, List.length_replicate, List.replicate_succ, List.replicate_zero, Int.cast_ofNat_Int, not_true_eq_false, decide_true, decide_false, ite_self, beq_self_eq_true, Bool.true_beq, Bool.false_beq, Bool.not_true, Bool.not_false, Int.reduceNeg, dropK_eq]) only [x16l3, go_sem, tm0, ↓reduceIte, Nat.reduceAdd, Nat.reduceMul, Nat.reduceSub, Nat.reduceLeDiff, Nat.reduceLT, Nat.reduceEqDiff, Int.reduceLT, Int.reduceLE, Int.reduceAdd, Int.reduceSub, Int.reduceMul, Int.reduceToNat, Int.reducePow, Int.reduceNe, Int.reduceMod, Int.reduceDiv, ne_eq, Int.reduceEq, not_false_eq_true, Nat.reducePow, List.length_append, List.length_replicate, List.replicate_succ, List.replicate_zero, Int.cast_ofNat_Int, not_true_eq_false, decide_true, decide_false, ite_self, beq_self_eq_true, Bool.true_beq, Bool.false_beq, Bool.not_true, Bool.not_false, Int.reduceNeg, dropK_eq, k2, k6, k7, k8, k3, d1]
    exact Ends_plain rfl rfl
noncomputable def F15 : List AVal → Option AVal := pureF C4 1 15
theorem sound15 : Sound Tryd.prog 15 F15 := sound_self ok4 1 15
theorem F15_eq {a : AVal} {l : List Tok} (ha : RT a l) (hl : l.length ≤ 1000) (hs : ∀ t ∈ l, t.s.length ≤ 1000) : F15 [a] = some (.bool (decide (allOk l))) := by
  unfold F15
  refine pureF_of (x := x15) rfl rfl ?_
  rw [x15_eq.1, x15_eq.2.1]
  simp (disch := first | omega | simp only [go_sem, tm0, ↓reduceIte, Nat.reduceAdd, Nat.reduceMul, Nat.reduceSub, Nat.reduceLeDiff, Nat.reduceLT, Nat.reduceEqDiff, Int.reduceLT, Int.reduceLE, Int.reduceAdd, Int.reduceSub, Int.reduceMul, Int.reduceToNat, Int.reducePow, Int.reduceNe, Int.reduceMod, Int.reduceDiv, ne_eq, Int.reduceEq, not_false_eq_true, Nat.reducePow, List.length_append, List.length_replicate, List.replicate_succ, List.replicate_zero, Int.cast_ofNat_Int, not_true_eq_false, decide_true, decide_false, ite_self, beq_self_eq_true, Bool.true_beq, Bool.false_beq, Bool.not_true, Bool.not_false, Int.reduceNeg, dropK_eq]) only [x15b, go_sem, tm0, ↓reduceIte, Nat.reduceAdd, Nat.reduceMul, Nat.reduceSub, Nat.reduceLeDiff, Nat.reduceLT, Nat.reduceEqDiff, Int.reduceLT, Int.reduceLE, Int.reduceAdd, Int.reduceSub, Int.reduceMul, Int.reduceToNat, Int.reducePow, Int.reduceNe, Int.reduceMod, Int.reduceDiv, ne_eq, Int.reduceEq, not_false_eq_true, Nat.reducePow, List.length_append, List.length_replicate, List.replicate_succ, List.replicate_zero, Int.cast_ofNat_Int, not_true_eq_false, decide_true, decide_false, ite_self, beq_self_eq_true, Bool.true_beq, Bool.false_beq, Bool.not_true, Bool.not_false, Int.reduceNeg, dropK_eq, ha.len]
  refine Ev_range (ti := 7) (len := l.length) (J := fun i tm hp nc => allOk (l.take i)) (by omega) (by simp only [go_sem, tm0, ↓reduceIte, Nat.reduceAdd, Nat.reduceMul, Nat.reduceSub, Nat.reduceLeDiff, Nat.reduceLT, Nat.reduceEqDiff, Int.reduceLT, Int.reduceLE, Int.reduceAdd, Int.reduceSub, Int.reduceMul, Int.reduceToNat, Int.reducePow, Int.reduceNe, Int.reduceMod, Int.reduceDiv, ne_eq, Int.reduceEq, not_false_eq_true, Nat.reducePow, List.length_append, List.length_replicate, List.replicate_succ, List.replicate_zero, Int.cast_ofNat_Int, not_true_eq_false, decide_true, decide_false, ite_self, beq_self_eq_true, Bool.true_beq, Bool.false_beq, Bool.not_true, Bool.not_false, Int.reduceNeg, dropK_eq]) (by intro t ht; simp at ht) ?_
  intro i tm hp nc hi hc k7 hok
  have k5 := hc 5 rfl; have k6 := hc 6 rfl; simp only [go_sem, tm0, ↓reduceIte, Nat.reduceAdd, Nat.reduceMul, Nat.reduceSub, Nat.reduceLeDiff, Nat.reduceLT, Nat.reduceEqDiff, Int.reduceLT, Int.reduceLE, Int.reduceAdd, Int.reduceSub, Int.reduceMul, Int.reduceToNat, Int.reducePow, Int.reduceNe, Int.reduceMod, Int.reduceDiv, ne_eq, Int.reduceEq, not_false_eq_true, Nat.reducePow, List.length_append, List.length_replicate, List.replicate_succ, List.replicate_zero, Int.cast_ofNat_Int, not_true_eq_false, decide_true, decide_false, ite_self, beq_self_eq_true, Bool.true_beq, Bool.false_beq, Bool.not_true, Bool.not_false, Int.reduceNeg, dropK_eq] at k5 k6
  rcases Nat.lt_or_ge i l.length with hlt | hge
  · have d1 : decide ((i : Int) < (l.length : Int)) = true := decide_eq_true (by omega)
    have ia := ha.ia hlt
    have hm : l[i] ∈ l := List.getElem_mem _
    have e14 := F14_eq (t := l[i]) (by have := hs _ hm; omega)
    by_cases hk : tokOk l[i]
    · rw [decide_eq_true hk] at e14
      simp (disch := first | omega | simp only [go_sem, tm0, ↓reduceIte, Nat.reduceAdd, Nat.reduceMul, Nat.reduceSub, Nat.reduceLeDiff, Nat.reduceLT, Nat.reduceEqDiff, Int.reduceLT, Int.reduceLE, Int.reduceAdd, Int.reduceSub, Int.reduceMul, Int.reduceToNat, Int.reducePow, Int.reduceNe, Int.reduceMod, Int.reduceDiv, ne_eq, Int.reduceEq, not_false_eq_true, Nat.reducePow, List.length_append, List.length_replicate, List.replicate_succ, List.replicate_zero, Int.cast_ofNat_Int, not_true_eq_false, decide_true, decide_false, ite_self, beq_self_eq_true, Bool.true_beq, Bool.false_beq, Bool.not_true, Bool.not_false, Int.reduceNeg, dropK_eq]) only [x15l2, go_sem, tm0, ↓reduceIte, Nat.reduceAdd, Nat.reduceMul, Nat.reduceSub, Nat.reduceLeDiff, Nat.reduceLT, Nat.reduceEqDiff, Int.reduceLT, Int.reduceLE, Int.reduceAdd, Int.reduceSub, Int.reduceMul, Int.reduceToNat, Int.reducePow, Int.reduceNe, Int.reduceMod, Int.reduceDiv, ne_eq, Int.reduceEq, not_false_eq_true, Nat.reducePow, List.length_append, List.length_replicate, List.replicate_succ, List.replicate_zero, Int.cast_ofNat_Int, not_true_eq_false, decide_true, decide_false, ite_self, beq_self_eq_true, Bool.true_beq, Bool.false_beq, Bool.not_true, Bool.not_false, Int.reduceNeg, dropK_eq, k5, k6, k7, d1, ia, callX_known (C := C4) (g := 14) rfl, ft_call (C := C4) (g := 14) rfl, e14]
      refine ⟨hlt, by simp, ?_⟩
      rw [take_next hlt]
      intro t ht
      rcases List.mem_append.1 ht with ht | ht
      · exact hok t ht
      · simp at ht; subst ht; exact hk
    · rw [decide_eq_false hk] at e14
      have hno : decide (allOk l) = false := decide_eq_false fun h => hk (h _ hm)
      rw [hno]
      simp (disch := first | omega | simp only [go_sem, tm0, ↓reduceIte, Nat.reduceAdd, Nat.reduceMul, Nat.reduceSub, Nat.reduceLeDiff, Nat.reduceLT, Nat.reduceEqDiff, Int.reduceLT, Int.reduceLE, Int.reduceAdd, Int.reduceSub, Int.reduceMul, Int.reduceToNat, Int.reducePow, Int.reduceNe, Int.reduceMod, Int.reduceDiv, ne_eq, Int.reduceEq, not_false_eq_true, Nat.reducePow, List.length_append, List.length_replicate, List.replicate_succ, List.replicate_zero, Int.cast_ofNat_Int, not_true_eq_false, decide_true, decide_false, ite_self, beq_self_eq_true, Bool.true_beq, Bool.false_beq, Bool.not_true, Bool.not_false, Int.reduceNeg, dropK_eq]) only [x15l2, go_sem, tm0, ↓reduceIte, Nat.reduceAdd, Nat.reduceMul, Nat.reduceSub, Nat.reduceLeDiff, Nat.reduceLT, Nat.reduceEqDiff, Int.reduceLT, Int.reduceLE, Int.reduceAdd, Int.reduceSub, Int.reduceMul, Int.reduceToNat, Int.reducePow, Int.reduceNe, Int.reduceMod, Int.reduceDiv, ne_eq, Int.reduceEq, not_false_eq_true, Nat.reducePow, List.length_append, List.length_replicate, List.replicate_succ, List.replicate_zero, Int.cast_ofNat_Int, not_true_eq_false, decide_true, decide_false, ite_self, beq_self_eq_true, Bool.true_beq, Bool.false_beq, Bool.not_true, Bool.not_false, Int.reduceNeg, dropK_eq, k5, k6, k7, d1, ia, callX_known (C := C4) (g := 14) rfl, ft_call (C := C4) (g := 14) rfl, e14]
      exact Ends_plain rfl rfl
  · obtain rfl : i = l.length := by omega
    have d1 : decide ((l.length : Int) < (l.length : Int)) = false := decide_eq_false (by omega)
    rw [List.take_length] at hok
    rw [decide_eq_true hok]
    simp (disch := first | omega | simp only [go_sem, tm0, ↓reduceIte, Nat.reduceAdd, Nat.reduceMul, Nat.reduceSub, Nat.reduceLeDiff, Nat.reduceLT, Nat.reduceEqDiff, Int.reduceLT, Int.reduceLE, Int.reduceAdd, Int.reduceSub, Int.reduceMul, Int.reduceToNat, Int.reducePow, Int.reduceNe, Int.reduceMod, Int.reduceDiv, ne_eq, Int.reduceEq, not_false_eq_true, Nat.reducePow, List.length_append, List.length_replicate, List.replicate_succ, List.replicate_zero, Int.cast_ofNat_Int, not_true_eq_false, decide_true, decide_false, ite_self, beq_self_eq_true, Bool.true_beq, Bool.false_beq, Bool.not_true, Bool.not_false, Int.reduceNeg, dropK_eq]) only [x15l2, go_sem, tm0, ↓reduceIte, Nat.reduceAdd, Nat.reduceMul, Nat.reduceSub, Nat.reduceLeDiff, Nat.reduceLT, Nat.reduceEqDiff, Int.reduceLT, Int.reduceLE, Int.reduceAdd, Int.reduceSub, Int.reduceMul, Int.reduceToNat, Int.reducePow, Int.reduceNe, Int.reduceMod, Int.reduceDiv, ne_eq, Int.reduceEq, not_false_eq_true, Nat.reducePow, List.length_append, List.length_replicate, List.replicate_succ, List.replicate_zero, Int.cast_ofNat_Int, not_true_eq_false, decide_true, decide_false, ite_self, beq_self_eq_true, Bool.true_beq, Bool.false_beq, Bool.not_true, Bool.not_false, Int.reduceNeg, dropK_eq, k5, k6, k7, d1]
    exact Ends_plain rfl rfl
end Go.Proofs.YtjcjlgiigjckeaaDoor
