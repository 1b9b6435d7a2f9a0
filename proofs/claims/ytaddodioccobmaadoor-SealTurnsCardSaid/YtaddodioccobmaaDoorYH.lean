/-
  What is opened: the plain part, the document's, the program's.
-/
import Derived.Test.YtaddodioccobmaaDoorYG
set_option linter.unusedVariables false
set_option linter.unusedSimpArgs false
namespace Go.Proofs.YtaddodioccobmaaDoor
open Go Go.Xec

set_option maxRecDepth 10000
abbrev hexB (b : UInt8) : Prop := (48 ≤ (b.toNat : Int) ∧ (b.toNat : Int) ≤ 57) ∨ (97 ≤ (b.toNat : Int) ∧ (b.toNat : Int) ≤ 102)
theorem drop_head {p : UInt8 → Bool} : ∀ {l : List UInt8} {h : UInt8} {t : List UInt8}, l.dropWhile p = h :: t → p h = false
  | [], h, t, e => by simp at e
  | b :: l, h, t, e => by
    rw [List.dropWhile_cons] at e
    split at e
    · exact drop_head e
    · rename_i hp
      cases e
      simpa using hp
theorem drop_nil {p : UInt8 → Bool} : ∀ {l : List UInt8}, l.dropWhile p = [] ↔ ∀ b ∈ l, p b = true
  | [] => by simp
  | b :: l => by
    rw [List.dropWhile_cons]
    split
    · rename_i hp
      rw [drop_nil]
      simp [hp]
    · rename_i hp
      constructor
      · intro e; cases e
      · intro h; exact absurd (h b (by simp)) hp
theorem trim_nil (l cs : List UInt8) : Lib.trimS l cs = [] ↔ ∀ b ∈ l, cs.contains b = true := by
  unfold Lib.trimS Lib.trimLeftS Lib.trimRightS
  rw [drop_nil]
  constructor
  · intro h
    cases hr : l.reverse.dropWhile (cs.contains ·) with
    | nil =>
      intro b hb
      exact drop_nil.1 hr b (List.mem_reverse.2 hb)
    | cons c r =>
      have h1 := drop_head hr
      have h2 := h c (by rw [hr]; simp)
      rw [h2] at h1
      cases h1
  · intro h
    have : l.reverse.dropWhile (cs.contains ·) = [] := drop_nil.2 fun b hb => h b (List.mem_reverse.1 hb)
    rw [this]
    intro b hb
    simp at hb
theorem hex_mem (b : UInt8) : hexs.contains b = decide (hexB b) := by
  have h : ∀ n : Fin 256, hexs.contains (UInt8.ofNat n.val) = decide (hexB (UInt8.ofNat n.val)) := by decide
  have := h ⟨b.toNat, b.toNat_lt⟩
  simpa using this
/-- A text that may be a line and its sum. -/
abbrev formed (s : List UInt8) (n : Nat) : Prop := ((s.getD n 0).toNat : Int) = 32 ∧ lineOk (s.take n) ∧ ∀ b ∈ s.drop (n + 1), hexB b
def openN (s : List UInt8) (n : Nat) : AVal :=
  if ¬ formed s n then .tup [sv [], .int .i64 14] else if ¬ sealV (s.take n) = s then .tup [sv [], .int .i64 13] else .tup [sv (s.take n), .int .i64 0]
def openV (s : List UInt8) : AVal := if s.length < 9 then .tup [sv [], .int .i64 14] else openN s (s.length - 9)
noncomputable def F14 : List AVal → Option AVal := pureF C10 1 14
theorem sound14 : Sound Tryd.prog 14 F14 := sound_self ok10 1 14
theorem F14_eq {s : List UInt8} (hs : s.length ≤ 100000) : F14 [sv s] = some (openV s) := by
  unfold F14
  refine pureF_of (x := x14) rfl rfl ?_
  rw [x14_eq.1, x14_eq.2.1]
  unfold openV
  by_cases h9 : s.length < 9
  · have d1 : decide ((s.length : Int) - 9 < 0) = true := decide_eq_true (by omega)
    rw [if_pos h9]
    simp (disch := first | omega | simp only [go_sem, tm0, ↓reduceIte, Nat.reduceAdd, Nat.reduceMul, Nat.reduceSub, Nat.reduceLeDiff, Nat.reduceLT, Nat.reduceEqDiff, Int.reduceLT, Int.reduceLE, Int.reduceAdd, Int.reduceSub, Int.reduceMul, Int.reduceToNat, Int.reducePow, Int.reduceNe, Int.reduceMod, Int.reduceDiv, ne_eq, Int.reduceEq, not_false_eq_true, Nat.reducePow, List.length_append, List.length_replicate, List.replicate_succ, List.replicate_zero, Int.cast_ofNat_Int, not_true_eq_false, decide_true, decide_false, ite_self, beq_self_eq_true, Bool.true_beq, Bool.false_beq, Bool.not_true, Bool.not_false, Int.reduceNeg, dropK_eq]) only [x14b, go_sem, tm0, ↓reduceIte, Nat.reduceAdd, Nat.reduceMul, Nat.reduceSub, Nat.reduceLeDiff, Nat.reduceLT, Nat.reduceEqDiff, Int.reduceLT, Int.reduceLE, Int.reduceAdd, Int.reduceSub, Int.reduceMul, Int.reduceToNat, Int.reducePow, Int.reduceNe, Int.reduceMod, Int.reduceDiv, ne_eq, Int.reduceEq, not_false_eq_true, Nat.reducePow, List.length_append, List.length_replicate, List.replicate_succ, List.replicate_zero, Int.cast_ofNat_Int, not_true_eq_false, decide_true, decide_false, ite_self, beq_self_eq_true, Bool.true_beq, Bool.false_beq, Bool.not_true, Bool.not_false, Int.reduceNeg, dropK_eq, d1]
    exact Ends_plain rfl rfl
  · rw [if_neg h9]
    obtain ⟨n, hn⟩ : ∃ n, s.length = n + 9 := ⟨s.length - 9, by omega⟩
    have en : s.length - 9 = n := by omega
    have ei : (s.length : Int) - 9 = (n : Int) := by omega
    have d1 : decide ((n : Int) < 0) = false := decide_eq_false (by omega)
    have ix := str_ixN .i64 (l := s) (i := n) (by omega)
    have hs1 := str_sliceTo (l := s) (hi := n) (by omega)
    have hs2 := str_sliceFrom (l := s) (lo := n + 1) (by omega)
    rw [Int.natCast_add, Int.natCast_one] at hs2
    have hl : (s.take n).length ≤ 100000 := by simp; omega
    have e16 := F16_eq hl
    have e17 := F17_eq hl
    have ht := trim_nil (s.drop (n + 1)) hexs
    have e20 : F_trim [sv (s.drop (n + 1)), sv hexs] = some (sv (Lib.trimS (s.drop (n + 1)) hexs)) := by
      have e0 : F_trim [sv (s.drop (n + 1)), sv hexs] = if (bs (s.drop (n + 1))).size ≤ 1000000 ∧ (bs hexs).size ≤ 1000000 ∧ (bs hexs).data.toList.all (fun b => decide (b.toNat < 128)) = true then some (sv (Lib.trimS (bs (s.drop (n + 1))).data.toList (bs hexs).data.toList)) else none := rfl
      have hc : (bs (s.drop (n + 1))).size ≤ 1000000 ∧ (bs hexs).size ≤ 1000000 ∧ (bs hexs).data.toList.all (fun b => decide (b.toNat < 128)) = true := ⟨by rw [bs_size, List.length_drop]; omega, by rw [bs_size]; decide, by rw [bs_data]; decide⟩
      rw [e0, if_pos hc, bs_data, bs_data]
    rw [en]
    unfold openN
    have hall : (∀ b ∈ s.drop (n + 1), hexB b) ↔ Lib.trimS (s.drop (n + 1)) hexs = [] := by
      rw [ht]
      constructor
      · intro h b hb; rw [hex_mem]; exact decide_eq_true (h b hb)
      · intro h b hb; have := h b hb; rw [hex_mem] at this; exact of_decide_eq_true this
    simp only [hexs] at e20
    by_cases c1 : ((s.getD n 0).toNat : Int) = 32
    · have d2 : decide (¬ ((s.getD n 0).toNat : Int) = 32) = false := decide_eq_false (by simpa using c1)
      by_cases c2 : lineOk (s.take n)
      · rw [decide_eq_true c2] at e16
        by_cases c3 : ∀ b ∈ s.drop (n + 1), hexB b
        · have d3 : (Lib.trimS (s.drop (n + 1)) hexs = []) = True := eq_true (hall.1 c3)
          simp only [hexs] at d3
          rw [if_neg (fun h => h ⟨c1, c2, c3⟩)]
          by_cases c4 : sealV (s.take n) = s
          · have d4 : decide (¬ sealV (s.take n) = s) = false := decide_eq_false (by simpa using c4)
            rw [if_neg (by simpa using c4)]
            simp (disch := first | omega | simp only [go_sem, tm0, ↓reduceIte, Nat.reduceAdd, Nat.reduceMul, Nat.reduceSub, Nat.reduceLeDiff, Nat.reduceLT, Nat.reduceEqDiff, Int.reduceLT, Int.reduceLE, Int.reduceAdd, Int.reduceSub, Int.reduceMul, Int.reduceToNat, Int.reducePow, Int.reduceNe, Int.reduceMod, Int.reduceDiv, ne_eq, Int.reduceEq, not_false_eq_true, Nat.reducePow, List.length_append, List.length_replicate, List.replicate_succ, List.replicate_zero, Int.cast_ofNat_Int, not_true_eq_false, decide_true, decide_false, ite_self, beq_self_eq_true, Bool.true_beq, Bool.false_beq, Bool.not_true, Bool.not_false, Int.reduceNeg, dropK_eq]) only [x14b, go_sem, tm0, ↓reduceIte, Nat.reduceAdd, Nat.reduceMul, Nat.reduceSub, Nat.reduceLeDiff, Nat.reduceLT, Nat.reduceEqDiff, Int.reduceLT, Int.reduceLE, Int.reduceAdd, Int.reduceSub, Int.reduceMul, Int.reduceToNat, Int.reducePow, Int.reduceNe, Int.reduceMod, Int.reduceDiv, ne_eq, Int.reduceEq, not_false_eq_true, Nat.reducePow, List.length_append, List.length_replicate, List.replicate_succ, List.replicate_zero, Int.cast_ofNat_Int, not_true_eq_false, decide_true, decide_false, ite_self, beq_self_eq_true, Bool.true_beq, Bool.false_beq, Bool.not_true, Bool.not_false, Int.reduceNeg, dropK_eq, ei, d1, ix, d2, hs1, hs2, d3, not_true_eq_false, not_false_eq_true, decide_true, decide_false, d4, callX_known (C := C10) (g := 16) rfl, ft_call (C := C10) (g := 16) rfl, callX_known (C := C10) (g := 17) rfl, ft_call (C := C10) (g := 17) rfl, callX_known (C := C10) (g := 20) rfl, ft_call (C := C10) (g := 20) rfl, e16, e17, e20]
            exact Ends_plain rfl rfl
          · have d4 : decide (¬ sealV (s.take n) = s) = true := decide_eq_true c4
            rw [if_pos c4]
            simp (disch := first | omega | simp only [go_sem, tm0, ↓reduceIte, Nat.reduceAdd, Nat.reduceMul, Nat.reduceSub, Nat.reduceLeDiff, Nat.reduceLT, Nat.reduceEqDiff, Int.reduceLT, Int.reduceLE, Int.reduceAdd, Int.reduceSub, Int.reduceMul, Int.reduceToNat, Int.reducePow, Int.reduceNe, Int.reduceMod, Int.reduceDiv, ne_eq, Int.reduceEq, not_false_eq_true, Nat.reducePow, List.length_append, List.length_replicate, List.replicate_succ, List.replicate_zero, Int.cast_ofNat_Int, not_true_eq_false, decide_true, decide_false, ite_self, beq_self_eq_true, Bool.true_beq, Bool.false_beq, Bool.not_true, Bool.not_false, Int.reduceNeg, dropK_eq]) only [x14b, go_sem, tm0, ↓reduceIte, Nat.reduceAdd, Nat.reduceMul, Nat.reduceSub, Nat.reduceLeDiff, Nat.reduceLT, Nat.reduceEqDiff, Int.reduceLT, Int.reduceLE, Int.reduceAdd, Int.reduceSub, Int.reduceMul, Int.reduceToNat, Int.reducePow, Int.reduceNe, Int.reduceMod, Int.reduceDiv, ne_eq, Int.reduceEq, not_false_eq_true, Nat.reducePow, List.length_append, List.length_replicate, List.replicate_succ, List.replicate_zero, Int.cast_ofNat_Int, not_true_eq_false, decide_true, decide_false, ite_self, beq_self_eq_true, Bool.true_beq, Bool.false_beq, Bool.not_true, Bool.not_false, Int.reduceNeg, dropK_eq, ei, d1, ix, d2, hs1, hs2, d3, not_true_eq_false, not_false_eq_true, decide_true, decide_false, d4, callX_known (C := C10) (g := 16) rfl, ft_call (C := C10) (g := 16) rfl, callX_known (C := C10) (g := 17) rfl, ft_call (C := C10) (g := 17) rfl, callX_known (C := C10) (g := 20) rfl, ft_call (C := C10) (g := 20) rfl, e16, e17, e20]
            exact Ends_plain rfl rfl
        · have d3 : (Lib.trimS (s.drop (n + 1)) hexs = []) = False := eq_false (fun e => c3 (hall.2 e))
          simp only [hexs] at d3
          rw [if_pos (fun h => c3 h.2.2)]
          simp (disch := first | omega | simp only [go_sem, tm0, ↓reduceIte, Nat.reduceAdd, Nat.reduceMul, Nat.reduceSub, Nat.reduceLeDiff, Nat.reduceLT, Nat.reduceEqDiff, Int.reduceLT, Int.reduceLE, Int.reduceAdd, Int.reduceSub, Int.reduceMul, Int.reduceToNat, Int.reducePow, Int.reduceNe, Int.reduceMod, Int.reduceDiv, ne_eq, Int.reduceEq, not_false_eq_true, Nat.reducePow, List.length_append, List.length_replicate, List.replicate_succ, List.replicate_zero, Int.cast_ofNat_Int, not_true_eq_false, decide_true, decide_false, ite_self, beq_self_eq_true, Bool.true_beq, Bool.false_beq, Bool.not_true, Bool.not_false, Int.reduceNeg, dropK_eq]) only [x14b, go_sem, tm0, ↓reduceIte, Nat.reduceAdd, Nat.reduceMul, Nat.reduceSub, Nat.reduceLeDiff, Nat.reduceLT, Nat.reduceEqDiff, Int.reduceLT, Int.reduceLE, Int.reduceAdd, Int.reduceSub, Int.reduceMul, Int.reduceToNat, Int.reducePow, Int.reduceNe, Int.reduceMod, Int.reduceDiv, ne_eq, Int.reduceEq, not_false_eq_true, Nat.reducePow, List.length_append, List.length_replicate, List.replicate_succ, List.replicate_zero, Int.cast_ofNat_Int, not_true_eq_false, decide_true, decide_false, ite_self, beq_self_eq_true, Bool.true_beq, Bool.false_beq, Bool.not_true, Bool.not_false, Int.reduceNeg, dropK_eq, ei, d1, ix, d2, hs1, hs2, d3, not_true_eq_false, not_false_eq_true, decide_true, decide_false, callX_known (C := C10) (g := 16) rfl, ft_call (C := C10) (g := 16) rfl, callX_known (C := C10) (g := 17) rfl, ft_call (C := C10) (g := 17) rfl, callX_known (C := C10) (g := 20) rfl, ft_call (C := C10) (g := 20) rfl, e16, e17, e20]
          exact Ends_plain rfl rfl
      · rw [decide_eq_false c2] at e16
        rw [if_pos (fun h => c2 h.2.1)]
        simp (disch := first | omega | simp only [go_sem, tm0, ↓reduceIte, Nat.reduceAdd, Nat.reduceMul, Nat.reduceSub, Nat.reduceLeDiff, Nat.reduceLT, Nat.reduceEqDiff, Int.reduceLT, Int.reduceLE, Int.reduceAdd, Int.reduceSub, Int.reduceMul, Int.reduceToNat, Int.reducePow, Int.reduceNe, Int.reduceMod, Int.reduceDiv, ne_eq, Int.reduceEq, not_false_eq_true, Nat.reducePow, List.length_append, List.length_replicate, List.replicate_succ, List.replicate_zero, Int.cast_ofNat_Int, not_true_eq_false, decide_true, decide_false, ite_self, beq_self_eq_true, Bool.true_beq, Bool.false_beq, Bool.not_true, Bool.not_false, Int.reduceNeg, dropK_eq]) only [x14b, go_sem, tm0, ↓reduceIte, Nat.reduceAdd, Nat.reduceMul, Nat.reduceSub, Nat.reduceLeDiff, Nat.reduceLT, Nat.reduceEqDiff, Int.reduceLT, Int.reduceLE, Int.reduceAdd, Int.reduceSub, Int.reduceMul, Int.reduceToNat, Int.reducePow, Int.reduceNe, Int.reduceMod, Int.reduceDiv, ne_eq, Int.reduceEq, not_false_eq_true, Nat.reducePow, List.length_append, List.length_replicate, List.replicate_succ, List.replicate_zero, Int.cast_ofNat_Int, not_true_eq_false, decide_true, decide_false, ite_self, beq_self_eq_true, Bool.true_beq, Bool.false_beq, Bool.not_true, Bool.not_false, Int.reduceNeg, dropK_eq, ei, d1, ix, d2, hs1, callX_known (C := C10) (g := 16) rfl, ft_call (C := C10) (g := 16) rfl, e16]
        exact Ends_plain rfl rfl
    · have d2 : decide (¬ ((s.getD n 0).toNat : Int) = 32) = true := decide_eq_true c1
      rw [if_pos (fun h => c1 h.1)]
      simp (disch := first | omega | simp only [go_sem, tm0, ↓reduceIte, Nat.reduceAdd, Nat.reduceMul, Nat.reduceSub, Nat.reduceLeDiff, Nat.reduceLT, Nat.reduceEqDiff, Int.reduceLT, Int.reduceLE, Int.reduceAdd, Int.reduceSub, Int.reduceMul, Int.reduceToNat, Int.reducePow, Int.reduceNe, Int.reduceMod, Int.reduceDiv, ne_eq, Int.reduceEq, not_false_eq_true, Nat.reducePow, List.length_append, List.length_replicate, List.replicate_succ, List.replicate_zero, Int.cast_ofNat_Int, not_true_eq_false, decide_true, decide_false, ite_self, beq_self_eq_true, Bool.true_beq, Bool.false_beq, Bool.not_true, Bool.not_false, Int.reduceNeg, dropK_eq]) only [x14b, go_sem, tm0, ↓reduceIte, Nat.reduceAdd, Nat.reduceMul, Nat.reduceSub, Nat.reduceLeDiff, Nat.reduceLT, Nat.reduceEqDiff, Int.reduceLT, Int.reduceLE, Int.reduceAdd, Int.reduceSub, Int.reduceMul, Int.reduceToNat, Int.reducePow, Int.reduceNe, Int.reduceMod, Int.reduceDiv, ne_eq, Int.reduceEq, not_false_eq_true, Nat.reducePow, List.length_append, List.length_replicate, List.replicate_succ, List.replicate_zero, Int.cast_ofNat_Int, not_true_eq_false, decide_true, decide_false, ite_self, beq_self_eq_true, Bool.true_beq, Bool.false_beq, Bool.not_true, Bool.not_false, Int.reduceNeg, dropK_eq, ei, d1, ix, d2]
      exact Ends_plain rfl rfl
end Go.Proofs.YtaddodioccobmaaDoor
