/-
  A scan: the program's, token by token.
-/
import Derived.Test.YtjcjlgiigjckeaaDoorYI
set_option linter.unusedVariables false
set_option linter.unusedSimpArgs false
namespace Go.Proofs.YtjcjlgiigjckeaaDoor
open Go Go.Xec

set_option maxRecDepth 10000
theorem nilA_nili : nilA 1 .nili = some true := rfl
theorem nilA_ifc1 (te : TypeId) (x : AVal) : nilA 1 (.ifc te x) = some false := rfl
/-- A scan's state. -/
abbrev At (hp : Heap) (κ : Key) (s : List UInt8) (i : Nat) : Prop := hp κ = some (.var [sv s, .int .i64 (i : Nat)])
/-- What is left alone. -/
abbrev Kept (b : Nat) (κ : Key) (hp hp' : Heap) : Prop := ∀ k, k ≠ κ → k.1 < b → hp' k = hp k
def n33V : Except Int (Int × Nat) → AVal
  | .error e => .tup [T0, .int .i64 e]
  | .ok (n, _) => .tup [TK ⟨2, [], n, 0⟩, .int .i64 0]
theorem lt44 {d : Nat} (b : UInt8) (hp : Heap) (nc : Nat) (K : AVal × Heap × Nat → Prop) (hK : ∀ nc', K (.bool (mnB b), hp, nc')) : Bd (callX C8 (inlD C8 (d + 1)) (.fn (.func 44) [] []) [.int .u8 b.toNat] hp nc) K := by
  rw [call_inl (C := C8) (g := 44) rfl]
  refine inl_of (x := x44) rfl rfl ?_
  rw [x44_eq.1, x44_eq.2.1]
  simp (disch := first | omega | simp only [go_sem, tm0, ↓reduceIte, Nat.reduceAdd, Nat.reduceMul, Nat.reduceSub, Nat.reduceLeDiff, Nat.reduceLT, Nat.reduceEqDiff, Int.reduceLT, Int.reduceLE, Int.reduceAdd, Int.reduceSub, Int.reduceMul, Int.reduceToNat, Int.reducePow, Int.reduceNe, Int.reduceMod, Int.reduceDiv, ne_eq, Int.reduceEq, not_false_eq_true, Nat.reducePow, List.length_append, List.length_replicate, List.replicate_succ, List.replicate_zero, Int.cast_ofNat_Int, not_true_eq_false, decide_true, decide_false, ite_self, beq_self_eq_true, Bool.true_beq, Bool.false_beq, Bool.not_true, Bool.not_false, Int.reduceNeg, dropK_eq]) only [x44b, go_sem, tm0, ↓reduceIte, Nat.reduceAdd, Nat.reduceMul, Nat.reduceSub, Nat.reduceLeDiff, Nat.reduceLT, Nat.reduceEqDiff, Int.reduceLT, Int.reduceLE, Int.reduceAdd, Int.reduceSub, Int.reduceMul, Int.reduceToNat, Int.reducePow, Int.reduceNe, Int.reduceMod, Int.reduceDiv, ne_eq, Int.reduceEq, not_false_eq_true, Nat.reducePow, List.length_append, List.length_replicate, List.replicate_succ, List.replicate_zero, Int.cast_ofNat_Int, not_true_eq_false, decide_true, decide_false, ite_self, beq_self_eq_true, Bool.true_beq, Bool.false_beq, Bool.not_true, Bool.not_false, Int.reduceNeg, dropK_eq]
  exact hK _
theorem lt32 {d : Nat} (b : UInt8) (hp : Heap) (nc : Nat) (K : AVal × Heap × Nat → Prop) (hK : ∀ nc', K (.bool (dgB b), hp, nc')) : Bd (callX C8 (inlD C8 d) (.fn (.func 32) [] []) [.int .u8 b.toNat] hp nc) K := by
  have e := F32_eq (n := (b.toNat : Int))
  simp (disch := first | omega | simp only [go_sem, tm0, ↓reduceIte, Nat.reduceAdd, Nat.reduceMul, Nat.reduceSub, Nat.reduceLeDiff, Nat.reduceLT, Nat.reduceEqDiff, Int.reduceLT, Int.reduceLE, Int.reduceAdd, Int.reduceSub, Int.reduceMul, Int.reduceToNat, Int.reducePow, Int.reduceNe, Int.reduceMod, Int.reduceDiv, ne_eq, Int.reduceEq, not_false_eq_true, Nat.reducePow, List.length_append, List.length_replicate, List.replicate_succ, List.replicate_zero, Int.cast_ofNat_Int, not_true_eq_false, decide_true, decide_false, ite_self, beq_self_eq_true, Bool.true_beq, Bool.false_beq, Bool.not_true, Bool.not_false, Int.reduceNeg, dropK_eq]) only [go_sem, tm0, ↓reduceIte, Nat.reduceAdd, Nat.reduceMul, Nat.reduceSub, Nat.reduceLeDiff, Nat.reduceLT, Nat.reduceEqDiff, Int.reduceLT, Int.reduceLE, Int.reduceAdd, Int.reduceSub, Int.reduceMul, Int.reduceToNat, Int.reducePow, Int.reduceNe, Int.reduceMod, Int.reduceDiv, ne_eq, Int.reduceEq, not_false_eq_true, Nat.reducePow, List.length_append, List.length_replicate, List.replicate_succ, List.replicate_zero, Int.cast_ofNat_Int, not_true_eq_false, decide_true, decide_false, ite_self, beq_self_eq_true, Bool.true_beq, Bool.false_beq, Bool.not_true, Bool.not_false, Int.reduceNeg, dropK_eq, callX_known (C := C8) (g := 32) rfl, ft_call (C := C8) (g := 32) rfl, e]
  exact hK _
theorem lt34 {d : Nat} (b : UInt8) (hp : Heap) (nc : Nat) (K : AVal × Heap × Nat → Prop) (hK : ∀ nc', K (.bool (ltB b), hp, nc')) : Bd (callX C8 (inlD C8 d) (.fn (.func 34) [] []) [.int .u8 b.toNat] hp nc) K := by
  have e := F34_eq (n := (b.toNat : Int))
  simp (disch := first | omega | simp only [go_sem, tm0, ↓reduceIte, Nat.reduceAdd, Nat.reduceMul, Nat.reduceSub, Nat.reduceLeDiff, Nat.reduceLT, Nat.reduceEqDiff, Int.reduceLT, Int.reduceLE, Int.reduceAdd, Int.reduceSub, Int.reduceMul, Int.reduceToNat, Int.reducePow, Int.reduceNe, Int.reduceMod, Int.reduceDiv, ne_eq, Int.reduceEq, not_false_eq_true, Nat.reducePow, List.length_append, List.length_replicate, List.replicate_succ, List.replicate_zero, Int.cast_ofNat_Int, not_true_eq_false, decide_true, decide_false, ite_self, beq_self_eq_true, Bool.true_beq, Bool.false_beq, Bool.not_true, Bool.not_false, Int.reduceNeg, dropK_eq]) only [go_sem, tm0, ↓reduceIte, Nat.reduceAdd, Nat.reduceMul, Nat.reduceSub, Nat.reduceLeDiff, Nat.reduceLT, Nat.reduceEqDiff, Int.reduceLT, Int.reduceLE, Int.reduceAdd, Int.reduceSub, Int.reduceMul, Int.reduceToNat, Int.reducePow, Int.reduceNe, Int.reduceMod, Int.reduceDiv, ne_eq, Int.reduceEq, not_false_eq_true, Nat.reducePow, List.length_append, List.length_replicate, List.replicate_succ, List.replicate_zero, Int.cast_ofNat_Int, not_true_eq_false, decide_true, decide_false, ite_self, beq_self_eq_true, Bool.true_beq, Bool.false_beq, Bool.not_true, Bool.not_false, Int.reduceNeg, dropK_eq, callX_known (C := C8) (g := 34) rfl, ft_call (C := C8) (g := 34) rfl, e]
  exact hK _
theorem lt29 {d : Nat} {a : AVal} (b : UInt8) (hp : Heap) (nc : Nat) (K : AVal × Heap × Nat → Prop) (hK : ∀ nc', K (.bool (inB b), hp, nc')) : Bd (callX C8 (inlD C8 (d + 1)) (.fn (.func 29) [a] []) [.int .u8 b.toNat] hp nc) K := by
  rw [call_inl (C := C8) (g := 29) rfl]
  refine inl_of (x := x29) rfl rfl ?_
  rw [x29_eq.1, x29_eq.2.1]
  simp (disch := first | omega | simp only [go_sem, tm0, ↓reduceIte, Nat.reduceAdd, Nat.reduceMul, Nat.reduceSub, Nat.reduceLeDiff, Nat.reduceLT, Nat.reduceEqDiff, Int.reduceLT, Int.reduceLE, Int.reduceAdd, Int.reduceSub, Int.reduceMul, Int.reduceToNat, Int.reducePow, Int.reduceNe, Int.reduceMod, Int.reduceDiv, ne_eq, Int.reduceEq, not_false_eq_true, Nat.reducePow, List.length_append, List.length_replicate, List.replicate_succ, List.replicate_zero, Int.cast_ofNat_Int, not_true_eq_false, decide_true, decide_false, ite_self, beq_self_eq_true, Bool.true_beq, Bool.false_beq, Bool.not_true, Bool.not_false, Int.reduceNeg, dropK_eq]) only [x29b, go_sem, tm0, ↓reduceIte, Nat.reduceAdd, Nat.reduceMul, Nat.reduceSub, Nat.reduceLeDiff, Nat.reduceLT, Nat.reduceEqDiff, Int.reduceLT, Int.reduceLE, Int.reduceAdd, Int.reduceSub, Int.reduceMul, Int.reduceToNat, Int.reducePow, Int.reduceNe, Int.reduceMod, Int.reduceDiv, ne_eq, Int.reduceEq, not_false_eq_true, Nat.reducePow, List.length_append, List.length_replicate, List.replicate_succ, List.replicate_zero, Int.cast_ofNat_Int, not_true_eq_false, decide_true, decide_false, ite_self, beq_self_eq_true, Bool.true_beq, Bool.false_beq, Bool.not_true, Bool.not_false, Int.reduceNeg, dropK_eq]
  exact hK _
theorem number33 {d : Nat} {κ : Key} {hp : Heap} {nc : Nat} {s : List UInt8} {i : Nat} {K : AVal × Heap × Nat → Prop} (hκ : κ.1 < 8000000) (hs : s.length ≤ 100000) (hi : i < s.length) (hk : At hp κ s i)
    (hK : ∀ hp' nc', (∀ n k, numR (s.drop i) = .ok (n, k) → At hp' κ s (i + k)) → Kept 30000000 κ hp hp' → K (n33V (numR (s.drop i)), hp', nc')) :
    Bd (inlD C8 (d + 3) 33 [.ptr κ 0 0 0 0] hp nc) K := by
  have hkn : ∀ c, κ ≠ (33000000, c) := fun c e => by rw [e] at hκ; simp at hκ
  refine inl_of (x := x33) rfl rfl ?_
  rw [x33_eq.1, x33_eq.2.1]
  simp (disch := first | omega | simp only [go_sem, tm0, ↓reduceIte, Nat.reduceAdd, Nat.reduceMul, Nat.reduceSub, Nat.reduceLeDiff, Nat.reduceLT, Nat.reduceEqDiff, Int.reduceLT, Int.reduceLE, Int.reduceAdd, Int.reduceSub, Int.reduceMul, Int.reduceToNat, Int.reducePow, Int.reduceNe, Int.reduceMod, Int.reduceDiv, ne_eq, Int.reduceEq, not_false_eq_true, Nat.reducePow, List.length_append, List.length_replicate, List.replicate_succ, List.replicate_zero, Int.cast_ofNat_Int, not_true_eq_false, decide_true, decide_false, ite_self, beq_self_eq_true, Bool.true_beq, Bool.false_beq, Bool.not_true, Bool.not_false, Int.reduceNeg, dropK_eq]) only [x33b, go_sem, tm0, ↓reduceIte, Nat.reduceAdd, Nat.reduceMul, Nat.reduceSub, Nat.reduceLeDiff, Nat.reduceLT, Nat.reduceEqDiff, Int.reduceLT, Int.reduceLE, Int.reduceAdd, Int.reduceSub, Int.reduceMul, Int.reduceToNat, Int.reducePow, Int.reduceNe, Int.reduceMod, Int.reduceDiv, ne_eq, Int.reduceEq, not_false_eq_true, Nat.reducePow, List.length_append, List.length_replicate, List.replicate_succ, List.replicate_zero, Int.cast_ofNat_Int, not_true_eq_false, decide_true, decide_false, ite_self, beq_self_eq_true, Bool.true_beq, Bool.false_beq, Bool.not_true, Bool.not_false, Int.reduceNeg, dropK_eq, call_inl (C := C8) (g := 30) rfl]
  refine while30 (p := mnB) (i := i) hs (by omega) ?_ (fun b hp nc K h => lt44 b hp nc K h) ?_
  · rw [upd_ne _ _ (hkn _)]; exact hk
  intro hp1 nc1 hk1 hn1
  simp (disch := first | omega | simp only [go_sem, tm0, ↓reduceIte, Nat.reduceAdd, Nat.reduceMul, Nat.reduceSub, Nat.reduceLeDiff, Nat.reduceLT, Nat.reduceEqDiff, Int.reduceLT, Int.reduceLE, Int.reduceAdd, Int.reduceSub, Int.reduceMul, Int.reduceToNat, Int.reducePow, Int.reduceNe, Int.reduceMod, Int.reduceDiv, ne_eq, Int.reduceEq, not_false_eq_true, Nat.reducePow, List.length_append, List.length_replicate, List.replicate_succ, List.replicate_zero, Int.cast_ofNat_Int, not_true_eq_false, decide_true, decide_false, ite_self, beq_self_eq_true, Bool.true_beq, Bool.false_beq, Bool.not_true, Bool.not_false, Int.reduceNeg, dropK_eq]) only [go_sem, tm0, ↓reduceIte, Nat.reduceAdd, Nat.reduceMul, Nat.reduceSub, Nat.reduceLeDiff, Nat.reduceLT, Nat.reduceEqDiff, Int.reduceLT, Int.reduceLE, Int.reduceAdd, Int.reduceSub, Int.reduceMul, Int.reduceToNat, Int.reducePow, Int.reduceNe, Int.reduceMod, Int.reduceDiv, ne_eq, Int.reduceEq, not_false_eq_true, Nat.reducePow, List.length_append, List.length_replicate, List.replicate_succ, List.replicate_zero, Int.cast_ofNat_Int, not_true_eq_false, decide_true, decide_false, ite_self, beq_self_eq_true, Bool.true_beq, Bool.false_beq, Bool.not_true, Bool.not_false, Int.reduceNeg, dropK_eq, call_inl (C := C8) (g := 30) rfl]
  have hl1 := (List.takeWhile_prefix (l := s.drop i) mnB).length_le
  rw [List.length_drop] at hl1
  refine while30 (p := dgB) (i := i + ((s.drop i).takeWhile mnB).length) hs (by omega) hk1 (fun b hp nc K h => lt32 b hp nc K h) ?_
  intro hp2 nc2 hk2 hn2
  have hl2 := (List.takeWhile_prefix (l := s.drop (i + ((s.drop i).takeWhile mnB).length)) dgB).length_le
  rw [List.length_drop] at hl2
  have hkept : ∀ v, Kept 30000000 κ hp (upd hp2 (33000000, nc) v) := by
    intro v k h1 h2
    rw [upd_ne _ _ (by rintro rfl; simp at h2), hn2 k h1, hn1 k h1, upd_ne _ _ (by rintro rfl; simp at h2)]
  have hv : hp2 (33000000, nc) = some (.var [.int .i64 0, sv [], .int .i64 0, .int .i64 0]) := by
    rw [hn2 _ (fun e => hkn _ e.symm), hn1 _ (fun e => hkn _ e.symm), upd_same]
  have hsp := num_split hi
  generalize hσ : (s.drop i).takeWhile mnB = σ at *
  generalize hds : (s.drop (i + σ.length)).takeWhile dgB = ds at *
  have hdd : digs ds := by rw [← hds]; exact take_digs _
  have hslen : σ.length + ds.length < 9223372036854775808 := by omega
  have hat : ∀ v, At (upd hp2 (33000000, nc) v) κ s (i + (σ.length + ds.length)) := by
    intro v
    have : i + (σ.length + ds.length) = i + σ.length + ds.length := by omega
    rw [this]
    exact (upd_ne _ _ (hkn _)).trans hk2
  by_cases h0 : ds = []
  · have hnum : numR (s.drop i) = .error 7 := by
      rcases hsp with ⟨h1, h2⟩ | ⟨h1, h2⟩ | ⟨h1, h2⟩
      · rw [h2]
        rw [h1] at hds
        simp only [List.length_nil, Nat.add_zero] at hds
        rw [hds, h0, numN, if_pos rfl]
      · rw [h2]
        rw [h1] at hds
        simp only [List.length_cons, List.length_nil] at hds
        rw [hds, h0, numN, if_pos rfl]
      · exact h2
    rw [hnum] at hK
    simp only [n33V] at hK
    have d1 := decide_eq_true h0
    simp (disch := first | omega | simp only [go_sem, tm0, ↓reduceIte, Nat.reduceAdd, Nat.reduceMul, Nat.reduceSub, Nat.reduceLeDiff, Nat.reduceLT, Nat.reduceEqDiff, Int.reduceLT, Int.reduceLE, Int.reduceAdd, Int.reduceSub, Int.reduceMul, Int.reduceToNat, Int.reducePow, Int.reduceNe, Int.reduceMod, Int.reduceDiv, ne_eq, Int.reduceEq, not_false_eq_true, Nat.reducePow, List.length_append, List.length_replicate, List.replicate_succ, List.replicate_zero, Int.cast_ofNat_Int, not_true_eq_false, decide_true, decide_false, ite_self, beq_self_eq_true, Bool.true_beq, Bool.false_beq, Bool.not_true, Bool.not_false, Int.reduceNeg, dropK_eq]) only [go_sem, tm0, ↓reduceIte, Nat.reduceAdd, Nat.reduceMul, Nat.reduceSub, Nat.reduceLeDiff, Nat.reduceLT, Nat.reduceEqDiff, Int.reduceLT, Int.reduceLE, Int.reduceAdd, Int.reduceSub, Int.reduceMul, Int.reduceToNat, Int.reducePow, Int.reduceNe, Int.reduceMod, Int.reduceDiv, ne_eq, Int.reduceEq, not_false_eq_true, Nat.reducePow, List.length_append, List.length_replicate, List.replicate_succ, List.replicate_zero, Int.cast_ofNat_Int, not_true_eq_false, decide_true, decide_false, ite_self, beq_self_eq_true, Bool.true_beq, Bool.false_beq, Bool.not_true, Bool.not_false, Int.reduceNeg, dropK_eq, d1, hv]
    exact hK _ _ (fun n k h => by cases h) (hkept _)
  · have d1 := decide_eq_false h0
    by_cases h1 : 1 < σ.length
    · have hnum : numR (s.drop i) = .error 7 := by
        rcases hsp with ⟨h1', h2⟩ | ⟨h1', h2⟩ | ⟨h1', h2⟩
        · rw [h1'] at h1; simp at h1
        · rw [h1'] at h1; simp at h1
        · exact h2
      rw [hnum] at hK
      simp only [n33V] at hK
      have d2 : decide ((1 : Int) < (σ.length : Int)) = true := decide_eq_true (by omega)
      simp (disch := first | omega | simp only [go_sem, tm0, ↓reduceIte, Nat.reduceAdd, Nat.reduceMul, Nat.reduceSub, Nat.reduceLeDiff, Nat.reduceLT, Nat.reduceEqDiff, Int.reduceLT, Int.reduceLE, Int.reduceAdd, Int.reduceSub, Int.reduceMul, Int.reduceToNat, Int.reducePow, Int.reduceNe, Int.reduceMod, Int.reduceDiv, ne_eq, Int.reduceEq, not_false_eq_true, Nat.reducePow, List.length_append, List.length_replicate, List.replicate_succ, List.replicate_zero, Int.cast_ofNat_Int, not_true_eq_false, decide_true, decide_false, ite_self, beq_self_eq_true, Bool.true_beq, Bool.false_beq, Bool.not_true, Bool.not_false, Int.reduceNeg, dropK_eq]) only [go_sem, tm0, ↓reduceIte, Nat.reduceAdd, Nat.reduceMul, Nat.reduceSub, Nat.reduceLeDiff, Nat.reduceLT, Nat.reduceEqDiff, Int.reduceLT, Int.reduceLE, Int.reduceAdd, Int.reduceSub, Int.reduceMul, Int.reduceToNat, Int.reducePow, Int.reduceNe, Int.reduceMod, Int.reduceDiv, ne_eq, Int.reduceEq, not_false_eq_true, Nat.reducePow, List.length_append, List.length_replicate, List.replicate_succ, List.replicate_zero, Int.cast_ofNat_Int, not_true_eq_false, decide_true, decide_false, ite_self, beq_self_eq_true, Bool.true_beq, Bool.false_beq, Bool.not_true, Bool.not_false, Int.reduceNeg, dropK_eq, d1, d2, hv]
      exact hK _ _ (fun n k h => by cases h) (hkept _)
    · have d2 : decide ((1 : Int) < (σ.length : Int)) = false := decide_eq_false (by omega)
      obtain ⟨neg, hσe, hnum⟩ : ∃ neg : Bool, σ = (if neg then [45] else []) ∧ numR (s.drop i) = numN neg ds := by
        rcases hsp with ⟨h1', h2⟩ | ⟨h1', h2⟩ | ⟨h1', h2⟩
        · refine ⟨false, by rw [h1']; rfl, ?_⟩
          rw [h1'] at hds
          simp only [List.length_nil, Nat.add_zero] at hds
          rw [h2, hds]
        · refine ⟨true, by rw [h1']; rfl, ?_⟩
          rw [h1'] at hds
          simp only [List.length_cons, List.length_nil] at hds
          rw [h2, hds]
        · exact absurd h1' h1
      obtain ⟨v, a, ha, hb⟩ := num_atoi (neg := neg) hdd h0 (by omega)
      rw [← hσe] at ha hb
      have hsl : σ.length = if neg = true then 1 else 0 := by rw [hσe]; cases neg <;> rfl
      rw [hnum] at hK
      rcases hb with ⟨rfl, hb⟩ | ⟨n, rfl, rfl, hn1', hn2', ⟨hn, hi1, hb⟩ | ⟨hn, hb⟩⟩
      · rw [hb] at hK
        simp only [n33V] at hK
        simp (disch := first | omega | simp only [go_sem, tm0, ↓reduceIte, Nat.reduceAdd, Nat.reduceMul, Nat.reduceSub, Nat.reduceLeDiff, Nat.reduceLT, Nat.reduceEqDiff, Int.reduceLT, Int.reduceLE, Int.reduceAdd, Int.reduceSub, Int.reduceMul, Int.reduceToNat, Int.reducePow, Int.reduceNe, Int.reduceMod, Int.reduceDiv, ne_eq, Int.reduceEq, not_false_eq_true, Nat.reducePow, List.length_append, List.length_replicate, List.replicate_succ, List.replicate_zero, Int.cast_ofNat_Int, not_true_eq_false, decide_true, decide_false, ite_self, beq_self_eq_true, Bool.true_beq, Bool.false_beq, Bool.not_true, Bool.not_false, Int.reduceNeg, dropK_eq]) only [go_sem, tm0, ↓reduceIte, Nat.reduceAdd, Nat.reduceMul, Nat.reduceSub, Nat.reduceLeDiff, Nat.reduceLT, Nat.reduceEqDiff, Int.reduceLT, Int.reduceLE, Int.reduceAdd, Int.reduceSub, Int.reduceMul, Int.reduceToNat, Int.reducePow, Int.reduceNe, Int.reduceMod, Int.reduceDiv, ne_eq, Int.reduceEq, not_false_eq_true, Nat.reducePow, List.length_append, List.length_replicate, List.replicate_succ, List.replicate_zero, Int.cast_ofNat_Int, not_true_eq_false, decide_true, decide_false, ite_self, beq_self_eq_true, Bool.true_beq, Bool.false_beq, Bool.not_true, Bool.not_false, Int.reduceNeg, dropK_eq, d1, d2, hv, if_pos hslen, callX_known (C := C8) (g := 45) rfl, ft_call (C := C8) (g := 45) rfl, ha, nilA_nili, nilA_ifc1]
        exact hK _ _ (fun n k h => by cases h) (hkept _)
      · rw [hb] at hK
        simp only [n33V] at hK
        have e26 := F26_eq (n := n)
        rw [decide_eq_true hn] at e26
        have e23 := F_itoa_eq ⟨hn1', hn2'⟩
        have d3 : decide (¬ Lib.itoa n = σ ++ ds) = false := decide_eq_false (by simpa using hi1)
        simp (disch := first | omega | simp only [go_sem, tm0, ↓reduceIte, Nat.reduceAdd, Nat.reduceMul, Nat.reduceSub, Nat.reduceLeDiff, Nat.reduceLT, Nat.reduceEqDiff, Int.reduceLT, Int.reduceLE, Int.reduceAdd, Int.reduceSub, Int.reduceMul, Int.reduceToNat, Int.reducePow, Int.reduceNe, Int.reduceMod, Int.reduceDiv, ne_eq, Int.reduceEq, not_false_eq_true, Nat.reducePow, List.length_append, List.length_replicate, List.replicate_succ, List.replicate_zero, Int.cast_ofNat_Int, not_true_eq_false, decide_true, decide_false, ite_self, beq_self_eq_true, Bool.true_beq, Bool.false_beq, Bool.not_true, Bool.not_false, Int.reduceNeg, dropK_eq]) only [go_sem, tm0, ↓reduceIte, Nat.reduceAdd, Nat.reduceMul, Nat.reduceSub, Nat.reduceLeDiff, Nat.reduceLT, Nat.reduceEqDiff, Int.reduceLT, Int.reduceLE, Int.reduceAdd, Int.reduceSub, Int.reduceMul, Int.reduceToNat, Int.reducePow, Int.reduceNe, Int.reduceMod, Int.reduceDiv, ne_eq, Int.reduceEq, not_false_eq_true, Nat.reducePow, List.length_append, List.length_replicate, List.replicate_succ, List.replicate_zero, Int.cast_ofNat_Int, not_true_eq_false, decide_true, decide_false, ite_self, beq_self_eq_true, Bool.true_beq, Bool.false_beq, Bool.not_true, Bool.not_false, Int.reduceNeg, dropK_eq, d1, d2, hv, if_pos hslen, callX_known (C := C8) (g := 45) rfl, ft_call (C := C8) (g := 45) rfl, callX_known (C := C8) (g := 26) rfl, ft_call (C := C8) (g := 26) rfl, callX_known (C := C8) (g := 23) rfl, ft_call (C := C8) (g := 23) rfl, ha, nilA_nili, nilA_ifc1, e26, e23, d3]
        refine hK _ _ (fun n' k h => ?_) (hkept _)
        simp only [Except.ok.injEq, Prod.mk.injEq] at h
        obtain ⟨_, rfl⟩ := h
        rw [← hsl]
        exact hat _
      · rw [hb] at hK
        simp only [n33V] at hK
        have e26 := F26_eq (n := n)
        have e23 := F_itoa_eq ⟨hn1', hn2'⟩
        by_cases hok : numOk n
        · have d3 : decide (¬ Lib.itoa n = σ ++ ds) = true := decide_eq_true (fun h => hn ⟨hok, h⟩)
          rw [decide_eq_true hok] at e26
          simp (disch := first | omega | simp only [go_sem, tm0, ↓reduceIte, Nat.reduceAdd, Nat.reduceMul, Nat.reduceSub, Nat.reduceLeDiff, Nat.reduceLT, Nat.reduceEqDiff, Int.reduceLT, Int.reduceLE, Int.reduceAdd, Int.reduceSub, Int.reduceMul, Int.reduceToNat, Int.reducePow, Int.reduceNe, Int.reduceMod, Int.reduceDiv, ne_eq, Int.reduceEq, not_false_eq_true, Nat.reducePow, List.length_append, List.length_replicate, List.replicate_succ, List.replicate_zero, Int.cast_ofNat_Int, not_true_eq_false, decide_true, decide_false, ite_self, beq_self_eq_true, Bool.true_beq, Bool.false_beq, Bool.not_true, Bool.not_false, Int.reduceNeg, dropK_eq]) only [go_sem, tm0, ↓reduceIte, Nat.reduceAdd, Nat.reduceMul, Nat.reduceSub, Nat.reduceLeDiff, Nat.reduceLT, Nat.reduceEqDiff, Int.reduceLT, Int.reduceLE, Int.reduceAdd, Int.reduceSub, Int.reduceMul, Int.reduceToNat, Int.reducePow, Int.reduceNe, Int.reduceMod, Int.reduceDiv, ne_eq, Int.reduceEq, not_false_eq_true, Nat.reducePow, List.length_append, List.length_replicate, List.replicate_succ, List.replicate_zero, Int.cast_ofNat_Int, not_true_eq_false, decide_true, decide_false, ite_self, beq_self_eq_true, Bool.true_beq, Bool.false_beq, Bool.not_true, Bool.not_false, Int.reduceNeg, dropK_eq, d1, d2, hv, if_pos hslen, callX_known (C := C8) (g := 45) rfl, ft_call (C := C8) (g := 45) rfl, callX_known (C := C8) (g := 26) rfl, ft_call (C := C8) (g := 26) rfl, callX_known (C := C8) (g := 23) rfl, ft_call (C := C8) (g := 23) rfl, ha, nilA_nili, nilA_ifc1, e26, e23, d3]
          exact hK _ _ (fun n k h => by cases h) (hkept _)
        · rw [decide_eq_false hok] at e26
          simp (disch := first | omega | simp only [go_sem, tm0, ↓reduceIte, Nat.reduceAdd, Nat.reduceMul, Nat.reduceSub, Nat.reduceLeDiff, Nat.reduceLT, Nat.reduceEqDiff, Int.reduceLT, Int.reduceLE, Int.reduceAdd, Int.reduceSub, Int.reduceMul, Int.reduceToNat, Int.reducePow, Int.reduceNe, Int.reduceMod, Int.reduceDiv, ne_eq, Int.reduceEq, not_false_eq_true, Nat.reducePow, List.length_append, List.length_replicate, List.replicate_succ, List.replicate_zero, Int.cast_ofNat_Int, not_true_eq_false, decide_true, decide_false, ite_self, beq_self_eq_true, Bool.true_beq, Bool.false_beq, Bool.not_true, Bool.not_false, Int.reduceNeg, dropK_eq]) only [go_sem, tm0, ↓reduceIte, Nat.reduceAdd, Nat.reduceMul, Nat.reduceSub, Nat.reduceLeDiff, Nat.reduceLT, Nat.reduceEqDiff, Int.reduceLT, Int.reduceLE, Int.reduceAdd, Int.reduceSub, Int.reduceMul, Int.reduceToNat, Int.reducePow, Int.reduceNe, Int.reduceMod, Int.reduceDiv, ne_eq, Int.reduceEq, not_false_eq_true, Nat.reducePow, List.length_append, List.length_replicate, List.replicate_succ, List.replicate_zero, Int.cast_ofNat_Int, not_true_eq_false, decide_true, decide_false, ite_self, beq_self_eq_true, Bool.true_beq, Bool.false_beq, Bool.not_true, Bool.not_false, Int.reduceNeg, dropK_eq, d1, d2, hv, if_pos hslen, callX_known (C := C8) (g := 45) rfl, ft_call (C := C8) (g := 45) rfl, callX_known (C := C8) (g := 26) rfl, ft_call (C := C8) (g := 26) rfl, callX_known (C := C8) (g := 23) rfl, ft_call (C := C8) (g := 23) rfl, ha, nilA_nili, nilA_ifc1, e26, e23]
          exact hK _ _ (fun n k h => by cases h) (hkept _)
theorem F_index_signs (b : UInt8) : F_index [sv [123, 125, 59], .int .u8 b.toNat] = some (.int .i64 (if (b.toNat : Int) = 123 then 0 else if (b.toNat : Int) = 125 then 1 else if (b.toNat : Int) = 59 then 2 else -1)) := by
  simp only [F_index, bs_data, Int.toNat_natCast]
  have e : b.toNat.toUInt8 = b := by simp
  rw [e]
  have h1 : ((b.toNat : Int) = 123) ↔ b = 123 := ⟨fun h => UInt8.toNat_inj.1 (by have : (123 : UInt8).toNat = 123 := rfl; omega), fun h => by rw [h]; rfl⟩
  have h2 : ((b.toNat : Int) = 125) ↔ b = 125 := ⟨fun h => UInt8.toNat_inj.1 (by have : (125 : UInt8).toNat = 125 := rfl; omega), fun h => by rw [h]; rfl⟩
  have h3 : ((b.toNat : Int) = 59) ↔ b = 59 := ⟨fun h => UInt8.toNat_inj.1 (by have : (59 : UInt8).toNat = 59 := rfl; omega), fun h => by rw [h]; rfl⟩
  simp only [h1, h2, h3]
  by_cases c1 : b = 123
  · subst c1; rfl
  · by_cases c2 : b = 125
    · subst c2; rfl
    · by_cases c3 : b = 59
      · subst c3; rfl
      · rw [if_neg c1, if_neg c2, if_neg c3]
        have q1 : (123 == b) = false := by simpa using fun h => c1 h.symm
        have q2 : (125 == b) = false := by simpa using fun h => c2 h.symm
        have q3 : (59 == b) = false := by simpa using fun h => c3 h.symm
        simp only [Lib.indexByte, q1, q2, q3]
        rfl
def t20V : Except Int (Tok × Nat) → AVal
  | .error e => .tup [T0, .int .i64 e]
  | .ok (t, _) => .tup [TK t, .int .i64 0]
theorem oneR_at {r : List UInt8} {t : Tok} {k : Nat} (h : oneR r = .ok (t, k)) : t.at' = 0 := by
  cases r with
  | nil => cases h
  | cons b r =>
    simp only [oneR] at h
    split at h
    · cases h; rfl
    · split at h
      · cases hn : numR (b :: r) with
        | error e' => rw [hn] at h; cases h
        | ok x => rw [hn] at h; cases h; rfl
      · split at h
        · cases h
        · split at h
          · cases h
          · cases h; rfl
theorem token20 {d : Nat} {κ : Key} {hp : Heap} {nc : Nat} {s : List UInt8} {i : Nat} {K : AVal × Heap × Nat → Prop} (hκ : κ.1 < 8000000) (hs : s.length ≤ 100000) (hi : i < s.length) (hk : At hp κ s i)
    (hK : ∀ hp' nc', (∀ t k, oneR (s.drop i) = .ok (t, k) → At hp' κ s (i + k)) → Kept 20000000 κ hp hp' → K (t20V (oneR (s.drop i)), hp', nc')) :
    Bd (inlD C8 (d + 4) 20 [.ptr κ 0 0 0 0] hp nc) K := by
  have hkn : ∀ c, κ ≠ (20000000, c) := fun c e => by rw [e] at hκ; simp at hκ
  have hkn' : ∀ c, (20000000, c) ≠ κ := fun c e => by rw [← e] at hκ; simp at hκ
  have ix := str_ixN .i64 hi
  have hdc := drop_cons hi
  have e31 := F_index_signs (s.getD i 0)
  have e32 := F32_eq (n := ((s.getD i 0).toNat : Int))
  have hq1 : (κ = (20000000, nc)) = False := eq_false (hkn nc)
  have hq2 : ((20000000, nc) = κ) = False := eq_false (hkn' nc)
  refine inl_of (x := x20) rfl rfl ?_
  rw [x20_eq.1, x20_eq.2.1]
  by_cases hb : signB (s.getD i 0)
  · have ho : oneR (s.drop i) = .ok (⟨sgk (s.getD i 0), [], 0, 0⟩, 1) := by rw [hdc, oneR, if_pos hb]
    rw [ho] at hK
    simp only [t20V] at hK
    rcases hb with e | e | e <;>
    · simp only [e, sgk] at hK e31
      simp (disch := first | omega | simp only [go_sem, tm0, ↓reduceIte, Nat.reduceAdd, Nat.reduceMul, Nat.reduceSub, Nat.reduceLeDiff, Nat.reduceLT, Nat.reduceEqDiff, Int.reduceLT, Int.reduceLE, Int.reduceAdd, Int.reduceSub, Int.reduceMul, Int.reduceToNat, Int.reducePow, Int.reduceNe, Int.reduceMod, Int.reduceDiv, ne_eq, Int.reduceEq, not_false_eq_true, Nat.reducePow, List.length_append, List.length_replicate, List.replicate_succ, List.replicate_zero, Int.cast_ofNat_Int, not_true_eq_false, decide_true, decide_false, ite_self, beq_self_eq_true, Bool.true_beq, Bool.false_beq, Bool.not_true, Bool.not_false, Int.reduceNeg, dropK_eq]) only [x20b, go_sem, tm0, ↓reduceIte, Nat.reduceAdd, Nat.reduceMul, Nat.reduceSub, Nat.reduceLeDiff, Nat.reduceLT, Nat.reduceEqDiff, Int.reduceLT, Int.reduceLE, Int.reduceAdd, Int.reduceSub, Int.reduceMul, Int.reduceToNat, Int.reducePow, Int.reduceNe, Int.reduceMod, Int.reduceDiv, ne_eq, Int.reduceEq, not_false_eq_true, Nat.reducePow, List.length_append, List.length_replicate, List.replicate_succ, List.replicate_zero, Int.cast_ofNat_Int, not_true_eq_false, decide_true, decide_false, ite_self, beq_self_eq_true, Bool.true_beq, Bool.false_beq, Bool.not_true, Bool.not_false, Int.reduceNeg, dropK_eq, hq1, hq2, if_false, hk, ix, e, callX_known (C := C8) (g := 31) rfl, ft_call (C := C8) (g := 31) rfl, e31]
      refine hK _ _ (fun t k h => ?_) (fun k h1 h2 => ?_)
      · cases h
        exact (upd_ne _ _ (hkn _)).trans (upd_same _ _ _)
      · rw [upd_ne _ _ (by rintro rfl; simp at h2), upd_ne _ _ h1, upd_ne _ _ (by rintro rfl; simp at h2)]
  · have hb1 := hb
    simp only [signB, not_or] at hb1
    rw [if_neg hb1.1, if_neg hb1.2.1, if_neg hb1.2.2] at e31
    by_cases hn : ((s.getD i 0).toNat : Int) = 45 ∨ digB (s.getD i 0)
    · have ho : oneR (s.drop i) = match numR (s.drop i) with
          | .error e => .error e
          | .ok (n, k) => .ok (⟨2, [], n, 0⟩, k) := by rw [hdc, oneR, if_neg hb, if_pos hn]; cases numR (s.getD i 0 :: s.drop (i + 1)) <;> rfl
      have hfin : ∀ (hp2 : Heap) (nc2 : Nat) (v : Option Blk), (∀ n k, numR (s.drop i) = .ok (n, k) → At hp2 κ s (i + k)) → Kept 30000000 κ (upd hp (20000000, nc) v) hp2 → ∀ w nc', K (t20V (oneR (s.drop i)), upd hp2 (20000000, nc) w, nc') := by
        intro hp2 nc2 v h1 h2 w nc'
        refine hK _ _ (fun t k h => ?_) (fun k h3 h4 => ?_)
        · rw [ho] at h
          cases hr : numR (s.drop i) with
          | error e => rw [hr] at h; cases h
          | ok x =>
            obtain ⟨n, k'⟩ := x
            rw [hr] at h
            cases h
            exact (upd_ne _ _ (hkn _)).trans (h1 n k hr)
        · rw [upd_ne _ _ (by rintro rfl; simp at h4), h2 k h3 (by omega), upd_ne _ _ (by rintro rfl; simp at h4)]
      have hnum : ∀ (v : Option Blk) (nc1 : Nat) (K' : AVal × Heap × Nat → Prop), (∀ hp2 nc2, (∀ n k, numR (s.drop i) = .ok (n, k) → At hp2 κ s (i + k)) → Kept 30000000 κ (upd hp (20000000, nc) v) hp2 → K' (n33V (numR (s.drop i)), hp2, nc2)) →
          Bd (inlD C8 (d + 3) 33 [.ptr κ 0 0 0 0] (upd hp (20000000, nc) v) nc1) K' := fun v nc1 K' h => number33 (by omega) hs hi ((upd_ne _ _ (hkn _)).trans hk) fun hp2 nc2 h1 h2 => h hp2 nc2 h1 h2
      by_cases h45 : ((s.getD i 0).toNat : Int) = 45
      · have d4 := decide_eq_true h45
        simp (disch := first | omega | simp only [go_sem, tm0, ↓reduceIte, Nat.reduceAdd, Nat.reduceMul, Nat.reduceSub, Nat.reduceLeDiff, Nat.reduceLT, Nat.reduceEqDiff, Int.reduceLT, Int.reduceLE, Int.reduceAdd, Int.reduceSub, Int.reduceMul, Int.reduceToNat, Int.reducePow, Int.reduceNe, Int.reduceMod, Int.reduceDiv, ne_eq, Int.reduceEq, not_false_eq_true, Nat.reducePow, List.length_append, List.length_replicate, List.replicate_succ, List.replicate_zero, Int.cast_ofNat_Int, not_true_eq_false, decide_true, decide_false, ite_self, beq_self_eq_true, Bool.true_beq, Bool.false_beq, Bool.not_true, Bool.not_false, Int.reduceNeg, dropK_eq]) only [x20b, go_sem, tm0, ↓reduceIte, Nat.reduceAdd, Nat.reduceMul, Nat.reduceSub, Nat.reduceLeDiff, Nat.reduceLT, Nat.reduceEqDiff, Int.reduceLT, Int.reduceLE, Int.reduceAdd, Int.reduceSub, Int.reduceMul, Int.reduceToNat, Int.reducePow, Int.reduceNe, Int.reduceMod, Int.reduceDiv, ne_eq, Int.reduceEq, not_false_eq_true, Nat.reducePow, List.length_append, List.length_replicate, List.replicate_succ, List.replicate_zero, Int.cast_ofNat_Int, not_true_eq_false, decide_true, decide_false, ite_self, beq_self_eq_true, Bool.true_beq, Bool.false_beq, Bool.not_true, Bool.not_false, Int.reduceNeg, dropK_eq, hq1, hq2, if_false, hk, ix, callX_known (C := C8) (g := 31) rfl, ft_call (C := C8) (g := 31) rfl, call_inl (C := C8) (g := 33) rfl, e31, d4]
        refine hnum _ _ _ fun hp2 nc2 h1 h2 => ?_
        have hv : hp2 (20000000, nc) = _ := (h2 (20000000, nc) (hkn' _) (by simp)).trans (upd_same _ _ _)
        have hf := hfin hp2 nc2 _ h1 h2
        rw [ho] at hf
        cases hr : numR (s.drop i) with
        | error e =>
          rw [hr] at hf
          simp only [t20V] at hf
          simp (disch := first | omega | simp only [go_sem, tm0, ↓reduceIte, Nat.reduceAdd, Nat.reduceMul, Nat.reduceSub, Nat.reduceLeDiff, Nat.reduceLT, Nat.reduceEqDiff, Int.reduceLT, Int.reduceLE, Int.reduceAdd, Int.reduceSub, Int.reduceMul, Int.reduceToNat, Int.reducePow, Int.reduceNe, Int.reduceMod, Int.reduceDiv, ne_eq, Int.reduceEq, not_false_eq_true, Nat.reducePow, List.length_append, List.length_replicate, List.replicate_succ, List.replicate_zero, Int.cast_ofNat_Int, not_true_eq_false, decide_true, decide_false, ite_self, beq_self_eq_true, Bool.true_beq, Bool.false_beq, Bool.not_true, Bool.not_false, Int.reduceNeg, dropK_eq]) only [n33V, go_sem, tm0, ↓reduceIte, Nat.reduceAdd, Nat.reduceMul, Nat.reduceSub, Nat.reduceLeDiff, Nat.reduceLT, Nat.reduceEqDiff, Int.reduceLT, Int.reduceLE, Int.reduceAdd, Int.reduceSub, Int.reduceMul, Int.reduceToNat, Int.reducePow, Int.reduceNe, Int.reduceMod, Int.reduceDiv, ne_eq, Int.reduceEq, not_false_eq_true, Nat.reducePow, List.length_append, List.length_replicate, List.replicate_succ, List.replicate_zero, Int.cast_ofNat_Int, not_true_eq_false, decide_true, decide_false, ite_self, beq_self_eq_true, Bool.true_beq, Bool.false_beq, Bool.not_true, Bool.not_false, Int.reduceNeg, dropK_eq, hv]
          exact hf _ _
        | ok x =>
          obtain ⟨n, k⟩ := x
          rw [hr] at hf
          simp only [t20V] at hf
          simp (disch := first | omega | simp only [go_sem, tm0, ↓reduceIte, Nat.reduceAdd, Nat.reduceMul, Nat.reduceSub, Nat.reduceLeDiff, Nat.reduceLT, Nat.reduceEqDiff, Int.reduceLT, Int.reduceLE, Int.reduceAdd, Int.reduceSub, Int.reduceMul, Int.reduceToNat, Int.reducePow, Int.reduceNe, Int.reduceMod, Int.reduceDiv, ne_eq, Int.reduceEq, not_false_eq_true, Nat.reducePow, List.length_append, List.length_replicate, List.replicate_succ, List.replicate_zero, Int.cast_ofNat_Int, not_true_eq_false, decide_true, decide_false, ite_self, beq_self_eq_true, Bool.true_beq, Bool.false_beq, Bool.not_true, Bool.not_false, Int.reduceNeg, dropK_eq]) only [n33V, go_sem, tm0, ↓reduceIte, Nat.reduceAdd, Nat.reduceMul, Nat.reduceSub, Nat.reduceLeDiff, Nat.reduceLT, Nat.reduceEqDiff, Int.reduceLT, Int.reduceLE, Int.reduceAdd, Int.reduceSub, Int.reduceMul, Int.reduceToNat, Int.reducePow, Int.reduceNe, Int.reduceMod, Int.reduceDiv, ne_eq, Int.reduceEq, not_false_eq_true, Nat.reducePow, List.length_append, List.length_replicate, List.replicate_succ, List.replicate_zero, Int.cast_ofNat_Int, not_true_eq_false, decide_true, decide_false, ite_self, beq_self_eq_true, Bool.true_beq, Bool.false_beq, Bool.not_true, Bool.not_false, Int.reduceNeg, dropK_eq, hv]
          exact hf _ _
      · have d4 := decide_eq_false h45
        have hdg : digB (s.getD i 0) := by
          rcases hn with h | h
          · exact absurd h h45
          · exact h
        rw [show decide (digi ((s.getD i 0).toNat : Int)) = true from decide_eq_true hdg] at e32
        simp (disch := first | omega | simp only [go_sem, tm0, ↓reduceIte, Nat.reduceAdd, Nat.reduceMul, Nat.reduceSub, Nat.reduceLeDiff, Nat.reduceLT, Nat.reduceEqDiff, Int.reduceLT, Int.reduceLE, Int.reduceAdd, Int.reduceSub, Int.reduceMul, Int.reduceToNat, Int.reducePow, Int.reduceNe, Int.reduceMod, Int.reduceDiv, ne_eq, Int.reduceEq, not_false_eq_true, Nat.reducePow, List.length_append, List.length_replicate, List.replicate_succ, List.replicate_zero, Int.cast_ofNat_Int, not_true_eq_false, decide_true, decide_false, ite_self, beq_self_eq_true, Bool.true_beq, Bool.false_beq, Bool.not_true, Bool.not_false, Int.reduceNeg, dropK_eq]) only [x20b, go_sem, tm0, ↓reduceIte, Nat.reduceAdd, Nat.reduceMul, Nat.reduceSub, Nat.reduceLeDiff, Nat.reduceLT, Nat.reduceEqDiff, Int.reduceLT, Int.reduceLE, Int.reduceAdd, Int.reduceSub, Int.reduceMul, Int.reduceToNat, Int.reducePow, Int.reduceNe, Int.reduceMod, Int.reduceDiv, ne_eq, Int.reduceEq, not_false_eq_true, Nat.reducePow, List.length_append, List.length_replicate, List.replicate_succ, List.replicate_zero, Int.cast_ofNat_Int, not_true_eq_false, decide_true, decide_false, ite_self, beq_self_eq_true, Bool.true_beq, Bool.false_beq, Bool.not_true, Bool.not_false, Int.reduceNeg, dropK_eq, hq1, hq2, if_false, hk, ix, callX_known (C := C8) (g := 31) rfl, ft_call (C := C8) (g := 31) rfl, callX_known (C := C8) (g := 32) rfl, ft_call (C := C8) (g := 32) rfl, call_inl (C := C8) (g := 33) rfl, e31, e32, d4]
        refine hnum _ _ _ fun hp2 nc2 h1 h2 => ?_
        have hv : hp2 (20000000, nc) = _ := (h2 (20000000, nc) (hkn' _) (by simp)).trans (upd_same _ _ _)
        have hf := hfin hp2 nc2 _ h1 h2
        rw [ho] at hf
        cases hr : numR (s.drop i) with
        | error e =>
          rw [hr] at hf
          simp only [t20V] at hf
          simp (disch := first | omega | simp only [go_sem, tm0, ↓reduceIte, Nat.reduceAdd, Nat.reduceMul, Nat.reduceSub, Nat.reduceLeDiff, Nat.reduceLT, Nat.reduceEqDiff, Int.reduceLT, Int.reduceLE, Int.reduceAdd, Int.reduceSub, Int.reduceMul, Int.reduceToNat, Int.reducePow, Int.reduceNe, Int.reduceMod, Int.reduceDiv, ne_eq, Int.reduceEq, not_false_eq_true, Nat.reducePow, List.length_append, List.length_replicate, List.replicate_succ, List.replicate_zero, Int.cast_ofNat_Int, not_true_eq_false, decide_true, decide_false, ite_self, beq_self_eq_true, Bool.true_beq, Bool.false_beq, Bool.not_true, Bool.not_false, Int.reduceNeg, dropK_eq]) only [n33V, go_sem, tm0, ↓reduceIte, Nat.reduceAdd, Nat.reduceMul, Nat.reduceSub, Nat.reduceLeDiff, Nat.reduceLT, Nat.reduceEqDiff, Int.reduceLT, Int.reduceLE, Int.reduceAdd, Int.reduceSub, Int.reduceMul, Int.reduceToNat, Int.reducePow, Int.reduceNe, Int.reduceMod, Int.reduceDiv, ne_eq, Int.reduceEq, not_false_eq_true, Nat.reducePow, List.length_append, List.length_replicate, List.replicate_succ, List.replicate_zero, Int.cast_ofNat_Int, not_true_eq_false, decide_true, decide_false, ite_self, beq_self_eq_true, Bool.true_beq, Bool.false_beq, Bool.not_true, Bool.not_false, Int.reduceNeg, dropK_eq, hv]
          exact hf _ _
        | ok x =>
          obtain ⟨n, k⟩ := x
          rw [hr] at hf
          simp only [t20V] at hf
          simp (disch := first | omega | simp only [go_sem, tm0, ↓reduceIte, Nat.reduceAdd, Nat.reduceMul, Nat.reduceSub, Nat.reduceLeDiff, Nat.reduceLT, Nat.reduceEqDiff, Int.reduceLT, Int.reduceLE, Int.reduceAdd, Int.reduceSub, Int.reduceMul, Int.reduceToNat, Int.reducePow, Int.reduceNe, Int.reduceMod, Int.reduceDiv, ne_eq, Int.reduceEq, not_false_eq_true, Nat.reducePow, List.length_append, List.length_replicate, List.replicate_succ, List.replicate_zero, Int.cast_ofNat_Int, not_true_eq_false, decide_true, decide_false, ite_self, beq_self_eq_true, Bool.true_beq, Bool.false_beq, Bool.not_true, Bool.not_false, Int.reduceNeg, dropK_eq]) only [n33V, go_sem, tm0, ↓reduceIte, Nat.reduceAdd, Nat.reduceMul, Nat.reduceSub, Nat.reduceLeDiff, Nat.reduceLT, Nat.reduceEqDiff, Int.reduceLT, Int.reduceLE, Int.reduceAdd, Int.reduceSub, Int.reduceMul, Int.reduceToNat, Int.reducePow, Int.reduceNe, Int.reduceMod, Int.reduceDiv, ne_eq, Int.reduceEq, not_false_eq_true, Nat.reducePow, List.length_append, List.length_replicate, List.replicate_succ, List.replicate_zero, Int.cast_ofNat_Int, not_true_eq_false, decide_true, decide_false, ite_self, beq_self_eq_true, Bool.true_beq, Bool.false_beq, Bool.not_true, Bool.not_false, Int.reduceNeg, dropK_eq, hv]
          exact hf _ _
    · have d4 := decide_eq_false (fun h => hn (.inl h))
      rw [show decide (digi ((s.getD i 0).toNat : Int)) = false from decide_eq_false (fun h => hn (.inr h))] at e32
      have ho : oneR (s.drop i) = if (s.drop i).takeWhile ltB = [] then .error 7 else if 12 < ((s.drop i).takeWhile ltB).length then .error 2
          else .ok (⟨1, (s.drop i).takeWhile ltB, 0, 0⟩, ((s.drop i).takeWhile ltB).length) := by rw [hdc, oneR, if_neg hb, if_neg hn]
      simp (disch := first | omega | simp only [go_sem, tm0, ↓reduceIte, Nat.reduceAdd, Nat.reduceMul, Nat.reduceSub, Nat.reduceLeDiff, Nat.reduceLT, Nat.reduceEqDiff, Int.reduceLT, Int.reduceLE, Int.reduceAdd, Int.reduceSub, Int.reduceMul, Int.reduceToNat, Int.reducePow, Int.reduceNe, Int.reduceMod, Int.reduceDiv, ne_eq, Int.reduceEq, not_false_eq_true, Nat.reducePow, List.length_append, List.length_replicate, List.replicate_succ, List.replicate_zero, Int.cast_ofNat_Int, not_true_eq_false, decide_true, decide_false, ite_self, beq_self_eq_true, Bool.true_beq, Bool.false_beq, Bool.not_true, Bool.not_false, Int.reduceNeg, dropK_eq]) only [x20b, go_sem, tm0, ↓reduceIte, Nat.reduceAdd, Nat.reduceMul, Nat.reduceSub, Nat.reduceLeDiff, Nat.reduceLT, Nat.reduceEqDiff, Int.reduceLT, Int.reduceLE, Int.reduceAdd, Int.reduceSub, Int.reduceMul, Int.reduceToNat, Int.reducePow, Int.reduceNe, Int.reduceMod, Int.reduceDiv, ne_eq, Int.reduceEq, not_false_eq_true, Nat.reducePow, List.length_append, List.length_replicate, List.replicate_succ, List.replicate_zero, Int.cast_ofNat_Int, not_true_eq_false, decide_true, decide_false, ite_self, beq_self_eq_true, Bool.true_beq, Bool.false_beq, Bool.not_true, Bool.not_false, Int.reduceNeg, dropK_eq, hq1, hq2, if_false, hk, ix, callX_known (C := C8) (g := 31) rfl, ft_call (C := C8) (g := 31) rfl, callX_known (C := C8) (g := 32) rfl, ft_call (C := C8) (g := 32) rfl, call_inl (C := C8) (g := 30) rfl, e31, e32, d4]
      refine while30 (p := ltB) (i := i) hs (by omega) ((upd_ne _ _ (hkn _)).trans hk) (fun b hp nc K h => lt34 b hp nc K h) ?_
      intro hp2 nc2 hk2 hn2
      have hv : hp2 (20000000, nc) = _ := (hn2 (20000000, nc) (hkn' _)).trans (upd_same _ _ _)
      have hkept : ∀ v, Kept 20000000 κ hp (upd hp2 (20000000, nc) v) := by
        intro v k h1 h2
        rw [upd_ne _ _ (by rintro rfl; simp at h2), hn2 k h1, upd_ne _ _ (by rintro rfl; simp at h2)]
      rw [ho] at hK
      generalize hds : (s.drop i).takeWhile ltB = w at *
      by_cases h0 : w = []
      · have d6 := decide_eq_true h0
        rw [if_pos h0] at hK
        simp only [t20V] at hK
        simp (disch := first | omega | simp only [go_sem, tm0, ↓reduceIte, Nat.reduceAdd, Nat.reduceMul, Nat.reduceSub, Nat.reduceLeDiff, Nat.reduceLT, Nat.reduceEqDiff, Int.reduceLT, Int.reduceLE, Int.reduceAdd, Int.reduceSub, Int.reduceMul, Int.reduceToNat, Int.reducePow, Int.reduceNe, Int.reduceMod, Int.reduceDiv, ne_eq, Int.reduceEq, not_false_eq_true, Nat.reducePow, List.length_append, List.length_replicate, List.replicate_succ, List.replicate_zero, Int.cast_ofNat_Int, not_true_eq_false, decide_true, decide_false, ite_self, beq_self_eq_true, Bool.true_beq, Bool.false_beq, Bool.not_true, Bool.not_false, Int.reduceNeg, dropK_eq]) only [go_sem, tm0, ↓reduceIte, Nat.reduceAdd, Nat.reduceMul, Nat.reduceSub, Nat.reduceLeDiff, Nat.reduceLT, Nat.reduceEqDiff, Int.reduceLT, Int.reduceLE, Int.reduceAdd, Int.reduceSub, Int.reduceMul, Int.reduceToNat, Int.reducePow, Int.reduceNe, Int.reduceMod, Int.reduceDiv, ne_eq, Int.reduceEq, not_false_eq_true, Nat.reducePow, List.length_append, List.length_replicate, List.replicate_succ, List.replicate_zero, Int.cast_ofNat_Int, not_true_eq_false, decide_true, decide_false, ite_self, beq_self_eq_true, Bool.true_beq, Bool.false_beq, Bool.not_true, Bool.not_false, Int.reduceNeg, dropK_eq, hv, d6]
        exact hK _ _ (fun t k h => by cases h) (hkept _)
      · have d6 := decide_eq_false h0
        rw [if_neg h0] at hK
        by_cases h12 : 12 < w.length
        · have d7 : decide ((12 : Int) < (w.length : Int)) = true := decide_eq_true (by omega)
          rw [if_pos h12] at hK
          simp only [t20V] at hK
          simp (disch := first | omega | simp only [go_sem, tm0, ↓reduceIte, Nat.reduceAdd, Nat.reduceMul, Nat.reduceSub, Nat.reduceLeDiff, Nat.reduceLT, Nat.reduceEqDiff, Int.reduceLT, Int.reduceLE, Int.reduceAdd, Int.reduceSub, Int.reduceMul, Int.reduceToNat, Int.reducePow, Int.reduceNe, Int.reduceMod, Int.reduceDiv, ne_eq, Int.reduceEq, not_false_eq_true, Nat.reducePow, List.length_append, List.length_replicate, List.replicate_succ, List.replicate_zero, Int.cast_ofNat_Int, not_true_eq_false, decide_true, decide_false, ite_self, beq_self_eq_true, Bool.true_beq, Bool.false_beq, Bool.not_true, Bool.not_false, Int.reduceNeg, dropK_eq]) only [go_sem, tm0, ↓reduceIte, Nat.reduceAdd, Nat.reduceMul, Nat.reduceSub, Nat.reduceLeDiff, Nat.reduceLT, Nat.reduceEqDiff, Int.reduceLT, Int.reduceLE, Int.reduceAdd, Int.reduceSub, Int.reduceMul, Int.reduceToNat, Int.reducePow, Int.reduceNe, Int.reduceMod, Int.reduceDiv, ne_eq, Int.reduceEq, not_false_eq_true, Nat.reducePow, List.length_append, List.length_replicate, List.replicate_succ, List.replicate_zero, Int.cast_ofNat_Int, not_true_eq_false, decide_true, decide_false, ite_self, beq_self_eq_true, Bool.true_beq, Bool.false_beq, Bool.not_true, Bool.not_false, Int.reduceNeg, dropK_eq, hv, d6, d7]
          exact hK _ _ (fun t k h => by cases h) (hkept _)
        · have d7 : decide ((12 : Int) < (w.length : Int)) = false := decide_eq_false (by omega)
          rw [if_neg h12] at hK
          simp only [t20V] at hK
          simp (disch := first | omega | simp only [go_sem, tm0, ↓reduceIte, Nat.reduceAdd, Nat.reduceMul, Nat.reduceSub, Nat.reduceLeDiff, Nat.reduceLT, Nat.reduceEqDiff, Int.reduceLT, Int.reduceLE, Int.reduceAdd, Int.reduceSub, Int.reduceMul, Int.reduceToNat, Int.reducePow, Int.reduceNe, Int.reduceMod, Int.reduceDiv, ne_eq, Int.reduceEq, not_false_eq_true, Nat.reducePow, List.length_append, List.length_replicate, List.replicate_succ, List.replicate_zero, Int.cast_ofNat_Int, not_true_eq_false, decide_true, decide_false, ite_self, beq_self_eq_true, Bool.true_beq, Bool.false_beq, Bool.not_true, Bool.not_false, Int.reduceNeg, dropK_eq]) only [go_sem, tm0, ↓reduceIte, Nat.reduceAdd, Nat.reduceMul, Nat.reduceSub, Nat.reduceLeDiff, Nat.reduceLT, Nat.reduceEqDiff, Int.reduceLT, Int.reduceLE, Int.reduceAdd, Int.reduceSub, Int.reduceMul, Int.reduceToNat, Int.reducePow, Int.reduceNe, Int.reduceMod, Int.reduceDiv, ne_eq, Int.reduceEq, not_false_eq_true, Nat.reducePow, List.length_append, List.length_replicate, List.replicate_succ, List.replicate_zero, Int.cast_ofNat_Int, not_true_eq_false, decide_true, decide_false, ite_self, beq_self_eq_true, Bool.true_beq, Bool.false_beq, Bool.not_true, Bool.not_false, Int.reduceNeg, dropK_eq, hv, d6, d7]
          refine hK _ _ (fun t k h => ?_) (hkept _)
          cases h
          exact (upd_ne _ _ (hkn _)).trans hk2
end Go.Proofs.YtjcjlgiigjckeaaDoor
