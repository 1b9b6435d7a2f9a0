/-
  Sums: the program's.
-/
import Derived.Test.YtaddodioccobmaaDoorYD
set_option linter.unusedVariables false
set_option linter.unusedSimpArgs false
namespace Go.Proofs.YtaddodioccobmaaDoor
open Go Go.Xec

set_option maxRecDepth 10000
noncomputable def C6 : Cfg := (((C5.add 22 F22).add 16 F16).add 19 F19)
theorem ok6 : CfgOk Tryd.prog C6 := ((ok5.add sound22).add sound16).add sound19
theorem ft_slA {C : Cfg} {key : Key} {tm : Nat → AVal} {hp : Heap} {n es : Nat} {x : XArg} {lo hi : Option XArg} {k : Key} {cs : List AVal} {es' : Nat} {v : AVal} (hx : arg tm x = .ptr k 0 0 es' 0) (hk : hp k = some (.var cs)) (hn : n * es ≤ cs.length)
    (hs : slAA n es (.ptr k 0 0 es' 0) (lo.map (arg tm)) (hi.map (arg tm)) = some v) : ftV C key (.slA n es x lo hi) tm hp = (some [k], []) := by
  simp only [ftV, rdOf, opR, footP, hx, Rd.run, Rd.reads, hk, if_pos hn, hs, Rd.ofO, Rd.bind, List.map_nil]
theorem elemsA_sv (r : List UInt8) (hp : Heap) : elemsA 1 (sv r) hp = some (r.map encB) := by
  simp [elemsA, elemsR, Rd.run]
  rw [bs_data]
theorem enc_sc (w : List UInt8) : (w.map encB).all isSc = true := by
  rw [List.all_eq_true]
  intro x hx
  obtain ⟨b, _, rfl⟩ := List.mem_map.1 hx
  rfl
theorem add24 {d : Nat} {κ : Key} {hp : Heap} {nc : Nat} {p : Nat × Nat} {x : UInt8} {s : AVal} {K : AVal × Heap × Nat → Prop} (hp1 : p.1 < 65521 ∧ p.2 < 65521) (hk : hp κ = some (.var [.int .i64 p.1, .int .i64 p.2, s]))
    (hK : ∀ hp' nc', hp' κ = some (.var [.int .i64 (st1 p x).1, .int .i64 (st1 p x).2, s]) → (∀ k, k ≠ κ → hp' k = hp k) → K (.tup [], hp', nc')) :
    Bd (inlD C6 (d + 1) 24 [.ptr κ 0 0 0 0, .int .u8 x.toNat] hp nc) K := by
  obtain ⟨a, b⟩ := p
  simp only at hp1 hk
  have hx := x.toNat_lt
  have e1 : ((a : Int) + (x.toNat : Int)).tmod 65521 = (((a + x.toNat) % 65521 : Nat) : Int) := by
    have := tmodN (a + x.toNat) 65521
    rw [Int.natCast_add] at this
    exact this
  have hlt2 : (a + x.toNat) % 65521 < 65521 := Nat.mod_lt _ (by decide)
  have e2 : ((b : Int) + (((a + x.toNat) % 65521 : Nat) : Int)).tmod 65521 = (((b + (a + x.toNat) % 65521) % 65521 : Nat) : Int) := by
    have := tmodN (b + (a + x.toNat) % 65521) 65521
    rw [Int.natCast_add] at this
    exact this
  refine inl_of (x := x24) rfl rfl ?_
  rw [x24_eq.1, x24_eq.2.1]
  simp (disch := first | omega | simp only [go_sem, tm0, ↓reduceIte, Nat.reduceAdd, Nat.reduceMul, Nat.reduceSub, Nat.reduceLeDiff, Nat.reduceLT, Nat.reduceEqDiff, Int.reduceLT, Int.reduceLE, Int.reduceAdd, Int.reduceSub, Int.reduceMul, Int.reduceToNat, Int.reducePow, Int.reduceNe, Int.reduceMod, Int.reduceDiv, ne_eq, Int.reduceEq, not_false_eq_true, Nat.reducePow, List.length_append, List.length_replicate, List.replicate_succ, List.replicate_zero, Int.cast_ofNat_Int, not_true_eq_false, decide_true, decide_false, ite_self, beq_self_eq_true, Bool.true_beq, Bool.false_beq, Bool.not_true, Bool.not_false, Int.reduceNeg, dropK_eq]) only [x24b, go_sem, tm0, ↓reduceIte, Nat.reduceAdd, Nat.reduceMul, Nat.reduceSub, Nat.reduceLeDiff, Nat.reduceLT, Nat.reduceEqDiff, Int.reduceLT, Int.reduceLE, Int.reduceAdd, Int.reduceSub, Int.reduceMul, Int.reduceToNat, Int.reducePow, Int.reduceNe, Int.reduceMod, Int.reduceDiv, ne_eq, Int.reduceEq, not_false_eq_true, Nat.reducePow, List.length_append, List.length_replicate, List.replicate_succ, List.replicate_zero, Int.cast_ofNat_Int, not_true_eq_false, decide_true, decide_false, ite_self, beq_self_eq_true, Bool.true_beq, Bool.false_beq, Bool.not_true, Bool.not_false, Int.reduceNeg, dropK_eq, hk, e1, e2]
  refine hK _ _ (upd_same _ _ _) fun k h => ?_
  rw [upd_ne _ _ h, upd_ne _ _ h]
theorem or_sum {a b : Nat} (ha : a < 65521) (hb : b < 65521) : binA .or (.int .i64 ((65536 * b : Nat) : Int)) (.int .i64 (a : Nat)) = some (.int .i64 ((65536 * b + a : Nat) : Int)) := by
  have h1 : ∀ n : Nat, n < 18446744073709551616 → (BitVec.ofInt IntKind.i64.bits (n : Int)).toNat = n := by
    intro n hn
    have : IntKind.i64.bits = 64 := rfl
    rw [this, BitVec.toNat_ofInt]
    omega
  have hor : 65536 * b ||| a = 65536 * b + a := (Nat.two_pow_add_eq_or_of_lt (i := 16) (show a < 2 ^ 16 by omega) b).symm
  have e : binA .or (.int .i64 ((65536 * b : Nat) : Int)) (.int .i64 (a : Nat)) = some (.int .i64 (IntKind.i64.wrap ((BitVec.ofInt IntKind.i64.bits ((65536 * b : Nat) : Int) ||| BitVec.ofInt IntKind.i64.bits (a : Nat)).toNat : Int))) := rfl
  rw [e, BitVec.toNat_or, h1 _ (by omega), h1 _ (by omega), hor, wrap_i64 (by omega) (by omega)]
theorem whole25 {d : Nat} {κ : Key} {hp : Heap} {nc : Nat} {p : Nat × Nat} {s : AVal} {K : AVal × Heap × Nat → Prop} (hp1 : p.1 < 65521 ∧ p.2 < 65521) (hk : hp κ = some (.var [.int .i64 p.1, .int .i64 p.2, s]))
    (hK : ∀ nc', K (.int .i64 ((65536 * p.2 + p.1 : Nat) : Int), hp, nc')) :
    Bd (inlD C6 (d + 1) 25 [.ptr κ 0 0 0 0] hp nc) K := by
  obtain ⟨a, b⟩ := p
  simp only at hp1 hk hK
  have eo := or_sum hp1.1 hp1.2
  have es : binA .shl (.int .i64 (b : Int)) (.int .u64 16) = some (.int .i64 ((65536 * b : Nat) : Int)) := by
    have e : binA .shl (.int .i64 (b : Int)) (.int .u64 16) = some (.int .i64 (IntKind.i64.wrap ((b : Int) * 2 ^ 16))) := rfl
    rw [e, wrap_i64 (by omega) (by omega)]
    congr 2
    omega
  refine inl_of (x := x25) rfl rfl ?_
  rw [x25_eq.1, x25_eq.2.1]
  simp (disch := first | omega | simp only [go_sem, tm0, ↓reduceIte, Nat.reduceAdd, Nat.reduceMul, Nat.reduceSub, Nat.reduceLeDiff, Nat.reduceLT, Nat.reduceEqDiff, Int.reduceLT, Int.reduceLE, Int.reduceAdd, Int.reduceSub, Int.reduceMul, Int.reduceToNat, Int.reducePow, Int.reduceNe, Int.reduceMod, Int.reduceDiv, ne_eq, Int.reduceEq, not_false_eq_true, Nat.reducePow, List.length_append, List.length_replicate, List.replicate_succ, List.replicate_zero, Int.cast_ofNat_Int, not_true_eq_false, decide_true, decide_false, ite_self, beq_self_eq_true, Bool.true_beq, Bool.false_beq, Bool.not_true, Bool.not_false, Int.reduceNeg, dropK_eq]) only [x25b, go_sem, tm0, ↓reduceIte, Nat.reduceAdd, Nat.reduceMul, Nat.reduceSub, Nat.reduceLeDiff, Nat.reduceLT, Nat.reduceEqDiff, Int.reduceLT, Int.reduceLE, Int.reduceAdd, Int.reduceSub, Int.reduceMul, Int.reduceToNat, Int.reducePow, Int.reduceNe, Int.reduceMod, Int.reduceDiv, ne_eq, Int.reduceEq, not_false_eq_true, Nat.reducePow, List.length_append, List.length_replicate, List.replicate_succ, List.replicate_zero, Int.cast_ofNat_Int, not_true_eq_false, decide_true, decide_false, ite_self, beq_self_eq_true, Bool.true_beq, Bool.false_beq, Bool.not_true, Bool.not_false, Int.reduceNeg, dropK_eq, hk, es, eo]
  exact hK _
theorem all18 {d : Nat} {κ : Key} {hp : Heap} {nc : Nat} {l : List UInt8} {K : AVal × Heap × Nat → Prop} (hκ : κ.1 < 18000000) (hl : l.length ≤ 100000) (hk : hp κ = some (.var [.int .i64 1, .int .i64 0, sv l]))
    (hK : ∀ hp' nc', K (.int .i64 (sumN l : Nat), hp', nc')) :
    Bd (inlD C6 (d + 2) 18 [.ptr κ 0 0 0 0] hp nc) K := by
  have hkn : ∀ c, κ ≠ (18001000, c) := fun c e => by rw [e] at hκ; simp at hκ
  refine inl_of (x := x18) rfl rfl ?_
  rw [x18_eq.1, x18_eq.2.1]
  simp (disch := first | omega | simp only [go_sem, tm0, ↓reduceIte, Nat.reduceAdd, Nat.reduceMul, Nat.reduceSub, Nat.reduceLeDiff, Nat.reduceLT, Nat.reduceEqDiff, Int.reduceLT, Int.reduceLE, Int.reduceAdd, Int.reduceSub, Int.reduceMul, Int.reduceToNat, Int.reducePow, Int.reduceNe, Int.reduceMod, Int.reduceDiv, ne_eq, Int.reduceEq, not_false_eq_true, Nat.reducePow, List.length_append, List.length_replicate, List.replicate_succ, List.replicate_zero, Int.cast_ofNat_Int, not_true_eq_false, decide_true, decide_false, ite_self, beq_self_eq_true, Bool.true_beq, Bool.false_beq, Bool.not_true, Bool.not_false, Int.reduceNeg, dropK_eq]) only [x18b, go_sem, tm0, ↓reduceIte, Nat.reduceAdd, Nat.reduceMul, Nat.reduceSub, Nat.reduceLeDiff, Nat.reduceLT, Nat.reduceEqDiff, Int.reduceLT, Int.reduceLE, Int.reduceAdd, Int.reduceSub, Int.reduceMul, Int.reduceToNat, Int.reducePow, Int.reduceNe, Int.reduceMod, Int.reduceDiv, ne_eq, Int.reduceEq, not_false_eq_true, Nat.reducePow, List.length_append, List.length_replicate, List.replicate_succ, List.replicate_zero, Int.cast_ofNat_Int, not_true_eq_false, decide_true, decide_false, ite_self, beq_self_eq_true, Bool.true_beq, Bool.false_beq, Bool.not_true, Bool.not_false, Int.reduceNeg, dropK_eq]
  refine Ev_loopW (I := fun m tm hp nc' => ∃ (p : Nat × Nat) (r : List UInt8) (cs : List AVal), m = r.length ∧ p.1 < 65521 ∧ p.2 < 65521 ∧ hp κ = some (.var [.int .i64 p.1, .int .i64 p.2, sv r]) ∧ hp (18001000, nc + 1) = some (.var cs) ∧ cs.length = 64 ∧ sm p r = s10 l ∧ r.length ≤ 100000) (n := l.length) ?_ (by omega) ?_
  · refine ⟨(1, 0), l, _, rfl, by decide, by decide, ?_, upd_same _ _ _, rfl, rfl, hl⟩
    exact (upd_ne _ _ (hkn _)).trans hk
  · rintro m tm hp1 nc1 hc ⟨p, r, cs, rfl, b1, b2, hk1, hk2, hcs, hsm, hrl⟩
    have k0 := hc 0 rfl; have k3 := hc 3 rfl; simp only [go_sem, tm0, ↓reduceIte, Nat.reduceAdd, Nat.reduceMul, Nat.reduceSub, Nat.reduceLeDiff, Nat.reduceLT, Nat.reduceEqDiff, Int.reduceLT, Int.reduceLE, Int.reduceAdd, Int.reduceSub, Int.reduceMul, Int.reduceToNat, Int.reducePow, Int.reduceNe, Int.reduceMod, Int.reduceDiv, ne_eq, Int.reduceEq, not_false_eq_true, Nat.reducePow, List.length_append, List.length_replicate, List.replicate_succ, List.replicate_zero, Int.cast_ofNat_Int, not_true_eq_false, decide_true, decide_false, ite_self, beq_self_eq_true, Bool.true_beq, Bool.false_beq, Bool.not_true, Bool.not_false, Int.reduceNeg, dropK_eq] at k0 k3
    by_cases h0 : r = []
    · have d1 : decide (¬ r = []) = false := decide_eq_false (by simpa using h0)
      simp (disch := first | omega | simp only [go_sem, tm0, ↓reduceIte, Nat.reduceAdd, Nat.reduceMul, Nat.reduceSub, Nat.reduceLeDiff, Nat.reduceLT, Nat.reduceEqDiff, Int.reduceLT, Int.reduceLE, Int.reduceAdd, Int.reduceSub, Int.reduceMul, Int.reduceToNat, Int.reducePow, Int.reduceNe, Int.reduceMod, Int.reduceDiv, ne_eq, Int.reduceEq, not_false_eq_true, Nat.reducePow, List.length_append, List.length_replicate, List.replicate_succ, List.replicate_zero, Int.cast_ofNat_Int, not_true_eq_false, decide_true, decide_false, ite_self, beq_self_eq_true, Bool.true_beq, Bool.false_beq, Bool.not_true, Bool.not_false, Int.reduceNeg, dropK_eq]) only [x18l2, go_sem, tm0, ↓reduceIte, Nat.reduceAdd, Nat.reduceMul, Nat.reduceSub, Nat.reduceLeDiff, Nat.reduceLT, Nat.reduceEqDiff, Int.reduceLT, Int.reduceLE, Int.reduceAdd, Int.reduceSub, Int.reduceMul, Int.reduceToNat, Int.reducePow, Int.reduceNe, Int.reduceMod, Int.reduceDiv, ne_eq, Int.reduceEq, not_false_eq_true, Nat.reducePow, List.length_append, List.length_replicate, List.replicate_succ, List.replicate_zero, Int.cast_ofNat_Int, not_true_eq_false, decide_true, decide_false, ite_self, beq_self_eq_true, Bool.true_beq, Bool.false_beq, Bool.not_true, Bool.not_false, Int.reduceNeg, dropK_eq, k0, k3, hk1, d1, call_inl (C := C6) (g := 25) rfl]
      refine whole25 ⟨b1, b2⟩ hk1 fun nc' => ?_
      simp (disch := first | omega | simp only [go_sem, tm0, ↓reduceIte, Nat.reduceAdd, Nat.reduceMul, Nat.reduceSub, Nat.reduceLeDiff, Nat.reduceLT, Nat.reduceEqDiff, Int.reduceLT, Int.reduceLE, Int.reduceAdd, Int.reduceSub, Int.reduceMul, Int.reduceToNat, Int.reducePow, Int.reduceNe, Int.reduceMod, Int.reduceDiv, ne_eq, Int.reduceEq, not_false_eq_true, Nat.reducePow, List.length_append, List.length_replicate, List.replicate_succ, List.replicate_zero, Int.cast_ofNat_Int, not_true_eq_false, decide_true, decide_false, ite_self, beq_self_eq_true, Bool.true_beq, Bool.false_beq, Bool.not_true, Bool.not_false, Int.reduceNeg, dropK_eq]) only [go_sem, tm0, ↓reduceIte, Nat.reduceAdd, Nat.reduceMul, Nat.reduceSub, Nat.reduceLeDiff, Nat.reduceLT, Nat.reduceEqDiff, Int.reduceLT, Int.reduceLE, Int.reduceAdd, Int.reduceSub, Int.reduceMul, Int.reduceToNat, Int.reducePow, Int.reduceNe, Int.reduceMod, Int.reduceDiv, ne_eq, Int.reduceEq, not_false_eq_true, Nat.reducePow, List.length_append, List.length_replicate, List.replicate_succ, List.replicate_zero, Int.cast_ofNat_Int, not_true_eq_false, decide_true, decide_false, ite_self, beq_self_eq_true, Bool.true_beq, Bool.false_beq, Bool.not_true, Bool.not_false, Int.reduceNeg, dropK_eq]
      rw [h0] at hsm
      rw [sm_nil] at hsm
      have := hK hp1 nc'
      rw [sumN, ← hsm] at this
      exact this
    · have d1 : decide (¬ r = []) = true := decide_eq_true h0
      have hsa : ∀ hp' : Heap, hp' (18001000, nc + 1) = some (.var cs) → slAH 64 1 (.ptr (18001000, nc + 1) 0 0 0 0) none none hp' = some (.sl (18001000, nc + 1) 0 1 0 64) := by
        intro hp' h
        simp only [slAH, h]
        rw [if_pos (by rw [hcs]; decide)]
        rfl
      have hft : ∀ (key : Key) (tm' : Nat → AVal), tm' 3 = .ptr (18001000, nc + 1) 0 0 0 0 → ftV C6 key (.slA 64 1 (.t 3) none none) tm' hp1 = (some [(18001000, nc + 1)], []) := fun key tm' h => ft_slA (v := .sl (18001000, nc + 1) 0 1 0 64) h hk2 (by rw [hcs]; decide) rfl
      have hwl : (r.take 64).length ≤ 64 := by simp; omega
      have hwr : (r.take 64).length ≤ r.length := by simp; omega
      have hwp : 1 ≤ (r.take 64).length := by have := List.length_pos_iff.2 h0; simp; omega
      have hdr : r = r.take 64 ++ r.drop (r.take 64).length := by
        rw [List.length_take]
        have : r.drop (min 64 r.length) = r.drop 64 := by
          rcases Nat.lt_or_ge 64 r.length with h | h
          · rw [Nat.min_eq_left (by omega)]
          · rw [Nat.min_eq_right h, List.drop_length, List.drop_of_length_le h]
        rw [this, List.take_append_drop]
      have hcp : copied 1 (18001000, nc + 1) 0 0 64 (r.map encB) (.var cs) hp1 = some (.int .i64 ((r.take 64).length : Nat), upd hp1 (18001000, nc + 1) (some (.var (splice cs 0 ((r.take 64).map encB))))) := by
        simp only [copied]
        rw [← List.map_take, if_pos ⟨trivial, trivial, by omega, enc_sc _⟩, List.length_map]
      have hcl : (splice cs 0 ((r.take 64).map encB)).length = 64 := by
        rw [splice_eq]; simp; omega
      have hcg : ∀ j, j < (r.take 64).length → (splice cs 0 ((r.take 64).map encB))[j]? = some (encB ((r.take 64).getD j 0)) := by
        intro j hj
        rw [splice_eq, List.take_zero, List.nil_append, List.getElem?_append_left (by simpa using hj), List.getElem?_map]
        rw [List.getElem?_eq_getElem hj, List.getD_eq_getElem?_getD, List.getElem?_eq_getElem hj]
        rfl
      have hsm2 : sm p r = sm (sm p (r.take 64)) (r.drop (r.take 64).length) := by
        conv => lhs; rw [hdr]
        exact sm_app _ _ _
      have hrd : (r.drop (r.take 64).length).length < r.length := by rw [List.length_drop]; omega
      have hsl2 := str_sliceFrom (l := r) (lo := (r.take 64).length) hwr
      generalize hw : r.take 64 = w at *
      generalize splice cs 0 (w.map encB) = cs' at *
      clear hdr
      have hsa2 : slAH 64 1 (.ptr (18001000, nc + 1) 0 0 0 0) none (some (.int .i64 (w.length : Nat))) (upd hp1 (18001000, nc + 1) (some (.var cs'))) = some (.sl (18001000, nc + 1) 0 1 0 w.length) := by
        simp only [slAH, upd_same]
        rw [if_pos (by rw [hcl]; decide)]
        simp [slAA, bnd]
        omega
      have hk1' : upd hp1 (18001000, nc + 1) (some (.var cs')) κ = some (.var [.int .i64 p.1, .int .i64 p.2, sv r]) := (upd_ne _ _ (hkn _)).trans hk1
      simp (disch := first | omega | simp only [go_sem, tm0, ↓reduceIte, Nat.reduceAdd, Nat.reduceMul, Nat.reduceSub, Nat.reduceLeDiff, Nat.reduceLT, Nat.reduceEqDiff, Int.reduceLT, Int.reduceLE, Int.reduceAdd, Int.reduceSub, Int.reduceMul, Int.reduceToNat, Int.reducePow, Int.reduceNe, Int.reduceMod, Int.reduceDiv, ne_eq, Int.reduceEq, not_false_eq_true, Nat.reducePow, List.length_append, List.length_replicate, List.replicate_succ, List.replicate_zero, Int.cast_ofNat_Int, not_true_eq_false, decide_true, decide_false, ite_self, beq_self_eq_true, Bool.true_beq, Bool.false_beq, Bool.not_true, Bool.not_false, Int.reduceNeg, dropK_eq, k3]) only [x18l2, go_sem, tm0, ↓reduceIte, Nat.reduceAdd, Nat.reduceMul, Nat.reduceSub, Nat.reduceLeDiff, Nat.reduceLT, Nat.reduceEqDiff, Int.reduceLT, Int.reduceLE, Int.reduceAdd, Int.reduceSub, Int.reduceMul, Int.reduceToNat, Int.reducePow, Int.reduceNe, Int.reduceMod, Int.reduceDiv, ne_eq, Int.reduceEq, not_false_eq_true, Nat.reducePow, List.length_append, List.length_replicate, List.replicate_succ, List.replicate_zero, Int.cast_ofNat_Int, not_true_eq_false, decide_true, decide_false, ite_self, beq_self_eq_true, Bool.true_beq, Bool.false_beq, Bool.not_true, Bool.not_false, Int.reduceNeg, dropK_eq, k0, k3, hk1, hk2, d1, hsa hp1 hk2, hft, elemsA_sv, hcp, hsa2]
      clear hft hcp hsa hsa2
      refine Ev_range (ti := 21) (len := w.length) (J := fun i tm hp' nc' => hp' κ = some (.var [.int .i64 (sm p (w.take i)).1, .int .i64 (sm p (w.take i)).2, sv r]) ∧ hp' (18001000, nc + 1) = some (.var cs')) (by omega) ?_ ?_ ?_
      · simp only [go_sem, tm0, ↓reduceIte, Nat.reduceAdd, Nat.reduceMul, Nat.reduceSub, Nat.reduceLeDiff, Nat.reduceLT, Nat.reduceEqDiff, Int.reduceLT, Int.reduceLE, Int.reduceAdd, Int.reduceSub, Int.reduceMul, Int.reduceToNat, Int.reducePow, Int.reduceNe, Int.reduceMod, Int.reduceDiv, ne_eq, Int.reduceEq, not_false_eq_true, Nat.reducePow, List.length_append, List.length_replicate, List.replicate_succ, List.replicate_zero, Int.cast_ofNat_Int, not_true_eq_false, decide_true, decide_false, ite_self, beq_self_eq_true, Bool.true_beq, Bool.false_beq, Bool.not_true, Bool.not_false, Int.reduceNeg, dropK_eq]
      · exact ⟨hk1', upd_same _ _ _⟩
      intro i tm2 hp2 nc2 hi hc2 k21 hJ
      obtain ⟨j1, j2⟩ := hJ
      have hc := hc2
      have q0 := k0
      have q3 := k3
      have k0 := hc 0 rfl; have k3 := hc 3 rfl; have k4 := hc 4 rfl; have k19 := hc 19 rfl; have k20 := hc 20 rfl; simp only [go_sem, tm0, ↓reduceIte, Nat.reduceAdd, Nat.reduceMul, Nat.reduceSub, Nat.reduceLeDiff, Nat.reduceLT, Nat.reduceEqDiff, Int.reduceLT, Int.reduceLE, Int.reduceAdd, Int.reduceSub, Int.reduceMul, Int.reduceToNat, Int.reducePow, Int.reduceNe, Int.reduceMod, Int.reduceDiv, ne_eq, Int.reduceEq, not_false_eq_true, Nat.reducePow, List.length_append, List.length_replicate, List.replicate_succ, List.replicate_zero, Int.cast_ofNat_Int, not_true_eq_false, decide_true, decide_false, ite_self, beq_self_eq_true, Bool.true_beq, Bool.false_beq, Bool.not_true, Bool.not_false, Int.reduceNeg, dropK_eq] at k0 k3 k4 k19 k20
      rw [q0] at k0
      rw [q3] at k3
      have hbb := sm_lt ⟨b1, b2⟩ (w.take i)
      rcases Nat.lt_or_ge i w.length with hlt | hge
      · have d2 : decide ((i : Int) < (w.length : Int)) = true := decide_eq_true (by omega)
        have hg : (cs'.drop i)[0]? = some (encB (w.getD i 0)) := by have := hcg i hlt; simpa using this
        have hbc : (Blk.var cs').cs 0 i 1 = some (cs'.drop i) := by simp [Blk.cs]
        simp (disch := first | omega | simp only [go_sem, tm0, ↓reduceIte, Nat.reduceAdd, Nat.reduceMul, Nat.reduceSub, Nat.reduceLeDiff, Nat.reduceLT, Nat.reduceEqDiff, Int.reduceLT, Int.reduceLE, Int.reduceAdd, Int.reduceSub, Int.reduceMul, Int.reduceToNat, Int.reducePow, Int.reduceNe, Int.reduceMod, Int.reduceDiv, ne_eq, Int.reduceEq, not_false_eq_true, Nat.reducePow, List.length_append, List.length_replicate, List.replicate_succ, List.replicate_zero, Int.cast_ofNat_Int, not_true_eq_false, decide_true, decide_false, ite_self, beq_self_eq_true, Bool.true_beq, Bool.false_beq, Bool.not_true, Bool.not_false, Int.reduceNeg, dropK_eq]) only [x18l5, go_sem, tm0, ↓reduceIte, Nat.reduceAdd, Nat.reduceMul, Nat.reduceSub, Nat.reduceLeDiff, Nat.reduceLT, Nat.reduceEqDiff, Int.reduceLT, Int.reduceLE, Int.reduceAdd, Int.reduceSub, Int.reduceMul, Int.reduceToNat, Int.reducePow, Int.reduceNe, Int.reduceMod, Int.reduceDiv, ne_eq, Int.reduceEq, not_false_eq_true, Nat.reducePow, List.length_append, List.length_replicate, List.replicate_succ, List.replicate_zero, Int.cast_ofNat_Int, not_true_eq_false, decide_true, decide_false, ite_self, beq_self_eq_true, Bool.true_beq, Bool.false_beq, Bool.not_true, Bool.not_false, Int.reduceNeg, dropK_eq, k0, k3, k19, k20, k21, j1, j2, d2, hbc, hg, Int.toNat_natCast, Nat.zero_add, Nat.mul_one, call_inl (C := C6) (g := 24) rfl]
        refine add24 hbb j1 fun hp3 nc3 g1 g2 => ?_
        simp (disch := first | omega | simp only [go_sem, tm0, ↓reduceIte, Nat.reduceAdd, Nat.reduceMul, Nat.reduceSub, Nat.reduceLeDiff, Nat.reduceLT, Nat.reduceEqDiff, Int.reduceLT, Int.reduceLE, Int.reduceAdd, Int.reduceSub, Int.reduceMul, Int.reduceToNat, Int.reducePow, Int.reduceNe, Int.reduceMod, Int.reduceDiv, ne_eq, Int.reduceEq, not_false_eq_true, Nat.reducePow, List.length_append, List.length_replicate, List.replicate_succ, List.replicate_zero, Int.cast_ofNat_Int, not_true_eq_false, decide_true, decide_false, ite_self, beq_self_eq_true, Bool.true_beq, Bool.false_beq, Bool.not_true, Bool.not_false, Int.reduceNeg, dropK_eq]) only [go_sem, tm0, ↓reduceIte, Nat.reduceAdd, Nat.reduceMul, Nat.reduceSub, Nat.reduceLeDiff, Nat.reduceLT, Nat.reduceEqDiff, Int.reduceLT, Int.reduceLE, Int.reduceAdd, Int.reduceSub, Int.reduceMul, Int.reduceToNat, Int.reducePow, Int.reduceNe, Int.reduceMod, Int.reduceDiv, ne_eq, Int.reduceEq, not_false_eq_true, Nat.reducePow, List.length_append, List.length_replicate, List.replicate_succ, List.replicate_zero, Int.cast_ofNat_Int, not_true_eq_false, decide_true, decide_false, ite_self, beq_self_eq_true, Bool.true_beq, Bool.false_beq, Bool.not_true, Bool.not_false, Int.reduceNeg, dropK_eq, k21]
        refine ⟨hlt, by simp, ?_, (g2 _ (fun e => hkn _ e.symm)).trans j2⟩
        rw [g1]
        have e : sm p (w.take (i + 1)) = st1 (sm p (w.take i)) (w.getD i 0) := by rw [take_snoc hlt, sm_snoc]
        rw [e]
      · obtain rfl : i = w.length := by omega
        have d2 : decide ((w.length : Int) < (w.length : Int)) = false := decide_eq_false (by omega)
        rw [List.take_length] at j1 hbb
        simp (disch := first | omega | simp only [go_sem, tm0, ↓reduceIte, Nat.reduceAdd, Nat.reduceMul, Nat.reduceSub, Nat.reduceLeDiff, Nat.reduceLT, Nat.reduceEqDiff, Int.reduceLT, Int.reduceLE, Int.reduceAdd, Int.reduceSub, Int.reduceMul, Int.reduceToNat, Int.reducePow, Int.reduceNe, Int.reduceMod, Int.reduceDiv, ne_eq, Int.reduceEq, not_false_eq_true, Nat.reducePow, List.length_append, List.length_replicate, List.replicate_succ, List.replicate_zero, Int.cast_ofNat_Int, not_true_eq_false, decide_true, decide_false, ite_self, beq_self_eq_true, Bool.true_beq, Bool.false_beq, Bool.not_true, Bool.not_false, Int.reduceNeg, dropK_eq]) only [x18l5, go_sem, tm0, ↓reduceIte, Nat.reduceAdd, Nat.reduceMul, Nat.reduceSub, Nat.reduceLeDiff, Nat.reduceLT, Nat.reduceEqDiff, Int.reduceLT, Int.reduceLE, Int.reduceAdd, Int.reduceSub, Int.reduceMul, Int.reduceToNat, Int.reducePow, Int.reduceNe, Int.reduceMod, Int.reduceDiv, ne_eq, Int.reduceEq, not_false_eq_true, Nat.reducePow, List.length_append, List.length_replicate, List.replicate_succ, List.replicate_zero, Int.cast_ofNat_Int, not_true_eq_false, decide_true, decide_false, ite_self, beq_self_eq_true, Bool.true_beq, Bool.false_beq, Bool.not_true, Bool.not_false, Int.reduceNeg, dropK_eq, k0, k3, k19, k20, k21, k4, j1, j2, d2, hsl2]
        have hb3 := sm_lt ⟨b1, b2⟩ w
        exact ⟨(r.drop w.length).length, hrd, sm p w, r.drop w.length, cs', rfl, hb3.1, hb3.2, rfl, by rw [if_neg (fun e => hkn _ e.symm)], hcl, by rw [← hsm2]; exact hsm, by omega⟩
end Go.Proofs.YtaddodioccobmaaDoor
