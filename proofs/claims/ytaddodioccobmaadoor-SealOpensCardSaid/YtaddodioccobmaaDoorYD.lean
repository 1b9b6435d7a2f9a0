/-
  FormatInt at base 16, of Go's library.
-/
import Derived.Test.YtaddodioccobmaaDoorYC
set_option linter.unusedVariables false
set_option linter.unusedSimpArgs false
namespace Go.Proofs.YtaddodioccobmaaDoor
open Go Go.Xec

set_option maxRecDepth 10000
def F65 : List AVal → Option AVal := pureF C2 1 65
theorem sound65 : Sound Tryd.prog 65 F65 := sound_self ok2 1 65
theorem and16 : binA .and (.int .i64 16) (.int .i64 15) = some (.int .i64 0) := by rfl
theorem F65_eq : F65 [.int .i64 16] = some (.bool true) := by
  unfold F65
  refine pureF_of (x := x65) rfl rfl ?_
  rw [x65_eq.1, x65_eq.2.1]
  simp (disch := first | omega | simp only [go_sem, tm0, ↓reduceIte, Nat.reduceAdd, Nat.reduceMul, Nat.reduceSub, Nat.reduceLeDiff, Nat.reduceLT, Nat.reduceEqDiff, Int.reduceLT, Int.reduceLE, Int.reduceAdd, Int.reduceSub, Int.reduceMul, Int.reduceToNat, Int.reducePow, Int.reduceNe, Int.reduceMod, Int.reduceDiv, ne_eq, Int.reduceEq, not_false_eq_true, Nat.reducePow, List.length_append, List.length_replicate, List.replicate_succ, List.replicate_zero, Int.cast_ofNat_Int, not_true_eq_false, decide_true, decide_false, ite_self, beq_self_eq_true, Bool.true_beq, Bool.false_beq, Bool.not_true, Bool.not_false, Int.reduceNeg, dropK_eq]) only [x65b, go_sem, tm0, ↓reduceIte, Nat.reduceAdd, Nat.reduceMul, Nat.reduceSub, Nat.reduceLeDiff, Nat.reduceLT, Nat.reduceEqDiff, Int.reduceLT, Int.reduceLE, Int.reduceAdd, Int.reduceSub, Int.reduceMul, Int.reduceToNat, Int.reducePow, Int.reduceNe, Int.reduceMod, Int.reduceDiv, ne_eq, Int.reduceEq, not_false_eq_true, Nat.reducePow, List.length_append, List.length_replicate, List.replicate_succ, List.replicate_zero, Int.cast_ofNat_Int, not_true_eq_false, decide_true, decide_false, ite_self, beq_self_eq_true, Bool.true_beq, Bool.false_beq, Bool.not_true, Bool.not_false, Int.reduceNeg, dropK_eq, and16]
  exact Ends_plain rfl rfl
def F66 : List AVal → Option AVal := pureF C2 1 66
theorem sound66 : Sound Tryd.prog 66 F66 := sound_self ok2 1 66
theorem F66_eq : F66 [.int .u64 16] = some (.int .i64 4) := by
  have e : F_tz [.int .u64 16] = some (.int .i64 4) := by rfl
  unfold F66
  refine pureF_of (x := x66) rfl rfl ?_
  rw [x66_eq.1, x66_eq.2.1]
  simp (disch := first | omega | simp only [go_sem, tm0, ↓reduceIte, Nat.reduceAdd, Nat.reduceMul, Nat.reduceSub, Nat.reduceLeDiff, Nat.reduceLT, Nat.reduceEqDiff, Int.reduceLT, Int.reduceLE, Int.reduceAdd, Int.reduceSub, Int.reduceMul, Int.reduceToNat, Int.reducePow, Int.reduceNe, Int.reduceMod, Int.reduceDiv, ne_eq, Int.reduceEq, not_false_eq_true, Nat.reducePow, List.length_append, List.length_replicate, List.replicate_succ, List.replicate_zero, Int.cast_ofNat_Int, not_true_eq_false, decide_true, decide_false, ite_self, beq_self_eq_true, Bool.true_beq, Bool.false_beq, Bool.not_true, Bool.not_false, Int.reduceNeg, dropK_eq]) only [x66b, go_sem, tm0, ↓reduceIte, Nat.reduceAdd, Nat.reduceMul, Nat.reduceSub, Nat.reduceLeDiff, Nat.reduceLT, Nat.reduceEqDiff, Int.reduceLT, Int.reduceLE, Int.reduceAdd, Int.reduceSub, Int.reduceMul, Int.reduceToNat, Int.reducePow, Int.reduceNe, Int.reduceMod, Int.reduceDiv, ne_eq, Int.reduceEq, not_false_eq_true, Nat.reducePow, List.length_append, List.length_replicate, List.replicate_succ, List.replicate_zero, Int.cast_ofNat_Int, not_true_eq_false, decide_true, decide_false, ite_self, beq_self_eq_true, Bool.true_beq, Bool.false_beq, Bool.not_true, Bool.not_false, Int.reduceNeg, dropK_eq, callX_known (C := C2) (g := 74) rfl, ft_call (C := C2) (g := 74) rfl, e]
  exact Ends_plain rfl rfl
def C3 : Cfg := (C2.add 65 F65).add 66 F66
theorem ok3 : CfgOk Tryd.prog C3 := (ok2.add sound65).add sound66
/-- The digits that are there. -/
abbrev encB (b : UInt8) : AVal := .int .u8 b.toNat
def dig36 : List UInt8 := [48, 49, 50, 51, 52, 53, 54, 55, 56, 57, 97, 98, 99, 100, 101, 102, 103, 104, 105, 106, 107, 108, 109, 110, 111, 112, 113, 114, 115, 116, 117, 118, 119, 120, 121, 122]
theorem dig_hd : ∀ d < 16, dig36.getD d 0 = hd d := by decide
theorem dig_ix {d : Nat} (h : d < 16) : ixSA (sv dig36) (.int .u64 (d : Nat)) = some (.int .u8 ((hd d).toNat : Int)) := by
  rw [str_ixN .u64 (show d < dig36.length by show d < 36; omega), dig_hd d h]
theorem drop_splice {cs : List AVal} {i : Nat} {v : AVal} {D : List AVal} (hl : i + 1 ≤ cs.length) (h : cs.drop (i + 1) = D) : (splice cs i [v]).drop i = v :: D := by
  rw [splice_eq, List.drop_append_of_le_length (by simp; omega)]
  have : (cs.take i).drop i = [] := List.drop_of_length_le (by simp; omega)
  rw [this]
  simp [h]
theorem splice_len {cs : List AVal} {i : Nat} {v : AVal} (hl : i + 1 ≤ cs.length) : (splice cs i [v]).length = cs.length := by
  rw [splice_eq]
  simp; omega
theorem bytesOf_enc : ∀ D : List UInt8, bytesOf (D.map encB) = some D
  | [] => rfl
  | b :: D => by
    have := b.toNat_lt
    simp [bytesOf_cons, bytesOf_enc D]
def F49 : List AVal → Option AVal := pureF C3 1 49
theorem sound49 : Sound Tryd.prog 49 F49 := sound_self ok3 1 49
theorem F49_eq {n : Nat} (hn : n < 4294967296) : F49 [.nils, .int .u64 n, .int .i64 16, .bool false, .bool false] = some (.tup [.nils, sv (hexT n)]) := by
  have hnl := hexT_len 7 n (by simpa using hn)
  unfold F49
  refine pureF_of (x := x49) rfl rfl ?_
  rw [x49_eq.1, x49_eq.2.1]
  simp (disch := first | omega | simp only [go_sem, tm0, ↓reduceIte, Nat.reduceAdd, Nat.reduceMul, Nat.reduceSub, Nat.reduceLeDiff, Nat.reduceLT, Nat.reduceEqDiff, Int.reduceLT, Int.reduceLE, Int.reduceAdd, Int.reduceSub, Int.reduceMul, Int.reduceToNat, Int.reducePow, Int.reduceNe, Int.reduceMod, Int.reduceDiv, ne_eq, Int.reduceEq, not_false_eq_true, Nat.reducePow, List.length_append, List.length_replicate, List.replicate_succ, List.replicate_zero, Int.cast_ofNat_Int, not_true_eq_false, decide_true, decide_false, ite_self, beq_self_eq_true, Bool.true_beq, Bool.false_beq, Bool.not_true, Bool.not_false, Int.reduceNeg, dropK_eq]) only [x49b, go_sem, tm0, ↓reduceIte, Nat.reduceAdd, Nat.reduceMul, Nat.reduceSub, Nat.reduceLeDiff, Nat.reduceLT, Nat.reduceEqDiff, Int.reduceLT, Int.reduceLE, Int.reduceAdd, Int.reduceSub, Int.reduceMul, Int.reduceToNat, Int.reducePow, Int.reduceNe, Int.reduceMod, Int.reduceDiv, ne_eq, Int.reduceEq, not_false_eq_true, Nat.reducePow, List.length_append, List.length_replicate, List.replicate_succ, List.replicate_zero, Int.cast_ofNat_Int, not_true_eq_false, decide_true, decide_false, ite_self, beq_self_eq_true, Bool.true_beq, Bool.false_beq, Bool.not_true, Bool.not_false, Int.reduceNeg, dropK_eq, callX_known (C := C3) (g := 65) rfl, ft_call (C := C3) (g := 65) rfl, callX_known (C := C3) (g := 66) rfl, ft_call (C := C3) (g := 66) rfl, F65_eq, F66_eq]
  refine Ev_loopW (I := fun m tm hp nc => ∃ (u : Nat) (D : List UInt8) (cs : List AVal), m = u ∧ tm 1 = .int .u64 u ∧ tm 13 = .int .i64 ((65 - D.length : Nat) : Int) ∧ hp (49003000, 2) = some (.var cs) ∧ cs.length = 65 ∧ cs.drop (65 - D.length) = D.map encB ∧ hexT n = hexT u ++ D ∧ u < 4294967296) (n := n) ?_ (by omega) ?_
  · refine ⟨n, [], _, rfl, ?_, ?_, upd_same _ _ _, rfl, rfl, by simp, hn⟩ <;> simp only [go_sem, tm0, ↓reduceIte, Nat.reduceAdd, Nat.reduceMul, Nat.reduceSub, Nat.reduceLeDiff, Nat.reduceLT, Nat.reduceEqDiff, Int.reduceLT, Int.reduceLE, Int.reduceAdd, Int.reduceSub, Int.reduceMul, Int.reduceToNat, Int.reducePow, Int.reduceNe, Int.reduceMod, Int.reduceDiv, ne_eq, Int.reduceEq, not_false_eq_true, Nat.reducePow, List.length_append, List.length_replicate, List.replicate_succ, List.replicate_zero, Int.cast_ofNat_Int, not_true_eq_false, decide_true, decide_false, ite_self, beq_self_eq_true, Bool.true_beq, Bool.false_beq, Bool.not_true, Bool.not_false, Int.reduceNeg, dropK_eq] <;> rfl
  · rintro u tm hp nc hc ⟨_, D, cs, rfl, k1, k13, hk, hcs, hdr, hh, hu⟩
    have k0 := hc 0 rfl; have k3 := hc 3 rfl; have k4 := hc 4 rfl; have k10 := hc 10 rfl; have k12 := hc 12 rfl; have k14 := hc 14 rfl; have k15 := hc 15 rfl; have k16 := hc 16 rfl; simp only [go_sem, tm0, ↓reduceIte, Nat.reduceAdd, Nat.reduceMul, Nat.reduceSub, Nat.reduceLeDiff, Nat.reduceLT, Nat.reduceEqDiff, Int.reduceLT, Int.reduceLE, Int.reduceAdd, Int.reduceSub, Int.reduceMul, Int.reduceToNat, Int.reducePow, Int.reduceNe, Int.reduceMod, Int.reduceDiv, ne_eq, Int.reduceEq, not_false_eq_true, Nat.reducePow, List.length_append, List.length_replicate, List.replicate_succ, List.replicate_zero, Int.cast_ofNat_Int, not_true_eq_false, decide_true, decide_false, ite_self, beq_self_eq_true, Bool.true_beq, Bool.false_beq, Bool.not_true, Bool.not_false, Int.reduceNeg, dropK_eq] at k0 k3 k4 k10 k12 k14 k15 k16
    have hul := hexT_len 7 u (by simpa using hu)
    have hD : D.length ≤ 7 := by rw [hh, List.length_append] at hnl; omega
    have e13 : ((65 - D.length : Nat) : Int) - 1 = ((64 - D.length : Nat) : Int) := by omega
    have hidx : 64 - D.length + 1 = 65 - D.length := by omega
    have hle : 64 - D.length + 1 ≤ cs.length := by omega
    by_cases h16 : 16 ≤ u
    · have d1 : decide ((16 : Int) ≤ (u : Int)) = true := decide_eq_true (by omega)
      have ea : binA .and (.int .u64 u) (.int .u64 15) = some (.int .u64 ((u % 16 : Nat) : Int)) := (binA_and_u64 (a := u) 4 (by decide)).trans (by simp)
      have es : binA .shr (.int .u64 u) (.int .u64 4) = some (.int .u64 ((u / 16 : Nat) : Int)) := by have := binA_shr_u64 (a := (u : Int)) (b := 4) (by decide) (by decide); simpa using this
      have eix := dig_ix (d := u % 16) (Nat.mod_lt _ (by decide))
      simp only [dig36] at eix
      have hs := drop_splice (v := encB (hd (u % 16))) (D := D.map encB) hle (by rw [hidx]; exact hdr)
      have hsl := splice_len (v := encB (hd (u % 16))) hle
      simp only [splice_eq] at hs hsl
      simp (disch := first | omega | simp only [go_sem, tm0, ↓reduceIte, Nat.reduceAdd, Nat.reduceMul, Nat.reduceSub, Nat.reduceLeDiff, Nat.reduceLT, Nat.reduceEqDiff, Int.reduceLT, Int.reduceLE, Int.reduceAdd, Int.reduceSub, Int.reduceMul, Int.reduceToNat, Int.reducePow, Int.reduceNe, Int.reduceMod, Int.reduceDiv, ne_eq, Int.reduceEq, not_false_eq_true, Nat.reducePow, List.length_append, List.length_replicate, List.replicate_succ, List.replicate_zero, Int.cast_ofNat_Int, not_true_eq_false, decide_true, decide_false, ite_self, beq_self_eq_true, Bool.true_beq, Bool.false_beq, Bool.not_true, Bool.not_false, Int.reduceNeg, dropK_eq]) only [x49l11, go_sem, tm0, ↓reduceIte, Nat.reduceAdd, Nat.reduceMul, Nat.reduceSub, Nat.reduceLeDiff, Nat.reduceLT, Nat.reduceEqDiff, Int.reduceLT, Int.reduceLE, Int.reduceAdd, Int.reduceSub, Int.reduceMul, Int.reduceToNat, Int.reducePow, Int.reduceNe, Int.reduceMod, Int.reduceDiv, ne_eq, Int.reduceEq, not_false_eq_true, Nat.reducePow, List.length_append, List.length_replicate, List.replicate_succ, List.replicate_zero, Int.cast_ofNat_Int, not_true_eq_false, decide_true, decide_false, ite_self, beq_self_eq_true, Bool.true_beq, Bool.false_beq, Bool.not_true, Bool.not_false, Int.reduceNeg, dropK_eq, k1, k13, k12, k14, k15, k16, hk, d1, e13, ea, es, eix, Int.toNat_natCast, Nat.zero_add, Nat.mul_one]
      have hlen : 65 - (hd (u % 16) :: D).length = 64 - D.length := by simp
      refine ⟨u / 16, by omega, u / 16, hd (u % 16) :: D, _, rfl, rfl, by rw [hlen], rfl, by simpa using hsl.trans hcs, by rw [hlen]; simpa using hs, by rw [hh, hexT_step h16]; simp, by omega⟩
    · have d1 : decide ((16 : Int) ≤ (u : Int)) = false := decide_eq_false (by omega)
      have eix := dig_ix (d := u) (by omega)
      simp only [dig36] at eix
      have hs := drop_splice (v := encB (hd u)) (D := D.map encB) hle (by rw [hidx]; exact hdr)
      have hsl := (splice_len (v := encB (hd u)) hle).trans hcs
      simp only [splice_eq] at hs hsl
      simp only [List.length_cons, List.length_nil, Nat.zero_add, List.singleton_append] at hs hsl
      have hlen : 65 - (64 - D.length) = (hd u :: D).length := by simp; omega
      have hx : hexT n = hd u :: D := by rw [hh, hexT_small (by omega)]; rfl
      have hsa : slAH 65 1 (.ptr (49003000, 2) 0 0 0 0) (some (.int .i64 ((64 - D.length : Nat) : Int))) none (upd hp (49003000, 2) (some (.var (cs.take (64 - D.length) ++ .int .u8 ((hd u).toNat : Nat) :: cs.drop (64 - D.length + 1))))) =
          some (.sl (49003000, 2) 0 1 (64 - D.length) (65 - (64 - D.length))) := by
        simp only [slAH, upd_same]
        rw [if_pos (by rw [hsl]; omega)]
        simp [slAA, bnd]
        omega
      have hels : (Blk.var (cs.take (64 - D.length) ++ .int .u8 ((hd u).toNat : Nat) :: cs.drop (64 - D.length + 1))).els 0 1 (64 - D.length) (65 - (64 - D.length)) = some ((hd u :: D).map encB) := by
        have ht : ((cs.take (64 - D.length) ++ .int .u8 ((hd u).toNat : Nat) :: cs.drop (64 - D.length + 1)).drop (64 - D.length)).take (65 - (64 - D.length)) = (hd u :: D).map encB := by
          rw [hs, hlen]
          rw [List.take_of_length_le (by simp)]
          rfl
        have hsc : ((hd u :: D).map encB).all isSc = true := by
          rw [List.all_eq_true]
          intro x hx
          obtain ⟨b, _, rfl⟩ := List.mem_map.1 hx
          rfl
        unfold Blk.els
        dsimp only
        rw [ht, if_pos ⟨rfl, rfl, by rw [hsl]; omega, hsc⟩]
      have hby := bytesOf_enc D
      rw [hx]
      simp (disch := first | omega | simp only [go_sem, tm0, ↓reduceIte, Nat.reduceAdd, Nat.reduceMul, Nat.reduceSub, Nat.reduceLeDiff, Nat.reduceLT, Nat.reduceEqDiff, Int.reduceLT, Int.reduceLE, Int.reduceAdd, Int.reduceSub, Int.reduceMul, Int.reduceToNat, Int.reducePow, Int.reduceNe, Int.reduceMod, Int.reduceDiv, ne_eq, Int.reduceEq, not_false_eq_true, Nat.reducePow, List.length_append, List.length_replicate, List.replicate_succ, List.replicate_zero, Int.cast_ofNat_Int, not_true_eq_false, decide_true, decide_false, ite_self, beq_self_eq_true, Bool.true_beq, Bool.false_beq, Bool.not_true, Bool.not_false, Int.reduceNeg, dropK_eq]) only [x49l11, go_sem, tm0, ↓reduceIte, Nat.reduceAdd, Nat.reduceMul, Nat.reduceSub, Nat.reduceLeDiff, Nat.reduceLT, Nat.reduceEqDiff, Int.reduceLT, Int.reduceLE, Int.reduceAdd, Int.reduceSub, Int.reduceMul, Int.reduceToNat, Int.reducePow, Int.reduceNe, Int.reduceMod, Int.reduceDiv, ne_eq, Int.reduceEq, not_false_eq_true, Nat.reducePow, List.length_append, List.length_replicate, List.replicate_succ, List.replicate_zero, Int.cast_ofNat_Int, not_true_eq_false, decide_true, decide_false, ite_self, beq_self_eq_true, Bool.true_beq, Bool.false_beq, Bool.not_true, Bool.not_false, Int.reduceNeg, dropK_eq, k1, k13, k12, k14, k15, k16, k3, k4, k10, hk, d1, e13, eix, Int.toNat_natCast, Nat.zero_add, Nat.mul_one, hsa, hels, hby, UInt8.ofNat_toNat]
      exact Ends_plain rfl rfl
def C4 : Cfg := C3.add 49 F49
theorem ok4 : CfgOk Tryd.prog C4 := ok3.add sound49
def F34 : List AVal → Option AVal := pureF C4 1 34
theorem sound34 : Sound Tryd.prog 34 F34 := sound_self ok4 1 34
theorem F34_eq {n : Nat} (hn : n < 4294967296) : F34 [.int .i64 n, .int .i64 16] = some (sv (hexT n)) := by
  have e49 := F49_eq hn
  have e1 : (n : Int) % 18446744073709551616 = n := by omega
  have d1 : decide ((n : Int) < 0) = false := decide_eq_false (by omega)
  unfold F34
  refine pureF_of (x := x34) rfl rfl ?_
  rw [x34_eq.1, x34_eq.2.1]
  simp (disch := first | omega | simp only [go_sem, tm0, ↓reduceIte, Nat.reduceAdd, Nat.reduceMul, Nat.reduceSub, Nat.reduceLeDiff, Nat.reduceLT, Nat.reduceEqDiff, Int.reduceLT, Int.reduceLE, Int.reduceAdd, Int.reduceSub, Int.reduceMul, Int.reduceToNat, Int.reducePow, Int.reduceNe, Int.reduceMod, Int.reduceDiv, ne_eq, Int.reduceEq, not_false_eq_true, Nat.reducePow, List.length_append, List.length_replicate, List.replicate_succ, List.replicate_zero, Int.cast_ofNat_Int, not_true_eq_false, decide_true, decide_false, ite_self, beq_self_eq_true, Bool.true_beq, Bool.false_beq, Bool.not_true, Bool.not_false, Int.reduceNeg, dropK_eq]) only [x34b, go_sem, tm0, ↓reduceIte, Nat.reduceAdd, Nat.reduceMul, Nat.reduceSub, Nat.reduceLeDiff, Nat.reduceLT, Nat.reduceEqDiff, Int.reduceLT, Int.reduceLE, Int.reduceAdd, Int.reduceSub, Int.reduceMul, Int.reduceToNat, Int.reducePow, Int.reduceNe, Int.reduceMod, Int.reduceDiv, ne_eq, Int.reduceEq, not_false_eq_true, Nat.reducePow, List.length_append, List.length_replicate, List.replicate_succ, List.replicate_zero, Int.cast_ofNat_Int, not_true_eq_false, decide_true, decide_false, ite_self, beq_self_eq_true, Bool.true_beq, Bool.false_beq, Bool.not_true, Bool.not_false, Int.reduceNeg, dropK_eq, e1, d1, callX_known (C := C4) (g := 49) rfl, ft_call (C := C4) (g := 49) rfl, e49]
  exact Ends_plain rfl rfl
def C5 : Cfg := C4.add 34 F34
theorem ok5 : CfgOk Tryd.prog C5 := ok4.add sound34
def F22 : List AVal → Option AVal := pureF C5 1 22
theorem sound22 : Sound Tryd.prog 22 F22 := sound_self ok5 1 22
theorem F22_eq {n : Nat} (hn : n < 4294967296) : F22 [.int .i64 n, .int .i64 16] = some (sv (hexT n)) := by
  have e34 := F34_eq hn
  unfold F22
  refine pureF_of (x := x22) rfl rfl ?_
  rw [x22_eq.1, x22_eq.2.1]
  simp (disch := first | omega | simp only [go_sem, tm0, ↓reduceIte, Nat.reduceAdd, Nat.reduceMul, Nat.reduceSub, Nat.reduceLeDiff, Nat.reduceLT, Nat.reduceEqDiff, Int.reduceLT, Int.reduceLE, Int.reduceAdd, Int.reduceSub, Int.reduceMul, Int.reduceToNat, Int.reducePow, Int.reduceNe, Int.reduceMod, Int.reduceDiv, ne_eq, Int.reduceEq, not_false_eq_true, Nat.reducePow, List.length_append, List.length_replicate, List.replicate_succ, List.replicate_zero, Int.cast_ofNat_Int, not_true_eq_false, decide_true, decide_false, ite_self, beq_self_eq_true, Bool.true_beq, Bool.false_beq, Bool.not_true, Bool.not_false, Int.reduceNeg, dropK_eq]) only [x22b, go_sem, tm0, ↓reduceIte, Nat.reduceAdd, Nat.reduceMul, Nat.reduceSub, Nat.reduceLeDiff, Nat.reduceLT, Nat.reduceEqDiff, Int.reduceLT, Int.reduceLE, Int.reduceAdd, Int.reduceSub, Int.reduceMul, Int.reduceToNat, Int.reducePow, Int.reduceNe, Int.reduceMod, Int.reduceDiv, ne_eq, Int.reduceEq, not_false_eq_true, Nat.reducePow, List.length_append, List.length_replicate, List.replicate_succ, List.replicate_zero, Int.cast_ofNat_Int, not_true_eq_false, decide_true, decide_false, ite_self, beq_self_eq_true, Bool.true_beq, Bool.false_beq, Bool.not_true, Bool.not_false, Int.reduceNeg, dropK_eq, callX_known (C := C5) (g := 34) rfl, ft_call (C := C5) (g := 34) rfl, e34]
  exact Ends_plain rfl rfl
end Go.Proofs.YtaddodioccobmaaDoor
