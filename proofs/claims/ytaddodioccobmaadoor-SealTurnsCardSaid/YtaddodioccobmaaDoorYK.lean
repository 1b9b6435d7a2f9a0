/-
  One byte that is another one, two unlike neighbours changed about: another sum.
-/
import Derived.Test.YtaddodioccobmaaDoorYJ
set_option linter.unusedVariables false
set_option linter.unusedSimpArgs false
namespace Go.Proofs.YtaddodioccobmaaDoor
open Go Go.Xec

set_option maxRecDepth 10000
def tot (l : List UInt8) : Nat := (l.map UInt8.toNat).sum
theorem tot_nil : tot [] = 0 := rfl
theorem tot_cons (x : UInt8) (l : List UInt8) : tot (x :: l) = x.toNat + tot l := by simp [tot]
theorem tot_app (l m : List UInt8) : tot (l ++ m) = tot l + tot m := by simp [tot]
theorem sm_one (l : List UInt8) : ∀ p : Nat × Nat, (sm p l).1 % 65521 = (p.1 + tot l) % 65521 := by
  induction l with
  | nil => intro p; rfl
  | cons x l ih => intro p; rw [sm_cons, ih, tot_cons]; simp only [st1]; omega
def tot2 : Nat → List UInt8 → Nat
  | _, [] => 0
  | a, x :: l => (a + x.toNat) % 65521 + tot2 ((a + x.toNat) % 65521) l
theorem sm_two (l : List UInt8) : ∀ p : Nat × Nat, (sm p l).2 % 65521 = (p.2 + tot2 p.1 l) % 65521 := by
  induction l with
  | nil => intro p; rfl
  | cons x l ih => intro p; rw [sm_cons, ih]; simp only [st1, tot2]; omega
theorem sum_one {u v : List UInt8} {x b : UInt8} (h : b ≠ x) : sumN (u ++ b :: v) ≠ sumN (u ++ x :: v) := by
  have h1 := sm_one (u ++ b :: v) (1, 0)
  have h2 := sm_one (u ++ x :: v) (1, 0)
  have b1 := s10_lt (u ++ b :: v)
  have b2 := s10_lt (u ++ x :: v)
  rw [tot_app, tot_cons] at h1 h2
  have hx := x.toNat_lt
  have hb := b.toNat_lt
  have hne : b.toNat ≠ x.toNat := fun e => h (UInt8.toNat_inj.1 e)
  intro e
  simp only [sumN, s10] at *
  omega
theorem sum_two {u v : List UInt8} {x y : UInt8} (h : x ≠ y) : sumN (u ++ y :: x :: v) ≠ sumN (u ++ x :: y :: v) := by
  have b1 := s10_lt (u ++ y :: x :: v)
  have b2 := s10_lt (u ++ x :: y :: v)
  have b0 := s10_lt u
  have hx := x.toNat_lt
  have hy := y.toNat_lt
  have hne : x.toNat ≠ y.toNat := fun e => h (UInt8.toNat_inj.1 e)
  have e1 : s10 (u ++ y :: x :: v) = sm (st1 (st1 (s10 u) y) x) v := by rw [s10, sm_app, sm_cons, sm_cons]
  have e2 : s10 (u ++ x :: y :: v) = sm (st1 (st1 (s10 u) x) y) v := by rw [s10, sm_app, sm_cons, sm_cons]
  intro e
  simp only [sumN] at e
  have q1 : (s10 (u ++ y :: x :: v)).1 = (s10 (u ++ x :: y :: v)).1 := by omega
  have q2 : (s10 (u ++ y :: x :: v)).2 = (s10 (u ++ x :: y :: v)).2 := by omega
  rw [e1, e2] at q2
  have h1 := sm_two v (st1 (st1 (s10 u) y) x)
  have h2 := sm_two v (st1 (st1 (s10 u) x) y)
  generalize s10 u = p at *
  obtain ⟨a, b⟩ := p
  simp only [st1] at h1 h2 b0
  have ea : ((a + y.toNat) % 65521 + x.toNat) % 65521 = ((a + x.toNat) % 65521 + y.toNat) % 65521 := by omega
  simp only [st1] at q2
  rw [ea] at h1 q2
  generalize tot2 (((a + x.toNat) % 65521 + y.toNat) % 65521) v = T at *
  rw [q2, h2] at h1
  omega
theorem hd_inj : ∀ a < 16, ∀ b < 16, hd a = hd b → a = b := by decide
theorem lowd_inj : ∀ (k n m : Nat), n < 16 ^ k → m < 16 ^ k → lowd n k = lowd m k → n = m
  | 0, n, m, hn, hm, _ => by simp at hn hm; omega
  | k + 1, n, m, hn, hm, h => by
    rw [lowd_shift, lowd_shift] at h
    have hh := List.append_inj h (by rw [lowd_len, lowd_len])
    have h1 := lowd_inj k (n / 16) (m / 16) (by rw [Nat.div_lt_iff_lt_mul (by decide)]; rw [Nat.pow_succ] at hn; exact hn) (by rw [Nat.div_lt_iff_lt_mul (by decide)]; rw [Nat.pow_succ] at hm; exact hm) hh.1
    have h2 := hd_inj _ (Nat.mod_lt n (by decide)) _ (Nat.mod_lt m (by decide)) (List.cons.inj hh.2).1
    omega
theorem seal_drop (l : List UInt8) : (sealV l).drop l.length = 32 :: lowd (sumN l) 8 := by unfold sealV; exact List.drop_left
theorem open_turn {l m : List UInt8} (hm : lineOk m) (he : m.length = l.length) (hne : sumN m ≠ sumN l) : openV (m ++ (sealV l).drop l.length) = .tup [sv [], .int .i64 13] := by
  rw [seal_drop]
  have hl : (m ++ 32 :: lowd (sumN l) 8).length = m.length + 9 := by simp [lowd_len]
  have hn : (m ++ 32 :: lowd (sumN l) 8).length - 9 = m.length := by omega
  have ht : (m ++ 32 :: lowd (sumN l) 8).take m.length = m := List.take_left
  have hg : (m ++ 32 :: lowd (sumN l) 8).getD m.length 0 = 32 := by simp [List.getD_eq_getElem?_getD]
  have hd' : (m ++ 32 :: lowd (sumN l) 8).drop (m.length + 1) = lowd (sumN l) 8 := by
    rw [← List.drop_drop, List.drop_left]
    rfl
  unfold openV openN
  rw [if_neg (by omega), hn, if_neg, ht, if_pos]
  · intro e
    unfold sealV at e
    have := (List.cons.inj (List.append_cancel_left e)).2
    exact hne (lowd_inj 8 _ _ (by have := sumN_lt m; omega) (by have := sumN_lt l; omega) this)
  · intro hf
    refine hf ⟨by rw [hg]; rfl, by rw [ht]; exact hm, ?_⟩
    rw [hd']
    exact lowd_hexB _ _
theorem cut_at {l : List UInt8} {m : Nat} (h : m < l.length) : l = l.take m ++ l.getD m 0 :: l.drop (m + 1) := by
  have e := take_snoc h
  have := List.take_append_drop (m + 1) l
  rw [e] at this
  simpa using this.symm
theorem wt_u8 {a : AVal} (h : WT (.int .u8) a) : ∃ b : UInt8, a = .int .u8 (b.toNat : Int) := by
  obtain ⟨n, rfl, h1, h2⟩ := h
  have h1' : 0 ≤ n := h1
  have h2' : n ≤ 255 := h2
  refine ⟨UInt8.ofNat n.toNat, ?_⟩
  congr 1
  rw [UInt8.toNat_ofNat']
  omega
theorem no10_app {a b : List UInt8} (ha : no10 a) (hb : no10 b) : no10 (a ++ b) := fun c hc => (List.mem_append.1 hc).elim (ha c) (hb c)
theorem turn1 {l : List UInt8} {m : Nat} {c : UInt8} (hl : lineOk l) (hm : m < l.length) (hc : ¬ (c.toNat : Int) = 10) :
    (l.take m ++ [c] ++ l.drop (m + 1)).length = l.length ∧ (l.take m ++ [c] ++ l.drop (m + 1) = l ∨ (¬ l.take m ++ [c] ++ l.drop (m + 1) = l ∧ sumN (l.take m ++ [c] ++ l.drop (m + 1)) ≠ sumN l ∧ openV (l.take m ++ [c] ++ l.drop (m + 1) ++ (sealV l).drop l.length) = .tup [sv [], .int .i64 13])) := by
  have hlen : (l.take m ++ [c] ++ l.drop (m + 1)).length = l.length := by simp; omega
  refine ⟨hlen, ?_⟩
  have hcut := cut_at hm
  by_cases h : c = l.getD m 0
  · left
    rw [h, List.append_assoc]
    exact hcut.symm
  · right
    have hs : sumN (l.take m ++ [c] ++ l.drop (m + 1)) ≠ sumN l := by
      have := sum_one (u := l.take m) (v := l.drop (m + 1)) h
      rw [← hcut] at this
      rw [List.append_assoc]
      exact this
    have hok : lineOk (l.take m ++ [c] ++ l.drop (m + 1)) := by
      refine ⟨no10_app (no10_app (fun b hb => hl.1 b (List.mem_of_mem_take hb)) (fun b hb => ?_)) (fun b hb => hl.1 b (List.mem_of_mem_drop hb)), by rw [hlen]; exact hl.2⟩
      rw [List.mem_singleton.1 hb]
      exact hc
    exact ⟨fun e => hs (by rw [e]), hs, open_turn hok hlen hs⟩
theorem turn2 {l : List UInt8} {m : Nat} (hl : lineOk l) (hm : m + 1 < l.length) (hne : l.getD m 0 ≠ l.getD (m + 1) 0) :
    (l.take m ++ [l.getD (m + 1) 0, l.getD m 0] ++ l.drop (m + 2)).length = l.length ∧ sumN (l.take m ++ [l.getD (m + 1) 0, l.getD m 0] ++ l.drop (m + 2)) ≠ sumN l ∧
      openV (l.take m ++ [l.getD (m + 1) 0, l.getD m 0] ++ l.drop (m + 2) ++ (sealV l).drop l.length) = .tup [sv [], .int .i64 13] := by
  have hlen : (l.take m ++ [l.getD (m + 1) 0, l.getD m 0] ++ l.drop (m + 2)).length = l.length := by simp; omega
  have h1 := cut_at (l := l) (m := m) (by omega)
  have h2 : l.drop (m + 1) = l.getD (m + 1) 0 :: l.drop (m + 2) := by
    rw [List.drop_eq_getElem_cons hm]
    simp [List.getD_eq_getElem?_getD, List.getElem?_eq_getElem hm]
  have hs : sumN (l.take m ++ [l.getD (m + 1) 0, l.getD m 0] ++ l.drop (m + 2)) ≠ sumN l := by
    have := sum_two (u := l.take m) (v := l.drop (m + 2)) hne
    rw [← h2, ← h1] at this
    rw [List.append_assoc]
    exact this
  have hok : lineOk (l.take m ++ [l.getD (m + 1) 0, l.getD m 0] ++ l.drop (m + 2)) := by
    refine ⟨no10_app (no10_app (fun b hb => hl.1 b (List.mem_of_mem_take hb)) (fun b hb => ?_)) (fun b hb => hl.1 b (List.mem_of_mem_drop hb)), by rw [hlen]; exact hl.2⟩
    rcases List.mem_cons.1 hb with rfl | hb
    · exact hl.1 _ (getB_mem hm)
    · rw [List.mem_singleton.1 hb]
      exact hl.1 _ (getB_mem (by omega))
  exact ⟨hlen, hs, open_turn hok hlen hs⟩
theorem law6 (xs : List AVal) (h : WTL [.str, .int .i64, .int .u8] xs) : pureF C11 1 6 xs = some (.bool true) := by
  simp only [WTL] at h
  obtain ⟨a, _, rfl, ha, b, _, rfl, hb, c, _, rfl, hc, rfl⟩ := h
  obtain ⟨l0, rfl, hl0⟩ := wt_str ha
  obtain ⟨k, rfl, hk1, hk2⟩ := hb
  obtain ⟨c, rfl⟩ := wt_u8 hc
  have e7 := F7_eq (l := l0) (by omega)
  have hl : (l0.take 230).length ≤ 230 := by simp; omega
  generalize l0.take 230 = l at *
  have e8 := F8_eq (l := l) (by omega)
  have hsl := sealV_len l
  refine pureF_of (x := x6) rfl rfl ?_
  rw [x6_eq.1, x6_eq.2.1]
  by_cases hok : lineOk l
  · rw [tellV, if_pos hok] at e8
    by_cases h0 : l = []
    · have d1 : decide (l = []) = true := decide_eq_true h0
      simp (disch := first | omega | simp only [go_sem, tm0, ↓reduceIte, Nat.reduceAdd, Nat.reduceMul, Nat.reduceSub, Nat.reduceLeDiff, Nat.reduceLT, Nat.reduceEqDiff, Int.reduceLT, Int.reduceLE, Int.reduceAdd, Int.reduceSub, Int.reduceMul, Int.reduceToNat, Int.reducePow, Int.reduceNe, Int.reduceMod, Int.reduceDiv, ne_eq, Int.reduceEq, not_false_eq_true, Nat.reducePow, List.length_append, List.length_replicate, List.replicate_succ, List.replicate_zero, Int.cast_ofNat_Int, not_true_eq_false, decide_true, decide_false, ite_self, beq_self_eq_true, Bool.true_beq, Bool.false_beq, Bool.not_true, Bool.not_false, Int.reduceNeg, dropK_eq]) only [x6b, go_sem, tm0, ↓reduceIte, Nat.reduceAdd, Nat.reduceMul, Nat.reduceSub, Nat.reduceLeDiff, Nat.reduceLT, Nat.reduceEqDiff, Int.reduceLT, Int.reduceLE, Int.reduceAdd, Int.reduceSub, Int.reduceMul, Int.reduceToNat, Int.reducePow, Int.reduceNe, Int.reduceMod, Int.reduceDiv, ne_eq, Int.reduceEq, not_false_eq_true, Nat.reducePow, List.length_append, List.length_replicate, List.replicate_succ, List.replicate_zero, Int.cast_ofNat_Int, not_true_eq_false, decide_true, decide_false, ite_self, beq_self_eq_true, Bool.true_beq, Bool.false_beq, Bool.not_true, Bool.not_false, Int.reduceNeg, dropK_eq, callX_known (C := C11) (g := 7) rfl, ft_call (C := C11) (g := 7) rfl, callX_known (C := C11) (g := 8) rfl, ft_call (C := C11) (g := 8) rfl, callX_known (C := C11) (g := 11) rfl, ft_call (C := C11) (g := 11) rfl, e7, e8, F11_eq, d1]
      exact Ends_plain rfl rfl
    · have d1 : decide (l = []) = false := decide_eq_false h0
      have hpos := List.length_pos_iff.2 h0
      obtain ⟨n, hn⟩ : ∃ n, l.length = n + 1 := ⟨l.length - 1, by omega⟩
      obtain ⟨m, hm, hb1, hb2, e1⟩ := turn_k k n
      have hL : (l.length : Int) = (n : Int) + 1 := by omega
      rw [← hL] at hb1 hb2 e1
      rw [Int.add_assoc, ← hL] at e1
      have hm' : m < l.length := by omega
      have d9 : decide (¬ ((sealV l).length : Int) = (l.length : Int) + 9) = false := decide_eq_false (by omega)
      have hs1 := str_sliceTo (l := l) (hi := m) (by omega)
      have hs2 := str_sliceFrom (l := l) (lo := m + 1) (by omega)
      rw [Int.natCast_add, Int.natCast_one] at hs2
      have hs3 := str_sliceFrom (l := sealV l) (lo := l.length) (by omega)
      have hwl : ((sealV l).drop l.length).length = 9 := by rw [List.length_drop]; omega
      have e9 := F9_eq (l := l) (by omega)
      have ix1 := str_ixN .i64 hm'
      have hB : ∀ x : UInt8, UInt8.ofNat (Int.toNat (x.toNat : Int)) = x := by intro x; simp
      by_cases h10 : (c.toNat : Int) = 10
      · have d46 := decide_eq_true h10
        have q1 : (l.take m).length + 1 < 9223372036854775808 := by rw [List.length_take]; omega
        have q2 : (l.take m).length + 1 + (l.drop (m + 1)).length < 9223372036854775808 := by rw [List.length_take, List.length_drop]; omega
        have q3 : (l.take m).length + 1 + (l.drop (m + 1)).length + ((sealV l).drop l.length).length < 9223372036854775808 := by rw [List.length_take, List.length_drop]; omega
        obtain ⟨hlen1, h1⟩ := turn1 (c := UInt8.ofNat 11) hok hm' (by decide)
        have e9a := F9_eq (l := l.take m ++ [UInt8.ofNat 11] ++ l.drop (m + 1)) (by omega)
        have e14a := F14_eq (s := l.take m ++ [UInt8.ofNat 11] ++ l.drop (m + 1) ++ (sealV l).drop l.length) (by rw [List.length_append]; omega)
        rcases h1 with h1 | ⟨h1, h1s, h1o⟩
        · have d2 : decide (¬ l.take m ++ [UInt8.ofNat 11] ++ l.drop (m + 1) = l) = false := decide_eq_false (fun h => h h1)
          by_cases h2 : m + 1 < l.length
          · have dm : decide ((m : Int) + 1 < (l.length : Int)) = true := decide_eq_true (by omega)
            have ix2 := str_ixN .i64 h2
            rw [Int.natCast_add, Int.natCast_one] at ix2
            by_cases hx : l.getD m 0 = l.getD (m + 1) 0
            · have dx : decide (¬ ((l.getD m 0).toNat : Int) = ((l.getD (m + 1) 0).toNat : Int)) = false := decide_eq_false (by rw [hx]; simp)
              simp (disch := first | omega | simp only [go_sem, tm0, ↓reduceIte, Nat.reduceAdd, Nat.reduceMul, Nat.reduceSub, Nat.reduceLeDiff, Nat.reduceLT, Nat.reduceEqDiff, Int.reduceLT, Int.reduceLE, Int.reduceAdd, Int.reduceSub, Int.reduceMul, Int.reduceToNat, Int.reducePow, Int.reduceNe, Int.reduceMod, Int.reduceDiv, ne_eq, Int.reduceEq, not_false_eq_true, Nat.reducePow, List.length_append, List.length_replicate, List.replicate_succ, List.replicate_zero, Int.cast_ofNat_Int, not_true_eq_false, decide_true, decide_false, ite_self, beq_self_eq_true, Bool.true_beq, Bool.false_beq, Bool.not_true, Bool.not_false, Int.reduceNeg, dropK_eq]) only [x6b, go_sem, tm0, ↓reduceIte, Nat.reduceAdd, Nat.reduceMul, Nat.reduceSub, Nat.reduceLeDiff, Nat.reduceLT, Nat.reduceEqDiff, Int.reduceLT, Int.reduceLE, Int.reduceAdd, Int.reduceSub, Int.reduceMul, Int.reduceToNat, Int.reducePow, Int.reduceNe, Int.reduceMod, Int.reduceDiv, ne_eq, Int.reduceEq, not_false_eq_true, Nat.reducePow, List.length_append, List.length_replicate, List.replicate_succ, List.replicate_zero, Int.cast_ofNat_Int, not_true_eq_false, decide_true, decide_false, ite_self, beq_self_eq_true, Bool.true_beq, Bool.false_beq, Bool.not_true, Bool.not_false, Int.reduceNeg, dropK_eq, callX_known (C := C11) (g := 7) rfl, ft_call (C := C11) (g := 7) rfl, callX_known (C := C11) (g := 8) rfl, ft_call (C := C11) (g := 8) rfl, callX_known (C := C11) (g := 9) rfl, ft_call (C := C11) (g := 9) rfl, callX_known (C := C11) (g := 11) rfl, ft_call (C := C11) (g := 11) rfl, callX_known (C := C11) (g := 14) rfl, ft_call (C := C11) (g := 14) rfl, e7, e8, F11_eq, d1, d9, e1, d46, hs1, hs2, hs3, if_pos q1, if_pos q2, if_pos q3, hB, ix1, d2, dm, ix2, dx]
              exact Ends_plain rfl rfl
            · have dx : decide (¬ ((l.getD m 0).toNat : Int) = ((l.getD (m + 1) 0).toNat : Int)) = true := decide_eq_true (fun e => hx (UInt8.toNat_inj.1 (by omega)))
              obtain ⟨hlen2, g1, g2⟩ := turn2 hok h2 hx
              have hs4 := str_sliceFrom (l := l) (lo := m + 2) (by omega)
              rw [Int.natCast_add] at hs4
              have hs5 : slSA (sv l) (some (.int .i64 ((m : Int) + 2))) none = some (sv (l.drop (m + 2))) := hs4
              have e9b := F9_eq (l := l.take m ++ [l.getD (m + 1) 0, l.getD m 0] ++ l.drop (m + 2)) (by omega)
              have e14b := F14_eq (s := l.take m ++ [l.getD (m + 1) 0, l.getD m 0] ++ l.drop (m + 2) ++ (sealV l).drop l.length) (by rw [List.length_append]; omega)
              rw [g2] at e14b
              have d5 : decide ((sumN (l.take m ++ [l.getD (m + 1) 0, l.getD m 0] ++ l.drop (m + 2)) : Int) = (sumN l : Int)) = false := decide_eq_false (fun e => g1 (by exact_mod_cast e))
              have q4 : (l.take m).length + 2 < 9223372036854775808 := by rw [List.length_take]; omega
              have q5 : (l.take m).length + 2 + (l.drop (m + 2)).length < 9223372036854775808 := by rw [List.length_take, List.length_drop]; omega
              have q6 : (l.take m).length + 2 + (l.drop (m + 2)).length + ((sealV l).drop l.length).length < 9223372036854775808 := by rw [List.length_take, List.length_drop]; omega
              simp (disch := first | omega | simp only [go_sem, tm0, ↓reduceIte, Nat.reduceAdd, Nat.reduceMul, Nat.reduceSub, Nat.reduceLeDiff, Nat.reduceLT, Nat.reduceEqDiff, Int.reduceLT, Int.reduceLE, Int.reduceAdd, Int.reduceSub, Int.reduceMul, Int.reduceToNat, Int.reducePow, Int.reduceNe, Int.reduceMod, Int.reduceDiv, ne_eq, Int.reduceEq, not_false_eq_true, Nat.reducePow, List.length_append, List.length_replicate, List.replicate_succ, List.replicate_zero, Int.cast_ofNat_Int, not_true_eq_false, decide_true, decide_false, ite_self, beq_self_eq_true, Bool.true_beq, Bool.false_beq, Bool.not_true, Bool.not_false, Int.reduceNeg, dropK_eq]) only [x6b, go_sem, tm0, ↓reduceIte, Nat.reduceAdd, Nat.reduceMul, Nat.reduceSub, Nat.reduceLeDiff, Nat.reduceLT, Nat.reduceEqDiff, Int.reduceLT, Int.reduceLE, Int.reduceAdd, Int.reduceSub, Int.reduceMul, Int.reduceToNat, Int.reducePow, Int.reduceNe, Int.reduceMod, Int.reduceDiv, ne_eq, Int.reduceEq, not_false_eq_true, Nat.reducePow, List.length_append, List.length_replicate, List.replicate_succ, List.replicate_zero, Int.cast_ofNat_Int, not_true_eq_false, decide_true, decide_false, ite_self, beq_self_eq_true, Bool.true_beq, Bool.false_beq, Bool.not_true, Bool.not_false, Int.reduceNeg, dropK_eq, callX_known (C := C11) (g := 7) rfl, ft_call (C := C11) (g := 7) rfl, callX_known (C := C11) (g := 8) rfl, ft_call (C := C11) (g := 8) rfl, callX_known (C := C11) (g := 9) rfl, ft_call (C := C11) (g := 9) rfl, callX_known (C := C11) (g := 11) rfl, ft_call (C := C11) (g := 11) rfl, callX_known (C := C11) (g := 14) rfl, ft_call (C := C11) (g := 14) rfl, e7, e8, F11_eq, d1, d9, e1, d46, hs1, hs2, hs3, if_pos q1, if_pos q2, if_pos q3, hB, ix1, d2, dm, ix2, dx, hs5, e9, e9b, e14b, d5, if_pos q4, if_pos q5, if_pos q6]
              exact Ends_plain rfl rfl
          · have dm : decide ((m : Int) + 1 < (l.length : Int)) = false := decide_eq_false (by omega)
            simp (disch := first | omega | simp only [go_sem, tm0, ↓reduceIte, Nat.reduceAdd, Nat.reduceMul, Nat.reduceSub, Nat.reduceLeDiff, Nat.reduceLT, Nat.reduceEqDiff, Int.reduceLT, Int.reduceLE, Int.reduceAdd, Int.reduceSub, Int.reduceMul, Int.reduceToNat, Int.reducePow, Int.reduceNe, Int.reduceMod, Int.reduceDiv, ne_eq, Int.reduceEq, not_false_eq_true, Nat.reducePow, List.length_append, List.length_replicate, List.replicate_succ, List.replicate_zero, Int.cast_ofNat_Int, not_true_eq_false, decide_true, decide_false, ite_self, beq_self_eq_true, Bool.true_beq, Bool.false_beq, Bool.not_true, Bool.not_false, Int.reduceNeg, dropK_eq]) only [x6b, go_sem, tm0, ↓reduceIte, Nat.reduceAdd, Nat.reduceMul, Nat.reduceSub, Nat.reduceLeDiff, Nat.reduceLT, Nat.reduceEqDiff, Int.reduceLT, Int.reduceLE, Int.reduceAdd, Int.reduceSub, Int.reduceMul, Int.reduceToNat, Int.reducePow, Int.reduceNe, Int.reduceMod, Int.reduceDiv, ne_eq, Int.reduceEq, not_false_eq_true, Nat.reducePow, List.length_append, List.length_replicate, List.replicate_succ, List.replicate_zero, Int.cast_ofNat_Int, not_true_eq_false, decide_true, decide_false, ite_self, beq_self_eq_true, Bool.true_beq, Bool.false_beq, Bool.not_true, Bool.not_false, Int.reduceNeg, dropK_eq, callX_known (C := C11) (g := 7) rfl, ft_call (C := C11) (g := 7) rfl, callX_known (C := C11) (g := 8) rfl, ft_call (C := C11) (g := 8) rfl, callX_known (C := C11) (g := 9) rfl, ft_call (C := C11) (g := 9) rfl, callX_known (C := C11) (g := 11) rfl, ft_call (C := C11) (g := 11) rfl, callX_known (C := C11) (g := 14) rfl, ft_call (C := C11) (g := 14) rfl, e7, e8, F11_eq, d1, d9, e1, d46, hs1, hs2, hs3, if_pos q1, if_pos q2, if_pos q3, hB, ix1, d2, dm]
            exact Ends_plain rfl rfl
        · have d2 : decide (¬ l.take m ++ [UInt8.ofNat 11] ++ l.drop (m + 1) = l) = true := decide_eq_true h1
          rw [h1o] at e14a
          have d3 : decide ((sumN (l.take m ++ [UInt8.ofNat 11] ++ l.drop (m + 1)) : Int) = (sumN l : Int)) = false := decide_eq_false (fun e => h1s (by exact_mod_cast e))
          by_cases h2 : m + 1 < l.length
          · have dm : decide ((m : Int) + 1 < (l.length : Int)) = true := decide_eq_true (by omega)
            have ix2 := str_ixN .i64 h2
            rw [Int.natCast_add, Int.natCast_one] at ix2
            by_cases hx : l.getD m 0 = l.getD (m + 1) 0
            · have dx : decide (¬ ((l.getD m 0).toNat : Int) = ((l.getD (m + 1) 0).toNat : Int)) = false := decide_eq_false (by rw [hx]; simp)
              simp (disch := first | omega | simp only [go_sem, tm0, ↓reduceIte, Nat.reduceAdd, Nat.reduceMul, Nat.reduceSub, Nat.reduceLeDiff, Nat.reduceLT, Nat.reduceEqDiff, Int.reduceLT, Int.reduceLE, Int.reduceAdd, Int.reduceSub, Int.reduceMul, Int.reduceToNat, Int.reducePow, Int.reduceNe, Int.reduceMod, Int.reduceDiv, ne_eq, Int.reduceEq, not_false_eq_true, Nat.reducePow, List.length_append, List.length_replicate, List.replicate_succ, List.replicate_zero, Int.cast_ofNat_Int, not_true_eq_false, decide_true, decide_false, ite_self, beq_self_eq_true, Bool.true_beq, Bool.false_beq, Bool.not_true, Bool.not_false, Int.reduceNeg, dropK_eq]) only [x6b, go_sem, tm0, ↓reduceIte, Nat.reduceAdd, Nat.reduceMul, Nat.reduceSub, Nat.reduceLeDiff, Nat.reduceLT, Nat.reduceEqDiff, Int.reduceLT, Int.reduceLE, Int.reduceAdd, Int.reduceSub, Int.reduceMul, Int.reduceToNat, Int.reducePow, Int.reduceNe, Int.reduceMod, Int.reduceDiv, ne_eq, Int.reduceEq, not_false_eq_true, Nat.reducePow, List.length_append, List.length_replicate, List.replicate_succ, List.replicate_zero, Int.cast_ofNat_Int, not_true_eq_false, decide_true, decide_false, ite_self, beq_self_eq_true, Bool.true_beq, Bool.false_beq, Bool.not_true, Bool.not_false, Int.reduceNeg, dropK_eq, callX_known (C := C11) (g := 7) rfl, ft_call (C := C11) (g := 7) rfl, callX_known (C := C11) (g := 8) rfl, ft_call (C := C11) (g := 8) rfl, callX_known (C := C11) (g := 9) rfl, ft_call (C := C11) (g := 9) rfl, callX_known (C := C11) (g := 11) rfl, ft_call (C := C11) (g := 11) rfl, callX_known (C := C11) (g := 14) rfl, ft_call (C := C11) (g := 14) rfl, e7, e8, F11_eq, d1, d9, e1, d46, hs1, hs2, hs3, if_pos q1, if_pos q2, if_pos q3, hB, ix1, d2, e9, e9a, e14a, d3, dm, ix2, dx]
              exact Ends_plain rfl rfl
            · have dx : decide (¬ ((l.getD m 0).toNat : Int) = ((l.getD (m + 1) 0).toNat : Int)) = true := decide_eq_true (fun e => hx (UInt8.toNat_inj.1 (by omega)))
              obtain ⟨hlen2, g1, g2⟩ := turn2 hok h2 hx
              have hs4 := str_sliceFrom (l := l) (lo := m + 2) (by omega)
              rw [Int.natCast_add] at hs4
              have hs5 : slSA (sv l) (some (.int .i64 ((m : Int) + 2))) none = some (sv (l.drop (m + 2))) := hs4
              have e9b := F9_eq (l := l.take m ++ [l.getD (m + 1) 0, l.getD m 0] ++ l.drop (m + 2)) (by omega)
              have e14b := F14_eq (s := l.take m ++ [l.getD (m + 1) 0, l.getD m 0] ++ l.drop (m + 2) ++ (sealV l).drop l.length) (by rw [List.length_append]; omega)
              rw [g2] at e14b
              have d5 : decide ((sumN (l.take m ++ [l.getD (m + 1) 0, l.getD m 0] ++ l.drop (m + 2)) : Int) = (sumN l : Int)) = false := decide_eq_false (fun e => g1 (by exact_mod_cast e))
              have q4 : (l.take m).length + 2 < 9223372036854775808 := by rw [List.length_take]; omega
              have q5 : (l.take m).length + 2 + (l.drop (m + 2)).length < 9223372036854775808 := by rw [List.length_take, List.length_drop]; omega
              have q6 : (l.take m).length + 2 + (l.drop (m + 2)).length + ((sealV l).drop l.length).length < 9223372036854775808 := by rw [List.length_take, List.length_drop]; omega
              simp (disch := first | omega | simp only [go_sem, tm0, ↓reduceIte, Nat.reduceAdd, Nat.reduceMul, Nat.reduceSub, Nat.reduceLeDiff, Nat.reduceLT, Nat.reduceEqDiff, Int.reduceLT, Int.reduceLE, Int.reduceAdd, Int.reduceSub, Int.reduceMul, Int.reduceToNat, Int.reducePow, Int.reduceNe, Int.reduceMod, Int.reduceDiv, ne_eq, Int.reduceEq, not_false_eq_true, Nat.reducePow, List.length_append, List.length_replicate, List.replicate_succ, List.replicate_zero, Int.cast_ofNat_Int, not_true_eq_false, decide_true, decide_false, ite_self, beq_self_eq_true, Bool.true_beq, Bool.false_beq, Bool.not_true, Bool.not_false, Int.reduceNeg, dropK_eq]) only [x6b, go_sem, tm0, ↓reduceIte, Nat.reduceAdd, Nat.reduceMul, Nat.reduceSub, Nat.reduceLeDiff, Nat.reduceLT, Nat.reduceEqDiff, Int.reduceLT, Int.reduceLE, Int.reduceAdd, Int.reduceSub, Int.reduceMul, Int.reduceToNat, Int.reducePow, Int.reduceNe, Int.reduceMod, Int.reduceDiv, ne_eq, Int.reduceEq, not_false_eq_true, Nat.reducePow, List.length_append, List.length_replicate, List.replicate_succ, List.replicate_zero, Int.cast_ofNat_Int, not_true_eq_false, decide_true, decide_false, ite_self, beq_self_eq_true, Bool.true_beq, Bool.false_beq, Bool.not_true, Bool.not_false, Int.reduceNeg, dropK_eq, callX_known (C := C11) (g := 7) rfl, ft_call (C := C11) (g := 7) rfl, callX_known (C := C11) (g := 8) rfl, ft_call (C := C11) (g := 8) rfl, callX_known (C := C11) (g := 9) rfl, ft_call (C := C11) (g := 9) rfl, callX_known (C := C11) (g := 11) rfl, ft_call (C := C11) (g := 11) rfl, callX_known (C := C11) (g := 14) rfl, ft_call (C := C11) (g := 14) rfl, e7, e8, F11_eq, d1, d9, e1, d46, hs1, hs2, hs3, if_pos q1, if_pos q2, if_pos q3, hB, ix1, d2, e9, e9a, e14a, d3, dm, ix2, dx, hs5, e9, e9b, e14b, d5, if_pos q4, if_pos q5, if_pos q6]
              exact Ends_plain rfl rfl
          · have dm : decide ((m : Int) + 1 < (l.length : Int)) = false := decide_eq_false (by omega)
            simp (disch := first | omega | simp only [go_sem, tm0, ↓reduceIte, Nat.reduceAdd, Nat.reduceMul, Nat.reduceSub, Nat.reduceLeDiff, Nat.reduceLT, Nat.reduceEqDiff, Int.reduceLT, Int.reduceLE, Int.reduceAdd, Int.reduceSub, Int.reduceMul, Int.reduceToNat, Int.reducePow, Int.reduceNe, Int.reduceMod, Int.reduceDiv, ne_eq, Int.reduceEq, not_false_eq_true, Nat.reducePow, List.length_append, List.length_replicate, List.replicate_succ, List.replicate_zero, Int.cast_ofNat_Int, not_true_eq_false, decide_true, decide_false, ite_self, beq_self_eq_true, Bool.true_beq, Bool.false_beq, Bool.not_true, Bool.not_false, Int.reduceNeg, dropK_eq]) only [x6b, go_sem, tm0, ↓reduceIte, Nat.reduceAdd, Nat.reduceMul, Nat.reduceSub, Nat.reduceLeDiff, Nat.reduceLT, Nat.reduceEqDiff, Int.reduceLT, Int.reduceLE, Int.reduceAdd, Int.reduceSub, Int.reduceMul, Int.reduceToNat, Int.reducePow, Int.reduceNe, Int.reduceMod, Int.reduceDiv, ne_eq, Int.reduceEq, not_false_eq_true, Nat.reducePow, List.length_append, List.length_replicate, List.replicate_succ, List.replicate_zero, Int.cast_ofNat_Int, not_true_eq_false, decide_true, decide_false, ite_self, beq_self_eq_true, Bool.true_beq, Bool.false_beq, Bool.not_true, Bool.not_false, Int.reduceNeg, dropK_eq, callX_known (C := C11) (g := 7) rfl, ft_call (C := C11) (g := 7) rfl, callX_known (C := C11) (g := 8) rfl, ft_call (C := C11) (g := 8) rfl, callX_known (C := C11) (g := 9) rfl, ft_call (C := C11) (g := 9) rfl, callX_known (C := C11) (g := 11) rfl, ft_call (C := C11) (g := 11) rfl, callX_known (C := C11) (g := 14) rfl, ft_call (C := C11) (g := 14) rfl, e7, e8, F11_eq, d1, d9, e1, d46, hs1, hs2, hs3, if_pos q1, if_pos q2, if_pos q3, hB, ix1, d2, e9, e9a, e14a, d3, dm]
            exact Ends_plain rfl rfl
      · have d46 := decide_eq_false h10
        have q1 : (l.take m).length + 1 < 9223372036854775808 := by rw [List.length_take]; omega
        have q2 : (l.take m).length + 1 + (l.drop (m + 1)).length < 9223372036854775808 := by rw [List.length_take, List.length_drop]; omega
        have q3 : (l.take m).length + 1 + (l.drop (m + 1)).length + ((sealV l).drop l.length).length < 9223372036854775808 := by rw [List.length_take, List.length_drop]; omega
        obtain ⟨hlen1, h1⟩ := turn1 (c := c) hok hm' h10
        have e9a := F9_eq (l := l.take m ++ [c] ++ l.drop (m + 1)) (by omega)
        have e14a := F14_eq (s := l.take m ++ [c] ++ l.drop (m + 1) ++ (sealV l).drop l.length) (by rw [List.length_append]; omega)
        rcases h1 with h1 | ⟨h1, h1s, h1o⟩
        · have d2 : decide (¬ l.take m ++ [c] ++ l.drop (m + 1) = l) = false := decide_eq_false (fun h => h h1)
          by_cases h2 : m + 1 < l.length
          · have dm : decide ((m : Int) + 1 < (l.length : Int)) = true := decide_eq_true (by omega)
            have ix2 := str_ixN .i64 h2
            rw [Int.natCast_add, Int.natCast_one] at ix2
            by_cases hx : l.getD m 0 = l.getD (m + 1) 0
            · have dx : decide (¬ ((l.getD m 0).toNat : Int) = ((l.getD (m + 1) 0).toNat : Int)) = false := decide_eq_false (by rw [hx]; simp)
              simp (disch := first | omega | simp only [go_sem, tm0, ↓reduceIte, Nat.reduceAdd, Nat.reduceMul, Nat.reduceSub, Nat.reduceLeDiff, Nat.reduceLT, Nat.reduceEqDiff, Int.reduceLT, Int.reduceLE, Int.reduceAdd, Int.reduceSub, Int.reduceMul, Int.reduceToNat, Int.reducePow, Int.reduceNe, Int.reduceMod, Int.reduceDiv, ne_eq, Int.reduceEq, not_false_eq_true, Nat.reducePow, List.length_append, List.length_replicate, List.replicate_succ, List.replicate_zero, Int.cast_ofNat_Int, not_true_eq_false, decide_true, decide_false, ite_self, beq_self_eq_true, Bool.true_beq, Bool.false_beq, Bool.not_true, Bool.not_false, Int.reduceNeg, dropK_eq]) only [x6b, go_sem, tm0, ↓reduceIte, Nat.reduceAdd, Nat.reduceMul, Nat.reduceSub, Nat.reduceLeDiff, Nat.reduceLT, Nat.reduceEqDiff, Int.reduceLT, Int.reduceLE, Int.reduceAdd, Int.reduceSub, Int.reduceMul, Int.reduceToNat, Int.reducePow, Int.reduceNe, Int.reduceMod, Int.reduceDiv, ne_eq, Int.reduceEq, not_false_eq_true, Nat.reducePow, List.length_append, List.length_replicate, List.replicate_succ, List.replicate_zero, Int.cast_ofNat_Int, not_true_eq_false, decide_true, decide_false, ite_self, beq_self_eq_true, Bool.true_beq, Bool.false_beq, Bool.not_true, Bool.not_false, Int.reduceNeg, dropK_eq, callX_known (C := C11) (g := 7) rfl, ft_call (C := C11) (g := 7) rfl, callX_known (C := C11) (g := 8) rfl, ft_call (C := C11) (g := 8) rfl, callX_known (C := C11) (g := 9) rfl, ft_call (C := C11) (g := 9) rfl, callX_known (C := C11) (g := 11) rfl, ft_call (C := C11) (g := 11) rfl, callX_known (C := C11) (g := 14) rfl, ft_call (C := C11) (g := 14) rfl, e7, e8, F11_eq, d1, d9, e1, d46, hs1, hs2, hs3, if_pos q1, if_pos q2, if_pos q3, hB, ix1, d2, dm, ix2, dx]
              exact Ends_plain rfl rfl
            · have dx : decide (¬ ((l.getD m 0).toNat : Int) = ((l.getD (m + 1) 0).toNat : Int)) = true := decide_eq_true (fun e => hx (UInt8.toNat_inj.1 (by omega)))
              obtain ⟨hlen2, g1, g2⟩ := turn2 hok h2 hx
              have hs4 := str_sliceFrom (l := l) (lo := m + 2) (by omega)
              rw [Int.natCast_add] at hs4
              have hs5 : slSA (sv l) (some (.int .i64 ((m : Int) + 2))) none = some (sv (l.drop (m + 2))) := hs4
              have e9b := F9_eq (l := l.take m ++ [l.getD (m + 1) 0, l.getD m 0] ++ l.drop (m + 2)) (by omega)
              have e14b := F14_eq (s := l.take m ++ [l.getD (m + 1) 0, l.getD m 0] ++ l.drop (m + 2) ++ (sealV l).drop l.length) (by rw [List.length_append]; omega)
              rw [g2] at e14b
              have d5 : decide ((sumN (l.take m ++ [l.getD (m + 1) 0, l.getD m 0] ++ l.drop (m + 2)) : Int) = (sumN l : Int)) = false := decide_eq_false (fun e => g1 (by exact_mod_cast e))
              have q4 : (l.take m).length + 2 < 9223372036854775808 := by rw [List.length_take]; omega
              have q5 : (l.take m).length + 2 + (l.drop (m + 2)).length < 9223372036854775808 := by rw [List.length_take, List.length_drop]; omega
              have q6 : (l.take m).length + 2 + (l.drop (m + 2)).length + ((sealV l).drop l.length).length < 9223372036854775808 := by rw [List.length_take, List.length_drop]; omega
              simp (disch := first | omega | simp only [go_sem, tm0, ↓reduceIte, Nat.reduceAdd, Nat.reduceMul, Nat.reduceSub, Nat.reduceLeDiff, Nat.reduceLT, Nat.reduceEqDiff, Int.reduceLT, Int.reduceLE, Int.reduceAdd, Int.reduceSub, Int.reduceMul, Int.reduceToNat, Int.reducePow, Int.reduceNe, Int.reduceMod, Int.reduceDiv, ne_eq, Int.reduceEq, not_false_eq_true, Nat.reducePow, List.length_append, List.length_replicate, List.replicate_succ, List.replicate_zero, Int.cast_ofNat_Int, not_true_eq_false, decide_true, decide_false, ite_self, beq_self_eq_true, Bool.true_beq, Bool.false_beq, Bool.not_true, Bool.not_false, Int.reduceNeg, dropK_eq]) only [x6b, go_sem, tm0, ↓reduceIte, Nat.reduceAdd, Nat.reduceMul, Nat.reduceSub, Nat.reduceLeDiff, Nat.reduceLT, Nat.reduceEqDiff, Int.reduceLT, Int.reduceLE, Int.reduceAdd, Int.reduceSub, Int.reduceMul, Int.reduceToNat, Int.reducePow, Int.reduceNe, Int.reduceMod, Int.reduceDiv, ne_eq, Int.reduceEq, not_false_eq_true, Nat.reducePow, List.length_append, List.length_replicate, List.replicate_succ, List.replicate_zero, Int.cast_ofNat_Int, not_true_eq_false, decide_true, decide_false, ite_self, beq_self_eq_true, Bool.true_beq, Bool.false_beq, Bool.not_true, Bool.not_false, Int.reduceNeg, dropK_eq, callX_known (C := C11) (g := 7) rfl, ft_call (C := C11) (g := 7) rfl, callX_known (C := C11) (g := 8) rfl, ft_call (C := C11) (g := 8) rfl, callX_known (C := C11) (g := 9) rfl, ft_call (C := C11) (g := 9) rfl, callX_known (C := C11) (g := 11) rfl, ft_call (C := C11) (g := 11) rfl, callX_known (C := C11) (g := 14) rfl, ft_call (C := C11) (g := 14) rfl, e7, e8, F11_eq, d1, d9, e1, d46, hs1, hs2, hs3, if_pos q1, if_pos q2, if_pos q3, hB, ix1, d2, dm, ix2, dx, hs5, e9, e9b, e14b, d5, if_pos q4, if_pos q5, if_pos q6]
              exact Ends_plain rfl rfl
          · have dm : decide ((m : Int) + 1 < (l.length : Int)) = false := decide_eq_false (by omega)
            simp (disch := first | omega | simp only [go_sem, tm0, ↓reduceIte, Nat.reduceAdd, Nat.reduceMul, Nat.reduceSub, Nat.reduceLeDiff, Nat.reduceLT, Nat.reduceEqDiff, Int.reduceLT, Int.reduceLE, Int.reduceAdd, Int.reduceSub, Int.reduceMul, Int.reduceToNat, Int.reducePow, Int.reduceNe, Int.reduceMod, Int.reduceDiv, ne_eq, Int.reduceEq, not_false_eq_true, Nat.reducePow, List.length_append, List.length_replicate, List.replicate_succ, List.replicate_zero, Int.cast_ofNat_Int, not_true_eq_false, decide_true, decide_false, ite_self, beq_self_eq_true, Bool.true_beq, Bool.false_beq, Bool.not_true, Bool.not_false, Int.reduceNeg, dropK_eq]) only [x6b, go_sem, tm0, ↓reduceIte, Nat.reduceAdd, Nat.reduceMul, Nat.reduceSub, Nat.reduceLeDiff, Nat.reduceLT, Nat.reduceEqDiff, Int.reduceLT, Int.reduceLE, Int.reduceAdd, Int.reduceSub, Int.reduceMul, Int.reduceToNat, Int.reducePow, Int.reduceNe, Int.reduceMod, Int.reduceDiv, ne_eq, Int.reduceEq, not_false_eq_true, Nat.reducePow, List.length_append, List.length_replicate, List.replicate_succ, List.replicate_zero, Int.cast_ofNat_Int, not_true_eq_false, decide_true, decide_false, ite_self, beq_self_eq_true, Bool.true_beq, Bool.false_beq, Bool.not_true, Bool.not_false, Int.reduceNeg, dropK_eq, callX_known (C := C11) (g := 7) rfl, ft_call (C := C11) (g := 7) rfl, callX_known (C := C11) (g := 8) rfl, ft_call (C := C11) (g := 8) rfl, callX_known (C := C11) (g := 9) rfl, ft_call (C := C11) (g := 9) rfl, callX_known (C := C11) (g := 11) rfl, ft_call (C := C11) (g := 11) rfl, callX_known (C := C11) (g := 14) rfl, ft_call (C := C11) (g := 14) rfl, e7, e8, F11_eq, d1, d9, e1, d46, hs1, hs2, hs3, if_pos q1, if_pos q2, if_pos q3, hB, ix1, d2, dm]
            exact Ends_plain rfl rfl
        · have d2 : decide (¬ l.take m ++ [c] ++ l.drop (m + 1) = l) = true := decide_eq_true h1
          rw [h1o] at e14a
          have d3 : decide ((sumN (l.take m ++ [c] ++ l.drop (m + 1)) : Int) = (sumN l : Int)) = false := decide_eq_false (fun e => h1s (by exact_mod_cast e))
          by_cases h2 : m + 1 < l.length
          · have dm : decide ((m : Int) + 1 < (l.length : Int)) = true := decide_eq_true (by omega)
            have ix2 := str_ixN .i64 h2
            rw [Int.natCast_add, Int.natCast_one] at ix2
            by_cases hx : l.getD m 0 = l.getD (m + 1) 0
            · have dx : decide (¬ ((l.getD m 0).toNat : Int) = ((l.getD (m + 1) 0).toNat : Int)) = false := decide_eq_false (by rw [hx]; simp)
              simp (disch := first | omega | simp only [go_sem, tm0, ↓reduceIte, Nat.reduceAdd, Nat.reduceMul, Nat.reduceSub, Nat.reduceLeDiff, Nat.reduceLT, Nat.reduceEqDiff, Int.reduceLT, Int.reduceLE, Int.reduceAdd, Int.reduceSub, Int.reduceMul, Int.reduceToNat, Int.reducePow, Int.reduceNe, Int.reduceMod, Int.reduceDiv, ne_eq, Int.reduceEq, not_false_eq_true, Nat.reducePow, List.length_append, List.length_replicate, List.replicate_succ, List.replicate_zero, Int.cast_ofNat_Int, not_true_eq_false, decide_true, decide_false, ite_self, beq_self_eq_true, Bool.true_beq, Bool.false_beq, Bool.not_true, Bool.not_false, Int.reduceNeg, dropK_eq]) only [x6b, go_sem, tm0, ↓reduceIte, Nat.reduceAdd, Nat.reduceMul, Nat.reduceSub, Nat.reduceLeDiff, Nat.reduceLT, Nat.reduceEqDiff, Int.reduceLT, Int.reduceLE, Int.reduceAdd, Int.reduceSub, Int.reduceMul, Int.reduceToNat, Int.reducePow, Int.reduceNe, Int.reduceMod, Int.reduceDiv, ne_eq, Int.reduceEq, not_false_eq_true, Nat.reducePow, List.length_append, List.length_replicate, List.replicate_succ, List.replicate_zero, Int.cast_ofNat_Int, not_true_eq_false, decide_true, decide_false, ite_self, beq_self_eq_true, Bool.true_beq, Bool.false_beq, Bool.not_true, Bool.not_false, Int.reduceNeg, dropK_eq, callX_known (C := C11) (g := 7) rfl, ft_call (C := C11) (g := 7) rfl, callX_known (C := C11) (g := 8) rfl, ft_call (C := C11) (g := 8) rfl, callX_known (C := C11) (g := 9) rfl, ft_call (C := C11) (g := 9) rfl, callX_known (C := C11) (g := 11) rfl, ft_call (C := C11) (g := 11) rfl, callX_known (C := C11) (g := 14) rfl, ft_call (C := C11) (g := 14) rfl, e7, e8, F11_eq, d1, d9, e1, d46, hs1, hs2, hs3, if_pos q1, if_pos q2, if_pos q3, hB, ix1, d2, e9, e9a, e14a, d3, dm, ix2, dx]
              exact Ends_plain rfl rfl
            · have dx : decide (¬ ((l.getD m 0).toNat : Int) = ((l.getD (m + 1) 0).toNat : Int)) = true := decide_eq_true (fun e => hx (UInt8.toNat_inj.1 (by omega)))
              obtain ⟨hlen2, g1, g2⟩ := turn2 hok h2 hx
              have hs4 := str_sliceFrom (l := l) (lo := m + 2) (by omega)
              rw [Int.natCast_add] at hs4
              have hs5 : slSA (sv l) (some (.int .i64 ((m : Int) + 2))) none = some (sv (l.drop (m + 2))) := hs4
              have e9b := F9_eq (l := l.take m ++ [l.getD (m + 1) 0, l.getD m 0] ++ l.drop (m + 2)) (by omega)
              have e14b := F14_eq (s := l.take m ++ [l.getD (m + 1) 0, l.getD m 0] ++ l.drop (m + 2) ++ (sealV l).drop l.length) (by rw [List.length_append]; omega)
              rw [g2] at e14b
              have d5 : decide ((sumN (l.take m ++ [l.getD (m + 1) 0, l.getD m 0] ++ l.drop (m + 2)) : Int) = (sumN l : Int)) = false := decide_eq_false (fun e => g1 (by exact_mod_cast e))
              have q4 : (l.take m).length + 2 < 9223372036854775808 := by rw [List.length_take]; omega
              have q5 : (l.take m).length + 2 + (l.drop (m + 2)).length < 9223372036854775808 := by rw [List.length_take, List.length_drop]; omega
              have q6 : (l.take m).length + 2 + (l.drop (m + 2)).length + ((sealV l).drop l.length).length < 9223372036854775808 := by rw [List.length_take, List.length_drop]; omega
              simp (disch := first | omega | simp only [go_sem, tm0, ↓reduceIte, Nat.reduceAdd, Nat.reduceMul, Nat.reduceSub, Nat.reduceLeDiff, Nat.reduceLT, Nat.reduceEqDiff, Int.reduceLT, Int.reduceLE, Int.reduceAdd, Int.reduceSub, Int.reduceMul, Int.reduceToNat, Int.reducePow, Int.reduceNe, Int.reduceMod, Int.reduceDiv, ne_eq, Int.reduceEq, not_false_eq_true, Nat.reducePow, List.length_append, List.length_replicate, List.replicate_succ, List.replicate_zero, Int.cast_ofNat_Int, not_true_eq_false, decide_true, decide_false, ite_self, beq_self_eq_true, Bool.true_beq, Bool.false_beq, Bool.not_true, Bool.not_false, Int.reduceNeg, dropK_eq]) only [x6b, go_sem, tm0, ↓reduceIte, Nat.reduceAdd, Nat.reduceMul, Nat.reduceSub, Nat.reduceLeDiff, Nat.reduceLT, Nat.reduceEqDiff, Int.reduceLT, Int.reduceLE, Int.reduceAdd, Int.reduceSub, Int.reduceMul, Int.reduceToNat, Int.reducePow, Int.reduceNe, Int.reduceMod, Int.reduceDiv, ne_eq, Int.reduceEq, not_false_eq_true, Nat.reducePow, List.length_append, List.length_replicate, List.replicate_succ, List.replicate_zero, Int.cast_ofNat_Int, not_true_eq_false, decide_true, decide_false, ite_self, beq_self_eq_true, Bool.true_beq, Bool.false_beq, Bool.not_true, Bool.not_false, Int.reduceNeg, dropK_eq, callX_known (C := C11) (g := 7) rfl, ft_call (C := C11) (g := 7) rfl, callX_known (C := C11) (g := 8) rfl, ft_call (C := C11) (g := 8) rfl, callX_known (C := C11) (g := 9) rfl, ft_call (C := C11) (g := 9) rfl, callX_known (C := C11) (g := 11) rfl, ft_call (C := C11) (g := 11) rfl, callX_known (C := C11) (g := 14) rfl, ft_call (C := C11) (g := 14) rfl, e7, e8, F11_eq, d1, d9, e1, d46, hs1, hs2, hs3, if_pos q1, if_pos q2, if_pos q3, hB, ix1, d2, e9, e9a, e14a, d3, dm, ix2, dx, hs5, e9, e9b, e14b, d5, if_pos q4, if_pos q5, if_pos q6]
              exact Ends_plain rfl rfl
          · have dm : decide ((m : Int) + 1 < (l.length : Int)) = false := decide_eq_false (by omega)
            simp (disch := first | omega | simp only [go_sem, tm0, ↓reduceIte, Nat.reduceAdd, Nat.reduceMul, Nat.reduceSub, Nat.reduceLeDiff, Nat.reduceLT, Nat.reduceEqDiff, Int.reduceLT, Int.reduceLE, Int.reduceAdd, Int.reduceSub, Int.reduceMul, Int.reduceToNat, Int.reducePow, Int.reduceNe, Int.reduceMod, Int.reduceDiv, ne_eq, Int.reduceEq, not_false_eq_true, Nat.reducePow, List.length_append, List.length_replicate, List.replicate_succ, List.replicate_zero, Int.cast_ofNat_Int, not_true_eq_false, decide_true, decide_false, ite_self, beq_self_eq_true, Bool.true_beq, Bool.false_beq, Bool.not_true, Bool.not_false, Int.reduceNeg, dropK_eq]) only [x6b, go_sem, tm0, ↓reduceIte, Nat.reduceAdd, Nat.reduceMul, Nat.reduceSub, Nat.reduceLeDiff, Nat.reduceLT, Nat.reduceEqDiff, Int.reduceLT, Int.reduceLE, Int.reduceAdd, Int.reduceSub, Int.reduceMul, Int.reduceToNat, Int.reducePow, Int.reduceNe, Int.reduceMod, Int.reduceDiv, ne_eq, Int.reduceEq, not_false_eq_true, Nat.reducePow, List.length_append, List.length_replicate, List.replicate_succ, List.replicate_zero, Int.cast_ofNat_Int, not_true_eq_false, decide_true, decide_false, ite_self, beq_self_eq_true, Bool.true_beq, Bool.false_beq, Bool.not_true, Bool.not_false, Int.reduceNeg, dropK_eq, callX_known (C := C11) (g := 7) rfl, ft_call (C := C11) (g := 7) rfl, callX_known (C := C11) (g := 8) rfl, ft_call (C := C11) (g := 8) rfl, callX_known (C := C11) (g := 9) rfl, ft_call (C := C11) (g := 9) rfl, callX_known (C := C11) (g := 11) rfl, ft_call (C := C11) (g := 11) rfl, callX_known (C := C11) (g := 14) rfl, ft_call (C := C11) (g := 14) rfl, e7, e8, F11_eq, d1, d9, e1, d46, hs1, hs2, hs3, if_pos q1, if_pos q2, if_pos q3, hB, ix1, d2, e9, e9a, e14a, d3, dm]
            exact Ends_plain rfl rfl
  · rw [tellV, if_neg hok] at e8
    simp (disch := first | omega | simp only [go_sem, tm0, ↓reduceIte, Nat.reduceAdd, Nat.reduceMul, Nat.reduceSub, Nat.reduceLeDiff, Nat.reduceLT, Nat.reduceEqDiff, Int.reduceLT, Int.reduceLE, Int.reduceAdd, Int.reduceSub, Int.reduceMul, Int.reduceToNat, Int.reducePow, Int.reduceNe, Int.reduceMod, Int.reduceDiv, ne_eq, Int.reduceEq, not_false_eq_true, Nat.reducePow, List.length_append, List.length_replicate, List.replicate_succ, List.replicate_zero, Int.cast_ofNat_Int, not_true_eq_false, decide_true, decide_false, ite_self, beq_self_eq_true, Bool.true_beq, Bool.false_beq, Bool.not_true, Bool.not_false, Int.reduceNeg, dropK_eq]) only [x6b, go_sem, tm0, ↓reduceIte, Nat.reduceAdd, Nat.reduceMul, Nat.reduceSub, Nat.reduceLeDiff, Nat.reduceLT, Nat.reduceEqDiff, Int.reduceLT, Int.reduceLE, Int.reduceAdd, Int.reduceSub, Int.reduceMul, Int.reduceToNat, Int.reducePow, Int.reduceNe, Int.reduceMod, Int.reduceDiv, ne_eq, Int.reduceEq, not_false_eq_true, Nat.reducePow, List.length_append, List.length_replicate, List.replicate_succ, List.replicate_zero, Int.cast_ofNat_Int, not_true_eq_false, decide_true, decide_false, ite_self, beq_self_eq_true, Bool.true_beq, Bool.false_beq, Bool.not_true, Bool.not_false, Int.reduceNeg, dropK_eq, callX_known (C := C11) (g := 7) rfl, ft_call (C := C11) (g := 7) rfl, callX_known (C := C11) (g := 8) rfl, ft_call (C := C11) (g := 8) rfl, callX_known (C := C11) (g := 11) rfl, ft_call (C := C11) (g := 11) rfl, e7, e8, F11_eq]
    exact Ends_plain rfl rfl
end Go.Proofs.YtaddodioccobmaaDoor
