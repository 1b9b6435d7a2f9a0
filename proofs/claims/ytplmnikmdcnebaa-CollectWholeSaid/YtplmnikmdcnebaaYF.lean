/-
  Samples that are fed, one by one: the document's.
-/
import Derived.Test.YtplmnikmdcnebaaYE
set_option linter.unusedVariables false
set_option linter.unusedSimpArgs false
namespace Go.Proofs.Ytplmnikmdcnebaa
open Go Go.Xec

set_option maxRecDepth 10000
def C4 : Cfg := ((C3.add 7 F7).add 11 F11).add 13 F13
theorem ok4 : CfgOk Try.prog C4 := ((ok3.add sound7).add sound11).add sound13

/-- What a group holds, in its form; the rows; how many were refused. -/
structure Fed where
  a : AVal
  h : List Int
  rows : List (List Int)
  n : Nat
open Classical in
noncomputable def fstep (s lo hi : Int) (q : Fed) (x : Int) : Fed :=
  if lo ≤ x ∧ x ≤ hi then
    if (q.h.length : Int) + 1 = s then ⟨.nils, [], q.rows ++ [q.h ++ [x]], q.n⟩ else ⟨rowOf (q.h ++ [x]), q.h ++ [x], q.rows, q.n⟩
  else ⟨q.a, q.h, q.rows, q.n + 1⟩
noncomputable def feed (s lo hi : Int) (q : Fed) (l : List Int) : Fed := l.foldl (fstep s lo hi) q
theorem fstep_rw {s lo hi : Int} {q : Fed} (h : Rw q.a q.h) (x : Int) : Rw (fstep s lo hi q x).a (fstep s lo hi q x).h := by
  unfold fstep
  split
  · split
    · exact Rw.nils
    · exact Rw.slc _
  · exact h
theorem fstep_len {s lo hi : Int} {q : Fed} (x : Int) : (fstep s lo hi q x).h.length ≤ q.h.length + 1 ∧ (fstep s lo hi q x).rows.length ≤ q.rows.length + 1 ∧ (fstep s lo hi q x).n ≤ q.n + 1 := by
  unfold fstep
  split
  · split <;> simp
  · simp
theorem F24_eq {s lo hi x : Int} {a : AVal} {l : List Int} (h : Rw a l) (hl : l.length ≤ 1000000) : F24 [G s lo hi a, .int .i64 x] = some (if (l.length : Int) + 1 = s then .tup [G s lo hi .nils, rowOf (l ++ [x])] else .tup [G s lo hi (rowOf (l ++ [x])), .nils]) := by
  simp only [F24, rowI_eq h]
  exact if_pos hl
theorem feed_take {s lo hi : Int} {q : Fed} {l : List Int} {i : Nat} (hi' : i < l.length) : feed s lo hi q (l.take (i + 1)) = fstep s lo hi (feed s lo hi q (l.take i)) (l.getD i 0) := by
  unfold feed
  rw [List.take_add_one, List.foldl_append, List.getElem?_eq_getElem hi']
  simp [List.getD_eq_getElem?_getD, List.getElem?_eq_getElem hi']
theorem feed_ok {s lo hi : Int} {q : Fed} (hq : Rw q.a q.h) : ∀ (l : List Int), Rw (feed s lo hi q l).a (feed s lo hi q l).h ∧ (feed s lo hi q l).h.length ≤ q.h.length + l.length ∧ (feed s lo hi q l).rows.length ≤ q.rows.length + l.length ∧ (feed s lo hi q l).n ≤ q.n + l.length := by
  intro l
  induction l generalizing q with
  | nil => exact ⟨hq, by simp [feed], by simp [feed], by simp [feed]⟩
  | cons x l ih =>
    have h1 := fstep_len (s := s) (lo := lo) (hi := hi) (q := q) x
    obtain ⟨e1, e2, e3, e4⟩ := ih (fstep_rw (s := s) (lo := lo) (hi := hi) hq x)
    refine ⟨e1, ?_, ?_, ?_⟩ <;> simp only [feed, List.foldl_cons, List.length_cons] at e2 e3 e4 ⊢ <;> omega

theorem plainL_rows (d : Nat) : ∀ (ls : List (List Int)), plainL d (ls.map rowOf) = true
  | [] => plainL_nil d
  | l :: ls => by rw [List.map_cons, plainL_cons, plain_slc, plainL_rows d ls]; rfl
theorem isSc_rows (ls : List (List Int)) : ((ls.map rowOf).all fun e => (cellsOf e).all isSc) = true := by simp [cellsOf, isSc]
theorem step12 {s lo hi : Int} {a b : AVal} {h l : List Int} (ha : Rw a h) (hb : Rw b l) (h1 : h.length ≤ 1000) (h2 : l.length ≤ 1000) : pureF C4 1 12 [G s lo hi a, b] =
    some (.tup [G s lo hi (feed s lo hi ⟨a, h, [], 0⟩ l).a, .slc 1 ((feed s lo hi ⟨a, h, [], 0⟩ l).rows.map rowOf), .int .i64 (feed s lo hi ⟨a, h, [], 0⟩ l).n]) := by
  refine pureF_of (x := x12) rfl rfl ?_
  rw [x12_eq.1, x12_eq.2.1]
  simp (disch := first | omega | simp only [go_sem, tm0, ↓reduceIte, Nat.reduceAdd, Nat.reduceMul, Nat.reduceSub, Nat.reduceLeDiff, Nat.reduceLT, Nat.reduceEqDiff, Int.reduceLT, Int.reduceLE, Int.reduceAdd, Int.reduceSub, Int.reduceMul, Int.reduceToNat, Int.reducePow, Int.reduceNe, Int.reduceMod, Int.reduceDiv, ne_eq, Int.reduceEq, not_false_eq_true, Nat.reducePow, List.length_append, List.length_replicate, List.replicate_succ, List.replicate_zero, Int.cast_ofNat_Int]) only [x12b, go_sem, tm0, ↓reduceIte, Nat.reduceAdd, Nat.reduceMul, Nat.reduceSub, Nat.reduceLeDiff, Nat.reduceLT, Nat.reduceEqDiff, Int.reduceLT, Int.reduceLE, Int.reduceAdd, Int.reduceSub, Int.reduceMul, Int.reduceToNat, Int.reducePow, Int.reduceNe, Int.reduceMod, Int.reduceDiv, ne_eq, Int.reduceEq, not_false_eq_true, Nat.reducePow, List.length_append, List.length_replicate, List.replicate_succ, List.replicate_zero, Int.cast_ofNat_Int, ha.sc, ha.cells, ha.len, hb.len]
  refine Ev_loop_inv (I := fun n st => ∃ (i g : Nat) (tm : Nat → AVal) (hp : Heap) (nc : Nat), st = ⟨tm, hp, nc⟩ ∧ i ≤ l.length ∧ n = l.length - i ∧ tm 2 = .ptr (12000000, 0) 0 0 0 0 ∧ tm 4 = .ptr (12000001, 0) 0 0 0 0 ∧
      hp (12000000, 0) = some (.var [.int .i64 s, .int .i64 lo, .int .i64 hi, (feed s lo hi ⟨a, h, [], 0⟩ (l.take i)).a]) ∧ hp (12000001, 0) = some (.var [.int .i64 0, .int .i64 0, .int .i64 0, .nils]) ∧
      tm 7 = .sl (12001000, 1) g 1 0 (feed s lo hi ⟨a, h, [], 0⟩ (l.take i)).rows.length ∧ hp (12001000, 1) = some (.row g 1 ((feed s lo hi ⟨a, h, [], 0⟩ (l.take i)).rows.map rowOf)) ∧
      tm 8 = .int .i64 (feed s lo hi ⟨a, h, [], 0⟩ (l.take i)).n ∧ tm 14 = b ∧ tm 15 = .int .i64 l.length ∧ tm 16 = .int .i64 i) (n := l.length) ?_ (by omega) ?_
  · refine ⟨0, 0, _, _, _, rfl, by omega, rfl, ?_⟩
    simp only [go_sem, tm0, ↓reduceIte, Nat.reduceAdd, Nat.reduceMul, Nat.reduceSub, Nat.reduceLeDiff, Nat.reduceLT, Nat.reduceEqDiff, Int.reduceLT, Int.reduceLE, Int.reduceAdd, Int.reduceSub, Int.reduceMul, Int.reduceToNat, Int.reducePow, Int.reduceNe, Int.reduceMod, Int.reduceDiv, ne_eq, Int.reduceEq, not_false_eq_true, Nat.reducePow, List.length_append, List.length_replicate, List.replicate_succ, List.replicate_zero, Int.cast_ofNat_Int, feed, List.foldl_nil, List.map_nil]
  · rintro n st ⟨i, g, tm, hp, nc, rfl, hi', rfl, k2, k4, kh2, kh4, k7, kh7, k8, k14, k15, k16⟩
    obtain ⟨f1, f2, f3, f4⟩ := feed_ok (s := s) (lo := lo) (hi := hi) (q := ⟨a, h, [], 0⟩) ha (l.take i)
    simp only [List.length_take, List.length_nil] at f2 f3 f4
    rcases Nat.lt_or_ge i l.length with hlt | hge
    · have ht := feed_take (s := s) (lo := lo) (hi := hi) (q := ⟨a, h, [], 0⟩) hlt
      generalize feed s lo hi ⟨a, h, [], 0⟩ (l.take i) = q at *
      have d1 : decide ((i : Int) < (l.length : Int)) = true := decide_eq_true (by omega)
      have ib := hb.ia hlt
      have e23 := F23_eq (s := s) (lo := lo) (hi := hi) (x := l.getD i 0) f1
      have e24 := F24_eq (s := s) (lo := lo) (hi := hi) (x := l.getD i 0) f1 (by omega)
      have qp := f1.plain
      simp (disch := first | omega | simp only [*, go_sem, tm0, ↓reduceIte, Nat.reduceAdd, Nat.reduceMul, Nat.reduceSub, Nat.reduceLeDiff, Nat.reduceLT, Nat.reduceEqDiff, Int.reduceLT, Int.reduceLE, Int.reduceAdd, Int.reduceSub, Int.reduceMul, Int.reduceToNat, Int.reducePow, Int.reduceNe, Int.reduceMod, Int.reduceDiv, ne_eq, Int.reduceEq, not_false_eq_true, Nat.reducePow, List.length_append, List.length_replicate, List.replicate_succ, List.replicate_zero, Int.cast_ofNat_Int]) only [x12l4, go_sem, tm0, ↓reduceIte, Nat.reduceAdd, Nat.reduceMul, Nat.reduceSub, Nat.reduceLeDiff, Nat.reduceLT, Nat.reduceEqDiff, Int.reduceLT, Int.reduceLE, Int.reduceAdd, Int.reduceSub, Int.reduceMul, Int.reduceToNat, Int.reducePow, Int.reduceNe, Int.reduceMod, Int.reduceDiv, ne_eq, Int.reduceEq, not_false_eq_true, Nat.reducePow, List.length_append, List.length_replicate, List.replicate_succ, List.replicate_zero, Int.cast_ofNat_Int, k2, k4, kh2, kh4, k7, kh7, k8, k14, k15, k16, d1, ib, f1.sc, f1.cells, callX_known (C := C4) (g := 20) rfl, e23]
      by_cases hin : lo ≤ l.getD i 0 ∧ l.getD i 0 ≤ hi
      · rw [decide_eq_true hin]
        by_cases hs : (q.h.length : Int) + 1 = s
        · have hf : fstep s lo hi q (l.getD i 0) = ⟨.nils, [], q.rows ++ [q.h ++ [l.getD i 0]], q.n⟩ := by
            unfold fstep
            rw [if_pos hin, if_pos hs]
          rw [if_pos hs] at e24
          simp (disch := first | omega | simp only [*, go_sem, tm0, ↓reduceIte, Nat.reduceAdd, Nat.reduceMul, Nat.reduceSub, Nat.reduceLeDiff, Nat.reduceLT, Nat.reduceEqDiff, Int.reduceLT, Int.reduceLE, Int.reduceAdd, Int.reduceSub, Int.reduceMul, Int.reduceToNat, Int.reducePow, Int.reduceNe, Int.reduceMod, Int.reduceDiv, ne_eq, Int.reduceEq, not_false_eq_true, Nat.reducePow, List.length_append, List.length_replicate, List.replicate_succ, List.replicate_zero, Int.cast_ofNat_Int]) only [go_sem, tm0, ↓reduceIte, Nat.reduceAdd, Nat.reduceMul, Nat.reduceSub, Nat.reduceLeDiff, Nat.reduceLT, Nat.reduceEqDiff, Int.reduceLT, Int.reduceLE, Int.reduceAdd, Int.reduceSub, Int.reduceMul, Int.reduceToNat, Int.reducePow, Int.reduceNe, Int.reduceMod, Int.reduceDiv, ne_eq, Int.reduceEq, not_false_eq_true, Nat.reducePow, List.length_append, List.length_replicate, List.replicate_succ, List.replicate_zero, Int.cast_ofNat_Int, k2, k4, kh2, kh4, k7, kh7, k8, k14, k15, k16, d1, f1.sc, f1.cells, callX_known (C := C4) (g := 21) rfl, e24]
          have d2 : decide ((0 : Int) < ((q.h.length + 1 : Nat) : Int)) = true := decide_eq_true (by omega)
          simp (disch := first | omega | simp only [*, go_sem, tm0, ↓reduceIte, Nat.reduceAdd, Nat.reduceMul, Nat.reduceSub, Nat.reduceLeDiff, Nat.reduceLT, Nat.reduceEqDiff, Int.reduceLT, Int.reduceLE, Int.reduceAdd, Int.reduceSub, Int.reduceMul, Int.reduceToNat, Int.reducePow, Int.reduceNe, Int.reduceMod, Int.reduceDiv, ne_eq, Int.reduceEq, not_false_eq_true, Nat.reducePow, List.length_append, List.length_replicate, List.replicate_succ, List.replicate_zero, Int.cast_ofNat_Int]) only [d2, go_sem, tm0, ↓reduceIte, Nat.reduceAdd, Nat.reduceMul, Nat.reduceSub, Nat.reduceLeDiff, Nat.reduceLT, Nat.reduceEqDiff, Int.reduceLT, Int.reduceLE, Int.reduceAdd, Int.reduceSub, Int.reduceMul, Int.reduceToNat, Int.reducePow, Int.reduceNe, Int.reduceMod, Int.reduceDiv, ne_eq, Int.reduceEq, not_false_eq_true, Nat.reducePow, List.length_append, List.length_replicate, List.replicate_succ, List.replicate_zero, Int.cast_ofNat_Int, k2, k4, kh2, kh4, k7, kh7, k8, k14, k15, k16, List.length_map, Nat.zero_add, isSc_rows]
          refine ⟨l.length - (i + 1), by omega, i + 1, g + 1, _, _, _, rfl, by omega, rfl, ?_⟩
          rw [ht, hf]
          simp (disch := first | omega | simp only [go_sem, tm0, ↓reduceIte, Nat.reduceAdd, Nat.reduceMul, Nat.reduceSub, Nat.reduceLeDiff, Nat.reduceLT, Nat.reduceEqDiff, Int.reduceLT, Int.reduceLE, Int.reduceAdd, Int.reduceSub, Int.reduceMul, Int.reduceToNat, Int.reducePow, Int.reduceNe, Int.reduceMod, Int.reduceDiv, ne_eq, Int.reduceEq, not_false_eq_true, Nat.reducePow, List.length_append, List.length_replicate, List.replicate_succ, List.replicate_zero, Int.cast_ofNat_Int]) only [go_sem, tm0, ↓reduceIte, Nat.reduceAdd, Nat.reduceMul, Nat.reduceSub, Nat.reduceLeDiff, Nat.reduceLT, Nat.reduceEqDiff, Int.reduceLT, Int.reduceLE, Int.reduceAdd, Int.reduceSub, Int.reduceMul, Int.reduceToNat, Int.reducePow, Int.reduceNe, Int.reduceMod, Int.reduceDiv, ne_eq, Int.reduceEq, not_false_eq_true, Nat.reducePow, List.length_append, List.length_replicate, List.replicate_succ, List.replicate_zero, Int.cast_ofNat_Int, k2, k4, kh2, kh4, k7, kh7, k8, k14, k15, k16]
          exact ⟨by simp, by simp⟩
        · have hf : fstep s lo hi q (l.getD i 0) = ⟨rowOf (q.h ++ [l.getD i 0]), q.h ++ [l.getD i 0], q.rows, q.n⟩ := by
            unfold fstep
            rw [if_pos hin, if_neg hs]
          rw [if_neg hs] at e24
          simp (disch := first | omega | simp only [*, go_sem, tm0, ↓reduceIte, Nat.reduceAdd, Nat.reduceMul, Nat.reduceSub, Nat.reduceLeDiff, Nat.reduceLT, Nat.reduceEqDiff, Int.reduceLT, Int.reduceLE, Int.reduceAdd, Int.reduceSub, Int.reduceMul, Int.reduceToNat, Int.reducePow, Int.reduceNe, Int.reduceMod, Int.reduceDiv, ne_eq, Int.reduceEq, not_false_eq_true, Nat.reducePow, List.length_append, List.length_replicate, List.replicate_succ, List.replicate_zero, Int.cast_ofNat_Int]) only [go_sem, tm0, ↓reduceIte, Nat.reduceAdd, Nat.reduceMul, Nat.reduceSub, Nat.reduceLeDiff, Nat.reduceLT, Nat.reduceEqDiff, Int.reduceLT, Int.reduceLE, Int.reduceAdd, Int.reduceSub, Int.reduceMul, Int.reduceToNat, Int.reducePow, Int.reduceNe, Int.reduceMod, Int.reduceDiv, ne_eq, Int.reduceEq, not_false_eq_true, Nat.reducePow, List.length_append, List.length_replicate, List.replicate_succ, List.replicate_zero, Int.cast_ofNat_Int, k2, k4, kh2, kh4, k7, kh7, k8, k14, k15, k16, d1, f1.sc, f1.cells, callX_known (C := C4) (g := 21) rfl, e24]
          refine ⟨l.length - (i + 1), by omega, i + 1, g, _, _, _, rfl, by omega, rfl, ?_⟩
          rw [ht, hf]
          simp (disch := first | omega | simp only [go_sem, tm0, ↓reduceIte, Nat.reduceAdd, Nat.reduceMul, Nat.reduceSub, Nat.reduceLeDiff, Nat.reduceLT, Nat.reduceEqDiff, Int.reduceLT, Int.reduceLE, Int.reduceAdd, Int.reduceSub, Int.reduceMul, Int.reduceToNat, Int.reducePow, Int.reduceNe, Int.reduceMod, Int.reduceDiv, ne_eq, Int.reduceEq, not_false_eq_true, Nat.reducePow, List.length_append, List.length_replicate, List.replicate_succ, List.replicate_zero, Int.cast_ofNat_Int]) only [go_sem, tm0, ↓reduceIte, Nat.reduceAdd, Nat.reduceMul, Nat.reduceSub, Nat.reduceLeDiff, Nat.reduceLT, Nat.reduceEqDiff, Int.reduceLT, Int.reduceLE, Int.reduceAdd, Int.reduceSub, Int.reduceMul, Int.reduceToNat, Int.reducePow, Int.reduceNe, Int.reduceMod, Int.reduceDiv, ne_eq, Int.reduceEq, not_false_eq_true, Nat.reducePow, List.length_append, List.length_replicate, List.replicate_succ, List.replicate_zero, Int.cast_ofNat_Int, k2, k4, kh2, kh4, k7, kh7, k8, k14, k15, k16]
          simp
      · rw [decide_eq_false hin]
        have hf : fstep s lo hi q (l.getD i 0) = ⟨q.a, q.h, q.rows, q.n + 1⟩ := by
          unfold fstep
          rw [if_neg hin]
        simp (disch := first | omega | simp only [*, go_sem, tm0, ↓reduceIte, Nat.reduceAdd, Nat.reduceMul, Nat.reduceSub, Nat.reduceLeDiff, Nat.reduceLT, Nat.reduceEqDiff, Int.reduceLT, Int.reduceLE, Int.reduceAdd, Int.reduceSub, Int.reduceMul, Int.reduceToNat, Int.reducePow, Int.reduceNe, Int.reduceMod, Int.reduceDiv, ne_eq, Int.reduceEq, not_false_eq_true, Nat.reducePow, List.length_append, List.length_replicate, List.replicate_succ, List.replicate_zero, Int.cast_ofNat_Int]) only [go_sem, tm0, ↓reduceIte, Nat.reduceAdd, Nat.reduceMul, Nat.reduceSub, Nat.reduceLeDiff, Nat.reduceLT, Nat.reduceEqDiff, Int.reduceLT, Int.reduceLE, Int.reduceAdd, Int.reduceSub, Int.reduceMul, Int.reduceToNat, Int.reducePow, Int.reduceNe, Int.reduceMod, Int.reduceDiv, ne_eq, Int.reduceEq, not_false_eq_true, Nat.reducePow, List.length_append, List.length_replicate, List.replicate_succ, List.replicate_zero, Int.cast_ofNat_Int, k2, k4, kh2, kh4, k7, kh7, k8, k14, k15, k16, d1, f1.sc, f1.cells]
        refine ⟨l.length - (i + 1), by omega, i + 1, g, _, _, _, rfl, by omega, rfl, ?_⟩
        rw [ht, hf]
        simp (disch := first | omega | simp only [go_sem, tm0, ↓reduceIte, Nat.reduceAdd, Nat.reduceMul, Nat.reduceSub, Nat.reduceLeDiff, Nat.reduceLT, Nat.reduceEqDiff, Int.reduceLT, Int.reduceLE, Int.reduceAdd, Int.reduceSub, Int.reduceMul, Int.reduceToNat, Int.reducePow, Int.reduceNe, Int.reduceMod, Int.reduceDiv, ne_eq, Int.reduceEq, not_false_eq_true, Nat.reducePow, List.length_append, List.length_replicate, List.replicate_succ, List.replicate_zero, Int.cast_ofNat_Int]) only [go_sem, tm0, ↓reduceIte, Nat.reduceAdd, Nat.reduceMul, Nat.reduceSub, Nat.reduceLeDiff, Nat.reduceLT, Nat.reduceEqDiff, Int.reduceLT, Int.reduceLE, Int.reduceAdd, Int.reduceSub, Int.reduceMul, Int.reduceToNat, Int.reducePow, Int.reduceNe, Int.reduceMod, Int.reduceDiv, ne_eq, Int.reduceEq, not_false_eq_true, Nat.reducePow, List.length_append, List.length_replicate, List.replicate_succ, List.replicate_zero, Int.cast_ofNat_Int, k2, k4, kh2, kh4, k7, kh7, k8, k14, k15, k16]
        simp
    · obtain rfl : i = l.length := by omega
      have d1 : decide ((l.length : Int) < (l.length : Int)) = false := decide_eq_false (by omega)
      rw [List.take_length] at *
      have qp := f1.plain
      simp (disch := first | omega | simp only [*, go_sem, tm0, ↓reduceIte, Nat.reduceAdd, Nat.reduceMul, Nat.reduceSub, Nat.reduceLeDiff, Nat.reduceLT, Nat.reduceEqDiff, Int.reduceLT, Int.reduceLE, Int.reduceAdd, Int.reduceSub, Int.reduceMul, Int.reduceToNat, Int.reducePow, Int.reduceNe, Int.reduceMod, Int.reduceDiv, ne_eq, Int.reduceEq, not_false_eq_true, Nat.reducePow, List.length_append, List.length_replicate, List.replicate_succ, List.replicate_zero, Int.cast_ofNat_Int]) only [x12l4, go_sem, tm0, ↓reduceIte, Nat.reduceAdd, Nat.reduceMul, Nat.reduceSub, Nat.reduceLeDiff, Nat.reduceLT, Nat.reduceEqDiff, Int.reduceLT, Int.reduceLE, Int.reduceAdd, Int.reduceSub, Int.reduceMul, Int.reduceToNat, Int.reducePow, Int.reduceNe, Int.reduceMod, Int.reduceDiv, ne_eq, Int.reduceEq, not_false_eq_true, Nat.reducePow, List.length_append, List.length_replicate, List.replicate_succ, List.replicate_zero, Int.cast_ofNat_Int, k2, k4, kh2, kh4, k7, kh7, k8, k14, k15, k16, d1, f1.sc, f1.cells]
      generalize feed s lo hi ⟨a, h, [], 0⟩ l = q at *
      have hv : ∀ d h, lendVL d (q.rows.map rowOf) h = some (q.rows.map rowOf) := fun d h => lendVL_plain (plainL_rows d _)
      have hk : List.take q.rows.length (q.rows.map rowOf) = q.rows.map rowOf := List.take_of_length_le (by simp)
      rw [Ends_eq]
      simp (disch := first | omega | simp only [*, go_sem, tm0, ↓reduceIte, Nat.reduceAdd, Nat.reduceMul, Nat.reduceSub, Nat.reduceLeDiff, Nat.reduceLT, Nat.reduceEqDiff, Int.reduceLT, Int.reduceLE, Int.reduceAdd, Int.reduceSub, Int.reduceMul, Int.reduceToNat, Int.reducePow, Int.reduceNe, Int.reduceMod, Int.reduceDiv, ne_eq, Int.reduceEq, not_false_eq_true, Nat.reducePow, List.length_append, List.length_replicate, List.replicate_succ, List.replicate_zero, Int.cast_ofNat_Int]) only [go_sem, tm0, ↓reduceIte, Nat.reduceAdd, Nat.reduceMul, Nat.reduceSub, Nat.reduceLeDiff, Nat.reduceLT, Nat.reduceEqDiff, Int.reduceLT, Int.reduceLE, Int.reduceAdd, Int.reduceSub, Int.reduceMul, Int.reduceToNat, Int.reducePow, Int.reduceNe, Int.reduceMod, Int.reduceDiv, ne_eq, Int.reduceEq, not_false_eq_true, Nat.reducePow, List.length_append, List.length_replicate, List.replicate_succ, List.replicate_zero, Int.cast_ofNat_Int, List.length_map, Nat.zero_add, Nat.le_refl, kh7, hk, hv]
/-- Feed of the document. -/
noncomputable def F12 : List AVal → Option AVal
  | [.agg [.int .i64 s, .int .i64 lo, .int .i64 hi, a], b] => match rowI a, rowI b with
    | some h, some l => if h.length ≤ 1000 ∧ l.length ≤ 1000 then
        some (.tup [G s lo hi (feed s lo hi ⟨a, h, [], 0⟩ l).a, .slc 1 ((feed s lo hi ⟨a, h, [], 0⟩ l).rows.map rowOf), .int .i64 (feed s lo hi ⟨a, h, [], 0⟩ l).n]) else none
    | _, _ => none
  | _ => none
theorem F12_eq {s lo hi : Int} {a b : AVal} {h l : List Int} (ha : Rw a h) (hb : Rw b l) (h1 : h.length ≤ 1000) (h2 : l.length ≤ 1000) : F12 [G s lo hi a, b] =
    some (.tup [G s lo hi (feed s lo hi ⟨a, h, [], 0⟩ l).a, .slc 1 ((feed s lo hi ⟨a, h, [], 0⟩ l).rows.map rowOf), .int .i64 (feed s lo hi ⟨a, h, [], 0⟩ l).n]) := by
  simp only [F12, rowI_eq ha, rowI_eq hb]
  exact if_pos ⟨h1, h2⟩
theorem sound12 : Sound Try.prog 12 F12 := sound_at ok4 0 fun xs r h => by
  unfold F12 at h
  split at h
  · split at h
    · rename_i h1 h2
      split at h
      · rename_i hc
        cases h
        exact step12 (rowI_inv h1) (rowI_inv h2) hc.1 hc.2
      · cases h
    · cases h
  · cases h
end Go.Proofs.Ytplmnikmdcnebaa
