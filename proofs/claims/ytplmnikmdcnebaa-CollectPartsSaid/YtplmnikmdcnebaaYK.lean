/-
  CollectFeeds and CollectAdds, as the interpreter sees them.
-/
import Derived.Test.YtplmnikmdcnebaaYJ
set_option linter.unusedVariables false
set_option linter.unusedSimpArgs false
namespace Go.Proofs.Ytplmnikmdcnebaa
open Go Go.Xec

set_option maxRecDepth 10000
theorem same0 {s lo hi : Int} {a : AVal} {l : List Int} (h : Rw a l) (hl : Lg l) : F11 [G s lo hi a, G s lo hi a] = some (.bool true) := by
  rw [F11_eq h h hl hl, decide_eq_true ⟨rfl, rfl, rfl, rfl⟩]
theorem same00 : F11 [G 0 0 0 .nils, G 0 0 0 .nils] = some (.bool true) := same0 Rw.nils (by decide)
theorem fed_len {s lo hi : Int} {q : Fed} (x : Int) (hq : (q.h.length : Int) < s ∨ q.h = []) (hs : 1 ≤ s) : ((fstep s lo hi q x).h.length : Int) < s := by
  unfold fstep
  rcases hq with hq | hq
  · split
    · split
      · simp; omega
      · simp; omega
    · exact hq
  · rw [hq]
    split
    · split
      · simp; omega
      · rename_i h; simp at h ⊢; omega
    · simp [hq]; omega
/-- All rows, and what is there, have few numbers. -/
theorem feed_few {s lo hi : Int} {q : Fed} (hs : 1 ≤ s) (hq : (q.h.length : Int) < s) (hr : ∀ r ∈ q.rows, (r.length : Int) = s) : ∀ (l : List Int), ((feed s lo hi q l).h.length : Int) < s ∧ ∀ r ∈ (feed s lo hi q l).rows, (r.length : Int) = s := by
  intro l
  induction l generalizing q with
  | nil => exact ⟨hq, hr⟩
  | cons x l ih =>
    refine ih (fed_len x (.inl hq) hs) ?_
    unfold fstep
    split
    · split
      · rename_i h
        intro r hm
        rcases List.mem_append.1 hm with hm | hm
        · exact hr r hm
        · simp at hm; subst hm; simp; omega
      · exact hr
    · exact hr
theorem rowsV_rws (ls : List (List Int)) : Rws (rowsV ls) ls := by
  cases ls with
  | nil => exact Rws.nils
  | cons l ls => exact Rws.slc _
theorem lenVA_rowsV (ls : List (List Int)) : lenVA (rowsV ls) = some (.int .i64 ls.length) := (rowsV_rws ls).len
theorem law3 : ∀ xs, WTL [tG, tS] xs → pureF C7 1 3 xs = some (.bool true) := by
  intro xs h
  simp only [WTL] at h
  obtain ⟨g, _, rfl, hg, b, _, rfl, hb, rfl⟩ := h
  obtain ⟨s, lo, hi, a, h0, rfl, ha, hl0⟩ := wt_G hg
  obtain ⟨l0, hb, hb8, _⟩ := wt_ints hb
  have e7 := F7_eq (s := s) (lo := lo) (hi := hi) ha (show Lg h0 by simp only [Lg]; omega)
  have at_ := ha.cut 12
  have bt := hb.cut 200
  have hsl := hb.sliceTo (n := min l0.length 200) (Nat.min_le_left _ _)
  have hmn : mnxA false (.int .i64 l0.length) [.int .i64 200] = some (.int .i64 ((min l0.length 200 : Nat) : Int)) := mnx_min2 l0.length 200
  have ap := ha.plain
  have bp := hb.plain
  have atp := at_.plain
  have btp := bt.plain
  have n1 : (h0.take 12).length ≤ 1000 := by simp; omega
  have n2 : (l0.take 200).length ≤ 1000 := by simp; omega
  have e9 := F18_eq (s := s) (lo := lo) (hi := hi) at_ (show Lg (h0.take 12) by simp only [Lg]; omega)
  generalize h0.take 12 = h at *
  generalize l0.take 200 = l at *
  generalize hav : rwTake (min h0.length 12) a = av at *
  generalize hbv : rwTake (min l0.length 200) b = bv at *
  have zc : ∀ (x : AVal), Rw av h → Rw av h := fun _ h => h
  refine pureF_of (x := x3) rfl rfl ?_
  rw [x3_eq.1, x3_eq.2.1]
  by_cases hgo : grpOk s lo hi h
  · have e8 := F8_ok at_ bt n1 n2 hgo
    have e12 := F12_eq (s := s) (lo := lo) (hi := hi) at_ bt n1 n2
    rw [decide_eq_true hgo] at e9
    obtain ⟨f1, f2, f3, f4⟩ := feed_ok (s := s) (lo := lo) (hi := hi) (q := ⟨av, h, [], 0⟩) at_ l
    obtain ⟨f5, f6⟩ := feed_few (s := s) (lo := lo) (hi := hi) (q := ⟨av, h, [], 0⟩) hgo.1.1 hgo.2.1 (by intro r hr; cases hr) l
    simp only [List.length_nil] at f2 f3 f4
    have hsz := hgo.1
    have hrl : Lgs (feed s lo hi ⟨av, h, [], 0⟩ l).rows := ⟨by omega, fun r hr => by have := f6 r hr; simp only [szOk] at hsz; simp only [Lg]; omega⟩
    have es := same0 (s := s) (lo := lo) (hi := hi) f1 (by simp only [Lg]; omega)
    have er := F13_eq (rowsV_rws (feed s lo hi ⟨av, h, [], 0⟩ l).rows) (Rws.slc _) hrl hrl
    simp only [qv] at e8
    generalize feed s lo hi ⟨av, h, [], 0⟩ l = q at *
    have qp := f1.plain
    have rp := (rowsV_rws q.rows).plain
    simp (disch := first | omega | simp only [*, go_sem, tm0, ↓reduceIte, Nat.reduceAdd, Nat.reduceMul, Nat.reduceSub, Nat.reduceLeDiff, Nat.reduceLT, Nat.reduceEqDiff, Int.reduceLT, Int.reduceLE, Int.reduceAdd, Int.reduceSub, Int.reduceMul, Int.reduceToNat, Int.reducePow, Int.reduceNe, Int.reduceMod, Int.reduceDiv, ne_eq, Int.reduceEq, not_false_eq_true, Nat.reducePow, List.length_append, List.length_replicate, List.replicate_succ, List.replicate_zero, Int.cast_ofNat_Int, not_true_eq_false, decide_true, decide_false]) only [x3b, go_sem, tm0, ↓reduceIte, Nat.reduceAdd, Nat.reduceMul, Nat.reduceSub, Nat.reduceLeDiff, Nat.reduceLT, Nat.reduceEqDiff, Int.reduceLT, Int.reduceLE, Int.reduceAdd, Int.reduceSub, Int.reduceMul, Int.reduceToNat, Int.reducePow, Int.reduceNe, Int.reduceMod, Int.reduceDiv, ne_eq, Int.reduceEq, not_false_eq_true, Nat.reducePow, List.length_append, List.length_replicate, List.replicate_succ, List.replicate_zero, Int.cast_ofNat_Int, not_true_eq_false, decide_true, decide_false, ha.sc, ha.cells, hb.len, hmn, hsl, Option.map_some, Option.map_none, callX_known (C := C7) (g := 7) rfl, ft_call (C := C7) (g := 7) rfl, e7, callX_known (C := C7) (g := 8) rfl, e8, callX_known (C := C7) (g := 9) rfl, e9,
      at_.sc, at_.cells, callX_known (C := C7) (g := 12) rfl, e12, f1.sc, f1.cells, callX_known (C := C7) (g := 10) rfl, F10_eq, callX_known (C := C7) (g := 11) rfl, es, callX_known (C := C7) (g := 13) rfl, er]
    exact Ends_plain rfl rfl
  · have e8 := F8_no at_ bt n1 n2 hgo
    rw [decide_eq_false hgo] at e9
    simp (disch := first | omega | simp only [*, go_sem, tm0, ↓reduceIte, Nat.reduceAdd, Nat.reduceMul, Nat.reduceSub, Nat.reduceLeDiff, Nat.reduceLT, Nat.reduceEqDiff, Int.reduceLT, Int.reduceLE, Int.reduceAdd, Int.reduceSub, Int.reduceMul, Int.reduceToNat, Int.reducePow, Int.reduceNe, Int.reduceMod, Int.reduceDiv, ne_eq, Int.reduceEq, not_false_eq_true, Nat.reducePow, List.length_append, List.length_replicate, List.replicate_succ, List.replicate_zero, Int.cast_ofNat_Int, not_true_eq_false, decide_true, decide_false]) only [x3b, go_sem, tm0, ↓reduceIte, Nat.reduceAdd, Nat.reduceMul, Nat.reduceSub, Nat.reduceLeDiff, Nat.reduceLT, Nat.reduceEqDiff, Int.reduceLT, Int.reduceLE, Int.reduceAdd, Int.reduceSub, Int.reduceMul, Int.reduceToNat, Int.reducePow, Int.reduceNe, Int.reduceMod, Int.reduceDiv, ne_eq, Int.reduceEq, not_false_eq_true, Nat.reducePow, List.length_append, List.length_replicate, List.replicate_succ, List.replicate_zero, Int.cast_ofNat_Int, not_true_eq_false, decide_true, decide_false, ha.sc, ha.cells, hb.len, hmn, hsl, Option.map_some, Option.map_none, callX_known (C := C7) (g := 7) rfl, ft_call (C := C7) (g := 7) rfl, e7, callX_known (C := C7) (g := 8) rfl, e8, callX_known (C := C7) (g := 9) rfl, e9,
      at_.sc, at_.cells, callX_known (C := C7) (g := 10) rfl, F10_eq, callX_known (C := C7) (g := 11) rfl, same00]
    exact Ends_plain rfl rfl
end Go.Proofs.Ytplmnikmdcnebaa
