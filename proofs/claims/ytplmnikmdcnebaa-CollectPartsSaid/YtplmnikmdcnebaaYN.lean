/-
  CollectParts, as the interpreter sees it.
-/
import Derived.Test.YtplmnikmdcnebaaYM
set_option linter.unusedVariables false
set_option linter.unusedSimpArgs false
namespace Go.Proofs.Ytplmnikmdcnebaa
open Go Go.Xec

set_option maxRecDepth 10000
theorem feed_rows {s lo hi : Int} {q : Fed} {rows : List (List Int)} {n : Nat} : ∀ (l : List Int), feed s lo hi ⟨q.a, q.h, rows ++ q.rows, n + q.n⟩ l = ⟨(feed s lo hi q l).a, (feed s lo hi q l).h, rows ++ (feed s lo hi q l).rows, n + (feed s lo hi q l).n⟩ := by
  intro l
  induction l generalizing q with
  | nil => rfl
  | cons x l ih =>
    have := ih (q := fstep s lo hi q x)
    rw [show feed s lo hi q (x :: l) = feed s lo hi (fstep s lo hi q x) l from rfl, ← this]
    rw [show ∀ p, feed s lo hi p (x :: l) = feed s lo hi (fstep s lo hi p x) l from fun _ => rfl]
    congr 1
    unfold fstep
    split
    · split <;> simp
    · simp; omega
theorem feed_app {s lo hi : Int} {q : Fed} (l m : List Int) : feed s lo hi q (l ++ m) = feed s lo hi (feed s lo hi q l) m := by simp [feed]
theorem feed_two {s lo hi : Int} {a : AVal} {h : List Int} (l m : List Int) : feed s lo hi ⟨a, h, [], 0⟩ (l ++ m) =
    ⟨(feed s lo hi ⟨(feed s lo hi ⟨a, h, [], 0⟩ l).a, (feed s lo hi ⟨a, h, [], 0⟩ l).h, [], 0⟩ m).a, (feed s lo hi ⟨(feed s lo hi ⟨a, h, [], 0⟩ l).a, (feed s lo hi ⟨a, h, [], 0⟩ l).h, [], 0⟩ m).h,
      (feed s lo hi ⟨a, h, [], 0⟩ l).rows ++ (feed s lo hi ⟨(feed s lo hi ⟨a, h, [], 0⟩ l).a, (feed s lo hi ⟨a, h, [], 0⟩ l).h, [], 0⟩ m).rows,
      (feed s lo hi ⟨a, h, [], 0⟩ l).n + (feed s lo hi ⟨(feed s lo hi ⟨a, h, [], 0⟩ l).a, (feed s lo hi ⟨a, h, [], 0⟩ l).h, [], 0⟩ m).n⟩ := by
  rw [feed_app, ← feed_rows]
  simp
theorem feed_in {s lo hi : Int} {q : Fed} (hq : ∀ x ∈ q.h, lo ≤ x ∧ x ≤ hi) (l : List Int) : ∀ x ∈ (feed s lo hi q l).h, lo ≤ x ∧ x ≤ hi := by
  induction l generalizing q with
  | nil => exact hq
  | cons x l ih =>
    refine ih (q := fstep s lo hi q x) ?_
    unfold fstep
    split
    · rename_i hx
      split
      · simp
      · intro y hy
        rcases List.mem_append.1 hy with hy | hy
        · exact hq y hy
        · simp at hy; subst hy; exact hx
    · exact hq
theorem turn_k (k : Int) (n : Nat) : ∃ m : Nat, m ≤ n ∧ -((n : Int) + 1) < k.tmod ((n : Int) + 1) ∧ k.tmod ((n : Int) + 1) < (n : Int) + 1 ∧ (k.tmod ((n : Int) + 1) + (n : Int) + 1).tmod ((n : Int) + 1) = (m : Int) := by
  have hp : (0 : Int) < (n : Int) + 1 := by omega
  have h1 := Int.lt_tmod_of_pos k hp
  have h2 := Int.tmod_lt_of_pos k hp
  have h3 : 0 ≤ k.tmod ((n : Int) + 1) + (n : Int) + 1 := by omega
  have h4 := Int.tmod_nonneg ((n : Int) + 1) h3
  have h5 := Int.tmod_lt_of_pos (k.tmod ((n : Int) + 1) + (n : Int) + 1) hp
  refine ⟨((k.tmod ((n : Int) + 1) + (n : Int) + 1).tmod ((n : Int) + 1)).toNat, by omega, h1, h2, by omega⟩
theorem law5 : ∀ xs, WTL [tG, tS, tI] xs → pureF C7 1 5 xs = some (.bool true) := by
  intro xs h
  simp only [WTL] at h
  obtain ⟨g, _, rfl, hg, b, _, rfl, hb, kv, _, rfl, hkv, rfl⟩ := h
  obtain ⟨s, lo, hi, a, h0, rfl, ha, hl0⟩ := wt_G hg
  obtain ⟨l0, hb, hb8, _⟩ := wt_ints hb
  obtain ⟨k, rfl, hk1, hk2⟩ := (by simpa only [WT] using hkv : ∃ n, kv = .int .i64 n ∧ IntKind.i64.min ≤ n ∧ n ≤ IntKind.i64.max)
  clear hkv hg
  have e7 := F7_eq (s := s) (lo := lo) (hi := hi) ha (show Lg h0 by simp only [Lg]; omega)
  have at_ := ha.cut 12
  have bt := hb.cut 200
  have hsl := hb.sliceTo (n := min l0.length 200) (Nat.min_le_left _ _)
  have hmn : mnxA false (.int .i64 l0.length) [.int .i64 200] = some (.int .i64 ((min l0.length 200 : Nat) : Int)) := mnx_min2 l0.length 200
  have ap := ha.plain
  have bp := hb.plain
  have atp := at_.plain
  have btp := bt.plain
  have n1 : (h0.take 12).length ≤ 12 := by simp; omega
  have n2 : (l0.take 200).length ≤ 200 := by simp; omega
  generalize h0.take 12 = h at *
  generalize l0.take 200 = l at *
  generalize hav : rwTake (min h0.length 12) a = av at *
  generalize hbv : rwTake (min l0.length 200) b = bv at *
  obtain ⟨m, hm, t1, t2, t3⟩ := turn_k k l.length
  refine pureF_of (x := x5) rfl rfl ?_
  rw [x5_eq.1, x5_eq.2.1]
  by_cases hgo : grpOk s lo hi h
  · have e8 := F8_ok at_ bt (by omega) (by omega) hgo
    have hs1 := bt.sliceTo hm
    have hs2 := bt.sliceFrom hm
    have b1 := bt.take m
    have b2 := bt.drop m
    have e8a := F8_ok at_ b1 (by omega) (by simp; omega) hgo
    have hsp : l = l.take m ++ l.drop m := (List.take_append_drop m l).symm
    have hft := feed_two (s := s) (lo := lo) (hi := hi) (a := av) (h := h) (l.take m) (l.drop m)
    rw [← hsp] at hft
    clear hsp
    obtain ⟨f1, f2, f3, f4⟩ := feed_ok (s := s) (lo := lo) (hi := hi) (q := ⟨av, h, [], 0⟩) at_ (l.take m)
    obtain ⟨f5, f6⟩ := feed_few (s := s) (lo := lo) (hi := hi) (q := ⟨av, h, [], 0⟩) hgo.1.1 hgo.2.1 (by intro r hr; cases hr) (l.take m)
    have f7 := feed_in (s := s) (lo := lo) (hi := hi) (q := ⟨av, h, [], 0⟩) hgo.2.2 (l.take m)
    have hsz := hgo.1
    simp only [szOk] at hsz
    simp only [qv] at e8 e8a
    rw [hft] at e8
    clear hft
    generalize feed s lo hi ⟨av, h, [], 0⟩ (l.take m) = q at *
    simp only [List.length_nil, List.length_take] at f2 f3 f4
    have hg2 : grpOk s lo hi q.h := ⟨hgo.1, f5, f7⟩
    have e8b := F8_ok f1 b2 (by omega) (by simp; omega) hg2
    obtain ⟨g1, g2, g3, g4⟩ := feed_ok (s := s) (lo := lo) (hi := hi) (q := ⟨q.a, q.h, [], 0⟩) f1 (l.drop m)
    obtain ⟨g5, g6⟩ := feed_few (s := s) (lo := lo) (hi := hi) (q := ⟨q.a, q.h, [], 0⟩) hgo.1.1 f5 (by intro r hr; cases hr) (l.drop m)
    simp only [qv] at e8b
    generalize feed s lo hi ⟨q.a, q.h, [], 0⟩ (l.drop m) = p at *
    simp only [List.length_nil, List.length_drop] at g2 g3 g4
    have hrr := rowsV_rws (q.rows ++ p.rows)
    have hr1 := rowsV_rws q.rows
    have hr2 := rowsV_rws p.rows
    have rp := hrr.plain
    have rp1 := hr1.plain
    have rp2 := hr2.plain
    have qp := f1.plain
    have pp := g1.plain
    have b1p := b1.plain
    have b2p := b2.plain
    have hrl : Lgs (q.rows ++ p.rows) := ⟨by simp; omega, fun r hr => by
      rcases List.mem_append.1 hr with hr | hr
      · have := f6 r hr; simp only [Lg]; omega
      · have := g6 r hr; simp only [Lg]; omega⟩
    have es := same0 (s := s) (lo := lo) (hi := hi) g1 (by simp only [Lg]; omega)
    have e13 := F13_eq hrr (Rws.slc (q.rows ++ p.rows)) hrl hrl
    rw [decide_eq_true rfl] at e13
    have e15 := F15_ok (s := s) (lo := lo) (hi := hi) f1 (by simp only [Lg]; omega) hg2
    have e16 := F16_ok hgo.1
    have s1 := same0 (s := s) (lo := lo) (hi := hi) Rw.nils (show Lg [] by decide)
    have er1 : ∀ hp, elemsA 1 (rowsV q.rows) hp = some (q.rows.map rowOf) := fun hp => by
      cases q.rows with
      | nil => rfl
      | cons => exact elemsA_slc _ _
    have er2 : ∀ hp, elemsA 1 (rowsV p.rows) hp = some (p.rows.map rowOf) := fun hp => by
      cases p.rows with
      | nil => rfl
      | cons => exact elemsA_slc _ _
    have hpr : ∀ d (ls : List (List Int)), plainL d (ls.map rowOf) = true := fun d (ls : List (List Int)) => plainL_rows d ls
    have d1 : q.rows.length * 24 ≤ 140737488355328 := by omega
    have d2 : (q.rows.length + p.rows.length) * 24 ≤ 140737488355328 := by omega
    have d3 : decide (((q.n + p.n : Nat) : Int) = (q.n : Int) + (p.n : Int)) = true := decide_eq_true (by omega)
    have d3' : decide (¬ ((q.n : Int) + (p.n : Int) = (q.n : Int) + (p.n : Int))) = false := decide_eq_false (by simp)
    have hll : ∀ ls : List (List Int), lendXL 63 (ls.map rowOf) = fun hp => some (ls.map rowOf, []) := fun ls => funext fun hp => lendXL_plain (plainL_rows _ _)
    have htk : List.take (q.rows.length + p.rows.length) (q.rows.map rowOf ++ p.rows.map rowOf) = (q.rows ++ p.rows).map rowOf := by
      rw [← List.map_append, List.take_of_length_le (by simp)]
    simp (disch := first | omega | simp only [*, go_sem, tm0, ↓reduceIte, Nat.reduceAdd, Nat.reduceMul, Nat.reduceSub, Nat.reduceLeDiff, Nat.reduceLT, Nat.reduceEqDiff, Int.reduceLT, Int.reduceLE, Int.reduceAdd, Int.reduceSub, Int.reduceMul, Int.reduceToNat, Int.reducePow, Int.reduceNe, Int.reduceMod, Int.reduceDiv, ne_eq, Int.reduceEq, not_false_eq_true, Nat.reducePow, List.length_append, List.length_replicate, List.replicate_succ, List.replicate_zero, Int.cast_ofNat_Int, not_true_eq_false, decide_true, decide_false]) only [x5b, go_sem, tm0, ↓reduceIte, Nat.reduceAdd, Nat.reduceMul, Nat.reduceSub, Nat.reduceLeDiff, Nat.reduceLT, Nat.reduceEqDiff, Int.reduceLT, Int.reduceLE, Int.reduceAdd, Int.reduceSub, Int.reduceMul, Int.reduceToNat, Int.reducePow, Int.reduceNe, Int.reduceMod, Int.reduceDiv, ne_eq, Int.reduceEq, not_false_eq_true, Nat.reducePow, List.length_append, List.length_replicate, List.replicate_succ, List.replicate_zero, Int.cast_ofNat_Int, not_true_eq_false, decide_true, decide_false, ha.sc, ha.cells, hb.len, hmn, hsl, Option.map_some, Option.map_none, callX_known (C := C7) (g := 7) rfl, ft_call (C := C7) (g := 7) rfl, callX_known (C := C7) (g := 8) rfl, ft_call (C := C7) (g := 8) rfl, e7, e8, at_.sc, at_.cells, bt.len, t3, htk, hs1, hs2, e8a, e8b, f1.sc, f1.cells, g1.sc, g1.cells, lenVA_rowsV, callX_known (C := C7) (g := 11) rfl, ft_call (C := C7) (g := 11) rfl, callX_known (C := C7) (g := 10) rfl, ft_call (C := C7) (g := 10) rfl, callX_known (C := C7) (g := 15) rfl, ft_call (C := C7) (g := 15) rfl, callX_known (C := C7) (g := 16) rfl, ft_call (C := C7) (g := 16) rfl, es, F10_eq, e15, e16, s1, er1, er2, hpr, isSc_rows, List.length_map, Nat.zero_add, d1, d2, d3, Int.natCast_add, callX_names (C := C7) (g := 13) rfl, ftC_names (C := C7) (g := 13) rfl, hll, e13, f1.len, List.take_length]
    exact Ends_plain rfl rfl
  · have e8 := F8_no at_ bt (by omega) (by omega) hgo
    simp (disch := first | omega | simp only [*, go_sem, tm0, ↓reduceIte, Nat.reduceAdd, Nat.reduceMul, Nat.reduceSub, Nat.reduceLeDiff, Nat.reduceLT, Nat.reduceEqDiff, Int.reduceLT, Int.reduceLE, Int.reduceAdd, Int.reduceSub, Int.reduceMul, Int.reduceToNat, Int.reducePow, Int.reduceNe, Int.reduceMod, Int.reduceDiv, ne_eq, Int.reduceEq, not_false_eq_true, Nat.reducePow, List.length_append, List.length_replicate, List.replicate_succ, List.replicate_zero, Int.cast_ofNat_Int, not_true_eq_false, decide_true, decide_false]) only [x5b, go_sem, tm0, ↓reduceIte, Nat.reduceAdd, Nat.reduceMul, Nat.reduceSub, Nat.reduceLeDiff, Nat.reduceLT, Nat.reduceEqDiff, Int.reduceLT, Int.reduceLE, Int.reduceAdd, Int.reduceSub, Int.reduceMul, Int.reduceToNat, Int.reducePow, Int.reduceNe, Int.reduceMod, Int.reduceDiv, ne_eq, Int.reduceEq, not_false_eq_true, Nat.reducePow, List.length_append, List.length_replicate, List.replicate_succ, List.replicate_zero, Int.cast_ofNat_Int, not_true_eq_false, decide_true, decide_false, ha.sc, ha.cells, hb.len, hmn, hsl, Option.map_some, Option.map_none, callX_known (C := C7) (g := 7) rfl, ft_call (C := C7) (g := 7) rfl, callX_known (C := C7) (g := 8) rfl, ft_call (C := C7) (g := 8) rfl, callX_known (C := C7) (g := 10) rfl, ft_call (C := C7) (g := 10) rfl, F10_eq, e7, e8, at_.sc, at_.cells, bt.len, t3]
    exact Ends_plain rfl rfl
end Go.Proofs.Ytplmnikmdcnebaa
