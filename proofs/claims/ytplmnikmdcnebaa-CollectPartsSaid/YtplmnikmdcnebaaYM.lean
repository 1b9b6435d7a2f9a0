/-
  CollectWhole, as the interpreter sees it.
-/
import Derived.Test.YtplmnikmdcnebaaYL
set_option linter.unusedVariables false
set_option linter.unusedSimpArgs false
namespace Go.Proofs.Ytplmnikmdcnebaa
open Go Go.Xec

set_option maxRecDepth 10000
abbrev isIn (lo hi : Int) (x : Int) : Bool := decide (lo ≤ x ∧ x ≤ hi)
/-- What comes is kept, in order, or refused. -/
theorem feed_flat {s lo hi : Int} {q : Fed} : ∀ (l : List Int), (feed s lo hi q l).rows.flatten ++ (feed s lo hi q l).h = q.rows.flatten ++ q.h ++ l.filter (isIn lo hi) ∧ (feed s lo hi q l).n + (l.filter (isIn lo hi)).length = q.n + l.length := by
  intro l
  induction l generalizing q with
  | nil => simp [feed]
  | cons x l ih =>
    have := ih (q := fstep s lo hi q x)
    rw [show feed s lo hi q (x :: l) = feed s lo hi (fstep s lo hi q x) l from rfl]
    obtain ⟨e1, e2⟩ := this
    rw [e1]
    unfold fstep at e2 ⊢
    by_cases hx : lo ≤ x ∧ x ≤ hi
    · rw [if_pos hx] at e2 ⊢
      have hd : isIn lo hi x = true := decide_eq_true hx
      rw [List.filter_cons_of_pos hd]
      split at e2
      · rename_i h; rw [if_pos h]; simp at e2 ⊢; omega
      · rename_i h; rw [if_neg h]; simp at e2 ⊢; omega
    · rw [if_neg hx] at e2 ⊢
      have hd : ¬ isIn lo hi x = true := by simpa using hx
      rw [List.filter_cons_of_neg hd]
      simp at e2 ⊢; omega
theorem take_flat {ls : List (List Int)} {i : Nat} (hi : i < ls.length) : (ls.take (i + 1)).flatten = (ls.take i).flatten ++ ls.getD i [] := by
  rw [List.take_add_one, List.flatten_append, List.getElem?_eq_getElem hi]
  simp [List.getD_eq_getElem?_getD, List.getElem?_eq_getElem hi]
theorem flat_len_le {n : Nat} : ∀ (ls : List (List Int)), (∀ r ∈ ls, r.length ≤ n) → ls.flatten.length ≤ ls.length * n
  | [], _ => by simp
  | l :: ls, h => by
    have := flat_len_le ls fun r hr => h r (by simp [hr])
    have := h l (by simp)
    simp only [List.flatten_cons, List.length_append, List.length_cons, Nat.add_mul, Nat.one_mul]
    omega
theorem take_filter {p : Int → Bool} {l : List Int} {i : Nat} (hi : i < l.length) : (l.take (i + 1)).filter p = (l.take i).filter p ++ if p (l.getD i 0) then [l.getD i 0] else [] := by
  rw [List.take_add_one, List.filter_append, List.getElem?_eq_getElem hi]
  simp only [Option.toList_some, List.getD_eq_getElem?_getD, List.getElem?_eq_getElem hi, Option.getD_some]
  split
  · rename_i h; rw [List.filter_cons_of_pos h]; rfl
  · rename_i h; rw [List.filter_cons_of_neg h]; rfl
theorem law4 : ∀ xs, WTL [tG, tS] xs → pureF C7 1 4 xs = some (.bool true) := by
  intro xs h
  simp only [WTL] at h
  obtain ⟨g, _, rfl, hg, b, _, rfl, hb, rfl⟩ := h
  obtain ⟨s, lo, hi, a, h0, rfl, ha, hl0⟩ := wt_G hg
  obtain ⟨l0, hb, hb8, _⟩ := wt_ints hb
  have e7 := F7_eq (s := s) (lo := lo) (hi := hi) ha (show Lg h0 by simp only [Lg]; omega)
  have at_ := ha.cut 12
  have bt := hb.cut 200
  have hsl := hb.sliceTo (n := min l0.length 200) (Nat.min_le_left _ _)
  have hmn : mnxA false (.int .i64 l0.length) [.int .i64 200] = some (.int .i64 ((min l0.length 200 : Nat) : Int)) := mnx_min2 l0.length 200
  have ap := ha.plain
  have bp := hb.plain
  have atp := at_.plain
  have btp := bt.plain
  have n1 : (h0.take 12).length ≤ 1000 := by simp; omega
  have n2 : (l0.take 200).length ≤ 1000 := by simp; omega
  generalize h0.take 12 = h at *
  generalize l0.take 200 = l at *
  generalize hav : rwTake (min h0.length 12) a = av at *
  generalize hbv : rwTake (min l0.length 200) b = bv at *
  refine pureF_of (x := x4) rfl rfl ?_
  rw [x4_eq.1, x4_eq.2.1]
  by_cases hgo : grpOk s lo hi h
  · have e8 := F8_ok at_ bt n1 n2 hgo
    obtain ⟨f1, f2, f3, f4⟩ := feed_ok (s := s) (lo := lo) (hi := hi) (q := ⟨av, h, [], 0⟩) at_ l
    obtain ⟨f5, f6⟩ := feed_few (s := s) (lo := lo) (hi := hi) (q := ⟨av, h, [], 0⟩) hgo.1.1 hgo.2.1 (by intro r hr; cases hr) l
    obtain ⟨f7, f8⟩ := feed_flat (s := s) (lo := lo) (hi := hi) (q := ⟨av, h, [], 0⟩) l
    simp only [List.length_nil, List.flatten_nil, List.nil_append] at f2 f3 f4 f7 f8
    have hsz := hgo.1
    simp only [szOk] at hsz
    have hrl : Lgs (feed s lo hi ⟨av, h, [], 0⟩ l).rows := ⟨by omega, fun r hr => by have := f6 r hr; simp only [Lg]; omega⟩
    have hrr := rowsV_rws (feed s lo hi ⟨av, h, [], 0⟩ l).rows
    simp only [qv] at e8
    generalize feed s lo hi ⟨av, h, [], 0⟩ l = q at *
    have qp := f1.plain
    have rp := hrr.plain
    have hq10 : ∀ r ∈ q.rows, r.length ≤ 10 := fun r hr => by have := f6 r hr; omega
    simp (disch := first | omega | simp only [*, go_sem, tm0, ↓reduceIte, Nat.reduceAdd, Nat.reduceMul, Nat.reduceSub, Nat.reduceLeDiff, Nat.reduceLT, Nat.reduceEqDiff, Int.reduceLT, Int.reduceLE, Int.reduceAdd, Int.reduceSub, Int.reduceMul, Int.reduceToNat, Int.reducePow, Int.reduceNe, Int.reduceMod, Int.reduceDiv, ne_eq, Int.reduceEq, not_false_eq_true, Nat.reducePow, List.length_append, List.length_replicate, List.replicate_succ, List.replicate_zero, Int.cast_ofNat_Int, not_true_eq_false, decide_true, decide_false]) only [x4b, go_sem, tm0, ↓reduceIte, Nat.reduceAdd, Nat.reduceMul, Nat.reduceSub, Nat.reduceLeDiff, Nat.reduceLT, Nat.reduceEqDiff, Int.reduceLT, Int.reduceLE, Int.reduceAdd, Int.reduceSub, Int.reduceMul, Int.reduceToNat, Int.reducePow, Int.reduceNe, Int.reduceMod, Int.reduceDiv, ne_eq, Int.reduceEq, not_false_eq_true, Nat.reducePow, List.length_append, List.length_replicate, List.replicate_succ, List.replicate_zero, Int.cast_ofNat_Int, not_true_eq_false, decide_true, decide_false, ha.sc, ha.cells, hb.len, hmn, hsl, Option.map_some, Option.map_none, callX_known (C := C7) (g := 7) rfl, ft_call (C := C7) (g := 7) rfl, callX_known (C := C7) (g := 8) rfl, ft_call (C := C7) (g := 8) rfl, e7, e8, at_.sc, at_.cells, f1.sc, f1.cells, lenVA_rowsV]
    refine Ev_range (ti := 44) (len := q.rows.length) (J := fun i tm hp nc => Own [4011002, 4013003] 1 hp (tm 9) (i64s (q.rows.take i).flatten) ∧
      hp (4000000, 0) = some (.var [.int .i64 s, .int .i64 lo, .int .i64 hi, av]) ∧ hp (4002008, 2) = some (.var [.int .i64 s, .int .i64 lo, .int .i64 hi, q.a])) (by omega) ?_ ?_ ?_
    · simp only [go_sem, tm0, ↓reduceIte, Nat.reduceAdd, Nat.reduceMul, Nat.reduceSub, Nat.reduceLeDiff, Nat.reduceLT, Nat.reduceEqDiff, Int.reduceLT, Int.reduceLE, Int.reduceAdd, Int.reduceSub, Int.reduceMul, Int.reduceToNat, Int.reducePow, Int.reduceNe, Int.reduceMod, Int.reduceDiv, ne_eq, Int.reduceEq, not_false_eq_true, Nat.reducePow, List.length_append, List.length_replicate, List.replicate_succ, List.replicate_zero, Int.cast_ofNat_Int, not_true_eq_false, decide_true, decide_false]
    · simp only [go_sem, tm0, ↓reduceIte, Nat.reduceAdd, Nat.reduceMul, Nat.reduceSub, Nat.reduceLeDiff, Nat.reduceLT, Nat.reduceEqDiff, Int.reduceLT, Int.reduceLE, Int.reduceAdd, Int.reduceSub, Int.reduceMul, Int.reduceToNat, Int.reducePow, Int.reduceNe, Int.reduceMod, Int.reduceDiv, ne_eq, Int.reduceEq, not_false_eq_true, Nat.reducePow, List.length_append, List.length_replicate, List.replicate_succ, List.replicate_zero, Int.cast_ofNat_Int, not_true_eq_false, decide_true, decide_false, List.flatten_nil, List.map_nil]
      exact Own.nils _ _ _
    · rintro i tm hp nc hi' hc k44 ⟨ho, kg, ka⟩
      have k1 := hc 1 rfl; have k2 := hc 2 rfl; have k5 := hc 5 rfl; have k6 := hc 6 rfl; have k7 := hc 7 rfl; have k8 := hc 8 rfl; have k42 := hc 42 rfl; have k43 := hc 43 rfl; simp only [go_sem, tm0, ↓reduceIte, Nat.reduceAdd, Nat.reduceMul, Nat.reduceSub, Nat.reduceLeDiff, Nat.reduceLT, Nat.reduceEqDiff, Int.reduceLT, Int.reduceLE, Int.reduceAdd, Int.reduceSub, Int.reduceMul, Int.reduceToNat, Int.reducePow, Int.reduceNe, Int.reduceMod, Int.reduceDiv, ne_eq, Int.reduceEq, not_false_eq_true, Nat.reducePow, List.length_append, List.length_replicate, List.replicate_succ, List.replicate_zero, Int.cast_ofNat_Int, not_true_eq_false, decide_true, decide_false] at k1 k2 k5 k6 k7 k8 k42 k43
      have hflen := flat_len_le (n := 10) (q.rows.take i) fun r hr => hq10 r (List.mem_of_mem_take hr)
      simp only [List.length_take] at hflen
      rcases Nat.lt_or_ge i q.rows.length with hlt | hge
      · have d1 : decide ((i : Int) < (q.rows.length : Int)) = true := decide_eq_true (by omega)
        obtain ⟨x, ia, hx⟩ := hrr.ia hlt
        have hm := getD_mem hlt
        have hxl := f6 _ hm
        have d2 : decide (¬ ((q.rows.getD i []).length : Int) = s) = false := decide_eq_false (by omega)
        obtain ⟨V, H, hA, hO⟩ := ho.appAll (s0 := 4011002) (bytes := 8) (by simp) hx.elems (plainL_ints _ _ _) (by simp [cellsOf, isSc]) (by have := hq10 _ hm; simp only [List.length_map]; omega)
        simp (disch := first | omega | simp only [*, go_sem, tm0, ↓reduceIte, Nat.reduceAdd, Nat.reduceMul, Nat.reduceSub, Nat.reduceLeDiff, Nat.reduceLT, Nat.reduceEqDiff, Int.reduceLT, Int.reduceLE, Int.reduceAdd, Int.reduceSub, Int.reduceMul, Int.reduceToNat, Int.reducePow, Int.reduceNe, Int.reduceMod, Int.reduceDiv, ne_eq, Int.reduceEq, not_false_eq_true, Nat.reducePow, List.length_append, List.length_replicate, List.replicate_succ, List.replicate_zero, Int.cast_ofNat_Int, not_true_eq_false, decide_true, decide_false]) only [go_sem, tm0, ↓reduceIte, Nat.reduceAdd, Nat.reduceMul, Nat.reduceSub, Nat.reduceLeDiff, Nat.reduceLT, Nat.reduceEqDiff, Int.reduceLT, Int.reduceLE, Int.reduceAdd, Int.reduceSub, Int.reduceMul, Int.reduceToNat, Int.reducePow, Int.reduceNe, Int.reduceMod, Int.reduceDiv, ne_eq, Int.reduceEq, not_false_eq_true, Nat.reducePow, List.length_append, List.length_replicate, List.replicate_succ, List.replicate_zero, Int.cast_ofNat_Int, not_true_eq_false, decide_true, decide_false, kg, ka, callX_known (C := C7) (g := 7) rfl, ft_call (C := C7) (g := 7) rfl, callX_known (C := C7) (g := 8) rfl, ft_call (C := C7) (g := 8) rfl, callX_known (C := C7) (g := 14) rfl, ft_call (C := C7) (g := 14) rfl, callX_known (C := C7) (g := 10) rfl, ft_call (C := C7) (g := 10) rfl, F10_eq, ha.sc, ha.cells, at_.sc, at_.cells, f1.sc, f1.cells, hb.len, bt.len, bt.sc, bt.cells, f1.len, at_.len, x4l7, k1, k2, k5, k6, k7, k8, k44, k42, k43, d1, ia, hx.sc, hx.cells, hx.len, d2, hA]
        refine ⟨hlt, by simp, ?_, ?_, ?_⟩
        · rw [take_flat hlt, i64s, List.map_append]; exact (hO _).1
        · rw [(hO _).2 _ (by decide)]; exact kg
        · rw [(hO _).2 _ (by decide)]; exact ka
      · obtain rfl : i = q.rows.length := by omega
        have d1 : decide ((q.rows.length : Int) < (q.rows.length : Int)) = false := decide_eq_false (by omega)
        rw [List.take_length] at ho hflen
        obtain ⟨V, H, hA, hO⟩ := ho.appAll (s0 := 4013003) (bytes := 8) (by simp) f1.elems (plainL_ints _ _ _) (by simp [cellsOf, isSc]) (by simp only [List.length_map]; omega)
        have hew : ∀ hp, elemsA 1 av hp = some (i64s h) := fun hp => at_.elems
        have hpi : ∀ (k : IntKind) (l : List Int), ((l.map (AVal.int k)).all fun e => (cellsOf e).all isSc) = true := fun k l => by simp [cellsOf, isSc]
        simp (disch := first | omega | simp only [*, go_sem, tm0, ↓reduceIte, Nat.reduceAdd, Nat.reduceMul, Nat.reduceSub, Nat.reduceLeDiff, Nat.reduceLT, Nat.reduceEqDiff, Int.reduceLT, Int.reduceLE, Int.reduceAdd, Int.reduceSub, Int.reduceMul, Int.reduceToNat, Int.reducePow, Int.reduceNe, Int.reduceMod, Int.reduceDiv, ne_eq, Int.reduceEq, not_false_eq_true, Nat.reducePow, List.length_append, List.length_replicate, List.replicate_succ, List.replicate_zero, Int.cast_ofNat_Int, not_true_eq_false, decide_true, decide_false]) only [go_sem, tm0, ↓reduceIte, Nat.reduceAdd, Nat.reduceMul, Nat.reduceSub, Nat.reduceLeDiff, Nat.reduceLT, Nat.reduceEqDiff, Int.reduceLT, Int.reduceLE, Int.reduceAdd, Int.reduceSub, Int.reduceMul, Int.reduceToNat, Int.reducePow, Int.reduceNe, Int.reduceMod, Int.reduceDiv, ne_eq, Int.reduceEq, not_false_eq_true, Nat.reducePow, List.length_append, List.length_replicate, List.replicate_succ, List.replicate_zero, Int.cast_ofNat_Int, not_true_eq_false, decide_true, decide_false, kg, ka, callX_known (C := C7) (g := 7) rfl, ft_call (C := C7) (g := 7) rfl, callX_known (C := C7) (g := 8) rfl, ft_call (C := C7) (g := 8) rfl, callX_known (C := C7) (g := 14) rfl, ft_call (C := C7) (g := 14) rfl, callX_known (C := C7) (g := 10) rfl, ft_call (C := C7) (g := 10) rfl, F10_eq, ha.sc, ha.cells, at_.sc, at_.cells, f1.sc, f1.cells, hb.len, bt.len, bt.sc, bt.cells, f1.len, at_.len, x4l7, k1, k2, k5, k6, k7, k8, k44, k42, k43, d1, hA, hew, hpi, List.length_map, (hO _).2 _ (show (4000000, 0).1 ∉ [4011002, 4013003] by decide), (hO _).2 _ (show (4002008, 2).1 ∉ [4011002, 4013003] by decide)]
        have d0 : h.length * 8 ≤ 140737488355328 := by omega
        simp only [if_pos d0, Nat.zero_add, go_sem, tm0, ↓reduceIte, Nat.reduceAdd, Nat.reduceMul, Nat.reduceSub, Nat.reduceLeDiff, Nat.reduceLT, Nat.reduceEqDiff, Int.reduceLT, Int.reduceLE, Int.reduceAdd, Int.reduceSub, Int.reduceMul, Int.reduceToNat, Int.reducePow, Int.reduceNe, Int.reduceMod, Int.reduceDiv, ne_eq, Int.reduceEq, not_false_eq_true, Nat.reducePow, List.length_append, List.length_replicate, List.replicate_succ, List.replicate_zero, Int.cast_ofNat_Int, not_true_eq_false, decide_true, decide_false, bt.len]
        refine Ev_range (ti := 67) (len := l.length) (J := fun i tm hp nc => Own [4011002, 4013003] 1 hp (tm 9) (i64s (q.rows.flatten ++ q.h)) ∧ Own [4014000, 4019003] 1 hp (tm 12) (i64s (h ++ (l.take i).filter (isIn lo hi))) ∧
          hp (4000000, 0) = some (.var [.int .i64 s, .int .i64 lo, .int .i64 hi, av]) ∧ hp (4002008, 2) = some (.var [.int .i64 s, .int .i64 lo, .int .i64 hi, q.a])) (by omega) ?_ ?_ ?_
        · simp only [go_sem, tm0, ↓reduceIte, Nat.reduceAdd, Nat.reduceMul, Nat.reduceSub, Nat.reduceLeDiff, Nat.reduceLT, Nat.reduceEqDiff, Int.reduceLT, Int.reduceLE, Int.reduceAdd, Int.reduceSub, Int.reduceMul, Int.reduceToNat, Int.reducePow, Int.reduceNe, Int.reduceMod, Int.reduceDiv, ne_eq, Int.reduceEq, not_false_eq_true, Nat.reducePow, List.length_append, List.length_replicate, List.replicate_succ, List.replicate_zero, Int.cast_ofNat_Int, not_true_eq_false, decide_true, decide_false]
        · simp only [go_sem, tm0, ↓reduceIte, Nat.reduceAdd, Nat.reduceMul, Nat.reduceSub, Nat.reduceLeDiff, Nat.reduceLT, Nat.reduceEqDiff, Int.reduceLT, Int.reduceLE, Int.reduceAdd, Int.reduceSub, Int.reduceMul, Int.reduceToNat, Int.reducePow, Int.reduceNe, Int.reduceMod, Int.reduceDiv, ne_eq, Int.reduceEq, not_false_eq_true, Nat.reducePow, List.length_append, List.length_replicate, List.replicate_succ, List.replicate_zero, Int.cast_ofNat_Int, not_true_eq_false, decide_true, decide_false]
          refine ⟨?_, ?_, ?_, ?_⟩
          · rw [show i64s (q.rows.flatten ++ q.h) = i64s q.rows.flatten ++ i64s q.h from List.map_append]
            exact (hO _).1.keep fun k hk => by rw [upd_ne _ _ (by rintro rfl; simp at hk), upd_ne _ _ (by rintro rfl; simp at hk)]
          · refine Own.sl (by simp) (by simp) (by simp only [go_sem, tm0, ↓reduceIte, Nat.reduceAdd, Nat.reduceMul, Nat.reduceSub, Nat.reduceLeDiff, Nat.reduceLT, Nat.reduceEqDiff, Int.reduceLT, Int.reduceLE, Int.reduceAdd, Int.reduceSub, Int.reduceMul, Int.reduceToNat, Int.reducePow, Int.reduceNe, Int.reduceMod, Int.reduceDiv, ne_eq, Int.reduceEq, not_false_eq_true, Nat.reducePow, List.length_append, List.length_replicate, List.replicate_succ, List.replicate_zero, Int.cast_ofNat_Int, not_true_eq_false, decide_true, decide_false]; simp)
          · rw [(hO _).2 _ (by decide)]; exact kg
          · rw [(hO _).2 _ (by decide)]; exact ka
        · clear hc
          rintro i tm' hp' nc' hi2 hc k67 ⟨ho1, ho2, kg, ka⟩
          have j1 := hc 1 rfl; have j2 := hc 2 rfl; have j5 := hc 5 rfl; have j6 := hc 6 rfl; have j7 := hc 7 rfl; have j8 := hc 8 rfl; have j65 := hc 65 rfl; have j66 := hc 66 rfl; simp only [go_sem, tm0, ↓reduceIte, Nat.reduceAdd, Nat.reduceMul, Nat.reduceSub, Nat.reduceLeDiff, Nat.reduceLT, Nat.reduceEqDiff, Int.reduceLT, Int.reduceLE, Int.reduceAdd, Int.reduceSub, Int.reduceMul, Int.reduceToNat, Int.reducePow, Int.reduceNe, Int.reduceMod, Int.reduceDiv, ne_eq, Int.reduceEq, not_false_eq_true, Nat.reducePow, List.length_append, List.length_replicate, List.replicate_succ, List.replicate_zero, Int.cast_ofNat_Int, not_true_eq_false, decide_true, decide_false, k1, k2, k5, k6, k7, k8] at j1 j2 j5 j6 j7 j8 j65 j66
          have hf1 := List.length_filter_le (isIn lo hi) (l.take i)
          simp only [List.length_take] at hf1
          rcases Nat.lt_or_ge i l.length with hlt | hge
          · have d1 : decide ((i : Int) < (l.length : Int)) = true := decide_eq_true (by omega)
            have ib := bt.ia hlt
            have htf := take_filter (p := isIn lo hi) hlt
            by_cases hx : lo ≤ l.getD i 0 ∧ l.getD i 0 ≤ hi
            · have d2 : decide (lo ≤ l.getD i 0) = true := decide_eq_true hx.1
              have d3 : decide (l.getD i 0 ≤ hi) = true := decide_eq_true hx.2
              rw [if_pos (decide_eq_true hx)] at htf
              obtain ⟨V, H, hA, hO⟩ := ho2.push (s0 := 4019003) (s1 := 4019002) (z := .int .i64 (l.getD i 0)) (bytes := 8) (by simp) (by simp) (plain_int _ _ _) (by simp [cellsOf, isSc]) (by simp; omega)
              simp (disch := first | omega | simp only [*, go_sem, tm0, ↓reduceIte, Nat.reduceAdd, Nat.reduceMul, Nat.reduceSub, Nat.reduceLeDiff, Nat.reduceLT, Nat.reduceEqDiff, Int.reduceLT, Int.reduceLE, Int.reduceAdd, Int.reduceSub, Int.reduceMul, Int.reduceToNat, Int.reducePow, Int.reduceNe, Int.reduceMod, Int.reduceDiv, ne_eq, Int.reduceEq, not_false_eq_true, Nat.reducePow, List.length_append, List.length_replicate, List.replicate_succ, List.replicate_zero, Int.cast_ofNat_Int, not_true_eq_false, decide_true, decide_false]) only [go_sem, tm0, ↓reduceIte, Nat.reduceAdd, Nat.reduceMul, Nat.reduceSub, Nat.reduceLeDiff, Nat.reduceLT, Nat.reduceEqDiff, Int.reduceLT, Int.reduceLE, Int.reduceAdd, Int.reduceSub, Int.reduceMul, Int.reduceToNat, Int.reducePow, Int.reduceNe, Int.reduceMod, Int.reduceDiv, ne_eq, Int.reduceEq, not_false_eq_true, Nat.reducePow, List.length_append, List.length_replicate, List.replicate_succ, List.replicate_zero, Int.cast_ofNat_Int, not_true_eq_false, decide_true, decide_false, kg, ka, callX_known (C := C7) (g := 7) rfl, ft_call (C := C7) (g := 7) rfl, callX_known (C := C7) (g := 8) rfl, ft_call (C := C7) (g := 8) rfl, callX_known (C := C7) (g := 14) rfl, ft_call (C := C7) (g := 14) rfl, callX_known (C := C7) (g := 10) rfl, ft_call (C := C7) (g := 10) rfl, F10_eq, ha.sc, ha.cells, at_.sc, at_.cells, f1.sc, f1.cells, hb.len, bt.len, bt.sc, bt.cells, f1.len, at_.len, x4l17, j1, j2, j5, j6, j7, j8, k67, j66, j65, d1, ib, d2, d3, hA]
              refine ⟨hlt, by simp, ?_, ?_, ?_, ?_⟩
              · refine ho1.keep fun k hk => (hO _ _).2 _ ?_ ?_
                · intro h1; simp at hk h1; omega
                · rintro h1; simp [h1] at hk
              · rw [htf, ← List.append_assoc, i64s, List.map_append]; exact (hO _ _).1
              · rw [(hO _ _).2 _ (by decide) (by decide)]; exact kg
              · rw [(hO _ _).2 _ (by decide) (by decide)]; exact ka
            · have d2 : (AVal.bool (decide (lo ≤ l.getD i 0))) = .bool (decide (lo ≤ l.getD i 0)) := rfl
              rw [if_neg (by simpa using hx)] at htf
              simp (disch := first | omega | simp only [*, go_sem, tm0, ↓reduceIte, Nat.reduceAdd, Nat.reduceMul, Nat.reduceSub, Nat.reduceLeDiff, Nat.reduceLT, Nat.reduceEqDiff, Int.reduceLT, Int.reduceLE, Int.reduceAdd, Int.reduceSub, Int.reduceMul, Int.reduceToNat, Int.reducePow, Int.reduceNe, Int.reduceMod, Int.reduceDiv, ne_eq, Int.reduceEq, not_false_eq_true, Nat.reducePow, List.length_append, List.length_replicate, List.replicate_succ, List.replicate_zero, Int.cast_ofNat_Int, not_true_eq_false, decide_true, decide_false]) only [go_sem, tm0, ↓reduceIte, Nat.reduceAdd, Nat.reduceMul, Nat.reduceSub, Nat.reduceLeDiff, Nat.reduceLT, Nat.reduceEqDiff, Int.reduceLT, Int.reduceLE, Int.reduceAdd, Int.reduceSub, Int.reduceMul, Int.reduceToNat, Int.reducePow, Int.reduceNe, Int.reduceMod, Int.reduceDiv, ne_eq, Int.reduceEq, not_false_eq_true, Nat.reducePow, List.length_append, List.length_replicate, List.replicate_succ, List.replicate_zero, Int.cast_ofNat_Int, not_true_eq_false, decide_true, decide_false, kg, ka, callX_known (C := C7) (g := 7) rfl, ft_call (C := C7) (g := 7) rfl, callX_known (C := C7) (g := 8) rfl, ft_call (C := C7) (g := 8) rfl, callX_known (C := C7) (g := 14) rfl, ft_call (C := C7) (g := 14) rfl, callX_known (C := C7) (g := 10) rfl, ft_call (C := C7) (g := 10) rfl, F10_eq, ha.sc, ha.cells, at_.sc, at_.cells, f1.sc, f1.cells, hb.len, bt.len, bt.sc, bt.cells, f1.len, at_.len, x4l17, j1, j2, j5, j6, j7, j8, k67, j66, j65, d1, ib]
              refine Gd_split_t (fun h1 => ?_) (fun h1 => ?_)
              · have d3 : decide (l.getD i 0 ≤ hi) = false := decide_eq_false fun e => hx ⟨of_decide_eq_true h1, e⟩
                simp (disch := first | omega | simp only [*, go_sem, tm0, ↓reduceIte, Nat.reduceAdd, Nat.reduceMul, Nat.reduceSub, Nat.reduceLeDiff, Nat.reduceLT, Nat.reduceEqDiff, Int.reduceLT, Int.reduceLE, Int.reduceAdd, Int.reduceSub, Int.reduceMul, Int.reduceToNat, Int.reducePow, Int.reduceNe, Int.reduceMod, Int.reduceDiv, ne_eq, Int.reduceEq, not_false_eq_true, Nat.reducePow, List.length_append, List.length_replicate, List.replicate_succ, List.replicate_zero, Int.cast_ofNat_Int, not_true_eq_false, decide_true, decide_false]) only [go_sem, tm0, ↓reduceIte, Nat.reduceAdd, Nat.reduceMul, Nat.reduceSub, Nat.reduceLeDiff, Nat.reduceLT, Nat.reduceEqDiff, Int.reduceLT, Int.reduceLE, Int.reduceAdd, Int.reduceSub, Int.reduceMul, Int.reduceToNat, Int.reducePow, Int.reduceNe, Int.reduceMod, Int.reduceDiv, ne_eq, Int.reduceEq, not_false_eq_true, Nat.reducePow, List.length_append, List.length_replicate, List.replicate_succ, List.replicate_zero, Int.cast_ofNat_Int, not_true_eq_false, decide_true, decide_false, kg, ka, callX_known (C := C7) (g := 7) rfl, ft_call (C := C7) (g := 7) rfl, callX_known (C := C7) (g := 8) rfl, ft_call (C := C7) (g := 8) rfl, callX_known (C := C7) (g := 14) rfl, ft_call (C := C7) (g := 14) rfl, callX_known (C := C7) (g := 10) rfl, ft_call (C := C7) (g := 10) rfl, F10_eq, ha.sc, ha.cells, at_.sc, at_.cells, f1.sc, f1.cells, hb.len, bt.len, bt.sc, bt.cells, f1.len, at_.len, j1, j2, j5, j6, j7, j8, k67, h1, d3]
                refine ⟨hlt, by simp, ho1, ?_⟩
                rw [htf, List.append_nil]; exact ho2
              · simp (disch := first | omega | simp only [*, go_sem, tm0, ↓reduceIte, Nat.reduceAdd, Nat.reduceMul, Nat.reduceSub, Nat.reduceLeDiff, Nat.reduceLT, Nat.reduceEqDiff, Int.reduceLT, Int.reduceLE, Int.reduceAdd, Int.reduceSub, Int.reduceMul, Int.reduceToNat, Int.reducePow, Int.reduceNe, Int.reduceMod, Int.reduceDiv, ne_eq, Int.reduceEq, not_false_eq_true, Nat.reducePow, List.length_append, List.length_replicate, List.replicate_succ, List.replicate_zero, Int.cast_ofNat_Int, not_true_eq_false, decide_true, decide_false]) only [go_sem, tm0, ↓reduceIte, Nat.reduceAdd, Nat.reduceMul, Nat.reduceSub, Nat.reduceLeDiff, Nat.reduceLT, Nat.reduceEqDiff, Int.reduceLT, Int.reduceLE, Int.reduceAdd, Int.reduceSub, Int.reduceMul, Int.reduceToNat, Int.reducePow, Int.reduceNe, Int.reduceMod, Int.reduceDiv, ne_eq, Int.reduceEq, not_false_eq_true, Nat.reducePow, List.length_append, List.length_replicate, List.replicate_succ, List.replicate_zero, Int.cast_ofNat_Int, not_true_eq_false, decide_true, decide_false, kg, ka, callX_known (C := C7) (g := 7) rfl, ft_call (C := C7) (g := 7) rfl, callX_known (C := C7) (g := 8) rfl, ft_call (C := C7) (g := 8) rfl, callX_known (C := C7) (g := 14) rfl, ft_call (C := C7) (g := 14) rfl, callX_known (C := C7) (g := 10) rfl, ft_call (C := C7) (g := 10) rfl, F10_eq, ha.sc, ha.cells, at_.sc, at_.cells, f1.sc, f1.cells, hb.len, bt.len, bt.sc, bt.cells, f1.len, at_.len, j1, j2, j5, j6, j7, j8, k67, h1]
                refine ⟨hlt, by simp, ho1, ?_⟩
                rw [htf, List.append_nil]; exact ho2
          · obtain rfl : i = l.length := by omega
            have d1 : decide ((l.length : Int) < (l.length : Int)) = false := decide_eq_false (by omega)
            rw [List.take_length] at ho2 hf1
            obtain ⟨ks1, hx1, hn1⟩ := ho1.lendX 63 (plainL_ints _ _ _)
            obtain ⟨ks2, hx2, hn2⟩ := ho2.lendX 63 (plainL_ints _ _ _)
            simp only [Nat.reduceAdd] at hx1 hx2
            have d4 : decide ((q.h.length : Int) < s) = true := decide_eq_true f5
            have h9 : tm' 9 = V (nc + 1) := hc 9 rfl
            have e14 := F14_eq (Rw.of_own ho1) (Rw.of_own ho2) (by simp only [Lg, List.length_append]; omega) (by simp only [Lg, List.length_append]; omega)
            rw [decide_eq_true f7] at e14
            have d5 : decide ((q.n : Int) = (h.length : Int) + (l.length : Int) - ((h.length + (l.filter (isIn lo hi)).length : Nat) : Int)) = true := decide_eq_true (by omega)
            simp (disch := first | omega | simp only [*, go_sem, tm0, ↓reduceIte, Nat.reduceAdd, Nat.reduceMul, Nat.reduceSub, Nat.reduceLeDiff, Nat.reduceLT, Nat.reduceEqDiff, Int.reduceLT, Int.reduceLE, Int.reduceAdd, Int.reduceSub, Int.reduceMul, Int.reduceToNat, Int.reducePow, Int.reduceNe, Int.reduceMod, Int.reduceDiv, ne_eq, Int.reduceEq, not_false_eq_true, Nat.reducePow, List.length_append, List.length_replicate, List.replicate_succ, List.replicate_zero, Int.cast_ofNat_Int, not_true_eq_false, decide_true, decide_false]) only [go_sem, tm0, ↓reduceIte, Nat.reduceAdd, Nat.reduceMul, Nat.reduceSub, Nat.reduceLeDiff, Nat.reduceLT, Nat.reduceEqDiff, Int.reduceLT, Int.reduceLE, Int.reduceAdd, Int.reduceSub, Int.reduceMul, Int.reduceToNat, Int.reducePow, Int.reduceNe, Int.reduceMod, Int.reduceDiv, ne_eq, Int.reduceEq, not_false_eq_true, Nat.reducePow, List.length_append, List.length_replicate, List.replicate_succ, List.replicate_zero, Int.cast_ofNat_Int, not_true_eq_false, decide_true, decide_false, kg, ka, callX_known (C := C7) (g := 7) rfl, ft_call (C := C7) (g := 7) rfl, callX_known (C := C7) (g := 8) rfl, ft_call (C := C7) (g := 8) rfl, callX_known (C := C7) (g := 14) rfl, ft_call (C := C7) (g := 14) rfl, callX_known (C := C7) (g := 10) rfl, ft_call (C := C7) (g := 10) rfl, F10_eq, ha.sc, ha.cells, at_.sc, at_.cells, f1.sc, f1.cells, hb.len, bt.len, bt.sc, bt.cells, f1.len, at_.len, x4l17, j1, j2, j5, j6, j7, j8, k67, j66, j65, d1, d4, callX_names (C := C7) (g := 14) rfl, ftC_names (C := C7) (g := 14) rfl, hx1, hx2, e14, eq_self, ho2.len, List.length_map, d5]
            exact Ends_plain rfl rfl
  · have e8 := F8_no at_ bt n1 n2 hgo
    simp (disch := first | omega | simp only [*, go_sem, tm0, ↓reduceIte, Nat.reduceAdd, Nat.reduceMul, Nat.reduceSub, Nat.reduceLeDiff, Nat.reduceLT, Nat.reduceEqDiff, Int.reduceLT, Int.reduceLE, Int.reduceAdd, Int.reduceSub, Int.reduceMul, Int.reduceToNat, Int.reducePow, Int.reduceNe, Int.reduceMod, Int.reduceDiv, ne_eq, Int.reduceEq, not_false_eq_true, Nat.reducePow, List.length_append, List.length_replicate, List.replicate_succ, List.replicate_zero, Int.cast_ofNat_Int, not_true_eq_false, decide_true, decide_false]) only [x4b, go_sem, tm0, ↓reduceIte, Nat.reduceAdd, Nat.reduceMul, Nat.reduceSub, Nat.reduceLeDiff, Nat.reduceLT, Nat.reduceEqDiff, Int.reduceLT, Int.reduceLE, Int.reduceAdd, Int.reduceSub, Int.reduceMul, Int.reduceToNat, Int.reducePow, Int.reduceNe, Int.reduceMod, Int.reduceDiv, ne_eq, Int.reduceEq, not_false_eq_true, Nat.reducePow, List.length_append, List.length_replicate, List.replicate_succ, List.replicate_zero, Int.cast_ofNat_Int, not_true_eq_false, decide_true, decide_false, ha.sc, ha.cells, hb.len, hmn, hsl, Option.map_some, Option.map_none, callX_known (C := C7) (g := 7) rfl, ft_call (C := C7) (g := 7) rfl, callX_known (C := C7) (g := 8) rfl, ft_call (C := C7) (g := 8) rfl, callX_known (C := C7) (g := 10) rfl, ft_call (C := C7) (g := 10) rfl, F10_eq, e7, e8, at_.sc, at_.cells]
    exact Ends_plain rfl rfl
end Go.Proofs.Ytplmnikmdcnebaa
