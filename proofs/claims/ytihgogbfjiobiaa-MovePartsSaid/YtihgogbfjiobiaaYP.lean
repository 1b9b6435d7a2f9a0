/-
  MoveParts, as the interpreter sees it.
-/
import Derived.Test.YtihgogbfjiobiaaYO
set_option linter.unusedVariables false
set_option linter.unusedSimpArgs false
namespace Go.Proofs.Ytihgogbfjiobiaa
open Go Go.Xec
attribute [local go_sem] tm0 ne_eq not_false_eq_true List.length_append List.length_replicate List.replicate_succ List.replicate_zero Int.cast_ofNat_Int not_true_eq_false decide_true decide_false ite_self beq_self_eq_true Bool.true_beq Bool.false_beq Bool.not_true Bool.not_false
open Nat renaming reduceAdd → Nra, reduceMul → Nrb, reduceSub → Nrc, reduceLeDiff → Nrd, reduceLT → Nre, reduceEqDiff → Nrf, reducePow → Nrr
open Int renaming reduceLT → Irg, reduceLE → Irh, reduceAdd → Iri, reduceSub → Irj, reduceMul → Irk, reduceToNat → Irl, reducePow → Irm, reduceNe → Irn, reduceMod → Iro, reduceDiv → Irp, reduceEq → Irq, reduceNeg → Irs

set_option maxRecDepth 10000
theorem fold_acc : ∀ (b : List Int) (m : Mv) (acc : List Int), b.foldl stepM (m, acc) = ((b.foldl stepM (m, [])).1, acc ++ (b.foldl stepM (m, [])).2)
  | [], m, acc => by simp
  | x :: b, m, acc => by
    simp only [List.foldl_cons, stepM, List.nil_append]
    rw [fold_acc b _ (acc ++ _), fold_acc b _ (if 0 < m.n then [dOf m x] else []), List.append_assoc]
theorem runM_app (m : Mv) (a b : List Int) : runM m (a ++ b) = ((runM (runM m a).1 b).1, (runM m a).2 ++ (runM (runM m a).1 b).2) := by
  unfold runM
  rw [List.foldl_append]
  generalize a.foldl stepM (m, []) = q
  obtain ⟨p, acc⟩ := q
  exact fold_acc b p acc
theorem law5 : ∀ xs, WTL [tM, tS, tI] xs → pureF C5 1 5 xs = some (.bool true) := by
  intro xs h
  simp only [WTL] at h
  obtain ⟨g, _, rfl, hg, b, _, rfl, hb, kv, _, rfl, hkv, rfl⟩ := h
  obtain ⟨m, rfl, hmn0⟩ := wt_M hg
  obtain ⟨k, rfl, hk1, hk2⟩ := (by simpa only [WT] using hkv : ∃ n, kv = .int .i64 n ∧ IntKind.i64.min ≤ n ∧ n ≤ IntKind.i64.max)
  obtain ⟨l0, hb, hb8⟩ := wt_S hb
  have e6 := F6_eq hb (by omega)
  have bp := hb.plain
  obtain ⟨hx, hlen⟩ := some_ok l0
  generalize someL l0 = l at *
  have bt := rowN_rg (es := 1) (enc := AVal.int .i64) l
  have btp := bt.plain
  generalize rowN 1 (l.map (AVal.int .i64)) = bv at *
  obtain ⟨j, hj, t1, t2, t3⟩ := turn_k k l.length
  refine pureF_of (x := x5) rfl rfl ?_
  rw [x5_eq.1, x5_eq.2.1]
  by_cases hm : mvOk m
  · by_cases hf : m.n + l.length ≤ 1000000000
    · have e7 : F7 [MA m, bv] = some (.tup [MA (runM m l).1, rowN 1 ((runM m l).2.map (AVal.int .i64)), .int .i64 0]) := F7_0 hmn0 bt (by omega) hm hx hf
      have xa : allX (l.take j) := fun x h => hx x (List.mem_of_mem_take h)
      have xb : allX (l.drop j) := fun x h => hx x (List.mem_of_mem_drop h)
      have b1 := bt.take j
      have b2 := bt.drop j
      have b1p := b1.plain
      have b2p := b2.plain
      have hs1 := bt.sliceTo hj
      have hs2 := bt.sliceFrom hj
      have hla : (l.take j).length = j := by simp; omega
      have hlb : (l.drop j).length = l.length - j := by simp
      have e7a : F7 [MA m, rwTake j bv] = some (.tup [MA (runM m (l.take j)).1, rowN 1 ((runM m (l.take j)).2.map (AVal.int .i64)), .int .i64 0]) := F7_0 hmn0 b1 (by omega) hm xa (by omega)
      obtain ⟨ok1, ok2, ok3⟩ := run_ok hm xa (by omega) (l.take j).length (Nat.le_refl _)
      rw [List.take_length] at ok1 ok2 ok3
      have hn1 : i64In (runM m (l.take j)).1.n := by simp only [i64In] at hmn0 ⊢; have := (show 0 ≤ m.n ∧ m.n ≤ 1000000000 by obtain ⟨n, l, s⟩ := m; simp only [mvOk, mOk] at hm ⊢; omega); omega
      have e7b : F7 [MA (runM m (l.take j)).1, rwDrop j bv] = some (.tup [MA (runM (runM m (l.take j)).1 (l.drop j)).1, rowN 1 ((runM (runM m (l.take j)).1 (l.drop j)).2.map (AVal.int .i64)), .int .i64 0]) := F7_0 hn1 b2 (by omega) ok1 xb (by omega)
      obtain ⟨_, _, ok4⟩ := run_ok ok1 xb (by omega) (l.drop j).length (Nat.le_refl _)
      rw [List.take_length] at ok4
      have happ := runM_app m (l.take j) (l.drop j)
      rw [List.take_append_drop] at happ
      have hrs : ∀ i, i ≤ l.length → mvOk (runM m (l.take i)).1 ∧ (runM m (l.take i)).1.n = m.n + i ∧ (runM m (l.take i)).2.length ≤ i := fun i hi => run_ok hm hx hf i hi
      rw [happ] at e7
      generalize hq1 : runM m (l.take j) = q1 at *
      generalize hq2 : runM q1.1 (l.drop j) = q2 at *
      have g1 := rowN_rg (es := 1) (enc := AVal.int .i64) q1.2
      have g2 := rowN_rg (es := 1) (enc := AVal.int .i64) q2.2
      have g3 := rowN_rg (es := 1) (enc := AVal.int .i64) (q1.2 ++ q2.2)
      have p1 := g1.plain
      have p2 := g2.plain
      have p3 := g3.plain
      have l1 := fun hp => g1.elems (hp := hp)
      have l2 := fun hp => g2.elems (hp := hp)
      have pl1 : ∀ d, plainL (d + 1) (q1.2.map (AVal.int .i64)) = true := fun d => ints_plain d _
      have pl2 : ∀ d, plainL (d + 1) (q2.2.map (AVal.int .i64)) = true := fun d => ints_plain d _
      have e15 := F15_eq (Rg.slc (es := 1) (enc := AVal.int .i64) (q1.2 ++ q2.2)) g3 (by simp; omega) (by simp; omega)
      rw [decide_eq_true rfl] at e15
      generalize rowN 1 (q1.2.map (AVal.int .i64)) = R1 at *
      generalize rowN 1 (q2.2.map (AVal.int .i64)) = R2 at *
      generalize rowN 1 ((q1.2 ++ q2.2).map (AVal.int .i64)) = R3 at *
      have d1 : q1.2.length * 8 ≤ 140737488355328 := by omega
      have d2 : (q1.2.length + q2.2.length) * 8 ≤ 140737488355328 := by omega
      have hll : ∀ ls : List Int, lendXL 63 (ls.map (AVal.int .i64)) = fun hp => some (ls.map (AVal.int .i64), []) := fun ls => funext fun hp => lendXL_plain (ints_plain _ _)
      have htk : List.take (q1.2.length + q2.2.length) (q1.2.map (AVal.int .i64) ++ q2.2.map (AVal.int .i64)) = (q1.2 ++ q2.2).map (AVal.int .i64) := by
        rw [← List.map_append, List.take_of_length_le (by simp)]
      have hai := all_ints .i64
      simp (disch := first | omega | simp only [*, go_sem, ↓reduceIte, Nra, Nrb, Nrc, Nrd, Nre, Nrf, Irg, Irh, Iri, Irj, Irk, Irl, Irm, Irn, Iro, Irp, Irq, Nrr, Irs, dropK_eq]) only [x5b, go_sem, ↓reduceIte, Nra, Nrb, Nrc, Nrd, Nre, Nrf, Irg, Irh, Iri, Irj, Irk, Irl, Irm, Irn, Iro, Irp, Irq, Nrr, Irs, dropK_eq, bt.len, e6, t3, callX_known (C := C5) (g := 6) rfl, ft_call (C := C5) (g := 6) rfl, callX_known (C := C5) (g := 7) rfl, ft_call (C := C5) (g := 7) rfl, callX_known (C := C5) (g := 8) rfl, ft_call (C := C5) (g := 8) rfl, callX_known (C := C5) (g := 9) rfl, ft_call (C := C5) (g := 9) rfl, callX_known (C := C5) (g := 11) rfl, ft_call (C := C5) (g := 11) rfl, callX_names (C := C5) (g := 15) rfl, ftC_names (C := C5) (g := 15) rfl, F8_eq, Option.map_some, Option.map_none, e7, e7a, e7b, hs1, hs2, l1, l2, pl1, pl2, d1, d2, hll, htk, hai, e15, List.length_map, Nat.zero_add, List.take_length]
      have hS : ∀ i, i ≤ l.length → 0 ≤ (runM m (l.take i)).1.s ∧ (runM m (l.take i)).1.s ≤ 2000000000000000 ∧ 0 ≤ m.s ∧ m.s ≤ 2000000000000000 ∧ 0 ≤ m.n := by
        intro i hi
        have h := (hrs i hi).1
        obtain ⟨n, L, s⟩ := m
        generalize runM ⟨n, L, s⟩ (l.take i) = q at *
        obtain ⟨⟨N, L', S⟩, _⟩ := q
        simp only [mvOk, mOk] at h hm ⊢
        omega
      refine Ev_range (ti := 104) (len := l.length) (J := fun i tm hp nc => tm 16 = .int .i64 ((runM m (l.take i)).1.s - m.s) ∧ hp (5010001, 8) = some (.var [.int .i64 (runM m (l.take i)).1.n, .int .i64 (runM m (l.take i)).1.l, .int .i64 (runM m (l.take i)).1.s]) ∧
        hp (5003007, 3) = some (.var [.int .i64 q2.1.n, .int .i64 q2.1.l, .int .i64 q2.1.s]) ∧ hp (5000000, 0) = some (.var [.int .i64 m.n, .int .i64 m.l, .int .i64 m.s])) (by omega) ?_ ?_ ?_
      · simp only [go_sem, ↓reduceIte, Nra, Nrb, Nrc, Nrd, Nre, Nrf, Irg, Irh, Iri, Irj, Irk, Irl, Irm, Irn, Iro, Irp, Irq, Nrr, Irs, dropK_eq]
      · simp only [go_sem, ↓reduceIte, Nra, Nrb, Nrc, Nrd, Nre, Nrf, Irg, Irh, Iri, Irj, Irk, Irl, Irm, Irn, Iro, Irp, Irq, Nrr, Irs, dropK_eq, List.take_zero, runM, List.foldl_nil, Int.sub_self]
      · rintro i tm hp nc hi hc k104 ⟨k16, h17, h7, h3⟩
        have k3 := hc 3 rfl; have k7 := hc 7 rfl; have k17 := hc 17 rfl; have k102 := hc 102 rfl; have k103 := hc 103 rfl; simp only [go_sem, ↓reduceIte, Nra, Nrb, Nrc, Nrd, Nre, Nrf, Irg, Irh, Iri, Irj, Irk, Irl, Irm, Irn, Iro, Irp, Irq, Nrr, Irs, dropK_eq] at k3 k7 k17 k102 k103
        have hSi := hS i hi
        rcases Nat.lt_or_ge i l.length with hlt | hge
        · have d1 : decide ((i : Int) < (l.length : Int)) = true := decide_eq_true (by omega)
          have ia := bt.ia hlt
          obtain ⟨v1, v2, v3⟩ := hrs i hi
          have hst := runM_snoc m (l.take i) l[i]
          rw [← take_next hlt] at hst
          have hxi := hx _ (List.getElem_mem hlt)
          have hS1 := hS (i + 1) (by omega)
          rw [hst] at hS1
          generalize hq : runM m (l.take i) = q at *
          have e9 := F9_0 (m := q.1) (x := l[i]) (by simp only [i64In]; omega) v1 hxi (by omega)
          have hdd := dOf_le v1 hxi
          have e5 : (stepM q l[i]).1 = nextM q.1 l[i] := rfl
          rw [e5] at hS1
          have e6' : (nextM q.1 l[i]).s = q.1.s + dOf q.1 l[i] := rfl
          simp only [e6'] at hS1
          simp (disch := first | omega | simp only [*, go_sem, ↓reduceIte, Nra, Nrb, Nrc, Nrd, Nre, Nrf, Irg, Irh, Iri, Irj, Irk, Irl, Irm, Irn, Iro, Irp, Irq, Nrr, Irs, dropK_eq]) only [x5l12, go_sem, ↓reduceIte, Nra, Nrb, Nrc, Nrd, Nre, Nrf, Irg, Irh, Iri, Irj, Irk, Irl, Irm, Irn, Iro, Irp, Irq, Nrr, Irs, dropK_eq, k3, k7, k16, k17, k102, k103, k104, h17, h7, h3, d1, ia, callX_known (C := C5) (g := 9) rfl, ft_call (C := C5) (g := 9) rfl, e9]
          refine ⟨hlt, by simp, ?_⟩
          rw [hst, e5, e6']
          exact ⟨by congr 1; omega, rfl⟩
        · obtain rfl : i = l.length := by omega
          have d1 : decide ((l.length : Int) < (l.length : Int)) = false := decide_eq_false (by omega)
          rw [List.take_length, happ] at k16 h17 hSi
          simp only at hSi k16 h17
          have e8 : m.s + (q2.1.s - m.s) = q2.1.s := by omega
          simp (disch := first | omega | simp only [*, go_sem, ↓reduceIte, Nra, Nrb, Nrc, Nrd, Nre, Nrf, Irg, Irh, Iri, Irj, Irk, Irl, Irm, Irn, Iro, Irp, Irq, Nrr, Irs, dropK_eq]) only [x5l12, go_sem, ↓reduceIte, Nra, Nrb, Nrc, Nrd, Nre, Nrf, Irg, Irh, Iri, Irj, Irk, Irl, Irm, Irn, Iro, Irp, Irq, Nrr, Irs, dropK_eq, k3, k7, k16, k17, k102, k103, k104, h17, h7, h3, d1, e8]
          exact Ends_plain rfl rfl
    · have e7 := F7_11 hmn0 bt (by omega) hm hx (by omega)
      simp (disch := first | omega | simp only [*, go_sem, ↓reduceIte, Nra, Nrb, Nrc, Nrd, Nre, Nrf, Irg, Irh, Iri, Irj, Irk, Irl, Irm, Irn, Iro, Irp, Irq, Nrr, Irs, dropK_eq]) only [x5b, go_sem, ↓reduceIte, Nra, Nrb, Nrc, Nrd, Nre, Nrf, Irg, Irh, Iri, Irj, Irk, Irl, Irm, Irn, Iro, Irp, Irq, Nrr, Irs, dropK_eq, bt.len, e6, t3, callX_known (C := C5) (g := 6) rfl, ft_call (C := C5) (g := 6) rfl, callX_known (C := C5) (g := 7) rfl, ft_call (C := C5) (g := 7) rfl, callX_known (C := C5) (g := 8) rfl, ft_call (C := C5) (g := 8) rfl, callX_known (C := C5) (g := 9) rfl, ft_call (C := C5) (g := 9) rfl, callX_known (C := C5) (g := 11) rfl, ft_call (C := C5) (g := 11) rfl, callX_names (C := C5) (g := 15) rfl, ftC_names (C := C5) (g := 15) rfl, F8_eq, Option.map_some, Option.map_none, e7]
      exact Ends_plain rfl rfl
  · have e7 := F7_1 hmn0 bt (by omega) hm
    simp (disch := first | omega | simp only [*, go_sem, ↓reduceIte, Nra, Nrb, Nrc, Nrd, Nre, Nrf, Irg, Irh, Iri, Irj, Irk, Irl, Irm, Irn, Iro, Irp, Irq, Nrr, Irs, dropK_eq]) only [x5b, go_sem, ↓reduceIte, Nra, Nrb, Nrc, Nrd, Nre, Nrf, Irg, Irh, Iri, Irj, Irk, Irl, Irm, Irn, Iro, Irp, Irq, Nrr, Irs, dropK_eq, bt.len, e6, t3, callX_known (C := C5) (g := 6) rfl, ft_call (C := C5) (g := 6) rfl, callX_known (C := C5) (g := 7) rfl, ft_call (C := C5) (g := 7) rfl, callX_known (C := C5) (g := 8) rfl, ft_call (C := C5) (g := 8) rfl, callX_known (C := C5) (g := 9) rfl, ft_call (C := C5) (g := 9) rfl, callX_known (C := C5) (g := 11) rfl, ft_call (C := C5) (g := 11) rfl, callX_names (C := C5) (g := 15) rfl, ftC_names (C := C5) (g := 15) rfl, F8_eq, Option.map_some, Option.map_none, e7]
    exact Ends_plain rfl rfl
end Go.Proofs.Ytihgogbfjiobiaa
