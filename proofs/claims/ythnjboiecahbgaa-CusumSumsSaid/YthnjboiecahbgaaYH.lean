/-
  CusumTurns, as the interpreter sees it.
-/
import Derived.Test.YthnjboiecahbgaaYG
set_option linter.unusedVariables false
set_option linter.unusedSimpArgs false
namespace Go.Proofs.Ythnjboiecahbgaa
open Go Go.Xec

set_option maxRecDepth 10000
/-! ### the other side -/
def mir (q : Cs) : Cs := ⟨q.n, q.l, q.h⟩
abbrev neg (l : List Int) : List Int := l.map fun x => 0 - x
theorem mir_sig {t s b x : Int} {q : Cs} (hq : csOk b q) (hs : 0 ≤ s) : sig (0 - t) s b (mir q) (0 - x) = 0 - sig t s b q x ∧ cs (0 - t) s b (mir q) (0 - x) = mir (cs t s b q x) := by
  obtain ⟨n, h, l⟩ := q
  simp only [csOk] at hq
  have e1 : up (0 - t) s (mir ⟨n, h, l⟩) (0 - x) = dn t s ⟨n, h, l⟩ x := by simp only [up, dn, mir]; congr 1; omega
  have e2 : dn (0 - t) s (mir ⟨n, h, l⟩) (0 - x) = up t s ⟨n, h, l⟩ x := by simp only [up, dn, mir]; congr 1; omega
  have e3 : ¬ (b < up t s ⟨n, h, l⟩ x ∧ b < dn t s ⟨n, h, l⟩ x) := by simp only [up, dn]; omega
  unfold sig cs
  rw [e1, e2]
  by_cases h1 : b < up t s ⟨n, h, l⟩ x <;> by_cases h2 : b < dn t s ⟨n, h, l⟩ x
  · exact absurd ⟨h1, h2⟩ e3
  · simp [h1, h2, mir]
  · simp [h1, h2, mir]
  · simp [h1, h2, mir]
theorem mir_run {t s b : Int} (hs : 0 ≤ s) (hb : 1 ≤ b) (l : List Int) : ∀ {q : Cs}, csOk b q → csig (0 - t) s b (mir q) (neg l) = neg (csig t s b q l) ∧ crun (0 - t) s b (mir q) (neg l) = mir (crun t s b q l) := by
  induction l with
  | nil => intro q _; exact ⟨rfl, rfl⟩
  | cons x l ih =>
    intro q hq
    obtain ⟨h1, h2⟩ := mir_sig (t := t) (x := x) hq hs
    obtain ⟨h3, h4⟩ := ih (cs_ok (t := t) (s := s) hq hb x).1
    simp only [neg, List.map_cons, csig, crun] at h3 h4 ⊢
    rw [h1, h2, h3, h4]
    exact ⟨rfl, rfl⟩
theorem sig_in (t s b : Int) (q : Cs) (x : Int) : -1 ≤ sig t s b q x ∧ sig t s b q x ≤ 1 := by
  unfold sig
  split
  · omega
  · split <;> omega
theorem csig_in {t s b : Int} : ∀ (l : List Int) {q : Cs}, ∀ x ∈ csig t s b q l, -1 ≤ x ∧ x ≤ 1
  | [], q, x, h => by simp [csig] at h
  | y :: l, q, x, h => by
    rcases List.mem_cons.1 h with rfl | h
    · exact sig_in _ _ _ _ _
    · exact csig_in l x h
theorem tg_neg (t : Int) : tg (0 - tg t) = 0 - tg t := by
  obtain ⟨h1, h2, _, _⟩ := tmod_in t (m := 1000001) (by decide)
  unfold tg
  rw [Int.zero_sub, Int.neg_tmod, Int.tmod_tmod_of_dvd _ (by decide)]
theorem neg_in {l : List Int} (h : inAll l) : inAll (neg l) := by
  intro x hx
  obtain ⟨y, hy, rfl⟩ := List.mem_map.1 hx
  have := h y hy
  omega
theorem law5 : ∀ xs, WTL [tI, tI, tI, tS, tI] xs → pureF C6 1 5 xs = some (.bool true) := by
  intro xs h
  simp only [WTL, WT] at h
  obtain ⟨_, _, rfl, ⟨t, rfl, _⟩, _, _, rfl, ⟨s, rfl, _⟩, _, _, rfl, ⟨b, rfl, _⟩, a, _, rfl, ha, _, _, rfl, ⟨k, rfl, hk⟩, rfl⟩ := h
  obtain ⟨l0, ha, ha8, _⟩ := wt_ints (b := 8) (by simpa only [WT] using ha)
  have ap := ha.plain
  have hl0 : Lg l0 := by simp only [Lg]; omega
  have e12 := F12_eq (t := t) (s := s) (b := b) ha hl0
  have e12b := F12_eq (t := 0 - tg t) (s := s) (b := b) Rw.nils (show Lg [] by decide)
  rw [tg_neg] at e12b
  obtain ⟨hT, hS, hB⟩ := cub_some t s b
  have hoi := clamp_in (l0.take 100)
  have hol : ((l0.take 100).map clamp).length ≤ 100 := by simp; omega
  simp only [tg, st, bd] at *
  generalize (l0.take 100).map clamp = o at *
  obtain ⟨m, hm, t1, t2, t3⟩ := turn_k k o.length
  generalize hT' : t.tmod 1000001 = T at *
  generalize (s.tmod 1000001 + 1000001).tmod 1000001 = S at *
  generalize 1 + (b.tmod 1000000000 + 1000000000).tmod 1000000000 = B at *
  have hq0 : csOk B ⟨0, 0, 0⟩ := ⟨by simp, by simp, by simp; omega, by simp, by simp; omega⟩
  have hor := rowV_rw o
  have orp := hor.plain
  have e6a : F6 [K6 T S B 0 0 0, rowV o] = _ := F6_ok (t := T) (s := S) (b := B) (q := ⟨0, 0, 0⟩) hor (by omega) (cuOk_new ⟨hT, hS, hB⟩) hoi (by simp only; omega)
  obtain ⟨m1, m2⟩ := mir_run (t := T) hS.1 hB.1 o hq0
  have e6b : F6 [K6 (0 - T) S B 0 0 0, rowN 1 (i64s (neg o))] = _ := F6_ok (t := 0 - T) (s := S) (b := B) (q := mir ⟨0, 0, 0⟩) (rowN_rw (neg o)) (by simp; omega) (cuOk_new ⟨by omega, hS, hB⟩) (neg_in hoi) (by simp [mir]; omega)
  rw [m1, m2] at e6b
  have o1 := hor.take m
  have o2 := hor.drop m
  have o1p := o1.plain
  have o2p := o2.plain
  have hs1 := hor.sliceTo hm
  have hs2 := hor.sliceFrom hm
  have e6c : F6 [K6 T S B 0 0 0, rwTake m (rowV o)] = _ := F6_ok (t := T) (s := S) (b := B) (q := ⟨0, 0, 0⟩) o1 (by simp; omega) (cuOk_new ⟨hT, hS, hB⟩) (fun x hx => hoi x (List.mem_of_mem_take hx)) (by simp; omega)
  obtain ⟨r1, r2⟩ := crun_ok (t := T) (s := S) hB.1 hq0 (o.take m)
  have r2l : (o.take m).length ≤ 100 := by simp; omega
  simp only [Int.zero_add] at r2
  have hcu : cuOk T S B (crun T S B ⟨0, 0, 0⟩ (o.take m)).n (crun T S B ⟨0, 0, 0⟩ (o.take m)).h (crun T S B ⟨0, 0, 0⟩ (o.take m)).l := by
    obtain ⟨q1, q2, q3, q4, q5⟩ := r1
    refine ⟨hT.1, hT.2, hS.1, hS.2, hB.1, hB.2, q1, by omega, q2, q3, q4, q5, ?_⟩
    rcases Nat.eq_zero_or_pos (o.take m).length with h0 | h0
    · rw [List.length_eq_zero_iff.1 h0]; exact .inr ⟨rfl, rfl⟩
    · left; omega
  have e6d := F6_ok o2 (by simp; omega) hcu (fun x hx => hoi x (List.mem_of_mem_drop hx)) (by simp only [List.length_drop]; omega)
  have hsp := List.take_append_drop m o
  have hcr := crun_app (t := T) (s := S) (b := B) (q := ⟨0, 0, 0⟩) (o.take m) (o.drop m)
  have hcs := csig_app (t := T) (s := S) (b := B) (q := ⟨0, 0, 0⟩) (o.take m) (o.drop m)
  rw [hsp] at hcr hcs
  rw [← hcr] at e6d
  have f1 : (csig T S B ⟨0, 0, 0⟩ (o.take m)).length ≤ 100 := by rw [csig_len]; omega
  have f2 : (csig T S B (crun T S B ⟨0, 0, 0⟩ (o.take m)) (o.drop m)).length ≤ 100 := by rw [csig_len]; simp; omega
  have f3 : (csig T S B ⟨0, 0, 0⟩ o).length = o.length := csig_len o
  have f4 := csig_in (t := T) (s := S) (b := B) o (q := ⟨0, 0, 0⟩)
  generalize crun T S B ⟨0, 0, 0⟩ (o.take m) = q2 at *
  generalize crun T S B ⟨0, 0, 0⟩ o = q1 at *
  generalize csig T S B ⟨0, 0, 0⟩ (o.take m) = g1 at *
  generalize csig T S B q2 (o.drop m) = g2 at *
  generalize csig T S B ⟨0, 0, 0⟩ o = g at *
  simp only [mir] at e6b
  clear hsp hcr m1 m2
  refine pureF_of (x := x5) rfl rfl ?_
  rw [x5_eq.1, x5_eq.2.1]
  simp (disch := first | omega | simp only [*, go_sem, tm0, ↓reduceIte, Nat.reduceAdd, Nat.reduceMul, Nat.reduceSub, Nat.reduceLeDiff, Nat.reduceLT, Nat.reduceEqDiff, Int.reduceLT, Int.reduceLE, Int.reduceAdd, Int.reduceSub, Int.reduceMul, Int.reduceToNat, Int.reducePow, Int.reduceNe, Int.reduceMod, Int.reduceDiv, ne_eq, Int.reduceEq, not_false_eq_true, Nat.reducePow, List.length_append, List.length_replicate, List.replicate_succ, List.replicate_zero, Int.cast_ofNat_Int, not_true_eq_false, decide_true, decide_false, ite_self, List.mem_cons, List.not_mem_nil, or_false, or_self]) only [go_sem, tm0, ↓reduceIte, Nat.reduceAdd, Nat.reduceMul, Nat.reduceSub, Nat.reduceLeDiff, Nat.reduceLT, Nat.reduceEqDiff, Int.reduceLT, Int.reduceLE, Int.reduceAdd, Int.reduceSub, Int.reduceMul, Int.reduceToNat, Int.reducePow, Int.reduceNe, Int.reduceMod, Int.reduceDiv, ne_eq, Int.reduceEq, not_false_eq_true, Nat.reducePow, List.length_append, List.length_replicate, List.replicate_succ, List.replicate_zero, Int.cast_ofNat_Int, not_true_eq_false, decide_true, decide_false, ite_self, F8_eq, callX_known (C := C6) (g := 8) rfl, ft_call (C := C6) (g := 8) rfl, callX_known (C := C6) (g := 12) rfl, ft_call (C := C6) (g := 12) rfl, callX_names (C := C6) (g := 6) rfl, ftC_names (C := C6) (g := 6) rfl, callX_names (C := C6) (g := 11) rfl, ftC_names (C := C6) (g := 11) rfl, x5b, e12, e12b, hT', hor.len]
  refine Ev_range (ti := 71) (len := o.length) (J := fun i tm hp nc => Own [5009004] 1 hp (tm 16) (i64s (neg (o.take i))) ∧ (neg (o.take i) = [] → tm 16 = .nils) ∧
    hp (5001009, 1) = some (.var [.int .i64 T, .int .i64 S, .int .i64 B, .int .i64 0, .int .i64 0, .int .i64 0]) ∧
    hp (5002010, 2) = some (.var [.int .i64 (0 - T), .int .i64 S, .int .i64 B, .int .i64 0, .int .i64 0, .int .i64 0])) (by omega) ?_ ?_ ?_
  · simp only [go_sem, tm0, ↓reduceIte, Nat.reduceAdd, Nat.reduceMul, Nat.reduceSub, Nat.reduceLeDiff, Nat.reduceLT, Nat.reduceEqDiff, Int.reduceLT, Int.reduceLE, Int.reduceAdd, Int.reduceSub, Int.reduceMul, Int.reduceToNat, Int.reducePow, Int.reduceNe, Int.reduceMod, Int.reduceDiv, ne_eq, Int.reduceEq, not_false_eq_true, Nat.reducePow, List.length_append, List.length_replicate, List.replicate_succ, List.replicate_zero, Int.cast_ofNat_Int, not_true_eq_false, decide_true, decide_false, ite_self, dropK_eq]
  · simp only [go_sem, tm0, ↓reduceIte, Nat.reduceAdd, Nat.reduceMul, Nat.reduceSub, Nat.reduceLeDiff, Nat.reduceLT, Nat.reduceEqDiff, Int.reduceLT, Int.reduceLE, Int.reduceAdd, Int.reduceSub, Int.reduceMul, Int.reduceToNat, Int.reducePow, Int.reduceNe, Int.reduceMod, Int.reduceDiv, ne_eq, Int.reduceEq, not_false_eq_true, Nat.reducePow, List.length_append, List.length_replicate, List.replicate_succ, List.replicate_zero, Int.cast_ofNat_Int, not_true_eq_false, decide_true, decide_false, ite_self, dropK_eq, List.map_nil]
    exact ⟨Own.nils _ _ _, fun _ => trivial⟩
  · rintro i tm hp nc hi' hc k71 ⟨ho, h0, ka, kb⟩
    have k3 := hc 3 rfl; have k4 := hc 4 rfl; have k11 := hc 11 rfl; have k13 := hc 13 rfl; have k69 := hc 69 rfl; have k70 := hc 70 rfl; simp only [go_sem, tm0, ↓reduceIte, Nat.reduceAdd, Nat.reduceMul, Nat.reduceSub, Nat.reduceLeDiff, Nat.reduceLT, Nat.reduceEqDiff, Int.reduceLT, Int.reduceLE, Int.reduceAdd, Int.reduceSub, Int.reduceMul, Int.reduceToNat, Int.reducePow, Int.reduceNe, Int.reduceMod, Int.reduceDiv, ne_eq, Int.reduceEq, not_false_eq_true, Nat.reducePow, List.length_append, List.length_replicate, List.replicate_succ, List.replicate_zero, Int.cast_ofNat_Int, not_true_eq_false, decide_true, decide_false, ite_self, dropK_eq] at k3 k4 k11 k13 k69 k70
    rcases Nat.lt_or_ge i o.length with hlt | hge
    · have d1 : decide ((i : Int) < (o.length : Int)) = true := decide_eq_true (by omega)
      have ia := hor.ia hlt
      have hx := hoi _ (getD_mem hlt)
      obtain ⟨V, H, hA, hO⟩ := ho.push (s0 := 5009004) (s1 := 5009003) (z := .int .i64 (0 - o.getD i 0)) (bytes := 8) (by simp) (by simp) (plain_int _ _ _) (by simp [cellsOf, isSc]) (by simp; omega)
      simp (disch := first | omega | simp only [*, go_sem, tm0, ↓reduceIte, Nat.reduceAdd, Nat.reduceMul, Nat.reduceSub, Nat.reduceLeDiff, Nat.reduceLT, Nat.reduceEqDiff, Int.reduceLT, Int.reduceLE, Int.reduceAdd, Int.reduceSub, Int.reduceMul, Int.reduceToNat, Int.reducePow, Int.reduceNe, Int.reduceMod, Int.reduceDiv, ne_eq, Int.reduceEq, not_false_eq_true, Nat.reducePow, List.length_append, List.length_replicate, List.replicate_succ, List.replicate_zero, Int.cast_ofNat_Int, not_true_eq_false, decide_true, decide_false, ite_self, List.mem_cons, List.not_mem_nil, or_false, or_self]) only [go_sem, tm0, ↓reduceIte, Nat.reduceAdd, Nat.reduceMul, Nat.reduceSub, Nat.reduceLeDiff, Nat.reduceLT, Nat.reduceEqDiff, Int.reduceLT, Int.reduceLE, Int.reduceAdd, Int.reduceSub, Int.reduceMul, Int.reduceToNat, Int.reducePow, Int.reduceNe, Int.reduceMod, Int.reduceDiv, ne_eq, Int.reduceEq, not_false_eq_true, Nat.reducePow, List.length_append, List.length_replicate, List.replicate_succ, List.replicate_zero, Int.cast_ofNat_Int, not_true_eq_false, decide_true, decide_false, ite_self, F8_eq, callX_known (C := C6) (g := 8) rfl, ft_call (C := C6) (g := 8) rfl, callX_known (C := C6) (g := 12) rfl, ft_call (C := C6) (g := 12) rfl, callX_names (C := C6) (g := 6) rfl, ftC_names (C := C6) (g := 6) rfl, callX_names (C := C6) (g := 11) rfl, ftC_names (C := C6) (g := 11) rfl, x5l7, k3, k4, k11, k13, k69, k70, k71, d1, ia, hA]
      have et : neg (o.take (i + 1)) = neg (o.take i) ++ [0 - o.getD i 0] := by rw [take_step hlt, neg, List.map_append]; rfl
      refine ⟨hlt, by simp, ?_, ?_, ?_, ?_⟩
      · rw [et, i64s, List.map_append]; exact (hO _ _).1
      · rw [et]; intro h; simp at h
      · rw [(hO _ _).2 _ (by decide) (by decide)]; exact ka
      · rw [(hO _ _).2 _ (by decide) (by decide)]; exact kb
    · obtain rfl : i = o.length := by omega
      have d1 : decide ((o.length : Int) < (o.length : Int)) = false := decide_eq_false (by omega)
      rw [List.take_length] at *
      obtain ⟨ks, hks, hlx⟩ := ho.lendXs (fun h => h0 (by simpa using h)) 63 (plainL_ints _ _ _)
      have hdk : ∀ v hp k, k.1 ∉ [5009004] → dropK v ks hp k = hp k := fun v hp k h => dropK_ne hks h v hp
      simp (disch := first | omega | simp only [*, go_sem, tm0, ↓reduceIte, Nat.reduceAdd, Nat.reduceMul, Nat.reduceSub, Nat.reduceLeDiff, Nat.reduceLT, Nat.reduceEqDiff, Int.reduceLT, Int.reduceLE, Int.reduceAdd, Int.reduceSub, Int.reduceMul, Int.reduceToNat, Int.reducePow, Int.reduceNe, Int.reduceMod, Int.reduceDiv, ne_eq, Int.reduceEq, not_false_eq_true, Nat.reducePow, List.length_append, List.length_replicate, List.replicate_succ, List.replicate_zero, Int.cast_ofNat_Int, not_true_eq_false, decide_true, decide_false, ite_self, List.mem_cons, List.not_mem_nil, or_false, or_self]) only [go_sem, tm0, ↓reduceIte, Nat.reduceAdd, Nat.reduceMul, Nat.reduceSub, Nat.reduceLeDiff, Nat.reduceLT, Nat.reduceEqDiff, Int.reduceLT, Int.reduceLE, Int.reduceAdd, Int.reduceSub, Int.reduceMul, Int.reduceToNat, Int.reducePow, Int.reduceNe, Int.reduceMod, Int.reduceDiv, ne_eq, Int.reduceEq, not_false_eq_true, Nat.reducePow, List.length_append, List.length_replicate, List.replicate_succ, List.replicate_zero, Int.cast_ofNat_Int, not_true_eq_false, decide_true, decide_false, ite_self, F8_eq, callX_known (C := C6) (g := 8) rfl, ft_call (C := C6) (g := 8) rfl, callX_known (C := C6) (g := 12) rfl, ft_call (C := C6) (g := 12) rfl, callX_names (C := C6) (g := 6) rfl, ftC_names (C := C6) (g := 6) rfl, callX_names (C := C6) (g := 11) rfl, ftC_names (C := C6) (g := 11) rfl, x5l7, k3, k4, k11, k13, k69, k70, k71, d1, ka, kb, e6a, orp]
      rw [hlx _ (fun k hk => by repeat rw [upd_ne _ _ (by rintro rfl; simp at hk)])]
      have d2 : decide (¬ (g.length : Int) = (o.length : Int)) = false := decide_eq_false (by omega)
      have rp := (rowV_rw g).plain
      have rn := (rowV_rw (neg g)).plain
      simp (disch := first | omega | simp only [*, go_sem, tm0, ↓reduceIte, Nat.reduceAdd, Nat.reduceMul, Nat.reduceSub, Nat.reduceLeDiff, Nat.reduceLT, Nat.reduceEqDiff, Int.reduceLT, Int.reduceLE, Int.reduceAdd, Int.reduceSub, Int.reduceMul, Int.reduceToNat, Int.reducePow, Int.reduceNe, Int.reduceMod, Int.reduceDiv, ne_eq, Int.reduceEq, not_false_eq_true, Nat.reducePow, List.length_append, List.length_replicate, List.replicate_succ, List.replicate_zero, Int.cast_ofNat_Int, not_true_eq_false, decide_true, decide_false, ite_self, List.mem_cons, List.not_mem_nil, or_false, or_self]) only [go_sem, tm0, ↓reduceIte, Nat.reduceAdd, Nat.reduceMul, Nat.reduceSub, Nat.reduceLeDiff, Nat.reduceLT, Nat.reduceEqDiff, Int.reduceLT, Int.reduceLE, Int.reduceAdd, Int.reduceSub, Int.reduceMul, Int.reduceToNat, Int.reducePow, Int.reduceNe, Int.reduceMod, Int.reduceDiv, ne_eq, Int.reduceEq, not_false_eq_true, Nat.reducePow, List.length_append, List.length_replicate, List.replicate_succ, List.replicate_zero, Int.cast_ofNat_Int, not_true_eq_false, decide_true, decide_false, ite_self, F8_eq, callX_known (C := C6) (g := 8) rfl, ft_call (C := C6) (g := 8) rfl, callX_known (C := C6) (g := 12) rfl, ft_call (C := C6) (g := 12) rfl, callX_names (C := C6) (g := 6) rfl, ftC_names (C := C6) (g := 6) rfl, callX_names (C := C6) (g := 11) rfl, ftC_names (C := C6) (g := 11) rfl, k3, k4, k11, k13, k69, k70, d1, ka, kb, e6b, orp, hdk, rowV_len, hor.len, List.length_map, d2]
      clear hc
      refine Ev_rangeH (ti := 131) (len := g.length) (J := fun i tm => True) (by omega) ?_ trivial ?_
      · simp only [go_sem, tm0, ↓reduceIte, Nat.reduceAdd, Nat.reduceMul, Nat.reduceSub, Nat.reduceLeDiff, Nat.reduceLT, Nat.reduceEqDiff, Int.reduceLT, Int.reduceLE, Int.reduceAdd, Int.reduceSub, Int.reduceMul, Int.reduceToNat, Int.reducePow, Int.reduceNe, Int.reduceMod, Int.reduceDiv, ne_eq, Int.reduceEq, not_false_eq_true, Nat.reducePow, List.length_append, List.length_replicate, List.replicate_succ, List.replicate_zero, Int.cast_ofNat_Int, not_true_eq_false, decide_true, decide_false, ite_self, dropK_eq]
      · rintro i tm' nc' hi2 hc k131 -
        have j3 := hc 3 rfl; have j4 := hc 4 rfl; have j11 := hc 11 rfl; have j13 := hc 13 rfl; have j19 := hc 19 rfl; have j20 := hc 20 rfl; have j23 := hc 23 rfl; have j129 := hc 129 rfl; have j130 := hc 130 rfl; simp only [go_sem, tm0, ↓reduceIte, Nat.reduceAdd, Nat.reduceMul, Nat.reduceSub, Nat.reduceLeDiff, Nat.reduceLT, Nat.reduceEqDiff, Int.reduceLT, Int.reduceLE, Int.reduceAdd, Int.reduceSub, Int.reduceMul, Int.reduceToNat, Int.reducePow, Int.reduceNe, Int.reduceMod, Int.reduceDiv, ne_eq, Int.reduceEq, not_false_eq_true, Nat.reducePow, List.length_append, List.length_replicate, List.replicate_succ, List.replicate_zero, Int.cast_ofNat_Int, not_true_eq_false, decide_true, decide_false, ite_self, dropK_eq, k3, k4, k11, k13] at j3 j4 j11 j13 j19 j20 j23 j129 j130
        rcases Nat.lt_or_ge i g.length with hlt | hge
        · have d3 : decide ((i : Int) < (g.length : Int)) = true := decide_eq_true (by omega)
          have ig := (rowV_rw g).ia hlt
          have ih := (rowV_rw (neg g)).ia (i := i) (by simpa using hlt)
          have hgi := f4 _ (getD_mem hlt)
          have e : (neg g).getD i 0 = 0 - g.getD i 0 := by simp [neg, List.getD_eq_getElem?_getD, List.getElem?_eq_getElem hlt]
          rw [e] at ih
          have d4 : decide (¬ g.getD i 0 = 0 - (0 - g.getD i 0)) = false := decide_eq_false (by omega)
          have d5 : decide (g.getD i 0 < -1) = false := decide_eq_false (by omega)
          have d6 : decide (1 < g.getD i 0) = false := decide_eq_false (by omega)
          simp (disch := first | omega | simp only [*, go_sem, tm0, ↓reduceIte, Nat.reduceAdd, Nat.reduceMul, Nat.reduceSub, Nat.reduceLeDiff, Nat.reduceLT, Nat.reduceEqDiff, Int.reduceLT, Int.reduceLE, Int.reduceAdd, Int.reduceSub, Int.reduceMul, Int.reduceToNat, Int.reducePow, Int.reduceNe, Int.reduceMod, Int.reduceDiv, ne_eq, Int.reduceEq, not_false_eq_true, Nat.reducePow, List.length_append, List.length_replicate, List.replicate_succ, List.replicate_zero, Int.cast_ofNat_Int, not_true_eq_false, decide_true, decide_false, ite_self, List.mem_cons, List.not_mem_nil, or_false, or_self]) only [go_sem, tm0, ↓reduceIte, Nat.reduceAdd, Nat.reduceMul, Nat.reduceSub, Nat.reduceLeDiff, Nat.reduceLT, Nat.reduceEqDiff, Int.reduceLT, Int.reduceLE, Int.reduceAdd, Int.reduceSub, Int.reduceMul, Int.reduceToNat, Int.reducePow, Int.reduceNe, Int.reduceMod, Int.reduceDiv, ne_eq, Int.reduceEq, not_false_eq_true, Nat.reducePow, List.length_append, List.length_replicate, List.replicate_succ, List.replicate_zero, Int.cast_ofNat_Int, not_true_eq_false, decide_true, decide_false, ite_self, F8_eq, callX_known (C := C6) (g := 8) rfl, ft_call (C := C6) (g := 8) rfl, callX_known (C := C6) (g := 12) rfl, ft_call (C := C6) (g := 12) rfl, callX_names (C := C6) (g := 6) rfl, ftC_names (C := C6) (g := 6) rfl, callX_names (C := C6) (g := 11) rfl, ftC_names (C := C6) (g := 11) rfl, x5l17, j3, j4, j11, j13, j19, j20, j23, j129, j130, k131, d3, ig, ih, d4, d5, d6]
          exact ⟨hlt, by simp⟩
        · obtain rfl : i = g.length := by omega
          have d3 : decide ((g.length : Int) < (g.length : Int)) = false := decide_eq_false (by omega)
          have q1p := (rowV_rw g1).plain
          have q2p := (rowV_rw g2).plain
          have er1 : ∀ hp, elemsA 1 (rowV g1) hp = some (i64s g1) := fun hp => (rowV_rw g1).elems
          have er2 : ∀ hp, elemsA 1 (rowV g2) hp = some (i64s g2) := fun hp => (rowV_rw g2).elems
          have hb1 : g1.length * 8 ≤ 140737488355328 := by omega
          have hb2 : (g1.length + g2.length) * 8 ≤ 140737488355328 := by omega
          have htk : List.take (g1.length + g2.length) (i64s g1 ++ i64s g2) = i64s (g1 ++ g2) := by
            rw [i64s, i64s, ← List.map_append, List.take_of_length_le (by simp)]
          have e11 := F11_eq (Rw.slc (g1 ++ g2)) (rowV_rw g) (by simp only [Lg, List.length_append]; omega) (by simp only [Lg]; omega)
          rw [decide_eq_true hcs.symm] at e11
          unfold F11 at e11
          simp (disch := first | omega | simp only [*, go_sem, tm0, ↓reduceIte, Nat.reduceAdd, Nat.reduceMul, Nat.reduceSub, Nat.reduceLeDiff, Nat.reduceLT, Nat.reduceEqDiff, Int.reduceLT, Int.reduceLE, Int.reduceAdd, Int.reduceSub, Int.reduceMul, Int.reduceToNat, Int.reducePow, Int.reduceNe, Int.reduceMod, Int.reduceDiv, ne_eq, Int.reduceEq, not_false_eq_true, Nat.reducePow, List.length_append, List.length_replicate, List.replicate_succ, List.replicate_zero, Int.cast_ofNat_Int, not_true_eq_false, decide_true, decide_false, ite_self, List.mem_cons, List.not_mem_nil, or_false, or_self]) only [go_sem, tm0, ↓reduceIte, Nat.reduceAdd, Nat.reduceMul, Nat.reduceSub, Nat.reduceLeDiff, Nat.reduceLT, Nat.reduceEqDiff, Int.reduceLT, Int.reduceLE, Int.reduceAdd, Int.reduceSub, Int.reduceMul, Int.reduceToNat, Int.reducePow, Int.reduceNe, Int.reduceMod, Int.reduceDiv, ne_eq, Int.reduceEq, not_false_eq_true, Nat.reducePow, List.length_append, List.length_replicate, List.replicate_succ, List.replicate_zero, Int.cast_ofNat_Int, not_true_eq_false, decide_true, decide_false, ite_self, F8_eq, callX_known (C := C6) (g := 8) rfl, ft_call (C := C6) (g := 8) rfl, callX_known (C := C6) (g := 12) rfl, ft_call (C := C6) (g := 12) rfl, callX_names (C := C6) (g := 6) rfl, ftC_names (C := C6) (g := 6) rfl, callX_names (C := C6) (g := 11) rfl, ftC_names (C := C6) (g := 11) rfl, x5l17, j3, j4, j11, j13, j19, j20, j23, j129, j130, k131, d3, hor.len, t3, hs1, hs2, e6c, e6d, ka, kb, hdk, o1p, o2p, q1p, q2p, er1, er2, List.length_map, Nat.zero_add, hb1, hb2, htk, e11, rp, lendX_plain (rp 64)]
          exact Ends_plain rfl rfl
end Go.Proofs.Ythnjboiecahbgaa
