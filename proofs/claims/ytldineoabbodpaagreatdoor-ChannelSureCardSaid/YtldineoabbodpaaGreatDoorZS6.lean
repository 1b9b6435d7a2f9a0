/-
  Laid together: part 6.
-/
import Derived.Test.YtldineoabbodpaaGreatDoorZS5
set_option linter.unusedVariables false
set_option linter.unusedSimpArgs false
namespace Go.Proofs.YtldineoabbodpaaGreatDoor
open Go Go.Xec
set_option maxRecDepth 10000
def intV : AVal → Int
  | .int _ n => n
  | _ => 0
def mlOf : AVal → List Int
  | .slc 1 xs => xs.map intV
  | _ => []
theorem mlOf_slc (l : List Int) : mlOf (.slc 1 (i64s l)) = l := by
  show (i64s l).map intV = l
  unfold i64s
  rw [List.map_map]
  exact List.map_id _
section
variable {c : REC.Ch} {e : En} {x : Int}
theorem ch_name (h : REC.chOk c) : c.n.length ≤ 1000000 := by have := h.1.2.2; omega
theorem ch_bnd (h : REC.chOk c) (ht : 1 ≤ c.t ∧ c.t ≤ 5) : (2 ≤ c.f3 ∧ c.f3 ≤ 25) ∧ (1 ≤ c.f4 ∧ c.f4 ≤ 1000000000) ∧ (c.t = 1 → -1000000 ≤ c.f1 ∧ c.f1 < c.f2 ∧ c.f2 ≤ 1000000) ∧ (c.t = 2 ∨ c.t = 3 ∨ c.t = 5 → 1 ≤ c.f0 ∧ c.f0 ≤ 1000) ∧ (c.t = 4 → c.f0 = 0) := by
  obtain ⟨_, _, h3, h4, _⟩ := h
  have k0 := h3 0 (by decide)
  have k1 := (h3 1 (by decide)).1
  have k2 := (h3 2 (by decide)).1
  have k3 := (h3 3 (by decide)).1
  have k4 := (h3 4 (by decide)).1
  have v0 : REC.vl c 0 = c.f0 := rfl
  have v1 : REC.vl c 1 = c.f1 := rfl
  have v2 : REC.vl c 2 = c.f2 := rfl
  have v3 : REC.vl c 3 = c.f3 := rfl
  have v4 : REC.vl c 4 = c.f4 := rfl
  rw [v0] at k0; rw [v1] at k1; rw [v2] at k2; rw [v3] at k3; rw [v4] at k4
  rcases (show c.t = 1 ∨ c.t = 2 ∨ c.t = 3 ∨ c.t = 4 ∨ c.t = 5 by omega) with t | t | t | t | t
  all_goals
    rw [t] at k0 k1 k2 k3 k4 h4 ⊢
    simp [REC.needB, REC.inF, REC.fd, REC.fdL, REC.mayB] at k0 k1 k2 k3 k4 h4
    omega
structure Eok (c : REC.Ch) (e : En) : Prop where
  ec : e.c = c
  ok : REC.chOk c
  n : 0 ≤ e.n ∧ e.n ≤ c.f4
  l : inM e.l
  g : e.gs = 0 ∧ e.gl = 0 ∧ e.gh = 0
  h : e.hv = .nils
  u : e.u = Cu0
  w : e.w = Ew0
  m : Rw e.mv (mlOf e.mv)
  k : mksOk (mlOf e.mv)
  p : (c.t = 1 ∧ baOk e.b ∧ e.b.s = 1 ∧ e.b.m ≤ c.f3 ∧ e.t = ⟨0, 0, 0, 0⟩) ∨ ((2 ≤ c.t ∧ c.t ≤ 5) ∧ tlOk e.t ∧ e.t.k = c.t ∧ e.t.s = max c.f0 1 ∧ e.t.m ≤ c.f3 ∧ e.b = ⟨0, 0, 0, 0, 0⟩)
theorem Eok.t (h : Eok c e) : 1 ≤ c.t ∧ c.t ≤ 5 := by rcases h.p with h | h <;> omega
theorem new_tl (h : REC.chOk c) (ht : 2 ≤ c.t ∧ c.t ≤ 5) : tlOk ⟨c.t, max c.f0 1, 0, 0⟩ := by
  have := ch_bnd h (by omega)
  refine ⟨⟨ht, ?_, ?_, ?_⟩, ?_, ?_⟩ <;> simp only <;> omega
theorem F9_ok (h : REC.chOk c) (ht : 1 ≤ c.t ∧ c.t ≤ 5) : F9 [.agg (ChC c)] = some (.tup [EK (newE c), .int .i64 0]) := by
  unfold newE
  by_cases h1 : c.t = 1
  · rw [F9_single (ch_name h) h h1, if_pos h1]
  · rw [F9_count (ch_name h) h (by omega) (new_tl h (by omega)), if_neg h1, if_neg (by omega), if_pos (by omega)]
theorem newE_ok (h : REC.chOk c) (ht : 1 ≤ c.t ∧ c.t ≤ 5) : Eok c (newE c) := by
  have hb := ch_bnd h ht
  have m0 : mksOk (mlOf .nils) := ⟨by decide, by intro m hm; cases hm⟩
  unfold newE
  by_cases h1 : c.t = 1
  · rw [if_pos h1]
    refine ⟨rfl, h, ⟨Int.le_refl _, by show (0 : Int) ≤ _; omega⟩, (show inM (0 : Int) by decide), ⟨rfl, rfl, rfl⟩, rfl, rfl, rfl, .inl ⟨rfl, rfl⟩, m0, .inl ⟨h1, (show baOk ⟨1, 0, 0, 0, 0⟩ by decide), rfl, by show (0 : Int) ≤ _; omega, rfl⟩⟩
  · rw [if_neg h1, if_neg (by omega), if_pos (by omega)]
    refine ⟨rfl, h, ⟨Int.le_refl _, by show (0 : Int) ≤ _; omega⟩, (show inM (0 : Int) by decide), ⟨rfl, rfl, rfl⟩, rfl, rfl, rfl, .inl ⟨rfl, rfl⟩, m0, .inr ⟨by omega, new_tl h (by omega), rfl, rfl, by show (0 : Int) ≤ _; omega, rfl⟩⟩
theorem newE_nils : (newE c).hv = .nils ∧ (newE c).mv = .nils := by
  unfold newE
  repeat' split
  all_goals exact ⟨rfl, rfl⟩
theorem Eok.out (h : Eok c e) : outE e [] (mlOf e.mv) := by
  obtain ⟨hc, ok, hn, hl, ⟨g1, g2, g3⟩, hh, hu, hw, hm, mk, hp⟩ := h
  have hr : restE e [] (mlOf e.mv) := by
    refine ⟨?_, by split <;> rfl, mk, .inl (by rw [hc]; rcases hp with h | h <;> omega)⟩
    rcases hp with ⟨h1, h2, h3, h4, h5⟩ | ⟨h1, h2, h3, h4, h5, h6⟩
    · rw [show bareE e = { e with b := ⟨0, 0, 0, 0, 0⟩ } by unfold bareE; rw [hc, if_neg (by omega), if_pos h1]]
      simp [noE, h5, hu, hw, g1, g2, g3]
    · rw [show bareE e = { e with t := ⟨0, 0, 0, 0⟩ } by unfold bareE; rw [hc, if_neg (by omega), if_neg (by omega), if_neg (by omega), if_neg (by omega)]]
      simp [noE, h6, hu, hw, g1, g2, g3]
  subst hc
  exact ⟨hn, hl, hr⟩
theorem F27_ok (h : Eok c e) : F27 [EK e] = some (.bool true) := by
  have ho := h.out
  have hh : Rw e.hv [] := by rw [h.h]; exact .inl ⟨rfl, rfl⟩
  have hlm : Lg (mlOf e.mv) := by have := h.k.1; simp only [Lg]; omega
  have hl0 : Lg [] := by simp [Lg]
  obtain ⟨n1, n2⟩ := newE_nils (c := e.c)
  have e9 := F9_ok (c := e.c) (by rw [h.ec]; exact h.ok) (by rw [h.ec]; exact h.t)
  rcases h.p with ⟨h1, h2, h3, h4, h5⟩ | ⟨h1, h2, h3, h4, h5, h6⟩
  · rw [F27_single hh h.m hl0 hlm e9 (by rw [n1]; rfl) (by rw [n2]; rfl) ho (by rw [h.ec]; exact h1) (by have := baOk_u h2; simp only [i64R]; omega), decide_eq_true (show lrnE e 1 from ⟨h2, h3, by rw [h.ec]; exact h4⟩)]
  · rw [F27_count hh h.m hl0 hlm e9 (by rw [n1]; rfl) (by rw [n2]; rfl) ho (by rw [h.ec]; exact h1), decide_eq_true]
    have hnt : (newE e.c).t = ⟨c.t, max c.f0 1, 0, 0⟩ := by unfold newE; rw [h.ec, if_neg (by omega), if_neg (by omega), if_pos (by omega)]
    exact ⟨h2, by rw [hnt]; exact h3, by rw [hnt]; exact h4, by rw [h.ec]; exact h5⟩
end
end Go.Proofs.YtldineoabbodpaaGreatDoor
namespace Go.Proofs.YtldineoabbodpaaGreatDoor
open Go Go.Xec
attribute [local go_sem] tm0 ne_eq not_false_eq_true List.length_append List.length_replicate List.replicate_succ List.replicate_zero Int.cast_ofNat_Int not_true_eq_false decide_true decide_false ite_self beq_self_eq_true Bool.true_beq Bool.false_beq Bool.not_true Bool.not_false
attribute [local go_sem_proc] Nat.reduceAdd Nat.reduceMul Nat.reduceSub Nat.reduceLeDiff Nat.reduceLT Nat.reduceEqDiff Int.reduceLT Int.reduceLE Int.reduceAdd Int.reduceSub Int.reduceMul Int.reduceToNat Int.reducePow Int.reduceNe Int.reduceMod Int.reduceDiv Int.reduceEq Nat.reducePow Int.reduceNeg
set_option maxRecDepth 10000
noncomputable def C43 : Cfg := C42.add 27 F27
theorem ok43 : CfgOk Tryz.prog C43 := ok42.add sound27
noncomputable def F12 : List AVal → Option AVal := pureF C43 1 12
theorem sound12 : Sound Tryz.prog 12 F12 := sound_self ok43 1 12
abbrev SC0 : List AVal := SC 0 0 0 0 0 0 0 0 0 0 0 0
section
variable {c : REC.Ch} {e : En} {x : Int}
theorem F12_pass {hl ml hl2 ml2 : List Int} {e2 : En} {k g1 g2 g3 g4 q0 q1 q2 q3 q4 q5 q6 q7 : Int} (hh : Rw e.hv hl) (hm : Rw e.mv ml) (hh2 : Rw e2.hv hl2) (hm2 : Rw e2.mv ml2) (h : F27 [EK e] = some (.bool true)) (h2 : F36 [EK e, .int .i64 x] = some (.tup [EK e2, .agg (SC g1 g2 g3 g4 q0 q1 q2 q3 q4 q5 q6 q7), .int .i64 k])) :
    F12 [EK e, .int .i64 x] = some (.tup [EK e2, .agg (SC g1 g2 g3 g4 q0 q1 q2 q3 q4 q5 q6 q7), .int .i64 k]) := by
  have am := hm.sc
  have as2 := hh.sc
  have ap := hm.plain
  have ap2 := hh.plain
  have am3 := hm2.sc
  have as3 := hh2.sc
  have ap4 := hm2.plain
  have ap3 := hh2.plain
  unfold F12
  refine pureF_of (x := x12) rfl rfl ?_
  rw [x12_eq.1, x12_eq.2.1]
  simp (disch := first | omega | simp only [*, go_sem, ↓reduceIte, dropK_eq]) only [x12b, go_sem, ↓reduceIte, dropK_eq, callX_known (C := C43) (g := 27) rfl, ft_call (C := C43) (g := 27) rfl, callX_known (C := C43) (g := 36) rfl, ft_call (C := C43) (g := 36) rfl, h, h2, am3, as3]
  exact Ends_plain (tup3_plain (EK_plain (e := e2) ap3 ap4 62) (SC_plain _ _ _ _ _ _ _ _ _ _ _ _ 62) (plain_int 63 _ _)) rfl
def nxE (e : En) (x : Int) : En := if e.c.t = 1 then valN e (mlOf e.mv) x else cntN e (mlOf e.mv) x
def snE (e : En) (x : Int) : AVal := if e.c.t = 1 then (valS e (mlOf e.mv) [x] (max (x - e.l) (e.l - x))).2 else (cntS e (mlOf e.mv) x).2
def ansE (c : REC.Ch) (e : En) (x : Int) : AVal := if e.n = c.f4 then .tup [EK E00, .agg SC0, .int .i64 11] else if smpOk c x then .tup [EK (nxE e x), snE e x, .int .i64 0] else .tup [EK E00, .agg SC0, .int .i64 3]
theorem snE_cells (e : En) (x : Int) : ∃ k v w g r0 r1 r2 r3 r4 r5 r6 r7, snE e x = .agg (SC k v w g r0 r1 r2 r3 r4 r5 r6 r7) := by
  unfold snE
  split
  · exact valS_cells _ _ _ _
  · exact cntS_cells _ _ _
theorem push_ok {ml : List Int} {m : Int} (hmo : mksOk ml) (hm : 0 < m ∧ m < 512) : mksOk (pushL ml m) := by
  have := hmo.1
  refine ⟨by simp only [pushL, List.length_drop, List.length_append, List.length_cons, List.length_nil]; omega, fun m' hm' => ?_⟩
  have h3 := List.mem_of_mem_drop hm'
  rcases List.mem_append.1 h3 with h4 | h4
  · exact hmo.2 m' h4
  · simp at h4; subst h4; exact hm
theorem smp_in (h : Eok c e) (hx : smpOk c x) : inM x := by
  have hb := ch_bnd h.ok h.t
  have ht := h.t
  unfold smpOk at hx
  simp only [inM]
  by_cases h2 : c.t = 2 ∨ c.t = 3
  · rw [if_pos h2] at hx; omega
  by_cases h4 : c.t = 4 ∨ c.t = 5
  · rw [if_neg h2, if_pos h4] at hx; omega
  rw [if_neg h2, if_neg h4] at hx; omega
theorem smp_cnt (h : Eok c e) (ht : 2 ≤ c.t ∧ c.t ≤ 5) (h3 : e.t.k = c.t) (h4 : e.t.s = max c.f0 1) (hx : smpOk c x) : 0 ≤ x ∧ x ≤ e.t.most := by
  have hb := ch_bnd h.ok h.t
  unfold smpOk at hx
  unfold Tl.most
  rw [h3, h4]
  by_cases h2 : c.t = 2 ∨ c.t = 3
  · rw [if_pos h2] at hx; rw [if_pos (by omega)]; omega
  rw [if_neg h2, if_pos (by omega)] at hx
  rw [if_neg (by omega)]
  exact hx
theorem nxE_ok (h : Eok c e) (hn : e.n ≠ c.f4) (hx : smpOk c x) : Eok c (nxE e x) := by
  have hin := smp_in h hx
  have hb := ch_bnd h.ok h.t
  have hnn := h.n
  have hN : 0 ≤ e.n + 1 ∧ e.n + 1 ≤ c.f4 := by omega
  unfold nxE
  rw [h.ec]
  rcases h.p with ⟨h1, h2, h3, h4, h5⟩ | ⟨h1, h2, h3, h4, h5, h6⟩
  · rw [if_pos h1]
    unfold valN valS
    rw [h.ec]
    by_cases hm : e.b.m < c.f3
    · rw [if_pos hm]
      have htk := takeB_ok (row := [x]) h2 (by omega) (by rw [h3]; rfl) (by intro y hy; simp at hy; subst hy; exact hin)
      exact ⟨rfl, h.ok, hN, hin, h.g, h.h, h.u, h.w, h.m, h.k, .inl ⟨h1, htk, h3, by show e.b.m + 1 ≤ _; omega, h5⟩⟩
    · rw [if_neg hm]
      have hsum : sumL [x] = x := by simp [sumL]
      have hxb : -(e.b.s * 1000000) ≤ x ∧ x ≤ e.b.s * 1000000 := by rw [h3]; simp only [inM] at hin; omega
      have hmr := maskP_rng (ptB_ok h2 (by omega) hxb).1
      have hp := push_ok h.k hmr
      rw [hsum]
      refine ⟨rfl, h.ok, hN, hin, h.g, h.h, h.u, h.w, ?_, ?_, .inl ⟨h1, h2, h3, h4, h5⟩⟩
      · simp only [mlOf_slc]; exact Rw.slc _
      · simp only [mlOf_slc]; exact hp
  · have hd := smp_cnt h h1 h3 h4 hx
    rw [if_neg (by omega)]
    unfold cntN cntS
    rw [h.ec]
    by_cases hm : e.t.m < c.f3
    · rw [if_pos hm]
      have htk := takeT_ok h2 (by omega) hd
      exact ⟨rfl, h.ok, hN, hin, h.g, h.h, h.u, h.w, h.m, h.k, .inr ⟨h1, htk, h3, h4, by show e.t.m + 1 ≤ _; omega, h6⟩⟩
    · rw [if_neg hm]
      have hmr := maskP_rng (ptT_ok h2 (by omega) hd).1
      have hp := push_ok h.k hmr
      refine ⟨rfl, h.ok, hN, hin, h.g, h.h, h.u, h.w, ?_, ?_, .inr ⟨h1, h2, h3, h4, h5, h6⟩⟩
      · simp only [mlOf_slc]; exact Rw.slc _
      · simp only [mlOf_slc]; exact hp
theorem F12_eq (h : Eok c e) : F12 [EK e, .int .i64 x] = some (ansE c e x) := by
  have hh : Rw e.hv [] := by rw [h.h]; exact .inl ⟨rfl, rfl⟩
  have h27 := F27_ok h
  have hb := ch_bnd h.ok h.t
  have hnn := h.n
  have hec := h.ec
  unfold ansE
  by_cases hn : e.n = c.f4
  · rw [if_pos hn]
    exact F12_pass (e2 := E00) hh h.m (.inl ⟨rfl, rfl⟩) (.inl ⟨rfl, rfl⟩) h27 (F36_full hh h.m (by rw [hec]; exact hn))
  rw [if_neg hn]
  by_cases hx : smpOk c x
  rotate_left
  · rw [if_neg hx]
    exact F12_pass (e2 := E00) hh h.m (.inl ⟨rfl, rfl⟩) (.inl ⟨rfl, rfl⟩) h27 (F36_range hh h.m (by rw [hec]; exact hn) (by rw [hec]; exact hx))
  rw [if_pos hx]
  have hin := smp_in h hx
  have hok := nxE_ok h hn hx
  have hh2 : Rw (nxE e x).hv [] := by rw [hok.h]; exact .inl ⟨rfl, rfl⟩
  obtain ⟨g1, g2, g3, g4, q0, q1, q2, q3, q4, q5, q6, q7, hv⟩ := snE_cells e x
  rw [hv]
  refine F12_pass hh h.m hh2 hok.m h27 ?_
  rw [← hv]
  unfold nxE snE
  rw [hec]
  rcases h.p with ⟨h1, h2, h3, h4, h5⟩ | ⟨h1, h2, h3, h4, h5, h6⟩
  · rw [if_pos h1, if_pos h1]
    exact F36_single (by rw [hec]; exact hn) (by omega) (by rw [hec]; exact hx) (by rw [hec]; exact h1) h2 h3 (by rw [hec]; exact hb.1) hh h.m h.k hin h.l
  · rw [if_neg (by omega), if_neg (by omega)]
    exact F36_count (by rw [hec]; exact hn) (by omega) (by rw [hec]; exact hx) (by rw [hec]; exact h1) h2 (by rw [hec]; omega) hh h.m h.k (smp_cnt h h1 h3 h4 hx)
end
set_option maxRecDepth 10000
structure Sn where
  k : Int
  v : Int
  w : Int
  g : Int
  r0 : Int
  r1 : Int
  r2 : Int
  r3 : Int
  r4 : Int
  r5 : Int
  r6 : Int
  r7 : Int
  deriving DecidableEq
abbrev SnC (s : Sn) : List AVal := SC s.k s.v s.w s.g s.r0 s.r1 s.r2 s.r3 s.r4 s.r5 s.r6 s.r7
abbrev SnK (s : Sn) : AVal := .agg (SnC s)
abbrev Sn0 : Sn := ⟨0, 0, 0, 0, 0, 0, 0, 0, 0, 0, 0, 0⟩
theorem SnK_plain (s : Sn) (d : Nat) : plain (d + 1) (SnK s) = true := SC_plain _ _ _ _ _ _ _ _ _ _ _ _ d
section
variable (st : En → Int → En × Sn × Int)
def aft (e : En) (x : Int) : En := if (st e x).2.2 = 0 then (st e x).1 else e
def goE (e : En) (l : List Int) : En := l.foldl (aft st) e
def outs (e : En) : List Int → List (Sn × Int)
  | [] => []
  | x :: l => (st e x).2 :: outs (aft st e x) l
theorem outs_len (e : En) (l : List Int) : (outs st e l).length = l.length := by
  induction l generalizing e with
  | nil => rfl
  | cons x l ih => simp [outs, ih]
theorem outs_snoc (e : En) (l : List Int) (x : Int) : outs st e (l ++ [x]) = outs st e l ++ [(st (goE st e l) x).2] := by
  induction l generalizing e with
  | nil => rfl
  | cons y l ih => simp only [List.cons_append, outs, ih, goE, List.foldl_cons]
theorem take_snoc {l : List Int} {i : Nat} (hi : i < l.length) : l.take (i + 1) = l.take i ++ [l.getD i 0] := by
  rw [List.take_add_one, List.getElem?_eq_getElem hi, List.getD_eq_getElem?_getD, List.getElem?_eq_getElem hi]
  rfl
theorem goE_snoc (e : En) (l : List Int) (x : Int) : goE st e (l ++ [x]) = aft st (goE st e l) x := by simp [goE]
theorem Bd_push {ss : List Nat} {es bytes s0 s1 c c' : Nat} {hp h : Heap} {v z : AVal} {xs : List AVal} {K : AVal × Heap → Prop} (ho : Own ss es hp v xs) (hh : ∀ k : Key, k.1 ∈ ss → h k = hp k) (hk : s0 ∈ ss) (hn : s1 ∉ ss)
    (hl : plain Xec.freeze z = true) (hsc : (cellsOf z).all isSc = true) (hb : (xs.length + 1) * bytes ≤ 140737488355328)
    (hK : ∀ v' h', Own ss es h' v' (xs ++ [z]) → (∀ k : Key, k.1 ∉ ss → k.1 ≠ s1 → h' k = h k) → K (v', h')) :
    Bd (appA es bytes (s0, c) v (.sl (s1, c') 0 es 0 1) (upd h (s1, c') (some (.row 0 es [z])))) K := by
  obtain ⟨V, H, hA, hO⟩ := (ho.keep hh).push (s0 := s0) (s1 := s1) (z := z) (bytes := bytes) hk hn hl hsc hb
  rw [hA c c']
  simp only [Bd_some]
  exact hK _ _ (hO c c').1 (hO c c').2
end
noncomputable def C44 : Cfg := C43.add 12 F12
theorem ok44 : CfgOk Tryz.prog C44 := ok43.add sound12
noncomputable def F10 : List AVal → Option AVal := pureF C44 1 10
theorem sound10 : Sound Tryz.prog 10 F10 := sound_self ok44 1 10
structure StOk (P : En → Prop) (st : En → Int → En × Sn × Int) : Prop where
  rw : ∀ e, P e → ∃ hl ml, Rw e.hv hl ∧ Rw e.mv ml
  go : ∀ e x, P e → F12 [EK e, .int .i64 x] = some (.tup [EK (st e x).1, SnK (st e x).2.1, .int .i64 (st e x).2.2])
  rw2 : ∀ e x, P e → ∃ hl ml, Rw (st e x).1.hv hl ∧ Rw (st e x).1.mv ml
  nx : ∀ e x, P e → P (aft st e x)
theorem goE_ok {P : En → Prop} {st : En → Int → En × Sn × Int} (h : StOk P st) {e : En} (he : P e) (l : List Int) : P (goE st e l) := by
  induction l generalizing e with
  | nil => exact he
  | cons x l ih => exact ih (h.nx e x he)
theorem F10_eq {P : En → Prop} {st : En → Int → En × Sn × Int} (h : StOk P st) {e : En} (he : P e) {a : AVal} {l : List Int} (ha : Rw a l) (hl : l.length ≤ 1000000) :
    F10 [EK e, a] = some (.tup [EK (goE st e l), rowN 12 ((outs st e l).map fun o => SnK o.1), rowN 1 (i64s ((outs st e l).map (·.2)))]) := by
  have ap := ha.plain
  obtain ⟨hl0, ml0, hh0, hm0⟩ := h.rw e he
  have am := hm0.sc
  have as2 := hh0.sc
  unfold F10
  refine pureF_of (x := x10) rfl rfl ?_
  rw [x10_eq.1, x10_eq.2.1]
  simp (disch := first | omega | simp only [*, go_sem, ↓reduceIte, dropK_eq]) only [x10b, go_sem, ↓reduceIte, dropK_eq, ha.len, am, as2]
  refine Ev_range (ti := 16) (len := l.length) (J := fun i tm hp nc => Own [10009003] 12 hp (tm 7) ((outs st e (l.take i)).map fun o => SnK o.1) ∧ ((outs st e (l.take i)).map (fun o => SnK o.1) = [] → tm 7 = .nils) ∧
    Own [10009007] 1 hp (tm 8) (i64s ((outs st e (l.take i)).map (·.2))) ∧ (i64s ((outs st e (l.take i)).map (·.2)) = [] → tm 8 = .nils) ∧
    hp (10000000, 0) = some (.var (EC (goE st e (l.take i)))) ∧ hp (10000001, 0) = some (.var (EC E00))) (by omega) (by simp only [go_sem, ↓reduceIte, dropK_eq]) ?_ ?_
  · simp only [go_sem, ↓reduceIte, dropK_eq, List.take_zero, outs, List.map_nil]
    exact ⟨Own.nils _ _ _, fun _ => trivial, Own.nils _ _ _, fun _ => trivial, rfl⟩
  · rintro i tm hp nc hi' hc k16 ⟨ho1, h01, ho2, h02, kq, kr⟩
    have k1 := hc 1 rfl; have k2 := hc 2 rfl; have k4 := hc 4 rfl; have k14 := hc 14 rfl; have k15 := hc 15 rfl; simp only [go_sem, ↓reduceIte, dropK_eq] at k1 k2 k4 k14 k15
    have hP := goE_ok h he (l.take i)
    obtain ⟨hl1, ml1, hh1, hm1⟩ := h.rw _ hP
    have am1 := hm1.sc
    have as1 := hh1.sc
    have ap1 := hm1.plain
    have ap1' := hh1.plain
    rcases Nat.lt_or_ge i l.length with hlt | hge
    · have d1 : decide ((i : Int) < (l.length : Int)) = true := decide_eq_true (by omega)
      have ia := ha.ia hlt
      have e12 := h.go _ (l.getD i 0) hP
      obtain ⟨hl2, ml2, hh2, hm2⟩ := h.rw2 _ (l.getD i 0) hP
      have am2 := hm2.sc
      have as2 := hh2.sc
      have hg := goE_snoc st e (l.take i) (l.getD i 0)
      have hu := outs_snoc st e (l.take i) (l.getD i 0)
      rw [← take_snoc hlt] at hg hu
      unfold aft at hg
      generalize goE st e (l.take i) = e1 at *
      by_cases hz : (st e1 (l.getD i 0)).2.2 = 0
      · rw [if_pos hz] at hg
        have d2 := decide_eq_true hz
        simp (disch := first | omega | simp only [*, go_sem, ↓reduceIte, dropK_eq]) only [x10l4, go_sem, ↓reduceIte, dropK_eq, k1, k2, k4, k14, k15, k16, kq, d1, ia, callX_known (C := C44) (g := 12) rfl, ft_call (C := C44) (g := 12) rfl, e12, am1, as1, am2, as2, d2]
        refine Bd_push ho1 (fun k hk => ?_) (by simp) (by simp) (SnK_plain _ _) rfl (by simp [outs_len]; omega) fun v' h' ho1' hf1 => ?_
        · simp at hk; repeat rw [upd_ne _ _ (by rintro rfl; simp at hk)]
        simp (disch := first | omega | simp only [*, go_sem, ↓reduceIte, dropK_eq]) only [go_sem, ↓reduceIte, dropK_eq]
        refine Bd_push ho2 (fun k hk => ?_) (by simp) (by simp) (plain_int _ _ _) rfl (by simp [outs_len]; omega) fun v2 h2 ho2' hf2 => ?_
        · simp at hk
          rw [hf1 _ (by simp [hk]) (by simp [hk])]
          repeat rw [upd_ne _ _ (by rintro rfl; simp at hk)]
        simp (disch := first | omega | simp only [*, go_sem, ↓reduceIte, dropK_eq]) only [x10l4, go_sem, ↓reduceIte, dropK_eq, k16]
        refine ⟨hlt, by simp, ?_, ?_, ?_, ?_, ?_, ?_⟩
        · rw [hu, List.map_append]
          refine ho1'.keep fun k hk => ?_
          rw [hf2 _ (by simp at hk ⊢; omega) (by simp at hk ⊢; omega)]
          repeat rw [upd_ne _ _ (by rintro rfl; simp at hk)]
        · rw [hu]; intro h; simp at h
        · rw [hu, i64s, List.map_append, List.map_append]; exact ho2'
        · rw [hu]; intro h; simp [i64s] at h
        · rw [hf2 _ (by decide) (by decide), hf1 _ (by decide) (by decide), hg]
          simp only [go_sem, ↓reduceIte, dropK_eq, kq]
        · rw [hf2 _ (by decide) (by decide), hf1 _ (by decide) (by decide)]
          simp only [go_sem, ↓reduceIte, dropK_eq, kr]
      · rw [if_neg hz] at hg
        have d2 := decide_eq_false hz
        simp (disch := first | omega | simp only [*, go_sem, ↓reduceIte, dropK_eq]) only [x10l4, go_sem, ↓reduceIte, dropK_eq, k1, k2, k4, k14, k15, k16, kq, d1, ia, callX_known (C := C44) (g := 12) rfl, ft_call (C := C44) (g := 12) rfl, e12, am1, as1, am2, as2, d2]
        refine Bd_push ho1 (fun k hk => ?_) (by simp) (by simp) (SnK_plain _ _) rfl (by simp [outs_len]; omega) fun v' h' ho1' hf1 => ?_
        · simp at hk; repeat rw [upd_ne _ _ (by rintro rfl; simp at hk)]
        simp (disch := first | omega | simp only [*, go_sem, ↓reduceIte, dropK_eq]) only [go_sem, ↓reduceIte, dropK_eq]
        refine Bd_push ho2 (fun k hk => ?_) (by simp) (by simp) (plain_int _ _ _) rfl (by simp [outs_len]; omega) fun v2 h2 ho2' hf2 => ?_
        · simp at hk
          rw [hf1 _ (by simp [hk]) (by simp [hk])]
          repeat rw [upd_ne _ _ (by rintro rfl; simp at hk)]
        simp (disch := first | omega | simp only [*, go_sem, ↓reduceIte, dropK_eq]) only [x10l4, go_sem, ↓reduceIte, dropK_eq, k16]
        refine ⟨hlt, by simp, ?_, ?_, ?_, ?_, ?_, ?_⟩
        · rw [hu, List.map_append]
          refine ho1'.keep fun k hk => ?_
          rw [hf2 _ (by simp at hk ⊢; omega) (by simp at hk ⊢; omega)]
          repeat rw [upd_ne _ _ (by rintro rfl; simp at hk)]
        · rw [hu]; intro h; simp at h
        · rw [hu, i64s, List.map_append, List.map_append]; exact ho2'
        · rw [hu]; intro h; simp [i64s] at h
        · rw [hf2 _ (by decide) (by decide), hf1 _ (by decide) (by decide), hg]
          simp only [go_sem, ↓reduceIte, dropK_eq, kq]
        · rw [hf2 _ (by decide) (by decide), hf1 _ (by decide) (by decide)]
          simp only [go_sem, ↓reduceIte, dropK_eq, kr]
    · obtain rfl : i = l.length := by omega
      have d1 : decide ((l.length : Int) < (l.length : Int)) = false := decide_eq_false (by omega)
      rw [List.take_length] at *
      simp (disch := first | omega | simp only [*, go_sem, ↓reduceIte, dropK_eq]) only [x10l4, go_sem, ↓reduceIte, dropK_eq, k1, k2, k4, k14, k15, k16, d1, kq, kr, am1, as1]
      rw [Ends_eq, show (64 : Nat) = 63 + 1 from rfl, lendV_tup, lendVL_cons, lendVL_cons, lendVL_cons, lendV_plain (EK_plain ap1' ap1 62), Option.bind_some]
      rw [ho1.lendN h01 62 (plainL_map (enc := fun o : Sn × Int => SnK o.1) 62 (fun o => SnK_plain o.1 61) _) (fun k hk => by simp at hk; repeat rw [upd_ne _ _ (by rintro rfl; simp at hk)]), Option.bind_some]
      rw [ho2.lendN h02 62 (plainL_ints 62 _ _) (fun k hk => by simp at hk; repeat rw [upd_ne _ _ (by rintro rfl; simp at hk)]), Option.bind_some]
      simp only [lendVL_nil, Option.map_some]
set_option maxRecDepth 10000
def snOf : AVal → Sn
  | .agg [a, b, c, d, e0, e1, e2, e3, e4, e5, e6, e7] => ⟨intV a, intV b, intV c, intV d, intV e0, intV e1, intV e2, intV e3, intV e4, intV e5, intV e6, intV e7⟩
  | _ => Sn0
theorem snE_sn (e : En) (x : Int) : snE e x = SnK (snOf (snE e x)) := by
  obtain ⟨_, _, _, _, _, _, _, _, _, _, _, _, h⟩ := snE_cells e x
  rw [h]
  rfl
def stE (c : REC.Ch) (e : En) (x : Int) : En × Sn × Int := if e.n = c.f4 then (E00, Sn0, 11) else if smpOk c x then (nxE e x, snOf (snE e x), 0) else (E00, Sn0, 3)
theorem stE_ok (c : REC.Ch) : StOk (Eok c) (stE c) where
  rw := fun e h => ⟨[], _, by rw [h.h]; exact Rw.nils, h.m⟩
  go := fun e x h => by
    rw [F12_eq h]
    unfold ansE stE
    split
    · rfl
    split
    · rw [snE_sn]; rfl
    · rfl
  rw2 := fun e x h => by
    unfold stE
    by_cases hn : e.n = c.f4
    · rw [if_pos hn]; exact ⟨[], [], Rw.nils, Rw.nils⟩
    by_cases hx : smpOk c x
    · rw [if_neg hn, if_pos hx]
      have := nxE_ok h hn hx
      exact ⟨[], _, by rw [this.h]; exact Rw.nils, this.m⟩
    · rw [if_neg hn, if_neg hx]; exact ⟨[], [], Rw.nils, Rw.nils⟩
  nx := fun e x h => by
    unfold aft stE
    by_cases hn : e.n = c.f4
    · rw [if_pos hn, if_neg (by decide)]; exact h
    by_cases hx : smpOk c x
    · rw [if_neg hn, if_pos hx, if_pos rfl]
      exact nxE_ok h hn hx
    · rw [if_neg hn, if_neg hx, if_neg (by decide)]; exact h
abbrev chA : REC.Ch := ⟨[97], 1, 0, 0, 100, 2, 9, 0, 0, 0, 0, 0, 0, 0⟩
theorem chA_ok : REC.chOk chA := by decide
theorem isq_le {v s : Int} (hs : 0 ≤ s) (hv : 0 ≤ v) (h : v ≤ s * s) : isqI v ≤ s ∧ upI v ≤ s + 1 := by
  obtain ⟨h0, h1, h2⟩ := isqI_spec hv
  have h3 : isqI v ≤ s := by
    rcases Int.lt_or_le s (isqI v) with h4 | h4
    · exfalso
      have h5 : (s + 1) * (s + 1) ≤ isqI v * isqI v := Int.mul_le_mul (by omega) (by omega) (by omega) (by omega)
      have h6 : (s + 1) * (s + 1) = s * s + 2 * s + 1 := by rw [Int.add_mul, Int.mul_add]; omega
      omega
    · exact h4
  refine ⟨h3, ?_⟩
  unfold upI
  split <;> omega
theorem verP_eq (p : Pt) : verP p = if rnd (p.c * 1000 + radU p) p.d 1 < rnd ((p.c + p.v) * 1000) p.d 0 ∨ rnd ((p.c + p.v) * 1000) p.d 1 < rnd (p.c * 1000 - radU p) p.d 0 then 1
    else if rnd (p.c * 1000 + rad p) p.d 0 < rnd ((p.c + p.v) * 1000) p.d 1 ∨ rnd ((p.c + p.v) * 1000) p.d 0 < rnd (p.c * 1000 - rad p) p.d 1 then 2 else 0 := rfl
theorem rad_le {p : Pt} {s : Int} (hs : 0 ≤ s) (h0 : 0 ≤ val p.h p.l) (h : 9000000 * val p.h p.l ≤ s * s) : rad p ≤ s ∧ radU p ≤ s + 1 := isq_le hs (by omega) h
theorem verA : verP (ptB ⟨1, 2, 12, 2, 7⟩ 100) = 1 := by
  have hc : (ptB ⟨1, 2, 12, 2, 7⟩ 100).c = 135360 := by simp [ptB, byB, denB, sprB]
  have hd : (ptB ⟨1, 2, 12, 2, 7⟩ 100).d = 22560 := by simp [ptB, byB, denB, sprB]
  have hv : (ptB ⟨1, 2, 12, 2, 7⟩ 100).v = 2120640 := by simp [ptB, byB, denB, sprB]
  have hh : (ptB ⟨1, 2, 12, 2, 7⟩ 100).h = 0 := by simp [ptB, byB, denB, sprB]
  have hl : (ptB ⟨1, 2, 12, 2, 7⟩ 100).l = 1600000000 := by simp [ptB, byB, denB, sprB]
  generalize ptB ⟨1, 2, 12, 2, 7⟩ 100 = p at *
  have hr := (rad_le (p := p) (s := 120000000) (by decide) (by rw [hh, hl]; simp [val]) (by rw [hh, hl]; simp [val])).2
  rw [verP_eq, if_pos]
  left
  rw [hc, hd, hv]
  generalize radU p = R at hr
  unfold rnd
  rw [if_neg (by decide), if_pos rfl]
  omega
theorem outsA : ∃ s0 s1 s2 : Sn, outs (stE chA) (newE chA) [5, 7, 100] = [(s0, 0), (s1, 0), (s2, 0)] ∧ s1.k = 1 ∧ s2.k = 2 ∧ s2.v = 1 := by
  have h1 : stE chA (newE chA) 5 = ({ newE chA with n := 1, l := 5, b := ⟨1, 1, 5, 0, 5⟩ }, ⟨1, 0, 0, 0, 0, 0, 0, 0, 0, 0, 0, 0⟩, 0) := by kernel_rfl
  have h2 : stE chA { newE chA with n := 1, l := 5, b := ⟨1, 1, 5, 0, 5⟩ } 7 = ({ newE chA with n := 2, l := 7, b := ⟨1, 2, 12, 2, 7⟩ }, ⟨1, 0, 0, 0, 0, 0, 0, 0, 0, 0, 0, 0⟩, 0) := by kernel_rfl
  have h3 : stE chA { newE chA with n := 2, l := 7, b := ⟨1, 2, 12, 2, 7⟩ } 100 = (nxE { newE chA with n := 2, l := 7, b := ⟨1, 2, 12, 2, 7⟩ } 100, snOf (snE { newE chA with n := 2, l := 7, b := ⟨1, 2, 12, 2, 7⟩ } 100), 0) := by
    unfold stE
    rw [if_neg (by decide), if_pos (by decide)]
  have h4 : snOf (snE { newE chA with n := 2, l := 7, b := ⟨1, 2, 12, 2, 7⟩ } 100) = snOf (SK 2 (verP (ptB ⟨1, 2, 12, 2, 7⟩ (sumL [100]))) (wideB ⟨1, 2, 12, 2, 7⟩ (max (100 - 7) (7 - 100))) 0 (tell8 (natL (pushL [] (maskP (ptB ⟨1, 2, 12, 2, 7⟩ (sumL [100]))))))) := by
    unfold snE valS
    rw [if_pos (by decide), if_neg (by decide)]
    rfl
  rw [show sumL [100] = 100 from rfl, verA, SK_tell] at h4
  generalize { newE chA with n := 2, l := 7, b := ⟨1, 2, 12, 2, 7⟩ } = e2 at *
  generalize { newE chA with n := 1, l := 5, b := ⟨1, 1, 5, 0, 5⟩ } = e1 at *
  refine ⟨⟨1, 0, 0, 0, 0, 0, 0, 0, 0, 0, 0, 0⟩, ⟨1, 0, 0, 0, 0, 0, 0, 0, 0, 0, 0, 0⟩, snOf (snE e2 100), (by simp only [outs, aft, h1, h2, h3, if_true]), rfl, ?_⟩
  rw [h4]
  exact ⟨rfl, rfl⟩
noncomputable def C45 : Cfg := C44.add 10 F10
theorem ok45 : CfgOk Tryz.prog C45 := ok44.add sound10
noncomputable def F11 : List AVal → Option AVal := pureF C45 1 11
theorem sound11 : Sound Tryz.prog 11 F11 := sound_self ok45 1 11
theorem newA : newE chA = { E00 with c := chA, b := ⟨1, 0, 0, 0, 0⟩ } := rfl
theorem F11_eq : F11 [] = some (.bool true) := by
  have hE := newE_ok chA_ok (by decide)
  have e9 := F9_ok chA_ok (by decide)
  obtain ⟨s0, s1, s2, ho, hk1, hk2, hv2⟩ := outsA
  have e10 := F10_eq (stE_ok chA) hE (Rw.slc [5, 7, 100]) (by decide)
  obtain ⟨hl, ml, hh, hm⟩ := (stE_ok chA).rw _ (goE_ok (stE_ok chA) hE [5, 7, 100])
  have a1 := hh.sc
  have a2 := hm.sc
  rw [ho] at e10
  generalize goE (stE chA) (newE chA) [5, 7, 100] = e3 at *
  have er1 : (rowN 12 ([(s0, (0 : Int)), (s1, 0), (s2, 0)].map fun o => SnK o.1)) = .slc 12 [SnK s0, SnK s1, SnK s2] := rfl
  have er2 : (rowN 1 (i64s ([(s0, (0 : Int)), (s1, 0), (s2, 0)].map (·.2)))) = .slc 1 [.int .i64 0, .int .i64 0, .int .i64 0] := rfl
  have er3 : i64s [5, 7, 100] = [.int .i64 5, .int .i64 7, .int .i64 100] := rfl
  rw [er1, er2, er3] at e10
  rw [newA] at e9 e10
  clear hE ho
  have d1 : decide (s1.k = 1) = true := decide_eq_true hk1
  have d2 : decide (s2.k = 2) = true := decide_eq_true hk2
  have d3 : decide (s2.v = 1) = true := decide_eq_true hv2
  unfold F11
  refine pureF_of (x := x11) rfl rfl ?_
  rw [x11_eq.1, x11_eq.2.1]
  simp (disch := first | omega | simp only [*, go_sem, ↓reduceIte, dropK_eq]) only [x11b, go_sem, ↓reduceIte, dropK_eq, callX_known (C := C45) (g := 9) rfl, ft_call (C := C45) (g := 9) rfl, e9, callX_names (C := C45) (g := 10) rfl, ftC_names (C := C45) (g := 10) rfl, e10, a1, a2, d1, d2, d3]
  exact Ends_plain rfl rfl
set_option maxRecDepth 10000
def trn (k n : Int) : Int := (k.tmod n + n).tmod n
theorem trn_rng (k : Int) {n : Int} (hn : 0 < n) : (-n < k.tmod n ∧ k.tmod n < n) ∧ 0 ≤ trn k n ∧ trn k n < n := by
  have h1 := Int.lt_tmod_of_pos k hn
  have h2 := Int.tmod_lt_of_pos k hn
  have h3 : 0 ≤ k.tmod n + n := by omega
  exact ⟨⟨h1, h2⟩, Int.tmod_nonneg n h3, Int.tmod_lt_of_pos _ hn⟩
def someC (chart size m : Int) : REC.Ch :=
  if trn chart 5 = 0 then ⟨[97], 1, 0, -1000000, 1000000, 2 + trn m 24, 1000, 0, 0, 0, 0, 0, 0, 0⟩
  else if trn chart 5 = 3 then ⟨[97], 4, 0, 0, 0, 2 + trn m 24, 1000, 0, 0, 0, 0, 0, 0, 0⟩
  else ⟨[97], 1 + trn chart 5, 1 + trn size 1000, 0, 0, 2 + trn m 24, 1000, 0, 0, 0, 0, 0, 0, 0⟩
noncomputable def F8 : List AVal → Option AVal := pureF C45 1 8
theorem sound8 : Sound Tryz.prog 8 F8 := sound_self ok45 1 8
theorem F8_eq {chart size m : Int} : F8 [.int .i64 chart, .int .i64 size, .int .i64 m] = some (.agg (ChC (someC chart size m))) := by
  obtain ⟨⟨a1, a2⟩, a3, a4⟩ := trn_rng chart (n := 5) (by decide)
  obtain ⟨⟨b1, b2⟩, b3, b4⟩ := trn_rng size (n := 1000) (by decide)
  obtain ⟨⟨c1, c2⟩, c3, c4⟩ := trn_rng m (n := 24) (by decide)
  unfold someC
  unfold trn at *
  unfold F8
  refine pureF_of (x := x8) rfl rfl ?_
  rw [x8_eq.1, x8_eq.2.1]
  generalize hA : (chart.tmod 5 + 5).tmod 5 = A at *
  generalize hB : (size.tmod 1000 + 1000).tmod 1000 = B at *
  generalize hM : (m.tmod 24 + 24).tmod 24 = M at *
  by_cases h1 : A = 0
  · have d1 : decide (1 + A = 1) = true := decide_eq_true (by omega)
    rw [if_pos h1]
    simp (disch := first | omega | simp only [*, go_sem, ↓reduceIte, dropK_eq]) only [x8b, go_sem, ↓reduceIte, dropK_eq, hA, hB, hM, d1]
    exact Ends_plain rfl (by rw [h1]; rfl)
  have d1 : decide (1 + A = 1) = false := decide_eq_false (by omega)
  rw [if_neg h1]
  by_cases h2 : A = 3
  · have d2 : decide (1 + A = 4) = true := decide_eq_true (by omega)
    rw [if_pos h2]
    simp (disch := first | omega | simp only [*, go_sem, ↓reduceIte, dropK_eq]) only [x8b, go_sem, ↓reduceIte, dropK_eq, hA, hB, hM, d1, d2]
    exact Ends_plain rfl (by rw [h2]; rfl)
  have d2 : decide (1 + A = 4) = false := decide_eq_false (by omega)
  rw [if_neg h2]
  simp (disch := first | omega | simp only [*, go_sem, ↓reduceIte, dropK_eq]) only [x8b, go_sem, ↓reduceIte, dropK_eq, hA, hB, hM, d1, d2]
  exact Ends_plain rfl rfl
theorem chOk_of {t f0 f1 f2 f3 f4 : Int} (ht : t = 1 ∧ f0 = 0 ∧ -1000000 ≤ f1 ∧ f1 < f2 ∧ f2 ≤ 1000000 ∨ (t = 2 ∨ t = 3 ∨ t = 5) ∧ (1 ≤ f0 ∧ f0 ≤ 1000) ∧ f1 = 0 ∧ f2 = 0 ∨ t = 4 ∧ f0 = 0 ∧ f1 = 0 ∧ f2 = 0) (h3 : 2 ≤ f3 ∧ f3 ≤ 25) (h4 : 1 ≤ f4 ∧ f4 ≤ 1000000000) :
    REC.chOk ⟨[97], t, f0, f1, f2, f3, f4, 0, 0, 0, 0, 0, 0, 0⟩ := by
  have hw : REC.T.wordOk [97] := by decide
  rcases ht with ⟨rfl, h⟩ | ⟨rfl | rfl | rfl, h⟩ | ⟨rfl, h⟩
  all_goals
    refine ⟨hw, by dsimp only; decide, fun k hk => ?_, ?_, .inl ⟨rfl, rfl⟩⟩
    · rcases (show k = 0 ∨ k = 1 ∨ k = 2 ∨ k = 3 ∨ k = 4 ∨ k = 5 ∨ k = 6 ∨ k = 7 ∨ k = 8 ∨ k = 9 ∨ k = 10 ∨ k = 11 by omega) with rfl | rfl | rfl | rfl | rfl | rfl | rfl | rfl | rfl | rfl | rfl | rfl
      all_goals
        simp [REC.needB, REC.inF, REC.fd, REC.fdL, REC.mayB, REC.vl, REC.Ch.fs]
        try omega
    · simp [REC.needB, REC.fd, REC.fdL]
      try omega
theorem someC_ok (chart size m : Int) : REC.chOk (someC chart size m) ∧ (1 ≤ (someC chart size m).t ∧ (someC chart size m).t ≤ 5) := by
  obtain ⟨_, a3, a4⟩ := trn_rng chart (n := 5) (by decide)
  obtain ⟨_, b3, b4⟩ := trn_rng size (n := 1000) (by decide)
  obtain ⟨_, c3, c4⟩ := trn_rng m (n := 24) (by decide)
  unfold someC
  by_cases h1 : trn chart 5 = 0
  · rw [if_pos h1]
    exact ⟨chOk_of (.inl ⟨rfl, rfl, by decide⟩) (by omega) (by decide), by dsimp only; decide⟩
  rw [if_neg h1]
  by_cases h2 : trn chart 5 = 3
  · rw [if_pos h2]
    exact ⟨chOk_of (.inr (.inr ⟨rfl, rfl, rfl, rfl⟩)) (by omega) (by decide), by dsimp only; decide⟩
  rw [if_neg h2]
  exact ⟨chOk_of (.inr (.inl ⟨by omega, by omega, rfl, rfl⟩)) (by omega) (by decide), by show 1 ≤ 1 + trn chart 5 ∧ 1 + trn chart 5 ≤ 5; omega⟩
noncomputable def C46 : Cfg := (C45.add 8 F8).add 11 F11
theorem ok46 : CfgOk Tryz.prog C46 := (ok45.add sound8).add sound11
set_option maxRecDepth 10000
noncomputable def F14 : List AVal → Option AVal := pureF C46 1 14
theorem sound14 : Sound Tryz.prog 14 F14 := sound_self ok46 1 14
noncomputable def C47 : Cfg := C46.add 14 F14
theorem ok47 : CfgOk Tryz.prog C47 := ok46.add sound14
noncomputable def F37 : List AVal → Option AVal := pureF C47 1 37
theorem sound37 : Sound Tryz.prog 37 F37 := sound_self ok47 1 37
noncomputable def C48 : Cfg := C47.add 37 F37
theorem ok48 : CfgOk Tryz.prog C48 := ok47.add sound37
noncomputable def F13 : List AVal → Option AVal := pureF C48 1 13
theorem sound13 : Sound Tryz.prog 13 F13 := sound_self ok48 1 13
set_option maxRecDepth 10000
noncomputable def C49 : Cfg := C48.add 13 F13
theorem ok49 : CfgOk Tryz.prog C49 := ok48.add sound13
end Go.Proofs.YtldineoabbodpaaGreatDoor
namespace Go.Proofs.YtldineoabbodpaaGreatDoor
open Go Go.Xec
set_option maxRecDepth 10000
inductive Bt : List Nat → List Nat → Prop where
  | nil : Bt [] []
  | cons {m k : Nat} {l ks : List Nat} (hm : Mk m) (hk : k < 9) (hb : m.testBit k = true) (t : Bt l ks) : Bt (m :: l) (k :: ks)
abbrev sing (ks : List Nat) : List Nat := ks.map (2 ^ ·)
theorem Bt.len {l ks : List Nat} (h : Bt l ks) : l.length = ks.length := by
  induction h with
  | nil => rfl
  | cons _ _ _ _ ih => simp [ih]
theorem Bt.drop {l ks : List Nat} (h : Bt l ks) (n : Nat) : Bt (l.drop n) (ks.drop n) := by
  induction h generalizing n with
  | nil => simp; exact .nil
  | cons h1 h2 h3 t ih =>
    cases n with
    | zero => exact .cons h1 h2 h3 t
    | succ n => exact ih n
theorem Bt.lastN {l ks : List Nat} (h : Bt l ks) (n : Nat) : Bt (lastN l n) (lastN ks n) := by
  unfold Go.Proofs.YtldineoabbodpaaGreatDoor.lastN
  rw [h.len]
  split
  · exact .nil
  · exact h.drop _
theorem lastN_sing (ks : List Nat) (n : Nat) : lastN (sing ks) n = sing (lastN ks n) := by
  unfold lastN sing
  rw [List.length_map]
  split
  · rfl
  · rw [List.map_drop]
def Rx (x y : Int) : Prop := (0 ≤ x ∧ x ≤ 2) ∧ (0 ≤ y ∧ y ≤ 2) ∧ (x = 2 → y = 2) ∧ (y = 2 → x ≠ 0)
theorem Rx.max {a b c d : Int} (h1 : Rx a b) (h2 : Rx c d) : Rx (maxI a c) (maxI b d) := by
  unfold Rx maxI at *
  split <;> split <;> omega
theorem Rx.sure {e s e' s' : Bool} (h1 : e = true → e' = true) (h2 : e' = true → s = true ∨ e = true) : Rx (sureI e s) (sureI e' s') := by
  unfold Rx sureI
  cases e <;> cases s <;> cases e' <;> cases s' <;> simp_all
theorem ne0_of_bit {m i : Nat} (h : m.testBit i = true) : m ≠ 0 := by
  rintro rfl
  simp at h
theorem subT_iff {w m : Nat} : subT w m = true ↔ adn m w = 0 := by
  unfold subT
  rw [decide_eq_true_eq]
  omega
theorem metT_iff {w m : Nat} : metT w m = true ↔ m &&& w ≠ 0 := by
  unfold metT
  rw [decide_eq_true_eq]
  omega
theorem subT_one {w k : Nat} : subT w (2 ^ k) = true ↔ w.testBit k = true := by
  rw [subT_iff]
  constructor
  · intro h
    have := adn_bit (a := 2 ^ k) (b := w) k
    rw [h, Nat.zero_testBit, Nat.testBit_two_pow_self] at this
    simpa using this.symm
  · intro h
    refine Nat.eq_of_testBit_eq fun i => ?_
    rw [adn_bit, Nat.zero_testBit]
    by_cases hi : k = i
    · subst hi; rw [h]; simp
    · rw [Nat.testBit_two_pow_of_ne hi]; rfl
theorem subT_bit {w m k : Nat} (hb : m.testBit k = true) (h : subT w m = true) : w.testBit k = true := by
  rw [subT_iff] at h
  have := adn_bit (a := m) (b := w) k
  rw [h, Nat.zero_testBit, hb] at this
  simpa using this.symm
theorem metT_bit {w m k : Nat} (hb : m.testBit k = true) (h : w.testBit k = true) : metT w m = true := by
  rw [metT_iff]
  refine ne0_of_bit (i := k) ?_
  rw [Nat.testBit_and, hb, h]
  rfl
theorem each_rx {l ks : List Nat} (h : Bt l ks) (w : Nat) : Rx (eachI w l) (eachI w (sing ks)) := by
  have e1 : l.all (subT w) = true → (sing ks).all (subT w) = true := by
    induction h with
    | nil => exact id
    | cons h1 h2 h3 t ih =>
      intro h
      simp only [sing, List.map_cons, List.all_cons, Bool.and_eq_true] at h ih ⊢
      exact ⟨subT_one.2 (subT_bit h3 h.1), ih h.2⟩
  have e2 : (sing ks).all (subT w) = true → l.all (metT w) = true := by
    induction h with
    | nil => exact id
    | cons h1 h2 h3 t ih =>
      intro h
      simp only [sing, List.map_cons, List.all_cons, Bool.and_eq_true] at h ih ⊢
      refine ⟨metT_bit h3 (subT_one.1 h.1), ih (fun h' => ?_) h.2⟩
      exact h.2
  unfold eachI eachE eachS
  have hl : (sing ks).length = l.length := by rw [List.length_map, h.len]
  rw [hl]
  refine Rx.sure (fun h => ?_) fun h => .inl ?_
  · rw [Bool.and_eq_true] at h ⊢
    exact ⟨h.1, e1 h.2⟩
  · rw [Bool.and_eq_true] at h ⊢
    exact ⟨h.1, e2 h.2⟩
theorem one_lo : ∀ k < 9, loB (2 ^ k) = k ∧ hiB (2 ^ k) = k := by decide +kernel
theorem above_bit : ∀ a < 9, ∀ b < 9, a < b → (aboveN (a + 1)).testBit b = true := by decide +kernel
theorem Bt.get {l ks : List Nat} (h : Bt l ks) {i : Nat} (hi : i < l.length) : Mk (l.getD i 0) ∧ ks.getD i 0 < 9 ∧ (l.getD i 0).testBit (ks.getD i 0) = true := by
  induction h generalizing i with
  | nil => simp at hi
  | cons h1 h2 h3 t ih =>
    cases i with
    | zero => exact ⟨h1, h2, h3⟩
    | succ i => exact ih (by simpa using hi)
theorem sing_get (ks : List Nat) {i : Nat} (hi : i < ks.length) : (sing ks).getD i 0 = 2 ^ ks.getD i 0 := by
  simp [sing, List.getD_eq_getElem?_getD, hi]
theorem above_lt {a b c : Nat} (hc : c < 9) (hb : b < 9) (h1 : a ≤ c) (h2 : c < b) : (aboveN (a + 1)).testBit b = true := above_bit a (by omega) b hb (by omega)
theorem stp_rx {up : Nat → Bool} {l ks : List Nat} (h : Bt l ks) (i : Nat) (hi : i ≤ l.length) :
    ((stp up l i).2.1 = true → (stp up (sing ks) i).2.1 = true) ∧ ((stp up (sing ks) i).2.1 = true → (stp up l i).2.2 = true ∧ (0 < i → (stp up l i).1.testBit (ks.getD (i - 1) 0) = true ∧ (stp up l i).1 ≤ 511)) := by
  have hl : (sing ks).length = l.length := by rw [List.length_map, h.len]
  induction i with
  | zero =>
    simp only [stp, hl]
    exact ⟨id, fun h => ⟨h, fun h0 => absurd h0 (by omega)⟩⟩
  | succ i ih =>
    obtain ⟨ih1, ih2⟩ := ih (by omega)
    obtain ⟨m1, m2, m3⟩ := h.get (i := i) (by omega)
    by_cases h0 : i = 0
    · subst h0
      simp only [stp, if_true, hl]
      exact ⟨id, fun h => ⟨h, fun _ => ⟨m3, m1.2⟩⟩⟩
    obtain ⟨p1, p2, p3⟩ := h.get (i := i - 1) (by omega)
    have g1 := sing_get ks (i := i) (by rw [← h.len]; omega)
    have g2 := sing_get ks (i := i - 1) (by rw [← h.len]; omega)
    simp only [stp, if_neg h0, g1, g2, Nat.add_sub_cancel]
    generalize l.getD i 0 = x at *
    generalize l.getD (i - 1) 0 = y at *
    generalize ks.getD i 0 = b at *
    generalize ks.getD (i - 1) 0 = a at *
    obtain ⟨o1, o2⟩ := one_lo b m2
    obtain ⟨o3, o4⟩ := one_lo a p2
    obtain ⟨x1, x2, x3⟩ := loB_spec m1
    obtain ⟨x4, x5, x6⟩ := hiB_spec m1
    obtain ⟨y1, y2, y3⟩ := loB_spec p1
    obtain ⟨y4, y5, y6⟩ := hiB_spec p1
    have b1 := x3 b m3
    have b2 := x6 b m3
    have b3 := y3 a p3
    have b4 := y6 a p3
    constructor
    · intro hh
      rw [Bool.and_eq_true] at hh ⊢
      refine ⟨ih1 hh.1, ?_⟩
      have hh2 := hh.2
      revert hh2
      unfold stpS
      by_cases hu : up i = true
      · rw [if_pos hu, if_pos hu]
        simp only [decide_eq_true_eq, o1, o2, o3, o4]
        omega
      · rw [if_neg hu, if_neg hu]
        simp only [decide_eq_true_eq, o1, o2, o3, o4]
        omega
    · intro hh
      rw [Bool.and_eq_true] at hh
      obtain ⟨q1, q2⟩ := ih2 hh.1
      obtain ⟨q3, q4⟩ := q2 (by omega)
      have hh2 := hh.2
      generalize stp up l i = S at *
      have hr0 : S.1 ≠ 0 := ne0_of_bit q3
      have hmx : max S.1 1 = S.1 := by omega
      have hMk : Mk S.1 := ⟨by omega, q4⟩
      obtain ⟨r1, r2, r3⟩ := loB_spec hMk
      obtain ⟨r4, r5, r6⟩ := hiB_spec hMk
      have c1 := r3 a q3
      have c2 := r6 a q3
      have hbit : (stpS (up i) y x S.1).1.testBit b = true ∧ (stpS (up i) y x S.1).1 ≤ 511 := by
        revert hh2
        unfold stpS
        by_cases hu : up i = true
        · rw [if_pos hu, if_pos hu]
          simp only [decide_eq_true_eq, o1, o2, o3, o4, hmx]
          intro hab
          refine ⟨?_, Nat.le_trans Nat.and_le_left m1.2⟩
          rw [Nat.testBit_and, m3, above_lt p2 m2 c1 (by omega)]
          rfl
        · rw [if_neg hu, if_neg hu]
          simp only [decide_eq_true_eq, o1, o2, o3, o4, hmx]
          intro hab
          refine ⟨?_, Nat.le_trans Nat.and_le_left m1.2⟩
          rw [Nat.testBit_and, m3, Nat.testBit_two_pow_sub_one, decide_eq_true (by omega)]
          rfl
      have hne := ne0_of_bit hbit.1
      refine ⟨?_, fun _ => hbit⟩
      rw [Bool.and_eq_true, decide_eq_true_eq]
      exact ⟨q1, by omega⟩
theorem stpI_rx (up : Nat → Bool) {l ks : List Nat} (h : Bt l ks) : Rx (stpI up l) (stpI up (sing ks)) := by
  have hl : (sing ks).length = l.length := by rw [List.length_map, h.len]
  obtain ⟨h1, h2⟩ := stp_rx (up := up) h l.length (Nat.le_refl _)
  unfold stpI
  rw [hl]
  exact Rx.sure h1 fun hh => .inl (h2 hh).1
def cntB (A : Nat) (ks : List Nat) : Int := ((ks.filter fun k => A.testBit k).length : Nat)
def holdB (need h l : Int) : Bool := decide (need ≤ h) || decide (need ≤ l)
theorem chs_down (need : Int) (A B : Nat) (l : List Nat) (h lo : Int) (s : Bool × Bool) : ((chs need A B l h lo s).1 = true → s.1 = true) ∧ (s.2 = true → (chs need A B l h lo s).2 = true) := by
  induction l generalizing h lo s with
  | nil =>
    simp only [chs]
    exact ⟨fun h => by simp only [Bool.and_eq_true] at h; exact h.1, fun h => by rw [h]; rfl⟩
  | cons m ms ih =>
    simp only [chs]
    have a1 : ∀ (b : Prop) [Decidable b] (h lo : Int) (s : Bool × Bool), ((if b then chs need A B ms h lo s else s).1 = true → s.1 = true) ∧ (s.2 = true → (if b then chs need A B ms h lo s else s).2 = true) := by
      intro b _ h lo s
      split
      · exact ih h lo s
      · exact ⟨id, id⟩
    exact ⟨fun q => (a1 _ _ _ _).1 ((a1 _ _ _ _).1 ((a1 _ _ _ _).1 q)), fun q => (a1 _ _ _ _).2 ((a1 _ _ _ _).2 ((a1 _ _ _ _).2 q))⟩
theorem and_bit {m A k : Nat} (h1 : m.testBit k = true) (h2 : A.testBit k = true) : decide (¬ ((m &&& A : Nat) : Int) = 0) = true := by
  have := ne0_of_bit (m := m &&& A) (i := k) (by rw [Nat.testBit_and, h1, h2]; rfl)
  exact decide_eq_true (by omega)
theorem adn_bit1 {m A B k : Nat} (h1 : m.testBit k = true) (h2 : A.testBit k = false) (h3 : B.testBit k = false) : decide (¬ ((adn m (A ||| B) : Nat) : Int) = 0) = true := by
  have := ne0_of_bit (m := adn m (A ||| B)) (i := k) (by rw [adn_bit, Nat.testBit_or, h1, h2, h3]; rfl)
  exact decide_eq_true (by omega)
theorem and_one {A k : Nat} (h2 : A.testBit k = false) : decide (¬ ((2 ^ k &&& A : Nat) : Int) = 0) = false := by
  have : 2 ^ k &&& A = 0 := by
    refine Nat.eq_of_testBit_eq fun i => ?_
    rw [Nat.testBit_and, Nat.zero_testBit]
    by_cases hi : k = i
    · subst hi; rw [h2]; simp
    · rw [Nat.testBit_two_pow_of_ne hi]; rfl
  rw [this]
  rfl
theorem adn_one {A B k : Nat} (h : (A ||| B).testBit k = true) : decide (¬ ((adn (2 ^ k) (A ||| B) : Nat) : Int) = 0) = false := by
  have := subT_iff.1 (subT_one.2 h)
  rw [this]
  rfl
theorem chs_path {need : Int} {A B : Nat} (hAB : ∀ k < 9, A.testBit k = true → B.testBit k = false) {l ks : List Nat} (ht : Bt l ks) (h lo : Int) (s : Bool × Bool) :
    ((chs need A B l h lo s).1 = true → s.1 = true ∧ holdB need (h + cntB A ks) (lo + cntB B ks) = true) ∧ (holdB need (h + cntB A ks) (lo + cntB B ks) = true → (chs need A B l h lo s).2 = true) := by
  induction ht generalizing h lo s with
  | nil =>
    simp only [chs, cntB, List.filter_nil, List.length_nil]
    unfold holdB
    rw [show ((0 : Nat) : Int) = 0 from rfl, Int.add_zero, Int.add_zero]
    exact ⟨fun q => by rw [Bool.and_eq_true] at q; exact q, fun q => by rw [q]; simp⟩
  | @cons m k l ks h1 h2 h3 t ih =>
    have a1 : ∀ (b : Prop) [Decidable b] (h lo : Int) (s : Bool × Bool), ((if b then chs need A B l h lo s else s).1 = true → s.1 = true) ∧ (s.2 = true → (if b then chs need A B l h lo s else s).2 = true) := by
      intro b _ h lo s
      split
      · exact chs_down _ _ _ _ _ _ _
      · exact ⟨id, id⟩
    simp only [chs]
    by_cases hA : A.testBit k = true
    · have hB := hAB k h2 hA
      have eA : cntB A (k :: ks) = 1 + cntB A ks := by unfold cntB; rw [List.filter_cons_of_pos (by simpa using hA), List.length_cons]; omega
      have eB : cntB B (k :: ks) = cntB B ks := by unfold cntB; rw [List.filter_cons_of_neg (by simp [hB])]
      rw [eA, eB, ← Int.add_assoc, if_pos (and_bit h3 hA)]
      obtain ⟨i1, i2⟩ := ih (h + 1) lo s
      exact ⟨fun q => i1 ((a1 _ _ _ _).1 ((a1 _ _ _ _).1 q)), fun q => (a1 _ _ _ _).2 ((a1 _ _ _ _).2 (i2 q))⟩
    have hA' : A.testBit k = false := by simpa using hA
    have eA : cntB A (k :: ks) = cntB A ks := by unfold cntB; rw [List.filter_cons_of_neg (by simp [hA'])]
    by_cases hB : B.testBit k = true
    · have eB : cntB B (k :: ks) = 1 + cntB B ks := by unfold cntB; rw [List.filter_cons_of_pos (by simpa using hB), List.length_cons]; omega
      rw [eA, eB, ← Int.add_assoc, if_pos (and_bit (A := B) h3 hB)]
      generalize hs1 : (if decide (¬ ((m &&& A : Nat) : Int) = 0) = true then chs need A B l (h + 1) lo s else s) = s1
      have hd := a1 (decide (¬ ((m &&& A : Nat) : Int) = 0) = true) (h + 1) lo s
      rw [hs1] at hd
      obtain ⟨i1, i2⟩ := ih h (lo + 1) s1
      exact ⟨fun q => ⟨hd.1 (i1 ((a1 _ _ _ _).1 q)).1, (i1 ((a1 _ _ _ _).1 q)).2⟩, fun q => (a1 _ _ _ _).2 (i2 q)⟩
    have hB' : B.testBit k = false := by simpa using hB
    have eB : cntB B (k :: ks) = cntB B ks := by unfold cntB; rw [List.filter_cons_of_neg (by simp [hB'])]
    rw [eA, eB, if_pos (adn_bit1 h3 hA' hB')]
    generalize hs2 : (if decide (¬ ((m &&& B : Nat) : Int) = 0) = true then chs need A B l h (lo + 1) (if decide (¬ ((m &&& A : Nat) : Int) = 0) = true then chs need A B l (h + 1) lo s else s) else (if decide (¬ ((m &&& A : Nat) : Int) = 0) = true then chs need A B l (h + 1) lo s else s)) = s2
    have hd1 := a1 (decide (¬ ((m &&& A : Nat) : Int) = 0) = true) (h + 1) lo s
    have hd := a1 (decide (¬ ((m &&& B : Nat) : Int) = 0) = true) h (lo + 1) (if decide (¬ ((m &&& A : Nat) : Int) = 0) = true then chs need A B l (h + 1) lo s else s)
    rw [hs2] at hd
    obtain ⟨i1, i2⟩ := ih h lo s2
    exact ⟨fun q => ⟨hd1.1 (hd.1 (i1 q).1), (i1 q).2⟩, i2⟩
theorem chs_one {need : Int} {A B : Nat} (hAB : ∀ k < 9, A.testBit k = true → B.testBit k = false) {ks : List Nat} (hk : ∀ k ∈ ks, k < 9) (h lo : Int) (s : Bool × Bool) :
    chs need A B (sing ks) h lo s = (s.1 && holdB need (h + cntB A ks) (lo + cntB B ks), s.2 || holdB need (h + cntB A ks) (lo + cntB B ks)) := by
  induction ks generalizing h lo s with
  | nil =>
    simp only [sing, List.map_nil, chs, cntB, List.filter_nil, List.length_nil]
    unfold holdB
    rw [show ((0 : Nat) : Int) = 0 from rfl, Int.add_zero, Int.add_zero]
  | cons k ks ih =>
    have h2 : k < 9 := hk k (by simp)
    have ih' := fun h lo s => ih (fun k' hk' => hk k' (by simp [hk'])) h lo s
    have h3 : (2 ^ k).testBit k = true := Nat.testBit_two_pow_self
    simp only [sing, List.map_cons, chs]
    by_cases hA : A.testBit k = true
    · have hB := hAB k h2 hA
      have eA : cntB A (k :: ks) = 1 + cntB A ks := by unfold cntB; rw [List.filter_cons_of_pos (by simpa using hA), List.length_cons]; omega
      have eB : cntB B (k :: ks) = cntB B ks := by unfold cntB; rw [List.filter_cons_of_neg (by simp [hB])]
      rw [eA, eB, ← Int.add_assoc, if_pos (and_bit h3 hA), and_one hB, adn_one (A := A) (B := B) (by rw [Nat.testBit_or, hA]; rfl)]
      simp only [Bool.false_eq_true, if_false]
      exact ih' _ _ _
    have hA' : A.testBit k = false := by simpa using hA
    have eA : cntB A (k :: ks) = cntB A ks := by unfold cntB; rw [List.filter_cons_of_neg (by simp [hA'])]
    by_cases hB : B.testBit k = true
    · have eB : cntB B (k :: ks) = 1 + cntB B ks := by unfold cntB; rw [List.filter_cons_of_pos (by simpa using hB), List.length_cons]; omega
      rw [eA, eB, ← Int.add_assoc, and_one hA', if_pos (and_bit (A := B) h3 hB), adn_one (A := A) (B := B) (by rw [Nat.testBit_or, hB]; simp)]
      simp only [Bool.false_eq_true, if_false]
      exact ih' _ _ _
    have hB' : B.testBit k = false := by simpa using hB
    have eB : cntB B (k :: ks) = cntB B ks := by unfold cntB; rw [List.filter_cons_of_neg (by simp [hB'])]
    rw [eA, eB, and_one hA', and_one hB', if_pos (adn_bit1 h3 hA' hB')]
    simp only [Bool.false_eq_true, if_false]
    exact ih' _ _ _
theorem Bt.lt {l ks : List Nat} (h : Bt l ks) : ∀ k ∈ ks, k < 9 := by
  induction h with
  | nil => simp
  | cons h1 h2 h3 t ih => intro k hk; rcases List.mem_cons.1 hk with rfl | hk; exact h2; exact ih k hk
theorem cnt_rx {need : Int} {A B : Nat} (hAB : ∀ k < 9, A.testBit k = true → B.testBit k = false) {l ks : List Nat} (ht : Bt l ks) : Rx (cntI need A B l) (cntI need A B (sing ks)) := by
  have hl : (sing ks).length = l.length := by rw [List.length_map, ht.len]
  obtain ⟨h1, h2⟩ := chs_path hAB ht (need := need) 0 0 (true, false)
  have h3 := chs_one hAB ht.lt (need := need) 0 0 (true, false)
  unfold cntI
  rw [hl, h3]
  by_cases h0 : 0 < l.length
  · rw [if_pos h0, if_pos h0, if_pos h0, if_pos h0]
    refine Rx.sure (fun h => ?_) fun h => .inl ?_
    · exact (h1 h).2
    · exact h2 (by simpa using h)
  · rw [if_neg h0, if_neg h0, if_neg h0, if_neg h0]
    simp [Rx, sureI]
theorem rule_rx {l ks : List Nat} (h : Bt l ks) (i : Nat) : Rx (ruleI l i) (ruleI (sing ks) i) := by
  match i with
  | 0 => simp only [ruleI, lastN_sing]; exact each_rx (h.lastN 1) _
  | 1 => simp only [ruleI, lastN_sing]; exact (each_rx (h.lastN 9) _).max (each_rx (h.lastN 9) _)
  | 2 => simp only [ruleI, lastN_sing]; exact (stpI_rx _ (h.lastN 6)).max (stpI_rx _ (h.lastN 6))
  | 3 => simp only [ruleI, lastN_sing]; exact (stpI_rx _ (h.lastN 14)).max (stpI_rx _ (h.lastN 14))
  | 4 => simp only [ruleI, lastN_sing]; exact cnt_rx (by decide) (h.lastN 3)
  | 5 => simp only [ruleI, lastN_sing]; exact cnt_rx (by decide) (h.lastN 5)
  | 6 => simp only [ruleI, lastN_sing]; exact each_rx (h.lastN 15) _
  | _ + 7 => simp only [ruleI, lastN_sing]; exact each_rx (h.lastN 8) _
set_option maxRecDepth 10000
theorem cls_four {dv V : Int} (hV : 0 ≤ V) : (clsI dv V = 4 ∨ clsI dv V = -4) ↔ 9 * V < dv * dv := by
  unfold clsI b01
  by_cases h9 : 9 * V < dv * dv
  · have h1 : V < dv * dv := by omega
    have h4 : 4 * V < dv * dv := by omega
    have h0 : dv ≠ 0 := by rintro rfl; simp at h9; omega
    simp only [h9, h1, h4, decide_true, h0, if_false, if_true, iff_true]
    split <;> simp
  · simp only [h9, decide_false, iff_false]
    split
    · omega
    split <;> split <;> split <;> simp
theorem rnd0 {n d : Int} (hd : 0 < d) : rnd n d 0 * d ≤ n := by
  unfold rnd
  rw [if_pos rfl]
  exact Int.ediv_mul_le n (by omega)
theorem rnd1 {n d : Int} (hd : 0 < d) : n ≤ rnd n d 1 * d := by
  unfold rnd
  rw [if_neg (by decide)]
  have := Int.ediv_mul_le (-n) (show d ≠ 0 by omega)
  rw [Int.neg_mul]
  omega
theorem sq_lt {a b : Int} (ha : 0 ≤ a) (h : a < b) : a * a < b * b := by
  have h1 : a * a ≤ a * b := Int.mul_le_mul_of_nonneg_left (by omega) ha
  have h2 : a * b < b * b := Int.mul_lt_mul_of_pos_right h (by omega)
  omega
theorem sq_le {a b : Int} (ha : 0 ≤ a) (h : a ≤ b) : a * a ≤ b * b := Int.mul_le_mul h h ha (by omega)
theorem k_sq (v : Int) : (1000 * v) * (1000 * v) = 1000000 * (v * v) := by
  rw [Int.mul_assoc, ← Int.mul_assoc v 1000 v, Int.mul_comm v 1000, Int.mul_assoc 1000 v v, ← Int.mul_assoc, show (1000 : Int) * 1000 = 1000000 from rfl]
theorem ver_out {p : Pt} (hp : ptOk p) (hV : 0 ≤ val p.h p.l) (h : verP p = 1) : 9 * val p.h p.l < p.v * p.v := by
  have hd : 0 < p.d := by have := hp.1; omega
  have hu := (upI_spec (v := 9000000 * val p.h p.l) (by omega))
  have hi := isqI_spec (v := 9000000 * val p.h p.l) (by omega)
  have hR : 0 ≤ radU p ∧ 9000000 * val p.h p.l ≤ radU p * radU p := ⟨by unfold radU; omega, hu.2⟩
  rw [verP_eq] at h
  have key : radU p < 1000 * p.v ∨ radU p < -(1000 * p.v) := by
    split at h
    · rename_i hc
      rcases hc with hc | hc
      · have a1 := rnd1 (n := p.c * 1000 + radU p) hd
        have a2 := rnd0 (n := (p.c + p.v) * 1000) hd
        have a3 := Int.mul_lt_mul_of_pos_right hc hd
        left
        omega
      · have a1 := rnd1 (n := (p.c + p.v) * 1000) hd
        have a2 := rnd0 (n := p.c * 1000 - radU p) hd
        have a3 := Int.mul_lt_mul_of_pos_right hc hd
        right
        omega
    · split at h <;> omega
  have hs : radU p * radU p < 1000000 * (p.v * p.v) := by
    rw [← k_sq]
    rcases key with k | k
    · exact sq_lt hR.1 k
    · have := sq_lt hR.1 k
      rwa [Int.neg_mul_neg] at this
  omega
theorem ver_in {p : Pt} (hp : ptOk p) (hV : 0 ≤ val p.h p.l) (h : verP p = 0) : ¬ 9 * val p.h p.l < p.v * p.v := by
  have hd : 0 < p.d := by have := hp.1; omega
  have hi := isqI_spec (v := 9000000 * val p.h p.l) (by omega)
  have hr : 0 ≤ rad p ∧ rad p * rad p ≤ 9000000 * val p.h p.l := ⟨hi.1, hi.2.1⟩
  rw [verP_eq] at h
  have key : 1000 * p.v ≤ rad p ∧ -(1000 * p.v) ≤ rad p := by
    split at h
    · omega
    split at h
    · omega
    rename_i hc
    have c1 : rnd ((p.c + p.v) * 1000) p.d 1 ≤ rnd (p.c * 1000 + rad p) p.d 0 := by omega
    have c2 : rnd (p.c * 1000 - rad p) p.d 1 ≤ rnd ((p.c + p.v) * 1000) p.d 0 := by omega
    have a1 := rnd1 (n := (p.c + p.v) * 1000) hd
    have a2 := rnd0 (n := p.c * 1000 + rad p) hd
    have a3 := Int.mul_le_mul_of_nonneg_right c1 (Int.le_of_lt hd)
    have b1 := rnd1 (n := p.c * 1000 - rad p) hd
    have b2 := rnd0 (n := (p.c + p.v) * 1000) hd
    have b3 := Int.mul_le_mul_of_nonneg_right c2 (Int.le_of_lt hd)
    omega
  have hs : 1000000 * (p.v * p.v) ≤ rad p * rad p := by
    rw [← k_sq]
    rcases Int.le_total 0 p.v with hv | hv
    · exact sq_le (by omega) key.1
    · have := sq_le (a := -(1000 * p.v)) (by omega) key.2
      rwa [Int.neg_mul_neg] at this
  omega
theorem mask_tab : ∀ a < 9, ∀ b < 9, ∀ k < 9, a ≤ k → k ≤ b → ((2 ^ (b - a + 1) - 1) * 2 ^ a).testBit k = true := by decide +kernel
def clsP (p : Pt) : Int := clsI p.v (val p.h p.l)
theorem mask_bit {p : Pt} (hp : ptOk p) : (maskP p).toNat.testBit (clsP p + 4).toNat = true ∧ (clsP p + 4).toNat < 9 ∧ Mk (maskP p).toNat := by
  have hg := gap_rng ⟨hp.1, hp.2.1⟩
  have hr := maskP_rng hp
  have m1 := clsI_mono (a := p.v - gapI p.d) (b := p.v) (v := val p.h p.l) (by omega)
  have m2 := clsI_mono (a := p.v) (b := p.v + gapI p.d) (v := val p.h p.l) (by omega)
  have r1 := clsI_rng (p.v - gapI p.d) (val p.h p.l)
  have r2 := clsI_rng p.v (val p.h p.l)
  have r3 := clsI_rng (p.v + gapI p.d) (val p.h p.l)
  refine ⟨?_, by unfold clsP; omega, by omega⟩
  have ht := mask_tab (clsI (p.v - gapI p.d) (val p.h p.l) + 4).toNat (by omega) (clsI (p.v + gapI p.d) (val p.h p.l) + 4).toNat (by omega) (clsP p + 4).toNat (by unfold clsP; omega) (by unfold clsP; omega) (by unfold clsP; omega)
  unfold maskP maskI
  generalize clsI (p.v - gapI p.d) (val p.h p.l) = a at *
  generalize clsI (p.v + gapI p.d) (val p.h p.l) = b at *
  have e1 : ((2 : Int) ^ (b - a + 1).toNat - 1) * 2 ^ (a + 4).toNat = (((2 ^ ((b + 4).toNat - (a + 4).toNat + 1) - 1) * 2 ^ (a + 4).toNat : Nat) : Int) := by
    have h1 : (b - a + 1).toNat = (b + 4).toNat - (a + 4).toNat + 1 := by omega
    have h2 : 1 ≤ 2 ^ ((b + 4).toNat - (a + 4).toNat + 1) := Nat.one_le_two_pow
    rw [h1]
    push_cast [Int.natCast_sub h2]
    rfl
  rw [e1, Int.toNat_natCast]
  exact ht
theorem Bt.snoc {l ks : List Nat} (h : Bt l ks) {m k : Nat} (hm : Mk m) (hk : k < 9) (hb : m.testBit k = true) : Bt (l ++ [m]) (ks ++ [k]) := by
  induction h with
  | nil => exact .cons hm hk hb .nil
  | cons h1 h2 h3 t ih => exact .cons h1 h2 h3 ih
theorem Bt.push {l : List Int} {ks : List Nat} (h : Bt (natL l) ks) {m : Int} {k : Nat} (hm : Mk m.toNat) (hk : k < 9) (hb : m.toNat.testBit k = true) : Bt (natL (pushL l m)) ((ks ++ [k]).drop (ks.length - 14)) := by
  have hl : l.length = ks.length := by rw [← h.len, List.length_map]
  unfold pushL natL
  rw [List.map_drop, List.map_append, hl]
  exact (h.snoc hm hk hb).drop _
end Go.Proofs.YtldineoabbodpaaGreatDoor
namespace Go.Proofs.YtldineoabbodpaaGreatDoor
open Go Go.Xec
attribute [local go_sem] tm0 ne_eq not_false_eq_true List.length_append List.length_replicate List.replicate_succ List.replicate_zero Int.cast_ofNat_Int not_true_eq_false decide_true decide_false ite_self beq_self_eq_true Bool.true_beq Bool.false_beq Bool.not_true Bool.not_false
attribute [local go_sem_proc] Nat.reduceAdd Nat.reduceMul Nat.reduceSub Nat.reduceLeDiff Nat.reduceLT Nat.reduceEqDiff Int.reduceLT Int.reduceLE Int.reduceAdd Int.reduceSub Int.reduceMul Int.reduceToNat Int.reducePow Int.reduceNe Int.reduceMod Int.reduceDiv Int.reduceEq Nat.reducePow Int.reduceNeg
set_option maxRecDepth 10000
noncomputable def C50 : Cfg := C49.add 58 F58
theorem ok50 : CfgOk Tryz.prog C50 := ok49.add sound58
noncomputable def F23 : List AVal → Option AVal := pureF C50 1 23
theorem sound23 : Sound Tryz.prog 23 F23 := sound_self ok50 1 23
theorem F23_eq {dev vh vl : Int} (hd : -9223372036854775808 ≤ dev ∧ dev ≤ 9223372036854775807) (h1 : 0 ≤ vh ∧ vh < 1152921504606846976) (h2 : U vl) : F23 [.int .i64 dev, W vh vl] = some (.tup [.int .i64 (clsI dev (val vh vl)), .int .i64 0]) := by
  have e58 := F58_eq hd h1 h2
  have d1 : decide (1152921504606846976 ≤ vh) = false := decide_eq_false (by omega)
  unfold F23
  refine pureF_of (x := x23) rfl rfl ?_
  rw [x23_eq.1, x23_eq.2.1]
  simp (disch := first | omega | simp only [*, go_sem, ↓reduceIte, dropK_eq]) only [x23b, go_sem, ↓reduceIte, dropK_eq, callX_known (C := C50) (g := 58) rfl, ft_call (C := C50) (g := 58) rfl, e58, d1]
  exact Ends_plain rfl rfl
def pwI (c : Int) : Int := 2 ^ (c + 4).toNat
def kN (cl : List Int) : List Nat := cl.map fun c => (c + 4).toNat
theorem pw_rng {c : Int} (h : -4 ≤ c ∧ c ≤ 4) : 0 < pwI c ∧ pwI c < 512 := by
  have h1 : 1 ≤ 2 ^ (c + 4).toNat := Nat.one_le_two_pow
  have h2 : 2 ^ (c + 4).toNat ≤ 2 ^ 8 := Nat.pow_le_pow_right (by decide) (by omega)
  have e : pwI c = ((2 ^ (c + 4).toNat : Nat) : Int) := by unfold pwI; push_cast; rfl
  omega
theorem natL_pw (cl : List Int) : natL (cl.map pwI) = sing (kN cl) := by
  unfold natL sing kN
  rw [List.map_map, List.map_map]
  refine List.map_congr_left fun c _ => ?_
  have e : pwI c = ((2 ^ (c + 4).toNat : Nat) : Int) := by unfold pwI; push_cast; rfl
  simp only [Function.comp, e, Int.toNat_natCast]
abbrev clsOk (cl : List Int) : Prop := cl.length ≤ 15 ∧ ∀ c ∈ cl, -4 ≤ c ∧ c ≤ 4
theorem pw_ok {cl : List Int} (h : clsOk cl) : mksOk (cl.map pwI) := ⟨by rw [List.length_map]; exact h.1, fun m hm => by
  obtain ⟨c, hc, rfl⟩ := List.mem_map.1 hm
  exact pw_rng (h.2 c hc)⟩
def yesA (ks : List Nat) : AVal := .agg [.bool (decide (ruleI (sing ks) 0 = 2)), .bool (decide (ruleI (sing ks) 1 = 2)), .bool (decide (ruleI (sing ks) 2 = 2)), .bool (decide (ruleI (sing ks) 3 = 2)), .bool (decide (ruleI (sing ks) 4 = 2)), .bool (decide (ruleI (sing ks) 5 = 2)), .bool (decide (ruleI (sing ks) 6 = 2)), .bool (decide (ruleI (sing ks) 7 = 2))]
noncomputable def F24 : List AVal → Option AVal := pureF C49 1 24
theorem sound24 : Sound Tryz.prog 24 F24 := sound_self ok49 1 24
theorem F24_eq {a : AVal} {cl : List Int} (ha : Rw a cl) (h : clsOk cl) : F24 [a] = some (.tup [yesA (kN cl), .int .i64 0]) := by
  have ap := ha.plain
  have hok := pw_ok h
  have hl := h.1
  unfold F24
  refine pureF_of (x := x24) rfl rfl ?_
  rw [x24_eq.1, x24_eq.2.1]
  simp (disch := first | omega | simp only [*, go_sem, ↓reduceIte, dropK_eq]) only [x24b, go_sem, ↓reduceIte, dropK_eq, ha.len]
  refine Ev_range (ti := 14) (len := cl.length) (J := fun i tm hp nc => Own [24008005] 1 hp (tm 5) (i64s ((cl.take i).map pwI)) ∧ (i64s ((cl.take i).map pwI) = [] → tm 5 = .nils) ∧
    hp (24001000, 1) = some (.var [.bool false, .bool false, .bool false, .bool false, .bool false, .bool false, .bool false, .bool false]) ∧ hp (24000000, 0) = some (.var [.bool false, .bool false, .bool false, .bool false, .bool false, .bool false, .bool false, .bool false])) (by omega) (by simp only [go_sem, ↓reduceIte, dropK_eq]) ?_ ?_
  · simp only [go_sem, ↓reduceIte, dropK_eq, List.take_zero, List.map_nil]
    exact ⟨Own.nils _ _ _, fun _ => trivial⟩
  rintro i tm hp nc hi hc k14 ⟨ho, h0, kz, kr⟩
  have k2 := hc 2 rfl; have k4 := hc 4 rfl; have k12 := hc 12 rfl; have k13 := hc 13 rfl; simp only [go_sem, ↓reduceIte, dropK_eq] at k2 k4 k12 k13
  rcases Nat.lt_or_ge i cl.length with hlt | hge
  · have d1 : decide ((i : Int) < (cl.length : Int)) = true := decide_eq_true (by omega)
    have ia := ha.ia hlt
    have hmm := h.2 _ (getD_mem hlt)
    have hts := take_snoc hlt
    rw [hts]
    generalize cl.getD i 0 = c at *
    have d2 : decide (c < -4) = false := decide_eq_false (by omega)
    have d3 : decide (4 < c) = false := decide_eq_false (by omega)
    have hp2 := pw_rng hmm
    have sh : binA .shl (.int .i64 1) (.int .i64 (c + 4)) = some (.int .i64 (pwI c)) := by
      refine binA_shl_i (by omega) ?_ (by omega)
      unfold pwI
      rw [Int.one_mul]
    obtain ⟨V, H, hA, hO⟩ := ho.push (s0 := 24008005) (s1 := 24008004) (z := .int .i64 (pwI c)) (bytes := 8) (by simp) (by simp) (plain_int _ _ _) rfl (by simp; omega)
    simp (disch := first | omega | simp only [*, go_sem, ↓reduceIte, dropK_eq]) only [x24l4, go_sem, ↓reduceIte, dropK_eq, k2, k4, k12, k13, k14, d1, ia, d2, d3, sh, hA]
    refine ⟨hlt, by simp, ?_, fun h => ?_, ?_, ?_⟩
    · rw [i64s, List.map_append, List.map_append]; exact (hO _ _).1
    · simp [i64s] at h
    · rw [(hO _ _).2 _ (by decide) (by decide)]; exact kz
    · rw [(hO _ _).2 _ (by decide) (by decide)]; exact kr
  · obtain rfl : i = cl.length := by omega
    have d1 : decide ((cl.length : Int) < (cl.length : Int)) = false := decide_eq_false (by omega)
    rw [List.take_length] at ho h0
    obtain ⟨ks, hks, hlx⟩ := ho.lendXs h0 63 (plainL_ints _ _ _)
    have e59 := F59_ok (rowN_rw (cl.map pwI)) (by simp only [Lg, List.length_map]; omega) hok
    rw [natL_pw] at e59
    have ht8 : i64s (tell8 (sing (kN cl))) = [.int .i64 (ruleI (sing (kN cl)) 0), .int .i64 (ruleI (sing (kN cl)) 1), .int .i64 (ruleI (sing (kN cl)) 2), .int .i64 (ruleI (sing (kN cl)) 3), .int .i64 (ruleI (sing (kN cl)) 4), .int .i64 (ruleI (sing (kN cl)) 5), .int .i64 (ruleI (sing (kN cl)) 6), .int .i64 (ruleI (sing (kN cl)) 7)] := rfl
    rw [ht8] at e59
    generalize hR : rowN 1 (i64s (cl.map pwI)) = row at *
    have hlv := hlx hp (fun _ _ => rfl)
    have hdk : ∀ (v : AVal), dropK v ks hp (24001000, 1) = hp (24001000, 1) ∧ dropK v ks hp (24000000, 0) = hp (24000000, 0) := fun v => ⟨dropK_ne hks (by decide) v hp, dropK_ne hks (by decide) v hp⟩
    simp (disch := first | omega | simp only [*, go_sem, ↓reduceIte, dropK_eq]) only [x24l4, go_sem, ↓reduceIte, dropK_eq, k2, k4, k12, k13, k14, d1, callX_names (C := C49) (g := 59) rfl, ftC_names (C := C49) (g := 59) rfl, hlv, e59]
    unfold yesA
    generalize ruleI (sing (kN cl)) 0 = r0 at *
    generalize ruleI (sing (kN cl)) 1 = r1 at *
    generalize ruleI (sing (kN cl)) 2 = r2 at *
    generalize ruleI (sing (kN cl)) 3 = r3 at *
    generalize ruleI (sing (kN cl)) 4 = r4 at *
    generalize ruleI (sing (kN cl)) 5 = r5 at *
    generalize ruleI (sing (kN cl)) 6 = r6 at *
    generalize ruleI (sing (kN cl)) 7 = r7 at *
    refine Ev_range (ti := 38) (len := 8) (J := fun i tm hp' nc => hp' (24001000, 1) = some (.var [.bool (decide (0 < i) && decide (r0 = 2)), .bool (decide (1 < i) && decide (r1 = 2)), .bool (decide (2 < i) && decide (r2 = 2)), .bool (decide (3 < i) && decide (r3 = 2)), .bool (decide (4 < i) && decide (r4 = 2)), .bool (decide (5 < i) && decide (r5 = 2)), .bool (decide (6 < i) && decide (r6 = 2)), .bool (decide (7 < i) && decide (r7 = 2))]) ∧
      hp' (24000000, 0) = some (.var [.bool false, .bool false, .bool false, .bool false, .bool false, .bool false, .bool false, .bool false])) (by decide) (by simp only [go_sem, ↓reduceIte, dropK_eq]) ?_ ?_
    · simp only [go_sem, ↓reduceIte, dropK_eq, hdk, kz, kr]
    clear hc
    rintro j tm' hp' nc' hj hc k38 ⟨kz, kr⟩
    have q2 := hc 2 rfl; have q3 := hc 3 rfl; have q4 := hc 4 rfl; have q5 := hc 5 rfl; have q8 := hc 8 rfl; have q9 := hc 9 rfl; have q37 := hc 37 rfl; simp only [go_sem, ↓reduceIte, dropK_eq] at q2 q3 q4 q5 q8 q9 q37
    rcases Nat.lt_or_ge j 8 with h8 | h8
    · rcases (show j = 0 ∨ j = 1 ∨ j = 2 ∨ j = 3 ∨ j = 4 ∨ j = 5 ∨ j = 6 ∨ j = 7 by omega) with rfl | rfl | rfl | rfl | rfl | rfl | rfl | rfl
      all_goals
        simp (disch := first | omega | simp only [*, go_sem, ↓reduceIte, dropK_eq]) only [x24l13, go_sem, ↓reduceIte, dropK_eq, k38, q4, q37, k4, kz, kr]
    · obtain rfl : j = 8 := by omega
      simp (disch := first | omega | simp only [*, go_sem, ↓reduceIte, dropK_eq]) only [x24l13, go_sem, ↓reduceIte, dropK_eq, k38, q2, q4, q9, k2, k4, kz, kr]
      exact Ends_plain rfl rfl
set_option maxRecDepth 10000
def OwnO (ss : List Nat) (hp : Heap) (v : AVal) (xs : List AVal) : Prop :=
  (v = .nils ∧ xs = []) ∨ ∃ s c g off row, s ∈ ss ∧ v = .sl (s, c) g 1 off xs.length ∧ hp (s, c) = some (.row g 1 row) ∧ row.drop off = xs ∧ off ≤ row.length
theorem OwnO.of {ss : List Nat} {hp : Heap} {v : AVal} {xs : List AVal} (h : Own ss 1 hp v xs) : OwnO ss hp v xs := by
  rcases h with h | ⟨s, c, g, hs, h1, h2⟩
  · exact .inl h
  · exact .inr ⟨s, c, g, 0, xs, hs, h1, h2, rfl, Nat.zero_le _⟩
theorem OwnO.keep {ss : List Nat} {hp hp' : Heap} {v : AVal} {xs : List AVal} (h : OwnO ss hp v xs) (hk : ∀ k : Key, k.1 ∈ ss → hp' k = hp k) : OwnO ss hp' v xs := by
  rcases h with h | ⟨s, c, g, off, row, hs, h1, h2, h3⟩
  · exact .inl h
  · exact .inr ⟨s, c, g, off, row, hs, h1, (hk _ hs).trans h2, h3⟩
theorem OwnO.len {ss : List Nat} {hp : Heap} {v : AVal} {xs : List AVal} (h : OwnO ss hp v xs) : lenVA v = some (.int .i64 xs.length) := by
  rcases h with ⟨rfl, rfl⟩ | ⟨s, c, g, off, row, hs, rfl, h2⟩ <;> rfl
theorem OwnO.push {ss : List Nat} {bytes : Nat} {key : Key} {s1 c' : Nat} {h : Heap} {v z : AVal} {xs : List AVal} (ho : OwnO ss h v xs) (hk : key.1 ∈ ss) (hn : s1 ∉ ss) (hl : plain Xec.freeze z = true) (hsc : (cellsOf z).all isSc = true) (hb : (xs.length + 1) * bytes ≤ 140737488355328) :
    ∃ v' h', appA 1 bytes key v (.sl (s1, c') 0 1 0 1) (upd h (s1, c') (some (.row 0 1 [z]))) = some (v', h') ∧ Own ss 1 h' v' (xs ++ [z]) ∧ ∀ k : Key, k.1 ∉ ss → k.1 ≠ s1 → h' k = h k := by
  have he : elemsA 1 (.sl (s1, c') 0 1 0 1) (upd h (s1, c') (some (.row 0 1 [z]))) = some [z] := by rw [elemsA_sl, upd_same]; simp [els_row]
  have hlp : plainL Xec.freeze [z] = true := by rw [plainL_cons, hl, plainL_nil]; rfl
  rcases ho with ⟨rfl, rfl⟩ | ⟨s, c, g, off, row, hs, rfl, h2, h3, h4⟩
  · rw [appA_nils, he, Option.bind_some, lendA_plain hlp, Option.bind_some]
    simp only [List.map_nil, List.nil_append, applyW]
    rw [if_neg (by simp), if_pos (by simpa using hb)]
    refine ⟨_, _, rfl, Own.sl (s := key.1) (c := key.2) hk rfl (upd_same _ _ _), fun k h5 h6 => ?_⟩
    rw [upd_ne _ _ (fun e => h5 (by rw [e]; exact hk)), upd_ne _ _ (by rintro rfl; exact h6 rfl)]
  · have h2' : upd h (s1, c') (some (.row 0 1 [z])) (s, c) = some (.row g 1 row) := by rw [upd_ne _ _ (by intro e; exact hn (by rw [← (Prod.mk.inj e).1]; exact hs))]; exact h2
    have hlen : off + xs.length = row.length := by rw [← h3, List.length_drop]; omega
    rw [appA_sl, he, Option.bind_some, lendA_plain hlp, Option.bind_some]
    rw [if_pos (by simp), h2', Option.bind_some, grown_row, if_pos ⟨hlen, by simpa using hb, by simp [hsc]⟩]
    simp only [List.map_nil, List.nil_append, applyW, h3]
    refine ⟨_, _, rfl, Own.sl hs (by simp) (upd_same _ _ _), fun k h5 h6 => ?_⟩
    rw [upd_ne _ _ (fun e => h5 (by rw [e]; exact hs)), upd_ne _ _ (by rintro rfl; exact h6 rfl)]
theorem Bd_pushO {ss : List Nat} {bytes s0 s1 c c' : Nat} {hp h : Heap} {v z : AVal} {xs : List AVal} {K : AVal × Heap → Prop} (ho : OwnO ss hp v xs) (hh : ∀ k : Key, k.1 ∈ ss → h k = hp k) (hk : s0 ∈ ss) (hn : s1 ∉ ss)
    (hl : plain Xec.freeze z = true) (hsc : (cellsOf z).all isSc = true) (hb : (xs.length + 1) * bytes ≤ 140737488355328)
    (hK : ∀ v' h', Own ss 1 h' v' (xs ++ [z]) → (∀ k : Key, k.1 ∉ ss → k.1 ≠ s1 → h' k = h k) → K (v', h')) :
    Bd (appA 1 bytes (s0, c) v (.sl (s1, c') 0 1 0 1) (upd h (s1, c') (some (.row 0 1 [z])))) K := by
  obtain ⟨v', h', hA, hO, hF⟩ := (ho.keep hh).push (key := (s0, c)) (c' := c') (bytes := bytes) hk hn hl hsc hb
  rw [hA]
  simp only [Bd_some]
  exact hK _ _ hO hF
theorem Own.drop1 {ss : List Nat} {hp : Heap} {v : AVal} {xs : List AVal} (h : Own ss 1 hp v xs) (h1 : 1 ≤ xs.length) : ∃ v', slVA 1 v (some (.int .i64 1)) none none = some v' ∧ OwnO ss hp v' (xs.drop 1) := by
  rcases h with ⟨rfl, rfl⟩ | ⟨s, c, g, hs, rfl, h2⟩
  · simp at h1
  · refine ⟨.sl (s, c) g 1 1 (xs.length - 1), ?_, .inr ⟨s, c, g, 1, xs, hs, by rw [List.length_drop], h2, rfl, h1⟩⟩
    have b1 : bnd (some (AVal.int .i64 1)) 0 = some 1 := rfl
    have b2 : bnd none xs.length = some xs.length := rfl
    simp only [slVA, b1, b2]
    exact (if_pos ⟨trivial, h1, Nat.le_refl _⟩).trans rfl
theorem OwnO.lendX {ss : List Nat} {hp : Heap} {v : AVal} {xs : List AVal} (h : OwnO ss hp v xs) (h1 : 1 ≤ xs.length) (d : Nat) (hl : plainL d xs = true) : ∃ ks, (∀ k ∈ ks, k.1 ∈ ss) ∧ ∀ hp' : Heap, (∀ k : Key, k.1 ∈ ss → hp' k = hp k) → Xec.lendX (d + 1) v hp' = some (.slc 1 xs, ks) := by
  rcases h with ⟨rfl, rfl⟩ | ⟨s, c, g, off, row, hs, rfl, h2, h3, h4⟩
  · simp at h1
  · refine ⟨[(s, c)], by simpa using hs, fun hp' hk => ?_⟩
    have hlen : off + xs.length = row.length := by rw [← h3, List.length_drop]; omega
    have htk : (row.drop off).take xs.length = xs := by rw [h3, List.take_length]
    rw [lendX_sl, hk _ hs, h2]
    simp only [Option.bind_some, els_row, hlen, Nat.le_refl, if_true, htk, lendXL_plain hl, Option.map_some]
theorem F21_bad {b : Bs} {x : Int} (h : ¬ baOk b) (hu : i64R b.u) : F21 [BK b, .int .i64 x] = some (.tup [PtK P0, .int .i64 1]) := by
  have e53 := F53_eq (b := b) hu
  rw [decide_eq_false h] at e53
  clear h
  unfold F21
  refine pureF_of (x := x21) rfl rfl ?_
  rw [x21_eq.1, x21_eq.2.1]
  simp (disch := first | omega | simp only [*, go_sem, ↓reduceIte, dropK_eq]) only [x21b, go_sem, ↓reduceIte, dropK_eq, callX_known (C := C28) (g := 53) rfl, ft_call (C := C28) (g := 53) rfl, e53]
  exact Ends_plain rfl rfl
end Go.Proofs.YtldineoabbodpaaGreatDoor
namespace Go.Proofs.YtldineoabbodpaaGreatDoor
open Go Go.Xec
set_option maxRecDepth 10000
def adjI (c : REC.Ch) (x : Int) : Int :=
  if c.t = 1 then min (max x (-1000000)) 1000000
  else if 0 < c.f0 ∧ c.t ≠ 5 then min (max (min (max x (-1000000)) 1000000) (-(min (max x (-1000000)) 1000000))) c.f0
  else max (min (max x (-1000000)) 1000000) (-(min (max x (-1000000)) 1000000))
def chSome (c : REC.Ch) : Prop := c.f4 = 1000 ∧ ((c.t = 1 ∧ c.f0 = 0 ∧ c.f1 = -1000000 ∧ c.f2 = 1000000) ∨ ((c.t = 2 ∨ c.t = 3 ∨ c.t = 5) ∧ 1 ≤ c.f0 ∧ c.f0 ≤ 1000) ∨ (c.t = 4 ∧ c.f0 = 0))
theorem someC_some (chart size m : Int) : chSome (someC chart size m) := by
  obtain ⟨_, a3, a4⟩ := trn_rng chart (n := 5) (by decide)
  obtain ⟨_, b3, b4⟩ := trn_rng size (n := 1000) (by decide)
  unfold someC
  by_cases h1 : trn chart 5 = 0
  · rw [if_pos h1]; exact ⟨rfl, .inl ⟨rfl, rfl, rfl, rfl⟩⟩
  rw [if_neg h1]
  by_cases h2 : trn chart 5 = 3
  · rw [if_pos h2]; exact ⟨rfl, .inr (.inr ⟨rfl, rfl⟩)⟩
  rw [if_neg h2]
  exact ⟨rfl, .inr (.inl ⟨by dsimp only; omega, by dsimp only; omega, by dsimp only; omega⟩)⟩
theorem adj_smp {c : REC.Ch} (h : chSome c) (x : Int) : smpOk c (adjI c x) := by
  unfold smpOk adjI
  rcases h.2 with ⟨t, g0, g1, g2⟩ | ⟨t | t | t, g0⟩ | ⟨t, g0⟩
  all_goals
    simp only [t, Int.reduceEq, if_true, if_false, or_self, or_true, true_or, ne_eq, not_true_eq_false, not_false_eq_true, and_true, and_false]
    repeat' split
    all_goals omega
def ptE (e : En) (x : Int) : Pt := if e.c.t = 1 then ptB e.b x else ptT e.t x
def lrnd (e : En) : Prop := if e.c.t = 1 then e.c.f3 ≤ e.b.m else e.c.f3 ≤ e.t.m
theorem step_learn {c : REC.Ch} {e : En} {x : Int} (h : Eok c e) (hx : smpOk c x) (hl : ¬ lrnd e) : snOf (snE e x) = ⟨1, 0, 0, 0, 0, 0, 0, 0, 0, 0, 0, 0⟩ ∧ mlOf (nxE e x).mv = mlOf e.mv := by
  unfold lrnd at hl
  unfold snE nxE
  by_cases h1 : e.c.t = 1
  · rw [if_pos h1] at hl
    rw [if_pos h1, if_pos h1]
    unfold valN valS
    rw [if_pos (show e.b.m < e.c.f3 by omega)]
    exact ⟨rfl, rfl⟩
  · rw [if_neg h1] at hl
    rw [if_neg h1, if_neg h1]
    unfold cntN cntS
    rw [if_pos (show e.t.m < e.c.f3 by omega)]
    exact ⟨rfl, rfl⟩
theorem step_point {c : REC.Ch} {e : En} {x : Int} (h : Eok c e) (hx : smpOk c x) (hl : lrnd e) :
    ptOk (ptE e x) ∧ 0 ≤ (ptE e x).h ∧ U (ptE e x).l ∧ (nxE e x).b = e.b ∧ (nxE e x).t = e.t ∧ mlOf (nxE e x).mv = pushL (mlOf e.mv) (maskP (ptE e x)) ∧
    ∃ w, snOf (snE e x) = ⟨2, verP (ptE e x), w, 0, ruleI (natL (mlOf (nxE e x).mv)) 0, ruleI (natL (mlOf (nxE e x).mv)) 1, ruleI (natL (mlOf (nxE e x).mv)) 2, ruleI (natL (mlOf (nxE e x).mv)) 3, ruleI (natL (mlOf (nxE e x).mv)) 4, ruleI (natL (mlOf (nxE e x).mv)) 5, ruleI (natL (mlOf (nxE e x).mv)) 6, ruleI (natL (mlOf (nxE e x).mv)) 7⟩ := by
  have hb := ch_bnd h.ok h.t
  have hec := h.ec
  have hin := smp_in h hx
  unfold lrnd at hl
  unfold snE nxE ptE
  rcases h.p with ⟨h1, h2, h3, h4, h5⟩ | ⟨h1, h2, h3, h4, h5, h6⟩
  · have ht : e.c.t = 1 := by rw [hec]; exact h1
    rw [if_pos ht] at hl
    rw [if_pos ht, if_pos ht, if_pos ht]
    have hm : ¬ e.b.m < e.c.f3 := by omega
    have hs1 : sumL [x] = x := by simp [sumL]
    unfold valN valS
    rw [if_neg hm, hs1]
    obtain ⟨p1, p2, p3⟩ := ptB_ok (x := x) h2 (by rw [hec] at hl; omega) (by simp only [inM] at hin; rw [h3]; omega)
    simp only [mlOf_slc, SK_tell, true_and]
    refine ⟨p1, p2, p3, wideB e.b (max (x - e.l) (e.l - x)), ?_⟩
    simp only [snOf, intV]
  · have ht : ¬ e.c.t = 1 := by rw [hec]; omega
    rw [if_neg ht] at hl
    rw [if_neg ht, if_neg ht, if_neg ht]
    have hm : ¬ e.t.m < e.c.f3 := by omega
    unfold cntN cntS
    rw [if_neg hm]
    obtain ⟨p1, p2, p3⟩ := ptT_ok (d := x) h2 (by rw [hec] at hl; omega) (smp_cnt h h1 h3 h4 hx)
    simp only [mlOf_slc, SK_tell, true_and]
    refine ⟨p1, p2, p3, 0, ?_⟩
    simp only [snOf, intV]
set_option maxRecDepth 10000
noncomputable def C51 : Cfg := (C50.add 23 F23).add 24 F24
theorem ok51 : CfgOk Tryz.prog C51 := (ok50.add sound23).add sound24
structure Sur (c : REC.Ch) (i : Nat) (e : En) (cl : List Int) : Prop where
  ok : Eok c e
  n : e.n = i
  ck : clsOk cl
  bt : Bt (natL (mlOf e.mv)) (kN cl)
  l0 : ¬ lrnd e → cl = []
theorem Sur.st {c : REC.Ch} {i : Nat} {e : En} {cl : List Int} (h : Sur c i e cl) (hc : chSome c) (hi : i < 60) (x : Int) :
    stE c e (adjI c x) = (nxE e (adjI c x), snOf (snE e (adjI c x)), 0) ∧ Eok c (nxE e (adjI c x)) ∧ (nxE e (adjI c x)).n = ((i + 1 : Nat) : Int) := by
  have hs := adj_smp hc x
  have hn : e.n ≠ c.f4 := by rw [h.n, hc.1]; omega
  refine ⟨by unfold stE; rw [if_neg hn, if_pos hs], nxE_ok h.ok hn hs, ?_⟩
  have : (nxE e (adjI c x)).n = e.n + 1 := by unfold nxE valN cntN; split <;> rfl
  rw [this, h.n]
  omega
theorem kN_push (cl : List Int) (k : Int) : kN ((cl ++ [k]).drop (cl.length - 14)) = (kN cl ++ [(k + 4).toNat]).drop ((kN cl).length - 14) := by
  unfold kN
  rw [List.map_drop, List.map_append, List.length_map]
  rfl
theorem cls_push {cl : List Int} {k : Int} (h : clsOk cl) (hk : -4 ≤ k ∧ k ≤ 4) : clsOk ((cl ++ [k]).drop (cl.length - 14)) := by
  have := h.1
  refine ⟨by simp only [List.length_drop, List.length_append, List.length_cons, List.length_nil]; omega, fun c hc => ?_⟩
  rcases List.mem_append.1 (List.mem_of_mem_drop hc) with h1 | h1
  · exact h.2 c h1
  · simp at h1; subst h1; exact hk
theorem Sur.learn {c : REC.Ch} {i : Nat} {e : En} {cl : List Int} (h : Sur c i e cl) (hc : chSome c) (hi : i < 60) (x : Int) (hl : ¬ lrnd e) :
    snOf (snE e (adjI c x)) = ⟨1, 0, 0, 0, 0, 0, 0, 0, 0, 0, 0, 0⟩ ∧ cl = [] ∧ Sur c (i + 1) (nxE e (adjI c x)) [] := by
  obtain ⟨h1, h2, h3⟩ := h.st hc hi x
  obtain ⟨h4, h5⟩ := step_learn h.ok (adj_smp hc x) hl
  have h6 := h.l0 hl
  have hb := h.bt
  rw [h6, ← h5] at hb
  exact ⟨h4, h6, h2, h3, ⟨by decide, by intro c hc; cases hc⟩, hb, fun _ => rfl⟩
theorem Sur.point {c : REC.Ch} {i : Nat} {e : En} {cl : List Int} (h : Sur c i e cl) (hc : chSome c) (hi : i < 60) (x : Int) (hl : lrnd e) :
    Sur c (i + 1) (nxE e (adjI c x)) ((cl ++ [clsP (ptE e (adjI c x))]).drop (cl.length - 14)) := by
  obtain ⟨h1, h2, h3⟩ := h.st hc hi x
  obtain ⟨p1, p2, p3, p4, p5, p6, w, p7⟩ := step_point h.ok (adj_smp hc x) hl
  obtain ⟨m1, m2, m3⟩ := mask_bit p1
  refine ⟨h2, h3, cls_push h.ck (clsI_rng _ _), ?_, fun hn => ?_⟩
  · rw [p6, kN_push]
    exact h.bt.push m3 m2 m1
  · exfalso
    refine hn ?_
    unfold lrnd at hl ⊢
    rw [h2.ec]
    rw [h.ok.ec] at hl
    rw [p4, p5]
    exact hl
end Go.Proofs.YtldineoabbodpaaGreatDoor
namespace Go.Proofs.YtldineoabbodpaaGreatDoor
open Go Go.Xec
attribute [local go_sem] tm0 ne_eq not_false_eq_true List.length_append List.length_replicate List.replicate_succ List.replicate_zero Int.cast_ofNat_Int not_true_eq_false decide_true decide_false ite_self beq_self_eq_true Bool.true_beq Bool.false_beq Bool.not_true Bool.not_false
attribute [local go_sem_proc] Nat.reduceAdd Nat.reduceMul Nat.reduceSub Nat.reduceLeDiff Nat.reduceLT Nat.reduceEqDiff Int.reduceLT Int.reduceLE Int.reduceAdd Int.reduceSub Int.reduceMul Int.reduceToNat Int.reducePow Int.reduceNe Int.reduceMod Int.reduceDiv Int.reduceEq Nat.reducePow Int.reduceNeg
set_option maxRecDepth 10000
def x6adj : XCode :=
(.seq (.reg 9 x6r9 none)
(.seq (.reg 10 x6r10 none)
(.cond (.t 56)
(.seq (.reg 11 x6r11 none)
(.seq (.reg 12 x6r12 none)
(.cond (.t 68)
(.reg 13 x6r13 none)
.skip)))
.skip)))
def x6tel : XCode :=
(.seq (.reg 28 x6r28 none)
(.seq (.seq (.reg 29 x6r29 none)
(.cond (.t 168)
(.seq (.reg 30 x6r30 none)
.ret)
.skip))
(.seq (.reg 31 x6r31 none)
(.block 2
(.loop x6l32)))))
def x6cls : XCode :=
(.seq (.reg 24 x6r24 none)
(.seq (.seq (.reg 25 x6r25 none)
(.seq (.reg 26 x6r26 none)
(.cond (.t 125)
(.reg 27 x6r27 none)
.skip)))
x6tel))
def x6pt : XCode :=
(.seq (.reg 21 x6r21 none)
(.seq (.seq (.reg 22 x6r22 none)
(.cond (.t 103)
(.reg 23 x6r23 none)
.skip))
x6cls))
def x6stp : XCode :=
(.seq (.reg 14 x6r14 none)
(.seq (.seq (.reg 15 x6r15 none)
(.cond (.t 81)
(.seq (.reg 16 x6r16 none)
.ret)
.skip))
(.seq (.reg 17 x6r17 none)
(.seq (.seq (.reg 18 x6r18 none)
(.cond (.t 85)
(.seq (.seq (.reg 19 x6r19 none)
(.cond (.t 93)
(.seq (.reg 20 x6r20 none)
.ret)
.skip))
(.exit 1))
.skip))
x6pt))))
theorem x6l7_eq : x6l7 = (.seq (.reg 7 x6r7 none)
(.seq (.cond (.t 48)
.skip
(.exit 0))
(.seq (.block 1
(.seq (.reg 8 x6r8 none)
(.seq x6adj x6stp)))
(.reg 37 x6r37 none)))) := rfl
section
variable {inl : Inl} {tm : Nat → AVal} {hp : Heap} {nc : Nat} {Q : Out → St → Prop} {c : REC.Ch} {x : Int}
theorem adj_ev (h : chSome c) (k9 : tm 9 = .ptr (6001004, 1) 0 0 0 0) (k14 : tm 14 = .int .i64 x) (kc : hp (6001004, 1) = some (.var (ChC c))) :
    Ev (C := C51) (inl := inl) 6 x6adj ⟨tm, hp, nc⟩ fun o s => o = .nrm ∧ s.hp = hp ∧ s.tm 14 = .int .i64 (adjI c x) ∧ s.tm 9 = tm 9 ∧ s.tm 10 = tm 10 ∧ s.tm 12 = tm 12 ∧ s.tm 47 = tm 47 := by
  obtain ⟨X, hX⟩ : ∃ X, X = min (max x (-1000000)) 1000000 := ⟨_, rfl⟩
  have hX1 : -1000000 ≤ X ∧ X ≤ 1000000 := by omega
  have hb := hX1.1
  have hb2 := hX1.2
  have m1 : mnxA true (.int .i64 x) [.int .i64 (-1000000)] = some (.int .i64 (max x (-1000000))) := mnx_max
  have m2 : mnxA false (.int .i64 (max x (-1000000))) [.int .i64 1000000] = some (.int .i64 X) := by rw [mnx_min, hX]
  have m3 : mnxA true (.int .i64 X) [.int .i64 (0 - X)] = some (.int .i64 (max X (-X))) := by rw [mnx_max, Int.zero_sub]
  have m4 : mnxA false (.int .i64 (max X (-X))) [.int .i64 c.f0] = some (.int .i64 (min (max X (-X)) c.f0)) := mnx_min
  unfold adjI
  rw [← hX]
  generalize max x (-1000000) = x1 at m1 m2
  clear hX hX1
  by_cases h1 : c.t = 1
  · rw [if_pos h1]
    have d1 : decide (¬ c.t = 1) = false := decide_eq_false (not_not_intro h1)
    simp (disch := first | omega | simp only [*, go_sem, ↓reduceIte, dropK_eq]) only [x6adj, go_sem, ↓reduceIte, dropK_eq, k9, k14, kc, m1, m2, d1]
  rw [if_neg h1]
  have d1 : decide (¬ c.t = 1) = true := decide_eq_true h1
  by_cases h2 : 0 < c.f0
  · have d2 : decide (0 < c.f0) = true := decide_eq_true h2
    by_cases h3 : c.t = 5
    · have d3 : decide (¬ c.t = 5) = false := decide_eq_false (not_not_intro h3)
      rw [if_neg (fun h => h.2 h3)]
      simp (disch := first | omega | simp only [*, go_sem, ↓reduceIte, dropK_eq]) only [x6adj, go_sem, ↓reduceIte, dropK_eq, k9, k14, kc, m1, m2, m3, d1, d2, d3]
    · have d3 : decide (¬ c.t = 5) = true := decide_eq_true h3
      rw [if_pos ⟨h2, h3⟩]
      simp (disch := first | omega | simp only [*, go_sem, ↓reduceIte, dropK_eq]) only [x6adj, go_sem, ↓reduceIte, dropK_eq, k9, k14, kc, m1, m2, m3, m4, d1, d2, d3]
  · have d2 : decide (0 < c.f0) = false := decide_eq_false h2
    rw [if_neg (fun h => h2 h.1)]
    simp (disch := first | omega | simp only [*, go_sem, ↓reduceIte, dropK_eq]) only [x6adj, go_sem, ↓reduceIte, dropK_eq, k9, k14, kc, m1, m2, m3, d1, d2]
theorem pt_ev {e : En} (hc : chSome c) (hE : Eok c e) (hx : smpOk c x) (hl : lrnd e) (k9 : tm 9 = .ptr (6001004, 1) 0 0 0 0) (k10 : tm 10 = .ptr (6002005, 2) 0 0 0 0) (k14 : tm 14 = .int .i64 x)
    (kc : hp (6001004, 1) = some (.var (ChC c))) (kq : hp (6002005, 2) = some (.var (EC (nxE e x))))
    (hK : ∀ tm' hp' nc' n1, tm' 12 = tm 12 → tm' 16 = tm 16 → tm' 47 = tm 47 → tm' 18 = .ptr (6021007, n1) 0 0 0 0 → tm' 19 = .int .i64 0 → hp' (6021007, n1) = some (.var (PtC (ptE e x))) → (∀ k : Key, k.1 ≠ 6021007 → hp' k = hp k) → Ev (C := C51) (inl := inl) 6 x6cls ⟨tm', hp', nc'⟩ Q) :
    Ev (C := C51) (inl := inl) 6 x6pt ⟨tm, hp, nc⟩ Q := by
  obtain ⟨p1, p2, p3, p4, p5, p6, w, p7⟩ := step_point hE hx hl
  have hb := ch_bnd hE.ok hE.t
  have hec := hE.ec
  have hin := smp_in hE hx
  generalize nxE e x = e1 at *
  unfold lrnd at hl
  unfold ptE at hK
  rcases hE.p with ⟨h1, h2, h3, h4, h5⟩ | ⟨h1, h2, h3, h4, h5, h6⟩
  · have ht : e.c.t = 1 := by rw [hec]; exact h1
    rw [if_pos ht] at hl hK
    have d1 : decide (¬ c.t = 1) = false := decide_eq_false (not_not_intro h1)
    have e21 := F21_ok (b := e.b) (x := x) h2 (by rw [hec] at hl; omega) (by simp only [inM] at hin; rw [h3]; omega)
    rw [← p4] at e21 hK
    simp (disch := first | omega | simp only [*, go_sem, ↓reduceIte, dropK_eq]) only [x6pt, go_sem, ↓reduceIte, dropK_eq, k9, k10, k14, kc, kq, d1, callX_known (C := C51) (g := 21) rfl, ft_call (C := C51) (g := 21) rfl, e21]
    refine hK _ _ _ nc ?_ ?_ ?_ ?_ ?_ ?_ (fun k hk => by repeat rw [upd_ne _ _ (by rintro rfl; exact hk rfl)])
    all_goals try simp only [go_sem, ↓reduceIte, dropK_eq]
  · have ht : ¬ e.c.t = 1 := by rw [hec]; omega
    rw [if_neg ht] at hl hK
    have d1 : decide (¬ c.t = 1) = true := decide_eq_true (by omega)
    have e21 := F21_bad (b := e.b) (x := x) (by rw [h6]; unfold baOk; simp) (by rw [h6]; simp only [i64R]; omega)
    have e22 := F22_ok (t := e.t) (d := x) h2 (by rw [hec] at hl; omega) (smp_cnt hE h1 h3 h4 hx)
    rw [← p4] at e21
    rw [← p5] at e22 hK
    simp (disch := first | omega | simp only [*, go_sem, ↓reduceIte, dropK_eq]) only [x6pt, go_sem, ↓reduceIte, dropK_eq, k9, k10, k14, kc, kq, d1, callX_known (C := C51) (g := 21) rfl, ft_call (C := C51) (g := 21) rfl, callX_known (C := C51) (g := 22) rfl, ft_call (C := C51) (g := 22) rfl, e21, e22]
    refine hK _ _ _ nc ?_ ?_ ?_ ?_ ?_ ?_ (fun k hk => by repeat rw [upd_ne _ _ (by rintro rfl; exact hk rfl)])
    all_goals try simp only [go_sem, ↓reduceIte, dropK_eq]
theorem cls_ev {n1 : Nat} {p : Pt} {v : AVal} {cl : List Int} (k12 : tm 12 = v) (k18 : tm 18 = .ptr (6021007, n1) 0 0 0 0) (ho : OwnO [6025003] hp v (i64s cl)) (hck : clsOk cl) (kp : hp (6021007, n1) = some (.var (PtC p))) (hpt : ptOk p) (h0 : 0 ≤ p.h) (hu : U p.l)
    (hK : ∀ tm' hp' nc' v', tm' 12 = v' → tm' 16 = tm 16 → tm' 19 = tm 19 → tm' 20 = .int .i64 (clsP p) → tm' 21 = .int .i64 0 → tm' 47 = tm 47 → OwnO [6025003] hp' v' (i64s ((cl ++ [clsP p]).drop (cl.length - 14))) → (∀ k : Key, k.1 ≠ 6025003 → k.1 ≠ 6025002 → hp' k = hp k) → Ev (C := C51) (inl := inl) 6 x6tel ⟨tm', hp', nc'⟩ Q) :
    Ev (C := C51) (inl := inl) 6 x6cls ⟨tm, hp, nc⟩ Q := by
  obtain ⟨q1, q2, q3, q4, q5⟩ := hpt
  have e23 := F23_eq (dev := p.v) (vh := p.h) (vl := p.l) (by omega) (by omega) hu
  have hcl := hck.1
  change F23 _ = some (.tup [.int .i64 (clsP p), _]) at e23
  generalize clsP p = k at *
  simp (disch := first | omega | simp only [*, go_sem, ↓reduceIte, dropK_eq]) only [x6cls, go_sem, ↓reduceIte, dropK_eq, k12, k18, kp, callX_known (C := C51) (g := 23) rfl, ft_call (C := C51) (g := 23) rfl, e23]
  refine Bd_pushO ho (fun k' hk' => ?_) (by simp) (by simp) (plain_int _ _ _) rfl (by simp; omega) fun v' h' ho' hf => ?_
  · first | rfl | (simp at hk'; repeat rw [upd_ne _ _ (by rintro rfl; simp at hk')])
  have hm : i64s cl ++ [.int .i64 k] = i64s (cl ++ [k]) := by rw [i64s, i64s, List.map_append]; rfl
  rw [hm] at ho'
  have hln := (OwnO.of ho').len
  by_cases hl : cl.length = 15
  · have d1 : decide (15 < ((i64s (cl ++ [k])).length : Int)) = true := decide_eq_true (by simp [i64s]; omega)
    obtain ⟨v2, hs2, ho2⟩ := Own.drop1 ho' (by simp [i64s])
    simp (disch := first | omega | simp only [*, go_sem, ↓reduceIte, dropK_eq]) only [go_sem, ↓reduceIte, dropK_eq, hln, d1, hs2]
    refine hK _ _ _ v2 ?_ ?_ ?_ ?_ ?_ ?_ ?_ ?_
    all_goals try simp only [go_sem, ↓reduceIte, dropK_eq]
    · rw [hl, show (15 - 14 : Nat) = 1 from rfl, i64s, List.map_drop]
      exact ho2
    · intro k' h1 h2
      rw [hf k' (by simpa using h1) h2]
  · have d1 : decide (15 < ((i64s (cl ++ [k])).length : Int)) = false := decide_eq_false (by simp [i64s]; omega)
    simp (disch := first | omega | simp only [*, go_sem, ↓reduceIte, dropK_eq]) only [go_sem, ↓reduceIte, dropK_eq, hln, d1]
    refine hK _ _ _ v' ?_ ?_ ?_ ?_ ?_ ?_ ?_ ?_
    all_goals try simp only [go_sem, ↓reduceIte, dropK_eq]
    · rw [show cl.length - 14 = 0 by omega, List.drop_zero]
      exact OwnO.of ho'
    · intro k' h1 h2
      rw [hf k' (by simpa using h1) h2]
end
set_option maxRecDepth 10000
theorem rx_cases {a b : Int} (h : Rx a b) : (decide (a = 2) = true ∧ decide (a = 0) = false ∧ decide (b = 2) = true) ∨ (decide (a = 2) = false ∧ decide (a = 0) = true ∧ decide (b = 2) = false) ∨ (decide (a = 2) = false ∧ decide (a = 0) = false ∧ decide (a = 0) = false) := by
  obtain ⟨_, _, h3, h4⟩ := h
  by_cases h1 : a = 2
  · exact .inl ⟨decide_eq_true h1, decide_eq_false (by omega), decide_eq_true (h3 h1)⟩
  by_cases h2 : a = 0
  · exact .inr (.inl ⟨decide_eq_false h1, decide_eq_true h2, decide_eq_false fun h => h4 h h2⟩)
  · exact .inr (.inr ⟨decide_eq_false h1, decide_eq_false h2, decide_eq_false h2⟩)
theorem ver_cases {p : Pt} (hp : ptOk p) (h0 : 0 ≤ p.h) (hu : U p.l) :
    (decide (verP p = 1) = true ∧ decide (verP p = 0) = false ∧ decide (¬ clsP p = 4) = false) ∨ (decide (verP p = 1) = true ∧ decide (verP p = 0) = false ∧ decide (¬ clsP p = 4) = true ∧ decide (¬ clsP p = -4) = false) ∨
    (decide (verP p = 1) = false ∧ decide (verP p = 0) = true ∧ decide (clsP p = 4) = false ∧ decide (clsP p = -4) = false) ∨ (decide (verP p = 1) = false ∧ decide (verP p = 0) = false) := by
  have hV : 0 ≤ val p.h p.l := by unfold val; have := hu.1; omega
  have hf := cls_four (dv := p.v) hV
  change (clsP p = 4 ∨ clsP p = -4) ↔ _ at hf
  by_cases h1 : verP p = 1
  · have h2 := hf.2 (ver_out hp hV h1)
    rcases h2 with h2 | h2
    · exact .inl ⟨decide_eq_true h1, decide_eq_false (by omega), decide_eq_false (by omega)⟩
    · exact .inr (.inl ⟨decide_eq_true h1, decide_eq_false (by omega), decide_eq_true (by omega), decide_eq_false (by omega)⟩)
  by_cases h2 : verP p = 0
  · have h3 : ¬ (clsP p = 4 ∨ clsP p = -4) := fun h => ver_in hp hV h2 (hf.1 h)
    exact .inr (.inr (.inl ⟨decide_eq_false h1, decide_eq_true h2, decide_eq_false (by omega), decide_eq_false (by omega)⟩))
  · exact .inr (.inr (.inr ⟨decide_eq_false h1, decide_eq_false h2⟩))
section
variable {inl : Inl} {tm : Nat → AVal} {hp : Heap} {nc : Nat} {Q : Out → St → Prop}
theorem tel_ev {n1 : Nat} {p : Pt} {v : AVal} {cl : List Int} {w : Int} {ml : List Int} (k12 : tm 12 = v) (k16 : tm 16 = .ptr (6014008, n1) 0 0 0 0) (k19 : tm 19 = .int .i64 0) (k20 : tm 20 = .int .i64 (clsP p)) (k21 : tm 21 = .int .i64 0)
    (ho : OwnO [6025003] hp v (i64s cl)) (h1 : 1 ≤ cl.length) (hck : clsOk cl) (hpt : ptOk p) (h0 : 0 ≤ p.h) (hu : U p.l) (hb : Bt (natL ml) (kN cl))
    (ks : hp (6014008, n1) = some (.var (SnC ⟨2, verP p, w, 0, ruleI (natL ml) 0, ruleI (natL ml) 1, ruleI (natL ml) 2, ruleI (natL ml) 3, ruleI (natL ml) 4, ruleI (natL ml) 5, ruleI (natL ml) 6, ruleI (natL ml) 7⟩)))
    (hK : ∀ tm' hp' nc', tm' 12 = tm 12 → tm' 47 = tm 47 → (∀ k : Key, k.1 ≠ 6028005 → hp' k = hp k) → Q .nrm ⟨tm', hp', nc'⟩) :
    Ev (C := C51) (inl := inl) 6 x6tel ⟨tm, hp, nc⟩ Q := by
  have hr := rule_rx hb
  have r0 := hr 0; have r1 := hr 1; have r2 := hr 2; have r3 := hr 3; have r4 := hr 4; have r5 := hr 5; have r6 := hr 6; have r7 := hr 7
  have e24 := F24_eq (Rw.slc cl) hck
  obtain ⟨kk, hkk, hlx⟩ := ho.lendX (by simpa [i64s] using h1) 63 (plainL_ints _ _ _)
  have hlv := hlx hp (fun _ _ => rfl)
  have hdk : ∀ (v : AVal), dropK v kk hp (6014008, n1) = hp (6014008, n1) := fun v => dropK_ne hkk (by simp) v hp
  have hvc := ver_cases hpt h0 hu
  generalize clsP p = k at *
  generalize verP p = ve at *
  clear hr hb hlx
  unfold yesA at e24
  generalize ruleI (natL ml) 0 = a0 at *
  generalize ruleI (natL ml) 1 = a1 at *
  generalize ruleI (natL ml) 2 = a2 at *
  generalize ruleI (natL ml) 3 = a3 at *
  generalize ruleI (natL ml) 4 = a4 at *
  generalize ruleI (natL ml) 5 = a5 at *
  generalize ruleI (natL ml) 6 = a6 at *
  generalize ruleI (natL ml) 7 = a7 at *
  generalize ruleI (sing (kN cl)) 0 = b0 at *
  generalize ruleI (sing (kN cl)) 1 = b1 at *
  generalize ruleI (sing (kN cl)) 2 = b2 at *
  generalize ruleI (sing (kN cl)) 3 = b3 at *
  generalize ruleI (sing (kN cl)) 4 = b4 at *
  generalize ruleI (sing (kN cl)) 5 = b5 at *
  generalize ruleI (sing (kN cl)) 6 = b6 at *
  generalize ruleI (sing (kN cl)) 7 = b7 at *
  rcases hvc with ⟨v1, v2, v3⟩ | ⟨v1, v2, v3, v4⟩ | ⟨v1, v2, v3, v4⟩ | ⟨v1, v2⟩
  ·
    simp (disch := first | omega | simp only [*, go_sem, ↓reduceIte, dropK_eq]) only [x6tel, go_sem, ↓reduceIte, dropK_eq, k12, k16, k19, k20, k21, callX_names (C := C51) (g := 24) rfl, ftC_names (C := C51) (g := 24) rfl, hlv, e24, hdk, ks, v1, v2, v3]
    refine Ev_rangeH (ti := 171) (len := 8) (J := fun i tm' => True) (by decide) (by simp only [go_sem, ↓reduceIte, dropK_eq]) trivial ?_
    rintro j tm' nc' hj hc k171 -
    have q12 := hc 12 rfl; have q22 := hc 22 rfl; have q47 := hc 47 rfl; have q170 := hc 170 rfl; simp only [go_sem, ↓reduceIte, dropK_eq, k12] at q12 q22 q47 q170
    rcases Nat.lt_or_ge j 8 with h8 | h8
    · rcases (show j = 0 ∨ j = 1 ∨ j = 2 ∨ j = 3 ∨ j = 4 ∨ j = 5 ∨ j = 6 ∨ j = 7 by omega) with rfl | rfl | rfl | rfl | rfl | rfl | rfl | rfl
      · rcases rx_cases r0 with ⟨u1, u2, u3⟩ | ⟨u1, u2, u3⟩ | ⟨u1, u2, u3⟩ <;> simp (disch := first | omega | simp only [*, go_sem, ↓reduceIte, dropK_eq]) only [x6l32, go_sem, ↓reduceIte, dropK_eq, k171, q22, q170, u1, u2, u3]
      · rcases rx_cases r1 with ⟨u1, u2, u3⟩ | ⟨u1, u2, u3⟩ | ⟨u1, u2, u3⟩ <;> simp (disch := first | omega | simp only [*, go_sem, ↓reduceIte, dropK_eq]) only [x6l32, go_sem, ↓reduceIte, dropK_eq, k171, q22, q170, u1, u2, u3]
      · rcases rx_cases r2 with ⟨u1, u2, u3⟩ | ⟨u1, u2, u3⟩ | ⟨u1, u2, u3⟩ <;> simp (disch := first | omega | simp only [*, go_sem, ↓reduceIte, dropK_eq]) only [x6l32, go_sem, ↓reduceIte, dropK_eq, k171, q22, q170, u1, u2, u3]
      · rcases rx_cases r3 with ⟨u1, u2, u3⟩ | ⟨u1, u2, u3⟩ | ⟨u1, u2, u3⟩ <;> simp (disch := first | omega | simp only [*, go_sem, ↓reduceIte, dropK_eq]) only [x6l32, go_sem, ↓reduceIte, dropK_eq, k171, q22, q170, u1, u2, u3]
      · rcases rx_cases r4 with ⟨u1, u2, u3⟩ | ⟨u1, u2, u3⟩ | ⟨u1, u2, u3⟩ <;> simp (disch := first | omega | simp only [*, go_sem, ↓reduceIte, dropK_eq]) only [x6l32, go_sem, ↓reduceIte, dropK_eq, k171, q22, q170, u1, u2, u3]
      · rcases rx_cases r5 with ⟨u1, u2, u3⟩ | ⟨u1, u2, u3⟩ | ⟨u1, u2, u3⟩ <;> simp (disch := first | omega | simp only [*, go_sem, ↓reduceIte, dropK_eq]) only [x6l32, go_sem, ↓reduceIte, dropK_eq, k171, q22, q170, u1, u2, u3]
      · rcases rx_cases r6 with ⟨u1, u2, u3⟩ | ⟨u1, u2, u3⟩ | ⟨u1, u2, u3⟩ <;> simp (disch := first | omega | simp only [*, go_sem, ↓reduceIte, dropK_eq]) only [x6l32, go_sem, ↓reduceIte, dropK_eq, k171, q22, q170, u1, u2, u3]
      · rcases rx_cases r7 with ⟨u1, u2, u3⟩ | ⟨u1, u2, u3⟩ | ⟨u1, u2, u3⟩ <;> simp (disch := first | omega | simp only [*, go_sem, ↓reduceIte, dropK_eq]) only [x6l32, go_sem, ↓reduceIte, dropK_eq, k171, q22, q170, u1, u2, u3]
    · obtain rfl : j = 8 := by omega
      simp (disch := first | omega | simp only [*, go_sem, ↓reduceIte, dropK_eq]) only [x6l32, go_sem, ↓reduceIte, dropK_eq, k171, q12, q47]
      refine hK _ _ _ ?_ ?_ (fun k' hk' => by repeat rw [upd_ne _ _ (by rintro rfl; exact hk' rfl)])
      · simp only [go_sem, ↓reduceIte, dropK_eq, q12, k12]
      · simp only [go_sem, ↓reduceIte, dropK_eq, q47]
  ·
    simp (disch := first | omega | simp only [*, go_sem, ↓reduceIte, dropK_eq]) only [x6tel, go_sem, ↓reduceIte, dropK_eq, k12, k16, k19, k20, k21, callX_names (C := C51) (g := 24) rfl, ftC_names (C := C51) (g := 24) rfl, hlv, e24, hdk, ks, v1, v2, v3, v4]
    refine Ev_rangeH (ti := 171) (len := 8) (J := fun i tm' => True) (by decide) (by simp only [go_sem, ↓reduceIte, dropK_eq]) trivial ?_
    rintro j tm' nc' hj hc k171 -
    have q12 := hc 12 rfl; have q22 := hc 22 rfl; have q47 := hc 47 rfl; have q170 := hc 170 rfl; simp only [go_sem, ↓reduceIte, dropK_eq, k12] at q12 q22 q47 q170
    rcases Nat.lt_or_ge j 8 with h8 | h8
    · rcases (show j = 0 ∨ j = 1 ∨ j = 2 ∨ j = 3 ∨ j = 4 ∨ j = 5 ∨ j = 6 ∨ j = 7 by omega) with rfl | rfl | rfl | rfl | rfl | rfl | rfl | rfl
      · rcases rx_cases r0 with ⟨u1, u2, u3⟩ | ⟨u1, u2, u3⟩ | ⟨u1, u2, u3⟩ <;> simp (disch := first | omega | simp only [*, go_sem, ↓reduceIte, dropK_eq]) only [x6l32, go_sem, ↓reduceIte, dropK_eq, k171, q22, q170, u1, u2, u3]
      · rcases rx_cases r1 with ⟨u1, u2, u3⟩ | ⟨u1, u2, u3⟩ | ⟨u1, u2, u3⟩ <;> simp (disch := first | omega | simp only [*, go_sem, ↓reduceIte, dropK_eq]) only [x6l32, go_sem, ↓reduceIte, dropK_eq, k171, q22, q170, u1, u2, u3]
      · rcases rx_cases r2 with ⟨u1, u2, u3⟩ | ⟨u1, u2, u3⟩ | ⟨u1, u2, u3⟩ <;> simp (disch := first | omega | simp only [*, go_sem, ↓reduceIte, dropK_eq]) only [x6l32, go_sem, ↓reduceIte, dropK_eq, k171, q22, q170, u1, u2, u3]
      · rcases rx_cases r3 with ⟨u1, u2, u3⟩ | ⟨u1, u2, u3⟩ | ⟨u1, u2, u3⟩ <;> simp (disch := first | omega | simp only [*, go_sem, ↓reduceIte, dropK_eq]) only [x6l32, go_sem, ↓reduceIte, dropK_eq, k171, q22, q170, u1, u2, u3]
      · rcases rx_cases r4 with ⟨u1, u2, u3⟩ | ⟨u1, u2, u3⟩ | ⟨u1, u2, u3⟩ <;> simp (disch := first | omega | simp only [*, go_sem, ↓reduceIte, dropK_eq]) only [x6l32, go_sem, ↓reduceIte, dropK_eq, k171, q22, q170, u1, u2, u3]
      · rcases rx_cases r5 with ⟨u1, u2, u3⟩ | ⟨u1, u2, u3⟩ | ⟨u1, u2, u3⟩ <;> simp (disch := first | omega | simp only [*, go_sem, ↓reduceIte, dropK_eq]) only [x6l32, go_sem, ↓reduceIte, dropK_eq, k171, q22, q170, u1, u2, u3]
      · rcases rx_cases r6 with ⟨u1, u2, u3⟩ | ⟨u1, u2, u3⟩ | ⟨u1, u2, u3⟩ <;> simp (disch := first | omega | simp only [*, go_sem, ↓reduceIte, dropK_eq]) only [x6l32, go_sem, ↓reduceIte, dropK_eq, k171, q22, q170, u1, u2, u3]
      · rcases rx_cases r7 with ⟨u1, u2, u3⟩ | ⟨u1, u2, u3⟩ | ⟨u1, u2, u3⟩ <;> simp (disch := first | omega | simp only [*, go_sem, ↓reduceIte, dropK_eq]) only [x6l32, go_sem, ↓reduceIte, dropK_eq, k171, q22, q170, u1, u2, u3]
    · obtain rfl : j = 8 := by omega
      simp (disch := first | omega | simp only [*, go_sem, ↓reduceIte, dropK_eq]) only [x6l32, go_sem, ↓reduceIte, dropK_eq, k171, q12, q47]
      refine hK _ _ _ ?_ ?_ (fun k' hk' => by repeat rw [upd_ne _ _ (by rintro rfl; exact hk' rfl)])
      · simp only [go_sem, ↓reduceIte, dropK_eq, q12, k12]
      · simp only [go_sem, ↓reduceIte, dropK_eq, q47]
  ·
    simp (disch := first | omega | simp only [*, go_sem, ↓reduceIte, dropK_eq]) only [x6tel, go_sem, ↓reduceIte, dropK_eq, k12, k16, k19, k20, k21, callX_names (C := C51) (g := 24) rfl, ftC_names (C := C51) (g := 24) rfl, hlv, e24, hdk, ks, v1, v2, v3, v4]
    refine Ev_rangeH (ti := 171) (len := 8) (J := fun i tm' => True) (by decide) (by simp only [go_sem, ↓reduceIte, dropK_eq]) trivial ?_
    rintro j tm' nc' hj hc k171 -
    have q12 := hc 12 rfl; have q22 := hc 22 rfl; have q47 := hc 47 rfl; have q170 := hc 170 rfl; simp only [go_sem, ↓reduceIte, dropK_eq, k12] at q12 q22 q47 q170
    rcases Nat.lt_or_ge j 8 with h8 | h8
    · rcases (show j = 0 ∨ j = 1 ∨ j = 2 ∨ j = 3 ∨ j = 4 ∨ j = 5 ∨ j = 6 ∨ j = 7 by omega) with rfl | rfl | rfl | rfl | rfl | rfl | rfl | rfl
      · rcases rx_cases r0 with ⟨u1, u2, u3⟩ | ⟨u1, u2, u3⟩ | ⟨u1, u2, u3⟩ <;> simp (disch := first | omega | simp only [*, go_sem, ↓reduceIte, dropK_eq]) only [x6l32, go_sem, ↓reduceIte, dropK_eq, k171, q22, q170, u1, u2, u3]
      · rcases rx_cases r1 with ⟨u1, u2, u3⟩ | ⟨u1, u2, u3⟩ | ⟨u1, u2, u3⟩ <;> simp (disch := first | omega | simp only [*, go_sem, ↓reduceIte, dropK_eq]) only [x6l32, go_sem, ↓reduceIte, dropK_eq, k171, q22, q170, u1, u2, u3]
      · rcases rx_cases r2 with ⟨u1, u2, u3⟩ | ⟨u1, u2, u3⟩ | ⟨u1, u2, u3⟩ <;> simp (disch := first | omega | simp only [*, go_sem, ↓reduceIte, dropK_eq]) only [x6l32, go_sem, ↓reduceIte, dropK_eq, k171, q22, q170, u1, u2, u3]
      · rcases rx_cases r3 with ⟨u1, u2, u3⟩ | ⟨u1, u2, u3⟩ | ⟨u1, u2, u3⟩ <;> simp (disch := first | omega | simp only [*, go_sem, ↓reduceIte, dropK_eq]) only [x6l32, go_sem, ↓reduceIte, dropK_eq, k171, q22, q170, u1, u2, u3]
      · rcases rx_cases r4 with ⟨u1, u2, u3⟩ | ⟨u1, u2, u3⟩ | ⟨u1, u2, u3⟩ <;> simp (disch := first | omega | simp only [*, go_sem, ↓reduceIte, dropK_eq]) only [x6l32, go_sem, ↓reduceIte, dropK_eq, k171, q22, q170, u1, u2, u3]
      · rcases rx_cases r5 with ⟨u1, u2, u3⟩ | ⟨u1, u2, u3⟩ | ⟨u1, u2, u3⟩ <;> simp (disch := first | omega | simp only [*, go_sem, ↓reduceIte, dropK_eq]) only [x6l32, go_sem, ↓reduceIte, dropK_eq, k171, q22, q170, u1, u2, u3]
      · rcases rx_cases r6 with ⟨u1, u2, u3⟩ | ⟨u1, u2, u3⟩ | ⟨u1, u2, u3⟩ <;> simp (disch := first | omega | simp only [*, go_sem, ↓reduceIte, dropK_eq]) only [x6l32, go_sem, ↓reduceIte, dropK_eq, k171, q22, q170, u1, u2, u3]
      · rcases rx_cases r7 with ⟨u1, u2, u3⟩ | ⟨u1, u2, u3⟩ | ⟨u1, u2, u3⟩ <;> simp (disch := first | omega | simp only [*, go_sem, ↓reduceIte, dropK_eq]) only [x6l32, go_sem, ↓reduceIte, dropK_eq, k171, q22, q170, u1, u2, u3]
    · obtain rfl : j = 8 := by omega
      simp (disch := first | omega | simp only [*, go_sem, ↓reduceIte, dropK_eq]) only [x6l32, go_sem, ↓reduceIte, dropK_eq, k171, q12, q47]
      refine hK _ _ _ ?_ ?_ (fun k' hk' => by repeat rw [upd_ne _ _ (by rintro rfl; exact hk' rfl)])
      · simp only [go_sem, ↓reduceIte, dropK_eq, q12, k12]
      · simp only [go_sem, ↓reduceIte, dropK_eq, q47]
  ·
    simp (disch := first | omega | simp only [*, go_sem, ↓reduceIte, dropK_eq]) only [x6tel, go_sem, ↓reduceIte, dropK_eq, k12, k16, k19, k20, k21, callX_names (C := C51) (g := 24) rfl, ftC_names (C := C51) (g := 24) rfl, hlv, e24, hdk, ks, v1, v2]
    refine Ev_rangeH (ti := 171) (len := 8) (J := fun i tm' => True) (by decide) (by simp only [go_sem, ↓reduceIte, dropK_eq]) trivial ?_
    rintro j tm' nc' hj hc k171 -
    have q12 := hc 12 rfl; have q22 := hc 22 rfl; have q47 := hc 47 rfl; have q170 := hc 170 rfl; simp only [go_sem, ↓reduceIte, dropK_eq, k12] at q12 q22 q47 q170
    rcases Nat.lt_or_ge j 8 with h8 | h8
    · rcases (show j = 0 ∨ j = 1 ∨ j = 2 ∨ j = 3 ∨ j = 4 ∨ j = 5 ∨ j = 6 ∨ j = 7 by omega) with rfl | rfl | rfl | rfl | rfl | rfl | rfl | rfl
      · rcases rx_cases r0 with ⟨u1, u2, u3⟩ | ⟨u1, u2, u3⟩ | ⟨u1, u2, u3⟩ <;> simp (disch := first | omega | simp only [*, go_sem, ↓reduceIte, dropK_eq]) only [x6l32, go_sem, ↓reduceIte, dropK_eq, k171, q22, q170, u1, u2, u3]
      · rcases rx_cases r1 with ⟨u1, u2, u3⟩ | ⟨u1, u2, u3⟩ | ⟨u1, u2, u3⟩ <;> simp (disch := first | omega | simp only [*, go_sem, ↓reduceIte, dropK_eq]) only [x6l32, go_sem, ↓reduceIte, dropK_eq, k171, q22, q170, u1, u2, u3]
      · rcases rx_cases r2 with ⟨u1, u2, u3⟩ | ⟨u1, u2, u3⟩ | ⟨u1, u2, u3⟩ <;> simp (disch := first | omega | simp only [*, go_sem, ↓reduceIte, dropK_eq]) only [x6l32, go_sem, ↓reduceIte, dropK_eq, k171, q22, q170, u1, u2, u3]
      · rcases rx_cases r3 with ⟨u1, u2, u3⟩ | ⟨u1, u2, u3⟩ | ⟨u1, u2, u3⟩ <;> simp (disch := first | omega | simp only [*, go_sem, ↓reduceIte, dropK_eq]) only [x6l32, go_sem, ↓reduceIte, dropK_eq, k171, q22, q170, u1, u2, u3]
      · rcases rx_cases r4 with ⟨u1, u2, u3⟩ | ⟨u1, u2, u3⟩ | ⟨u1, u2, u3⟩ <;> simp (disch := first | omega | simp only [*, go_sem, ↓reduceIte, dropK_eq]) only [x6l32, go_sem, ↓reduceIte, dropK_eq, k171, q22, q170, u1, u2, u3]
      · rcases rx_cases r5 with ⟨u1, u2, u3⟩ | ⟨u1, u2, u3⟩ | ⟨u1, u2, u3⟩ <;> simp (disch := first | omega | simp only [*, go_sem, ↓reduceIte, dropK_eq]) only [x6l32, go_sem, ↓reduceIte, dropK_eq, k171, q22, q170, u1, u2, u3]
      · rcases rx_cases r6 with ⟨u1, u2, u3⟩ | ⟨u1, u2, u3⟩ | ⟨u1, u2, u3⟩ <;> simp (disch := first | omega | simp only [*, go_sem, ↓reduceIte, dropK_eq]) only [x6l32, go_sem, ↓reduceIte, dropK_eq, k171, q22, q170, u1, u2, u3]
      · rcases rx_cases r7 with ⟨u1, u2, u3⟩ | ⟨u1, u2, u3⟩ | ⟨u1, u2, u3⟩ <;> simp (disch := first | omega | simp only [*, go_sem, ↓reduceIte, dropK_eq]) only [x6l32, go_sem, ↓reduceIte, dropK_eq, k171, q22, q170, u1, u2, u3]
    · obtain rfl : j = 8 := by omega
      simp (disch := first | omega | simp only [*, go_sem, ↓reduceIte, dropK_eq]) only [x6l32, go_sem, ↓reduceIte, dropK_eq, k171, q12, q47]
      refine hK _ _ _ ?_ ?_ (fun k' hk' => by repeat rw [upd_ne _ _ (by rintro rfl; exact hk' rfl)])
      · simp only [go_sem, ↓reduceIte, dropK_eq, q12, k12]
      · simp only [go_sem, ↓reduceIte, dropK_eq, q47]
end
set_option maxRecDepth 10000
theorem law6 {chart size m : Int} {a : AVal} {l : List Int} (ha : Rw a l) (hl : l.length ≤ 100000000000000) : pureF C51 1 6 [.int .i64 chart, .int .i64 size, .int .i64 m, a] = some (.bool true) := by
  obtain ⟨hc, ht⟩ := someC_ok chart size m
  have hcs := someC_some chart size m
  have e8 := F8_eq (chart := chart) (size := size) (m := m)
  generalize someC chart size m = c at *
  have e9 := F9_ok hc ht
  have hE := newE_ok hc ht
  have e11 := F11_eq
  have htk := ha.sliceTo (n := min l.length 60) (by omega)
  have hta := ha.take (min l.length 60)
  have hlt := hta.len
  have hl2 : (l.take (min l.length 60)).length ≤ 60 := by rw [List.length_take]; omega
  have hmn : mnxA false (.int .i64 (l.length : Int)) [.int .i64 60] = some (.int .i64 ((min l.length 60 : Nat) : Int)) := by
    rw [mnx_min]; refine congrArg (fun z => some (AVal.int .i64 z)) ?_; omega
  have hlen := ha.len
  have hap := ha.plain
  generalize l.take (min l.length 60) = l2 at hlt hta hl2
  generalize rwTake (min l.length 60) a = a2 at *
  have s1 := hE.m.sc
  have s2 : isSc (newE c).hv = true := by rw [hE.h]; rfl
  have h0n : (newE c).n = 0 := by unfold newE; repeat' split
                                  all_goals rfl
  refine pureF_of (x := x6) rfl rfl ?_
  rw [x6_eq.1, x6_eq.2.1]
  simp (disch := first | omega | simp only [*, go_sem, ↓reduceIte, dropK_eq]) only [x6b, go_sem, ↓reduceIte, dropK_eq, callX_known (C := C51) (g := 8) rfl, ft_call (C := C51) (g := 8) rfl, callX_known (C := C51) (g := 9) rfl, ft_call (C := C51) (g := 9) rfl, callX_known (C := C51) (g := 11) rfl, ft_call (C := C51) (g := 11) rfl, e8, e9, e11, s1, s2, hlen, hmn, htk, hlt]
  have hS0 : Sur c 0 (newE c) [] := ⟨hE, h0n, ⟨by decide, by intro c hc; cases hc⟩, by
    have : (newE c).mv = .nils := newE_nils.2
    rw [this]
    exact .nil, fun _ => rfl⟩
  refine Ev_range (ti := 47) (len := l2.length) (J := fun i tm hp nc => ∃ e cl, hp (6002005, 2) = some (.var (EC e)) ∧ hp (6001004, 1) = some (.var (ChC c)) ∧ OwnO [6025003] hp (tm 12) (i64s cl) ∧ Sur c i e cl) (by omega) (by simp only [go_sem, ↓reduceIte, dropK_eq]) ?_ ?_
  · refine ⟨newE c, [], ?_, ?_, ?_, hS0⟩
    · simp only [go_sem, ↓reduceIte, dropK_eq]
    · simp only [go_sem, ↓reduceIte, dropK_eq]
    · simp only [go_sem, ↓reduceIte, dropK_eq]
      exact .inl ⟨rfl, rfl⟩
  rintro i tm hp nc hi' hc0 k47 ⟨e, cl, kq, kc, ho, hS⟩
  have q9 := hc0 9 rfl; have q10 := hc0 10 rfl; have q45 := hc0 45 rfl; have q46 := hc0 46 rfl; simp only [go_sem, ↓reduceIte, dropK_eq] at q9 q10 q45 q46
  have hcl := hS.ck.1
  obtain ⟨v, hv⟩ : ∃ v, tm 12 = v := ⟨_, rfl⟩
  rw [hv] at ho
  simp only [x6l7_eq]
  rcases Nat.lt_or_ge i l2.length with hlt2 | hge2
  · have d1 : decide ((i : Int) < (l2.length : Int)) = true := decide_eq_true (by omega)
    have ia := hta.ia hlt2
    generalize l2.getD i 0 = y at ia
    obtain ⟨hst, hE2, hN2⟩ := hS.st hcs (by omega) y
    have e12 := (stE_ok c).go _ (adjI c y) hS.ok
    rw [hst] at e12
    have b1 := hS.ok.m.sc
    have b2 : isSc e.hv = true := by rw [hS.ok.h]; rfl
    have b3 := hE2.m.sc
    have b4 : isSc (nxE e (adjI c y)).hv = true := by rw [hE2.h]; rfl
    have p1 := hS.ok.m.plain
    have p2 : ∀ d, plain d e.hv = true := fun d => by rw [hS.ok.h]; exact plain_nils d
    have hln := ho.len
    simp (disch := first | omega | simp only [*, go_sem, ↓reduceIte, dropK_eq]) only [go_sem, ↓reduceIte, dropK_eq, q9, q45, q46, k47, d1, ia]
    refine (adj_ev (x := y) hcs ?_ ?_ ?_).mono ?_
    · simp only [go_sem, ↓reduceIte, dropK_eq, q9]
    · simp only [go_sem, ↓reduceIte, dropK_eq]
    · simp only [go_sem, ↓reduceIte, dropK_eq, kc]
    rintro o ⟨tm', hp', nc'⟩ ⟨h1, h2, j14, j9, j10, j12, j47⟩
    simp only [go_sem, ↓reduceIte, dropK_eq, q9, q10, hv, k47] at h1 h2 j14 j9 j10 j12 j47
    subst h1 h2
    simp only [go_sem, ↓reduceIte, dropK_eq]
    by_cases hl : lrnd e
    · have hS' := hS.point hcs (by omega) y hl
      obtain ⟨z1, z2, z3, z4, z5, z6, w, z7⟩ := step_point hS.ok (adj_smp hcs y) hl
      rw [z7] at e12
      generalize hY : adjI c y = Y at *
      simp (disch := first | omega | simp only [*, go_sem, ↓reduceIte, dropK_eq]) only [x6stp, go_sem, ↓reduceIte, dropK_eq, j9, j10, j12, j14, j47, kq, kc, b1, b2, b3, b4, p1, p2, callX_known (C := C51) (g := 12) rfl, ft_call (C := C51) (g := 12) rfl, e12]
      refine pt_ev (c := c) (x := Y) (e := e) hcs hS.ok (hY ▸ adj_smp hcs y) hl ?_ ?_ ?_ ?_ ?_ ?_
      · simp only [go_sem, ↓reduceIte, dropK_eq, j9]
      · simp only [go_sem, ↓reduceIte, dropK_eq, j10]
      · simp only [go_sem, ↓reduceIte, dropK_eq, j14]
      · simp only [go_sem, ↓reduceIte, dropK_eq, kc]
      · simp only [go_sem, ↓reduceIte, dropK_eq]
      rintro tm2 hp2 nc2 n1 g12 g16 g47 g18 g19 gp gh
      simp only [go_sem, ↓reduceIte, dropK_eq, j12, j47] at g12 g16 g47
      refine cls_ev (p := ptE e Y) (v := v) (cl := cl) g12 g18 (ho.keep fun k hk => ?_) hS.ck gp z1 z2 z3 ?_
      · simp at hk
        rw [gh k (by omega)]
        repeat rw [upd_ne _ _ (by rintro rfl; simp at hk)]
      rintro tm3 hp3 nc3 v3 f12 f16 f19 f20 f21 f47 ho3 fh
      rw [g16] at f16; rw [g19] at f19; rw [g47] at f47
      have hcl2 : clsOk ((cl ++ [clsP (ptE e Y)]).drop (cl.length - 14)) := hS'.ck
      refine tel_ev (p := ptE e Y) (w := w) (ml := mlOf (nxE e Y).mv) f12 f16 f19 f20 f21 ho3 (by simp; omega) hcl2 z1 z2 z3 hS'.bt ?_ ?_
      · rw [fh _ (by simp) (by simp), gh _ (by simp)]
        simp only [go_sem, ↓reduceIte, dropK_eq]
      rintro tm4 hp4 nc4 u12 u47 uh
      rw [f12] at u12; rw [f47] at u47
      simp (disch := first | omega | simp only [*, go_sem, ↓reduceIte, dropK_eq]) only [go_sem, ↓reduceIte, dropK_eq, u47]
      refine ⟨hlt2, by simp, _, _, ?_, ?_, ?_, hS'⟩
      · rw [uh _ (by simp), fh _ (by simp) (by simp), gh _ (by simp)]
        simp only [go_sem, ↓reduceIte, dropK_eq]
      · rw [uh _ (by simp), fh _ (by simp) (by simp), gh _ (by simp)]
        simp only [go_sem, ↓reduceIte, dropK_eq, kc]
      · rw [u12]
        refine ho3.keep fun k hk => ?_
        rw [uh _ (by simp at hk; omega)]
    · obtain ⟨z7, hcl0, hS'⟩ := hS.learn hcs (by omega) y hl
      rw [z7] at e12
      subst hcl0
      generalize hY : adjI c y = Y at *
      simp (disch := first | omega | simp only [*, go_sem, ↓reduceIte, dropK_eq]) only [x6stp, go_sem, ↓reduceIte, dropK_eq, j9, j10, j12, j14, j47, kq, kc, b1, b2, b3, b4, p1, p2, callX_known (C := C51) (g := 12) rfl, ft_call (C := C51) (g := 12) rfl, e12, hln, i64s, List.map_nil, List.length_nil]
      refine ⟨hlt2, by simp, _, _, rfl, ho.keep fun k hk => ?_, hS'⟩
      simp at hk
      repeat rw [upd_ne _ _ (by rintro rfl; simp at hk)]
  · obtain rfl : i = l2.length := by omega
    have d1 : decide ((l2.length : Int) < (l2.length : Int)) = false := decide_eq_false (by omega)
    simp (disch := first | omega | simp only [*, go_sem, ↓reduceIte, dropK_eq]) only [go_sem, ↓reduceIte, dropK_eq, q9, q45, q46, k47, d1]
    exact Ends_plain rfl rfl
theorem law6w (xs : List AVal) (h : WTL [.int .i64, .int .i64, .int .i64, .slice 1 8 (.int .i64)] xs) : pureF C51 1 6 xs = some (.bool true) := by
  simp only [WTL] at h
  obtain ⟨a, _, rfl, ha, b, _, rfl, hb, c, _, rfl, hc, q, _, rfl, hq, rfl⟩ := h
  rw [WT] at ha hb hc
  obtain ⟨n, rfl, hn1, hn2⟩ := ha
  obtain ⟨x, rfl, hx1, hx2⟩ := hb
  obtain ⟨y, rfl, hy1, hy2⟩ := hc
  obtain ⟨l, hl, hl2, hl3⟩ := wt_ints hq
  exact law6 hl (by omega)
end Go.Proofs.YtldineoabbodpaaGreatDoor
namespace Go.Proofs.YtldineoabbodpaaGreatDoor
open Go Go.Xec Go.ChangeShapes Go.WideShapes Go.ChangeAt Go.RowKit
theorem seatOwn : ownKnob Tryz.prog.godebug = none := by kernel_rfl
theorem seatLaidOut : laidOutB Tryz.prog = true := by kernel_rfl
theorem gv0 : Tryz.prog.globalNamed "math/bits.deBruijn32tab" = some 0 := by kernel_rfl
theorem gv1 : Tryz.prog.globalNamed "math/bits.deBruijn64tab" = some 1 := by kernel_rfl
abbrev seatList : List (String × DataW Unit) := Rows.channelStillRow.laid
theorem laid_of_met {W : World} (h : laidMetH Tryz.prog seatList W) (hS : W.ShapedOpen Tryz.prog) : Laid Tryz.prog W := by
  rw [Go.MakeChecks.laidMetH_plain _ _ _ (by kernel_rfl)] at h
  have h1 := h.tail
  refine ⟨?_, ?_, ?_, ?_⟩
  · intro t ht hne
    simp only [tabs, List.mem_cons, List.not_mem_nil, or_false] at ht
    rcases ht with rfl | rfl
    · exact absurd (by kernel_rfl : Tryz.prog.globalNamed "internal/strconv.uint64pow10" = none) hne
    · exact Lib.tabIs_of_head (k := .u8) (zs := Lib.deBruijn64tab.map Int.ofNat) gv1 (t := 255) (e := 5) (n := 64) (by kernel_rfl) (by kernel_rfl) (by kernel_rfl) (by kernel_rfl) (by kernel_rfl) h1
  · intro n hn hg
    simp only [errs, List.mem_cons, List.not_mem_nil, or_false] at hn
    rcases hn with rfl | rfl
    · exact absurd (by kernel_rfl : Tryz.prog.globalNamed "strconv.ErrSyntax" = none) hg
    · exact absurd (by kernel_rfl : Tryz.prog.globalNamed "strconv.ErrRange" = none) hg
  · intro g hg
    rw [(by kernel_rfl : Tryz.prog.globalNamed "internal/bytealg.MaxLen" = none)] at hg
    cases hg
  · intro hg
    exact absurd (by kernel_rfl : Tryz.prog.globalNamed "errors.errorType" = none) hg
noncomputable def laidWorld (os : Os) : World :=
  let w0 := World.holding Tryz.prog os ⟨#[], #[], []⟩
  let put (h : Array Obj) (g : Nat) (cs : Array Value) : Array Obj := h.modify g fun
    | .cells _ t frozen => .cells cs t frozen
    | o => o
  let k1 := put w0.heap 0 #[.int .u8 0, .int .u8 1, .int .u8 28, .int .u8 2, .int .u8 29, .int .u8 14, .int .u8 24, .int .u8 3, .int .u8 30, .int .u8 22, .int .u8 20, .int .u8 15, .int .u8 25, .int .u8 17, .int .u8 4, .int .u8 8, .int .u8 31, .int .u8 27, .int .u8 13, .int .u8 23, .int .u8 21, .int .u8 19, .int .u8 16, .int .u8 7, .int .u8 26, .int .u8 12, .int .u8 18, .int .u8 6, .int .u8 11, .int .u8 5, .int .u8 10, .int .u8 9]
  let k2 := put k1 1 #[.int .u8 0, .int .u8 1, .int .u8 56, .int .u8 2, .int .u8 57, .int .u8 49, .int .u8 28, .int .u8 3, .int .u8 61, .int .u8 58, .int .u8 42, .int .u8 50, .int .u8 38, .int .u8 29, .int .u8 17, .int .u8 4, .int .u8 62, .int .u8 47, .int .u8 59, .int .u8 36, .int .u8 45, .int .u8 43, .int .u8 51, .int .u8 22, .int .u8 53, .int .u8 39, .int .u8 33, .int .u8 30, .int .u8 24, .int .u8 18, .int .u8 12, .int .u8 5, .int .u8 63, .int .u8 55, .int .u8 48, .int .u8 27, .int .u8 60, .int .u8 41, .int .u8 37, .int .u8 16, .int .u8 46, .int .u8 35, .int .u8 44, .int .u8 21, .int .u8 52, .int .u8 32, .int .u8 23, .int .u8 11, .int .u8 54, .int .u8 26, .int .u8 40, .int .u8 15, .int .u8 34, .int .u8 20, .int .u8 31, .int .u8 10, .int .u8 25, .int .u8 14, .int .u8 19, .int .u8 9, .int .u8 13, .int .u8 8, .int .u8 7, .int .u8 6]
  { w0 with heap := k2 }
set_option maxRecDepth 100000 in
theorem laidWorld_met (os : Os) (args : Array Value) : laidMetH Tryz.prog seatList ((laidWorld os).forCall (fun _ _ => 0) ⟨#[], args, []⟩).memory := by
  rw [Go.MakeChecks.laidMetH_plain _ _ _ (by kernel_rfl)]
  exact laidMet_of_run' 8 (by kernel_rfl) (by kernel_rfl)
end Go.Proofs.YtldineoabbodpaaGreatDoor
