/-
  Laid together: part 6.
-/
import Derived.Test.YtldineoabbodpaaGreatDoorZC5
set_option linter.unusedVariables false
set_option linter.unusedSimpArgs false
namespace Go.Proofs.YtldineoabbodpaaGreatDoor
open Go Go.Xec
set_option maxRecDepth 10000
def intV : AVal → Int
  | .int _ n => n
  | _ => 0
def mlOf : AVal → List Int
  | .slc 1 xs => xs.map intV
  | _ => []
theorem mlOf_slc (l : List Int) : mlOf (.slc 1 (i64s l)) = l := by
  show (i64s l).map intV = l
  unfold i64s
  rw [List.map_map]
  exact List.map_id _
section
variable {c : REC.Ch} {e : En} {x : Int}
theorem ch_name (h : REC.chOk c) : c.n.length ≤ 1000000 := by have := h.1.2.2; omega
theorem ch_bnd (h : REC.chOk c) (ht : 1 ≤ c.t ∧ c.t ≤ 5) : (2 ≤ c.f3 ∧ c.f3 ≤ 25) ∧ (1 ≤ c.f4 ∧ c.f4 ≤ 1000000000) ∧ (c.t = 1 → -1000000 ≤ c.f1 ∧ c.f1 < c.f2 ∧ c.f2 ≤ 1000000) ∧ (c.t = 2 ∨ c.t = 3 ∨ c.t = 5 → 1 ≤ c.f0 ∧ c.f0 ≤ 1000) ∧ (c.t = 4 → c.f0 = 0) := by
  obtain ⟨_, _, h3, h4, _⟩ := h
  have k0 := h3 0 (by decide)
  have k1 := (h3 1 (by decide)).1
  have k2 := (h3 2 (by decide)).1
  have k3 := (h3 3 (by decide)).1
  have k4 := (h3 4 (by decide)).1
  have v0 : REC.vl c 0 = c.f0 := rfl
  have v1 : REC.vl c 1 = c.f1 := rfl
  have v2 : REC.vl c 2 = c.f2 := rfl
  have v3 : REC.vl c 3 = c.f3 := rfl
  have v4 : REC.vl c 4 = c.f4 := rfl
  rw [v0] at k0; rw [v1] at k1; rw [v2] at k2; rw [v3] at k3; rw [v4] at k4
  rcases (show c.t = 1 ∨ c.t = 2 ∨ c.t = 3 ∨ c.t = 4 ∨ c.t = 5 by omega) with t | t | t | t | t
  all_goals
    rw [t] at k0 k1 k2 k3 k4 h4 ⊢
    simp [REC.needB, REC.inF, REC.fd, REC.fdL, REC.mayB] at k0 k1 k2 k3 k4 h4
    omega
structure Eok (c : REC.Ch) (e : En) : Prop where
  ec : e.c = c
  ok : REC.chOk c
  n : 0 ≤ e.n ∧ e.n ≤ c.f4
  l : inM e.l
  g : e.gs = 0 ∧ e.gl = 0 ∧ e.gh = 0
  h : e.hv = .nils
  u : e.u = Cu0
  w : e.w = Ew0
  m : Rw e.mv (mlOf e.mv)
  k : mksOk (mlOf e.mv)
  p : (c.t = 1 ∧ baOk e.b ∧ e.b.s = 1 ∧ e.b.m ≤ c.f3 ∧ e.t = ⟨0, 0, 0, 0⟩) ∨ ((2 ≤ c.t ∧ c.t ≤ 5) ∧ tlOk e.t ∧ e.t.k = c.t ∧ e.t.s = max c.f0 1 ∧ e.t.m ≤ c.f3 ∧ e.b = ⟨0, 0, 0, 0, 0⟩)
theorem Eok.t (h : Eok c e) : 1 ≤ c.t ∧ c.t ≤ 5 := by rcases h.p with h | h <;> omega
theorem new_tl (h : REC.chOk c) (ht : 2 ≤ c.t ∧ c.t ≤ 5) : tlOk ⟨c.t, max c.f0 1, 0, 0⟩ := by
  have := ch_bnd h (by omega)
  refine ⟨⟨ht, ?_, ?_, ?_⟩, ?_, ?_⟩ <;> simp only <;> omega
theorem F9_ok (h : REC.chOk c) (ht : 1 ≤ c.t ∧ c.t ≤ 5) : F9 [.agg (ChC c)] = some (.tup [EK (newE c), .int .i64 0]) := by
  unfold newE
  by_cases h1 : c.t = 1
  · rw [F9_single (ch_name h) h h1, if_pos h1]
  · rw [F9_count (ch_name h) h (by omega) (new_tl h (by omega)), if_neg h1, if_neg (by omega), if_pos (by omega)]
theorem newE_ok (h : REC.chOk c) (ht : 1 ≤ c.t ∧ c.t ≤ 5) : Eok c (newE c) := by
  have hb := ch_bnd h ht
  have m0 : mksOk (mlOf .nils) := ⟨by decide, by intro m hm; cases hm⟩
  unfold newE
  by_cases h1 : c.t = 1
  · rw [if_pos h1]
    refine ⟨rfl, h, ⟨Int.le_refl _, by show (0 : Int) ≤ _; omega⟩, (show inM (0 : Int) by decide), ⟨rfl, rfl, rfl⟩, rfl, rfl, rfl, .inl ⟨rfl, rfl⟩, m0, .inl ⟨h1, (show baOk ⟨1, 0, 0, 0, 0⟩ by decide), rfl, by show (0 : Int) ≤ _; omega, rfl⟩⟩
  · rw [if_neg h1, if_neg (by omega), if_pos (by omega)]
    refine ⟨rfl, h, ⟨Int.le_refl _, by show (0 : Int) ≤ _; omega⟩, (show inM (0 : Int) by decide), ⟨rfl, rfl, rfl⟩, rfl, rfl, rfl, .inl ⟨rfl, rfl⟩, m0, .inr ⟨by omega, new_tl h (by omega), rfl, rfl, by show (0 : Int) ≤ _; omega, rfl⟩⟩
theorem newE_nils : (newE c).hv = .nils ∧ (newE c).mv = .nils := by
  unfold newE
  repeat' split
  all_goals exact ⟨rfl, rfl⟩
theorem Eok.out (h : Eok c e) : outE e [] (mlOf e.mv) := by
  obtain ⟨hc, ok, hn, hl, ⟨g1, g2, g3⟩, hh, hu, hw, hm, mk, hp⟩ := h
  have hr : restE e [] (mlOf e.mv) := by
    refine ⟨?_, by split <;> rfl, mk, .inl (by rw [hc]; rcases hp with h | h <;> omega)⟩
    rcases hp with ⟨h1, h2, h3, h4, h5⟩ | ⟨h1, h2, h3, h4, h5, h6⟩
    · rw [show bareE e = { e with b := ⟨0, 0, 0, 0, 0⟩ } by unfold bareE; rw [hc, if_neg (by omega), if_pos h1]]
      simp [noE, h5, hu, hw, g1, g2, g3]
    · rw [show bareE e = { e with t := ⟨0, 0, 0, 0⟩ } by unfold bareE; rw [hc, if_neg (by omega), if_neg (by omega), if_neg (by omega), if_neg (by omega)]]
      simp [noE, h6, hu, hw, g1, g2, g3]
  subst hc
  exact ⟨hn, hl, hr⟩
theorem F27_ok (h : Eok c e) : F27 [EK e] = some (.bool true) := by
  have ho := h.out
  have hh : Rw e.hv [] := by rw [h.h]; exact .inl ⟨rfl, rfl⟩
  have hlm : Lg (mlOf e.mv) := by have := h.k.1; simp only [Lg]; omega
  have hl0 : Lg [] := by simp [Lg]
  obtain ⟨n1, n2⟩ := newE_nils (c := e.c)
  have e9 := F9_ok (c := e.c) (by rw [h.ec]; exact h.ok) (by rw [h.ec]; exact h.t)
  rcases h.p with ⟨h1, h2, h3, h4, h5⟩ | ⟨h1, h2, h3, h4, h5, h6⟩
  · rw [F27_single hh h.m hl0 hlm e9 (by rw [n1]; rfl) (by rw [n2]; rfl) ho (by rw [h.ec]; exact h1) (by have := baOk_u h2; simp only [i64R]; omega), decide_eq_true (show lrnE e 1 from ⟨h2, h3, by rw [h.ec]; exact h4⟩)]
  · rw [F27_count hh h.m hl0 hlm e9 (by rw [n1]; rfl) (by rw [n2]; rfl) ho (by rw [h.ec]; exact h1), decide_eq_true]
    have hnt : (newE e.c).t = ⟨c.t, max c.f0 1, 0, 0⟩ := by unfold newE; rw [h.ec, if_neg (by omega), if_neg (by omega), if_pos (by omega)]
    exact ⟨h2, by rw [hnt]; exact h3, by rw [hnt]; exact h4, by rw [h.ec]; exact h5⟩
end
end Go.Proofs.YtldineoabbodpaaGreatDoor
namespace Go.Proofs.YtldineoabbodpaaGreatDoor
open Go Go.Xec
attribute [local go_sem] tm0 ne_eq not_false_eq_true List.length_append List.length_replicate List.replicate_succ List.replicate_zero Int.cast_ofNat_Int not_true_eq_false decide_true decide_false ite_self beq_self_eq_true Bool.true_beq Bool.false_beq Bool.not_true Bool.not_false
attribute [local go_sem_proc] Nat.reduceAdd Nat.reduceMul Nat.reduceSub Nat.reduceLeDiff Nat.reduceLT Nat.reduceEqDiff Int.reduceLT Int.reduceLE Int.reduceAdd Int.reduceSub Int.reduceMul Int.reduceToNat Int.reducePow Int.reduceNe Int.reduceMod Int.reduceDiv Int.reduceEq Nat.reducePow Int.reduceNeg
set_option maxRecDepth 10000
noncomputable def C43 : Cfg := C42.add 27 F27
theorem ok43 : CfgOk Tryz.prog C43 := ok42.add sound27
noncomputable def F12 : List AVal → Option AVal := pureF C43 1 12
theorem sound12 : Sound Tryz.prog 12 F12 := sound_self ok43 1 12
abbrev SC0 : List AVal := SC 0 0 0 0 0 0 0 0 0 0 0 0
section
variable {c : REC.Ch} {e : En} {x : Int}
theorem F12_pass {hl ml hl2 ml2 : List Int} {e2 : En} {k g1 g2 g3 g4 q0 q1 q2 q3 q4 q5 q6 q7 : Int} (hh : Rw e.hv hl) (hm : Rw e.mv ml) (hh2 : Rw e2.hv hl2) (hm2 : Rw e2.mv ml2) (h : F27 [EK e] = some (.bool true)) (h2 : F36 [EK e, .int .i64 x] = some (.tup [EK e2, .agg (SC g1 g2 g3 g4 q0 q1 q2 q3 q4 q5 q6 q7), .int .i64 k])) :
    F12 [EK e, .int .i64 x] = some (.tup [EK e2, .agg (SC g1 g2 g3 g4 q0 q1 q2 q3 q4 q5 q6 q7), .int .i64 k]) := by
  have am := hm.sc
  have as2 := hh.sc
  have ap := hm.plain
  have ap2 := hh.plain
  have am3 := hm2.sc
  have as3 := hh2.sc
  have ap4 := hm2.plain
  have ap3 := hh2.plain
  unfold F12
  refine pureF_of (x := x12) rfl rfl ?_
  rw [x12_eq.1, x12_eq.2.1]
  simp (disch := first | omega | simp only [*, go_sem, ↓reduceIte, dropK_eq]) only [x12b, go_sem, ↓reduceIte, dropK_eq, callX_known (C := C43) (g := 27) rfl, ft_call (C := C43) (g := 27) rfl, callX_known (C := C43) (g := 36) rfl, ft_call (C := C43) (g := 36) rfl, h, h2, am3, as3]
  exact Ends_plain (tup3_plain (EK_plain (e := e2) ap3 ap4 62) (SC_plain _ _ _ _ _ _ _ _ _ _ _ _ 62) (plain_int 63 _ _)) rfl
def nxE (e : En) (x : Int) : En := if e.c.t = 1 then valN e (mlOf e.mv) x else cntN e (mlOf e.mv) x
def snE (e : En) (x : Int) : AVal := if e.c.t = 1 then (valS e (mlOf e.mv) [x] (max (x - e.l) (e.l - x))).2 else (cntS e (mlOf e.mv) x).2
def ansE (c : REC.Ch) (e : En) (x : Int) : AVal := if e.n = c.f4 then .tup [EK E00, .agg SC0, .int .i64 11] else if smpOk c x then .tup [EK (nxE e x), snE e x, .int .i64 0] else .tup [EK E00, .agg SC0, .int .i64 3]
theorem snE_cells (e : En) (x : Int) : ∃ k v w g r0 r1 r2 r3 r4 r5 r6 r7, snE e x = .agg (SC k v w g r0 r1 r2 r3 r4 r5 r6 r7) := by
  unfold snE
  split
  · exact valS_cells _ _ _ _
  · exact cntS_cells _ _ _
theorem push_ok {ml : List Int} {m : Int} (hmo : mksOk ml) (hm : 0 < m ∧ m < 512) : mksOk (pushL ml m) := by
  have := hmo.1
  refine ⟨by simp only [pushL, List.length_drop, List.length_append, List.length_cons, List.length_nil]; omega, fun m' hm' => ?_⟩
  have h3 := List.mem_of_mem_drop hm'
  rcases List.mem_append.1 h3 with h4 | h4
  · exact hmo.2 m' h4
  · simp at h4; subst h4; exact hm
theorem smp_in (h : Eok c e) (hx : smpOk c x) : inM x := by
  have hb := ch_bnd h.ok h.t
  have ht := h.t
  unfold smpOk at hx
  simp only [inM]
  by_cases h2 : c.t = 2 ∨ c.t = 3
  · rw [if_pos h2] at hx; omega
  by_cases h4 : c.t = 4 ∨ c.t = 5
  · rw [if_neg h2, if_pos h4] at hx; omega
  rw [if_neg h2, if_neg h4] at hx; omega
theorem smp_cnt (h : Eok c e) (ht : 2 ≤ c.t ∧ c.t ≤ 5) (h3 : e.t.k = c.t) (h4 : e.t.s = max c.f0 1) (hx : smpOk c x) : 0 ≤ x ∧ x ≤ e.t.most := by
  have hb := ch_bnd h.ok h.t
  unfold smpOk at hx
  unfold Tl.most
  rw [h3, h4]
  by_cases h2 : c.t = 2 ∨ c.t = 3
  · rw [if_pos h2] at hx; rw [if_pos (by omega)]; omega
  rw [if_neg h2, if_pos (by omega)] at hx
  rw [if_neg (by omega)]
  exact hx
theorem nxE_ok (h : Eok c e) (hn : e.n ≠ c.f4) (hx : smpOk c x) : Eok c (nxE e x) := by
  have hin := smp_in h hx
  have hb := ch_bnd h.ok h.t
  have hnn := h.n
  have hN : 0 ≤ e.n + 1 ∧ e.n + 1 ≤ c.f4 := by omega
  unfold nxE
  rw [h.ec]
  rcases h.p with ⟨h1, h2, h3, h4, h5⟩ | ⟨h1, h2, h3, h4, h5, h6⟩
  · rw [if_pos h1]
    unfold valN valS
    rw [h.ec]
    by_cases hm : e.b.m < c.f3
    · rw [if_pos hm]
      have htk := takeB_ok (row := [x]) h2 (by omega) (by rw [h3]; rfl) (by intro y hy; simp at hy; subst hy; exact hin)
      exact ⟨rfl, h.ok, hN, hin, h.g, h.h, h.u, h.w, h.m, h.k, .inl ⟨h1, htk, h3, by show e.b.m + 1 ≤ _; omega, h5⟩⟩
    · rw [if_neg hm]
      have hsum : sumL [x] = x := by simp [sumL]
      have hxb : -(e.b.s * 1000000) ≤ x ∧ x ≤ e.b.s * 1000000 := by rw [h3]; simp only [inM] at hin; omega
      have hmr := maskP_rng (ptB_ok h2 (by omega) hxb).1
      have hp := push_ok h.k hmr
      rw [hsum]
      refine ⟨rfl, h.ok, hN, hin, h.g, h.h, h.u, h.w, ?_, ?_, .inl ⟨h1, h2, h3, h4, h5⟩⟩
      · simp only [mlOf_slc]; exact Rw.slc _
      · simp only [mlOf_slc]; exact hp
  · have hd := smp_cnt h h1 h3 h4 hx
    rw [if_neg (by omega)]
    unfold cntN cntS
    rw [h.ec]
    by_cases hm : e.t.m < c.f3
    · rw [if_pos hm]
      have htk := takeT_ok h2 (by omega) hd
      exact ⟨rfl, h.ok, hN, hin, h.g, h.h, h.u, h.w, h.m, h.k, .inr ⟨h1, htk, h3, h4, by show e.t.m + 1 ≤ _; omega, h6⟩⟩
    · rw [if_neg hm]
      have hmr := maskP_rng (ptT_ok h2 (by omega) hd).1
      have hp := push_ok h.k hmr
      refine ⟨rfl, h.ok, hN, hin, h.g, h.h, h.u, h.w, ?_, ?_, .inr ⟨h1, h2, h3, h4, h5, h6⟩⟩
      · simp only [mlOf_slc]; exact Rw.slc _
      · simp only [mlOf_slc]; exact hp
theorem F12_eq (h : Eok c e) : F12 [EK e, .int .i64 x] = some (ansE c e x) := by
  have hh : Rw e.hv [] := by rw [h.h]; exact .inl ⟨rfl, rfl⟩
  have h27 := F27_ok h
  have hb := ch_bnd h.ok h.t
  have hnn := h.n
  have hec := h.ec
  unfold ansE
  by_cases hn : e.n = c.f4
  · rw [if_pos hn]
    exact F12_pass (e2 := E00) hh h.m (.inl ⟨rfl, rfl⟩) (.inl ⟨rfl, rfl⟩) h27 (F36_full hh h.m (by rw [hec]; exact hn))
  rw [if_neg hn]
  by_cases hx : smpOk c x
  rotate_left
  · rw [if_neg hx]
    exact F12_pass (e2 := E00) hh h.m (.inl ⟨rfl, rfl⟩) (.inl ⟨rfl, rfl⟩) h27 (F36_range hh h.m (by rw [hec]; exact hn) (by rw [hec]; exact hx))
  rw [if_pos hx]
  have hin := smp_in h hx
  have hok := nxE_ok h hn hx
  have hh2 : Rw (nxE e x).hv [] := by rw [hok.h]; exact .inl ⟨rfl, rfl⟩
  obtain ⟨g1, g2, g3, g4, q0, q1, q2, q3, q4, q5, q6, q7, hv⟩ := snE_cells e x
  rw [hv]
  refine F12_pass hh h.m hh2 hok.m h27 ?_
  rw [← hv]
  unfold nxE snE
  rw [hec]
  rcases h.p with ⟨h1, h2, h3, h4, h5⟩ | ⟨h1, h2, h3, h4, h5, h6⟩
  · rw [if_pos h1, if_pos h1]
    exact F36_single (by rw [hec]; exact hn) (by omega) (by rw [hec]; exact hx) (by rw [hec]; exact h1) h2 h3 (by rw [hec]; exact hb.1) hh h.m h.k hin h.l
  · rw [if_neg (by omega), if_neg (by omega)]
    exact F36_count (by rw [hec]; exact hn) (by omega) (by rw [hec]; exact hx) (by rw [hec]; exact h1) h2 (by rw [hec]; omega) hh h.m h.k (smp_cnt h h1 h3 h4 hx)
end
set_option maxRecDepth 10000
structure Sn where
  k : Int
  v : Int
  w : Int
  g : Int
  r0 : Int
  r1 : Int
  r2 : Int
  r3 : Int
  r4 : Int
  r5 : Int
  r6 : Int
  r7 : Int
  deriving DecidableEq
abbrev SnC (s : Sn) : List AVal := SC s.k s.v s.w s.g s.r0 s.r1 s.r2 s.r3 s.r4 s.r5 s.r6 s.r7
abbrev SnK (s : Sn) : AVal := .agg (SnC s)
abbrev Sn0 : Sn := ⟨0, 0, 0, 0, 0, 0, 0, 0, 0, 0, 0, 0⟩
theorem SnK_plain (s : Sn) (d : Nat) : plain (d + 1) (SnK s) = true := SC_plain _ _ _ _ _ _ _ _ _ _ _ _ d
section
variable (st : En → Int → En × Sn × Int)
def aft (e : En) (x : Int) : En := if (st e x).2.2 = 0 then (st e x).1 else e
def goE (e : En) (l : List Int) : En := l.foldl (aft st) e
def outs (e : En) : List Int → List (Sn × Int)
  | [] => []
  | x :: l => (st e x).2 :: outs (aft st e x) l
theorem outs_len (e : En) (l : List Int) : (outs st e l).length = l.length := by
  induction l generalizing e with
  | nil => rfl
  | cons x l ih => simp [outs, ih]
theorem outs_snoc (e : En) (l : List Int) (x : Int) : outs st e (l ++ [x]) = outs st e l ++ [(st (goE st e l) x).2] := by
  induction l generalizing e with
  | nil => rfl
  | cons y l ih => simp only [List.cons_append, outs, ih, goE, List.foldl_cons]
theorem take_snoc {l : List Int} {i : Nat} (hi : i < l.length) : l.take (i + 1) = l.take i ++ [l.getD i 0] := by
  rw [List.take_add_one, List.getElem?_eq_getElem hi, List.getD_eq_getElem?_getD, List.getElem?_eq_getElem hi]
  rfl
theorem goE_snoc (e : En) (l : List Int) (x : Int) : goE st e (l ++ [x]) = aft st (goE st e l) x := by simp [goE]
theorem Bd_push {ss : List Nat} {es bytes s0 s1 c c' : Nat} {hp h : Heap} {v z : AVal} {xs : List AVal} {K : AVal × Heap → Prop} (ho : Own ss es hp v xs) (hh : ∀ k : Key, k.1 ∈ ss → h k = hp k) (hk : s0 ∈ ss) (hn : s1 ∉ ss)
    (hl : plain Xec.freeze z = true) (hsc : (cellsOf z).all isSc = true) (hb : (xs.length + 1) * bytes ≤ 140737488355328)
    (hK : ∀ v' h', Own ss es h' v' (xs ++ [z]) → (∀ k : Key, k.1 ∉ ss → k.1 ≠ s1 → h' k = h k) → K (v', h')) :
    Bd (appA es bytes (s0, c) v (.sl (s1, c') 0 es 0 1) (upd h (s1, c') (some (.row 0 es [z])))) K := by
  obtain ⟨V, H, hA, hO⟩ := (ho.keep hh).push (s0 := s0) (s1 := s1) (z := z) (bytes := bytes) hk hn hl hsc hb
  rw [hA c c']
  simp only [Bd_some]
  exact hK _ _ (hO c c').1 (hO c c').2
end
noncomputable def C44 : Cfg := C43.add 12 F12
theorem ok44 : CfgOk Tryz.prog C44 := ok43.add sound12
noncomputable def F10 : List AVal → Option AVal := pureF C44 1 10
theorem sound10 : Sound Tryz.prog 10 F10 := sound_self ok44 1 10
structure StOk (P : En → Prop) (st : En → Int → En × Sn × Int) : Prop where
  rw : ∀ e, P e → ∃ hl ml, Rw e.hv hl ∧ Rw e.mv ml
  go : ∀ e x, P e → F12 [EK e, .int .i64 x] = some (.tup [EK (st e x).1, SnK (st e x).2.1, .int .i64 (st e x).2.2])
  rw2 : ∀ e x, P e → ∃ hl ml, Rw (st e x).1.hv hl ∧ Rw (st e x).1.mv ml
  nx : ∀ e x, P e → P (aft st e x)
theorem goE_ok {P : En → Prop} {st : En → Int → En × Sn × Int} (h : StOk P st) {e : En} (he : P e) (l : List Int) : P (goE st e l) := by
  induction l generalizing e with
  | nil => exact he
  | cons x l ih => exact ih (h.nx e x he)
theorem F10_eq {P : En → Prop} {st : En → Int → En × Sn × Int} (h : StOk P st) {e : En} (he : P e) {a : AVal} {l : List Int} (ha : Rw a l) (hl : l.length ≤ 1000000) :
    F10 [EK e, a] = some (.tup [EK (goE st e l), rowN 12 ((outs st e l).map fun o => SnK o.1), rowN 1 (i64s ((outs st e l).map (·.2)))]) := by
  have ap := ha.plain
  obtain ⟨hl0, ml0, hh0, hm0⟩ := h.rw e he
  have am := hm0.sc
  have as2 := hh0.sc
  unfold F10
  refine pureF_of (x := x10) rfl rfl ?_
  rw [x10_eq.1, x10_eq.2.1]
  simp (disch := first | omega | simp only [*, go_sem, ↓reduceIte, dropK_eq]) only [x10b, go_sem, ↓reduceIte, dropK_eq, ha.len, am, as2]
  refine Ev_range (ti := 16) (len := l.length) (J := fun i tm hp nc => Own [10009003] 12 hp (tm 7) ((outs st e (l.take i)).map fun o => SnK o.1) ∧ ((outs st e (l.take i)).map (fun o => SnK o.1) = [] → tm 7 = .nils) ∧
    Own [10009007] 1 hp (tm 8) (i64s ((outs st e (l.take i)).map (·.2))) ∧ (i64s ((outs st e (l.take i)).map (·.2)) = [] → tm 8 = .nils) ∧
    hp (10000000, 0) = some (.var (EC (goE st e (l.take i)))) ∧ hp (10000001, 0) = some (.var (EC E00))) (by omega) (by simp only [go_sem, ↓reduceIte, dropK_eq]) ?_ ?_
  · simp only [go_sem, ↓reduceIte, dropK_eq, List.take_zero, outs, List.map_nil]
    exact ⟨Own.nils _ _ _, fun _ => trivial, Own.nils _ _ _, fun _ => trivial, rfl⟩
  · rintro i tm hp nc hi' hc k16 ⟨ho1, h01, ho2, h02, kq, kr⟩
    have k1 := hc 1 rfl; have k2 := hc 2 rfl; have k4 := hc 4 rfl; have k14 := hc 14 rfl; have k15 := hc 15 rfl; simp only [go_sem, ↓reduceIte, dropK_eq] at k1 k2 k4 k14 k15
    have hP := goE_ok h he (l.take i)
    obtain ⟨hl1, ml1, hh1, hm1⟩ := h.rw _ hP
    have am1 := hm1.sc
    have as1 := hh1.sc
    have ap1 := hm1.plain
    have ap1' := hh1.plain
    rcases Nat.lt_or_ge i l.length with hlt | hge
    · have d1 : decide ((i : Int) < (l.length : Int)) = true := decide_eq_true (by omega)
      have ia := ha.ia hlt
      have e12 := h.go _ (l.getD i 0) hP
      obtain ⟨hl2, ml2, hh2, hm2⟩ := h.rw2 _ (l.getD i 0) hP
      have am2 := hm2.sc
      have as2 := hh2.sc
      have hg := goE_snoc st e (l.take i) (l.getD i 0)
      have hu := outs_snoc st e (l.take i) (l.getD i 0)
      rw [← take_snoc hlt] at hg hu
      unfold aft at hg
      generalize goE st e (l.take i) = e1 at *
      by_cases hz : (st e1 (l.getD i 0)).2.2 = 0
      · rw [if_pos hz] at hg
        have d2 := decide_eq_true hz
        simp (disch := first | omega | simp only [*, go_sem, ↓reduceIte, dropK_eq]) only [x10l4, go_sem, ↓reduceIte, dropK_eq, k1, k2, k4, k14, k15, k16, kq, d1, ia, callX_known (C := C44) (g := 12) rfl, ft_call (C := C44) (g := 12) rfl, e12, am1, as1, am2, as2, d2]
        refine Bd_push ho1 (fun k hk => ?_) (by simp) (by simp) (SnK_plain _ _) rfl (by simp [outs_len]; omega) fun v' h' ho1' hf1 => ?_
        · simp at hk; repeat rw [upd_ne _ _ (by rintro rfl; simp at hk)]
        simp (disch := first | omega | simp only [*, go_sem, ↓reduceIte, dropK_eq]) only [go_sem, ↓reduceIte, dropK_eq]
        refine Bd_push ho2 (fun k hk => ?_) (by simp) (by simp) (plain_int _ _ _) rfl (by simp [outs_len]; omega) fun v2 h2 ho2' hf2 => ?_
        · simp at hk
          rw [hf1 _ (by simp [hk]) (by simp [hk])]
          repeat rw [upd_ne _ _ (by rintro rfl; simp at hk)]
        simp (disch := first | omega | simp only [*, go_sem, ↓reduceIte, dropK_eq]) only [x10l4, go_sem, ↓reduceIte, dropK_eq, k16]
        refine ⟨hlt, by simp, ?_, ?_, ?_, ?_, ?_, ?_⟩
        · rw [hu, List.map_append]
          refine ho1'.keep fun k hk => ?_
          rw [hf2 _ (by simp at hk ⊢; omega) (by simp at hk ⊢; omega)]
          repeat rw [upd_ne _ _ (by rintro rfl; simp at hk)]
        · rw [hu]; intro h; simp at h
        · rw [hu, i64s, List.map_append, List.map_append]; exact ho2'
        · rw [hu]; intro h; simp [i64s] at h
        · rw [hf2 _ (by decide) (by decide), hf1 _ (by decide) (by decide), hg]
          simp only [go_sem, ↓reduceIte, dropK_eq, kq]
        · rw [hf2 _ (by decide) (by decide), hf1 _ (by decide) (by decide)]
          simp only [go_sem, ↓reduceIte, dropK_eq, kr]
      · rw [if_neg hz] at hg
        have d2 := decide_eq_false hz
        simp (disch := first | omega | simp only [*, go_sem, ↓reduceIte, dropK_eq]) only [x10l4, go_sem, ↓reduceIte, dropK_eq, k1, k2, k4, k14, k15, k16, kq, d1, ia, callX_known (C := C44) (g := 12) rfl, ft_call (C := C44) (g := 12) rfl, e12, am1, as1, am2, as2, d2]
        refine Bd_push ho1 (fun k hk => ?_) (by simp) (by simp) (SnK_plain _ _) rfl (by simp [outs_len]; omega) fun v' h' ho1' hf1 => ?_
        · simp at hk; repeat rw [upd_ne _ _ (by rintro rfl; simp at hk)]
        simp (disch := first | omega | simp only [*, go_sem, ↓reduceIte, dropK_eq]) only [go_sem, ↓reduceIte, dropK_eq]
        refine Bd_push ho2 (fun k hk => ?_) (by simp) (by simp) (plain_int _ _ _) rfl (by simp [outs_len]; omega) fun v2 h2 ho2' hf2 => ?_
        · simp at hk
          rw [hf1 _ (by simp [hk]) (by simp [hk])]
          repeat rw [upd_ne _ _ (by rintro rfl; simp at hk)]
        simp (disch := first | omega | simp only [*, go_sem, ↓reduceIte, dropK_eq]) only [x10l4, go_sem, ↓reduceIte, dropK_eq, k16]
        refine ⟨hlt, by simp, ?_, ?_, ?_, ?_, ?_, ?_⟩
        · rw [hu, List.map_append]
          refine ho1'.keep fun k hk => ?_
          rw [hf2 _ (by simp at hk ⊢; omega) (by simp at hk ⊢; omega)]
          repeat rw [upd_ne _ _ (by rintro rfl; simp at hk)]
        · rw [hu]; intro h; simp at h
        · rw [hu, i64s, List.map_append, List.map_append]; exact ho2'
        · rw [hu]; intro h; simp [i64s] at h
        · rw [hf2 _ (by decide) (by decide), hf1 _ (by decide) (by decide), hg]
          simp only [go_sem, ↓reduceIte, dropK_eq, kq]
        · rw [hf2 _ (by decide) (by decide), hf1 _ (by decide) (by decide)]
          simp only [go_sem, ↓reduceIte, dropK_eq, kr]
    · obtain rfl : i = l.length := by omega
      have d1 : decide ((l.length : Int) < (l.length : Int)) = false := decide_eq_false (by omega)
      rw [List.take_length] at *
      simp (disch := first | omega | simp only [*, go_sem, ↓reduceIte, dropK_eq]) only [x10l4, go_sem, ↓reduceIte, dropK_eq, k1, k2, k4, k14, k15, k16, d1, kq, kr, am1, as1]
      rw [Ends_eq, show (64 : Nat) = 63 + 1 from rfl, lendV_tup, lendVL_cons, lendVL_cons, lendVL_cons, lendV_plain (EK_plain ap1' ap1 62), Option.bind_some]
      rw [ho1.lendN h01 62 (plainL_map (enc := fun o : Sn × Int => SnK o.1) 62 (fun o => SnK_plain o.1 61) _) (fun k hk => by simp at hk; repeat rw [upd_ne _ _ (by rintro rfl; simp at hk)]), Option.bind_some]
      rw [ho2.lendN h02 62 (plainL_ints 62 _ _) (fun k hk => by simp at hk; repeat rw [upd_ne _ _ (by rintro rfl; simp at hk)]), Option.bind_some]
      simp only [lendVL_nil, Option.map_some]
set_option maxRecDepth 10000
def snOf : AVal → Sn
  | .agg [a, b, c, d, e0, e1, e2, e3, e4, e5, e6, e7] => ⟨intV a, intV b, intV c, intV d, intV e0, intV e1, intV e2, intV e3, intV e4, intV e5, intV e6, intV e7⟩
  | _ => Sn0
theorem snE_sn (e : En) (x : Int) : snE e x = SnK (snOf (snE e x)) := by
  obtain ⟨_, _, _, _, _, _, _, _, _, _, _, _, h⟩ := snE_cells e x
  rw [h]
  rfl
def stE (c : REC.Ch) (e : En) (x : Int) : En × Sn × Int := if e.n = c.f4 then (E00, Sn0, 11) else if smpOk c x then (nxE e x, snOf (snE e x), 0) else (E00, Sn0, 3)
theorem stE_ok (c : REC.Ch) : StOk (Eok c) (stE c) where
  rw := fun e h => ⟨[], _, by rw [h.h]; exact Rw.nils, h.m⟩
  go := fun e x h => by
    rw [F12_eq h]
    unfold ansE stE
    split
    · rfl
    split
    · rw [snE_sn]; rfl
    · rfl
  rw2 := fun e x h => by
    unfold stE
    by_cases hn : e.n = c.f4
    · rw [if_pos hn]; exact ⟨[], [], Rw.nils, Rw.nils⟩
    by_cases hx : smpOk c x
    · rw [if_neg hn, if_pos hx]
      have := nxE_ok h hn hx
      exact ⟨[], _, by rw [this.h]; exact Rw.nils, this.m⟩
    · rw [if_neg hn, if_neg hx]; exact ⟨[], [], Rw.nils, Rw.nils⟩
  nx := fun e x h => by
    unfold aft stE
    by_cases hn : e.n = c.f4
    · rw [if_pos hn, if_neg (by decide)]; exact h
    by_cases hx : smpOk c x
    · rw [if_neg hn, if_pos hx, if_pos rfl]
      exact nxE_ok h hn hx
    · rw [if_neg hn, if_neg hx, if_neg (by decide)]; exact h
abbrev chA : REC.Ch := ⟨[97], 1, 0, 0, 100, 2, 9, 0, 0, 0, 0, 0, 0, 0⟩
theorem chA_ok : REC.chOk chA := by decide
theorem isq_le {v s : Int} (hs : 0 ≤ s) (hv : 0 ≤ v) (h : v ≤ s * s) : isqI v ≤ s ∧ upI v ≤ s + 1 := by
  obtain ⟨h0, h1, h2⟩ := isqI_spec hv
  have h3 : isqI v ≤ s := by
    rcases Int.lt_or_le s (isqI v) with h4 | h4
    · exfalso
      have h5 : (s + 1) * (s + 1) ≤ isqI v * isqI v := Int.mul_le_mul (by omega) (by omega) (by omega) (by omega)
      have h6 : (s + 1) * (s + 1) = s * s + 2 * s + 1 := by rw [Int.add_mul, Int.mul_add]; omega
      omega
    · exact h4
  refine ⟨h3, ?_⟩
  unfold upI
  split <;> omega
theorem verP_eq (p : Pt) : verP p = if rnd (p.c * 1000 + radU p) p.d 1 < rnd ((p.c + p.v) * 1000) p.d 0 ∨ rnd ((p.c + p.v) * 1000) p.d 1 < rnd (p.c * 1000 - radU p) p.d 0 then 1
    else if rnd (p.c * 1000 + rad p) p.d 0 < rnd ((p.c + p.v) * 1000) p.d 1 ∨ rnd ((p.c + p.v) * 1000) p.d 0 < rnd (p.c * 1000 - rad p) p.d 1 then 2 else 0 := rfl
theorem rad_le {p : Pt} {s : Int} (hs : 0 ≤ s) (h0 : 0 ≤ val p.h p.l) (h : 9000000 * val p.h p.l ≤ s * s) : rad p ≤ s ∧ radU p ≤ s + 1 := isq_le hs (by omega) h
theorem verA : verP (ptB ⟨1, 2, 12, 2, 7⟩ 100) = 1 := by
  have hc : (ptB ⟨1, 2, 12, 2, 7⟩ 100).c = 135360 := by simp [ptB, byB, denB, sprB]
  have hd : (ptB ⟨1, 2, 12, 2, 7⟩ 100).d = 22560 := by simp [ptB, byB, denB, sprB]
  have hv : (ptB ⟨1, 2, 12, 2, 7⟩ 100).v = 2120640 := by simp [ptB, byB, denB, sprB]
  have hh : (ptB ⟨1, 2, 12, 2, 7⟩ 100).h = 0 := by simp [ptB, byB, denB, sprB]
  have hl : (ptB ⟨1, 2, 12, 2, 7⟩ 100).l = 1600000000 := by simp [ptB, byB, denB, sprB]
  generalize ptB ⟨1, 2, 12, 2, 7⟩ 100 = p at *
  have hr := (rad_le (p := p) (s := 120000000) (by decide) (by rw [hh, hl]; simp [val]) (by rw [hh, hl]; simp [val])).2
  rw [verP_eq, if_pos]
  left
  rw [hc, hd, hv]
  generalize radU p = R at hr
  unfold rnd
  rw [if_neg (by decide), if_pos rfl]
  omega
theorem outsA : ∃ s0 s1 s2 : Sn, outs (stE chA) (newE chA) [5, 7, 100] = [(s0, 0), (s1, 0), (s2, 0)] ∧ s1.k = 1 ∧ s2.k = 2 ∧ s2.v = 1 := by
  have h1 : stE chA (newE chA) 5 = ({ newE chA with n := 1, l := 5, b := ⟨1, 1, 5, 0, 5⟩ }, ⟨1, 0, 0, 0, 0, 0, 0, 0, 0, 0, 0, 0⟩, 0) := by kernel_rfl
  have h2 : stE chA { newE chA with n := 1, l := 5, b := ⟨1, 1, 5, 0, 5⟩ } 7 = ({ newE chA with n := 2, l := 7, b := ⟨1, 2, 12, 2, 7⟩ }, ⟨1, 0, 0, 0, 0, 0, 0, 0, 0, 0, 0, 0⟩, 0) := by kernel_rfl
  have h3 : stE chA { newE chA with n := 2, l := 7, b := ⟨1, 2, 12, 2, 7⟩ } 100 = (nxE { newE chA with n := 2, l := 7, b := ⟨1, 2, 12, 2, 7⟩ } 100, snOf (snE { newE chA with n := 2, l := 7, b := ⟨1, 2, 12, 2, 7⟩ } 100), 0) := by
    unfold stE
    rw [if_neg (by decide), if_pos (by decide)]
  have h4 : snOf (snE { newE chA with n := 2, l := 7, b := ⟨1, 2, 12, 2, 7⟩ } 100) = snOf (SK 2 (verP (ptB ⟨1, 2, 12, 2, 7⟩ (sumL [100]))) (wideB ⟨1, 2, 12, 2, 7⟩ (max (100 - 7) (7 - 100))) 0 (tell8 (natL (pushL [] (maskP (ptB ⟨1, 2, 12, 2, 7⟩ (sumL [100]))))))) := by
    unfold snE valS
    rw [if_pos (by decide), if_neg (by decide)]
    rfl
  rw [show sumL [100] = 100 from rfl, verA, SK_tell] at h4
  generalize { newE chA with n := 2, l := 7, b := ⟨1, 2, 12, 2, 7⟩ } = e2 at *
  generalize { newE chA with n := 1, l := 5, b := ⟨1, 1, 5, 0, 5⟩ } = e1 at *
  refine ⟨⟨1, 0, 0, 0, 0, 0, 0, 0, 0, 0, 0, 0⟩, ⟨1, 0, 0, 0, 0, 0, 0, 0, 0, 0, 0, 0⟩, snOf (snE e2 100), (by simp only [outs, aft, h1, h2, h3, if_true]), rfl, ?_⟩
  rw [h4]
  exact ⟨rfl, rfl⟩
noncomputable def C45 : Cfg := C44.add 10 F10
theorem ok45 : CfgOk Tryz.prog C45 := ok44.add sound10
noncomputable def F11 : List AVal → Option AVal := pureF C45 1 11
theorem sound11 : Sound Tryz.prog 11 F11 := sound_self ok45 1 11
theorem newA : newE chA = { E00 with c := chA, b := ⟨1, 0, 0, 0, 0⟩ } := rfl
theorem F11_eq : F11 [] = some (.bool true) := by
  have hE := newE_ok chA_ok (by decide)
  have e9 := F9_ok chA_ok (by decide)
  obtain ⟨s0, s1, s2, ho, hk1, hk2, hv2⟩ := outsA
  have e10 := F10_eq (stE_ok chA) hE (Rw.slc [5, 7, 100]) (by decide)
  obtain ⟨hl, ml, hh, hm⟩ := (stE_ok chA).rw _ (goE_ok (stE_ok chA) hE [5, 7, 100])
  have a1 := hh.sc
  have a2 := hm.sc
  rw [ho] at e10
  generalize goE (stE chA) (newE chA) [5, 7, 100] = e3 at *
  have er1 : (rowN 12 ([(s0, (0 : Int)), (s1, 0), (s2, 0)].map fun o => SnK o.1)) = .slc 12 [SnK s0, SnK s1, SnK s2] := rfl
  have er2 : (rowN 1 (i64s ([(s0, (0 : Int)), (s1, 0), (s2, 0)].map (·.2)))) = .slc 1 [.int .i64 0, .int .i64 0, .int .i64 0] := rfl
  have er3 : i64s [5, 7, 100] = [.int .i64 5, .int .i64 7, .int .i64 100] := rfl
  rw [er1, er2, er3] at e10
  rw [newA] at e9 e10
  clear hE ho
  have d1 : decide (s1.k = 1) = true := decide_eq_true hk1
  have d2 : decide (s2.k = 2) = true := decide_eq_true hk2
  have d3 : decide (s2.v = 1) = true := decide_eq_true hv2
  unfold F11
  refine pureF_of (x := x11) rfl rfl ?_
  rw [x11_eq.1, x11_eq.2.1]
  simp (disch := first | omega | simp only [*, go_sem, ↓reduceIte, dropK_eq]) only [x11b, go_sem, ↓reduceIte, dropK_eq, callX_known (C := C45) (g := 9) rfl, ft_call (C := C45) (g := 9) rfl, e9, callX_names (C := C45) (g := 10) rfl, ftC_names (C := C45) (g := 10) rfl, e10, a1, a2, d1, d2, d3]
  exact Ends_plain rfl rfl
set_option maxRecDepth 10000
def trn (k n : Int) : Int := (k.tmod n + n).tmod n
theorem trn_rng (k : Int) {n : Int} (hn : 0 < n) : (-n < k.tmod n ∧ k.tmod n < n) ∧ 0 ≤ trn k n ∧ trn k n < n := by
  have h1 := Int.lt_tmod_of_pos k hn
  have h2 := Int.tmod_lt_of_pos k hn
  have h3 : 0 ≤ k.tmod n + n := by omega
  exact ⟨⟨h1, h2⟩, Int.tmod_nonneg n h3, Int.tmod_lt_of_pos _ hn⟩
def someC (chart size m : Int) : REC.Ch :=
  if trn chart 5 = 0 then ⟨[97], 1, 0, -1000000, 1000000, 2 + trn m 24, 1000, 0, 0, 0, 0, 0, 0, 0⟩
  else if trn chart 5 = 3 then ⟨[97], 4, 0, 0, 0, 2 + trn m 24, 1000, 0, 0, 0, 0, 0, 0, 0⟩
  else ⟨[97], 1 + trn chart 5, 1 + trn size 1000, 0, 0, 2 + trn m 24, 1000, 0, 0, 0, 0, 0, 0, 0⟩
noncomputable def F8 : List AVal → Option AVal := pureF C45 1 8
theorem sound8 : Sound Tryz.prog 8 F8 := sound_self ok45 1 8
theorem F8_eq {chart size m : Int} : F8 [.int .i64 chart, .int .i64 size, .int .i64 m] = some (.agg (ChC (someC chart size m))) := by
  obtain ⟨⟨a1, a2⟩, a3, a4⟩ := trn_rng chart (n := 5) (by decide)
  obtain ⟨⟨b1, b2⟩, b3, b4⟩ := trn_rng size (n := 1000) (by decide)
  obtain ⟨⟨c1, c2⟩, c3, c4⟩ := trn_rng m (n := 24) (by decide)
  unfold someC
  unfold trn at *
  unfold F8
  refine pureF_of (x := x8) rfl rfl ?_
  rw [x8_eq.1, x8_eq.2.1]
  generalize hA : (chart.tmod 5 + 5).tmod 5 = A at *
  generalize hB : (size.tmod 1000 + 1000).tmod 1000 = B at *
  generalize hM : (m.tmod 24 + 24).tmod 24 = M at *
  by_cases h1 : A = 0
  · have d1 : decide (1 + A = 1) = true := decide_eq_true (by omega)
    rw [if_pos h1]
    simp (disch := first | omega | simp only [*, go_sem, ↓reduceIte, dropK_eq]) only [x8b, go_sem, ↓reduceIte, dropK_eq, hA, hB, hM, d1]
    exact Ends_plain rfl (by rw [h1]; rfl)
  have d1 : decide (1 + A = 1) = false := decide_eq_false (by omega)
  rw [if_neg h1]
  by_cases h2 : A = 3
  · have d2 : decide (1 + A = 4) = true := decide_eq_true (by omega)
    rw [if_pos h2]
    simp (disch := first | omega | simp only [*, go_sem, ↓reduceIte, dropK_eq]) only [x8b, go_sem, ↓reduceIte, dropK_eq, hA, hB, hM, d1, d2]
    exact Ends_plain rfl (by rw [h2]; rfl)
  have d2 : decide (1 + A = 4) = false := decide_eq_false (by omega)
  rw [if_neg h2]
  simp (disch := first | omega | simp only [*, go_sem, ↓reduceIte, dropK_eq]) only [x8b, go_sem, ↓reduceIte, dropK_eq, hA, hB, hM, d1, d2]
  exact Ends_plain rfl rfl
theorem chOk_of {t f0 f1 f2 f3 f4 : Int} (ht : t = 1 ∧ f0 = 0 ∧ -1000000 ≤ f1 ∧ f1 < f2 ∧ f2 ≤ 1000000 ∨ (t = 2 ∨ t = 3 ∨ t = 5) ∧ (1 ≤ f0 ∧ f0 ≤ 1000) ∧ f1 = 0 ∧ f2 = 0 ∨ t = 4 ∧ f0 = 0 ∧ f1 = 0 ∧ f2 = 0) (h3 : 2 ≤ f3 ∧ f3 ≤ 25) (h4 : 1 ≤ f4 ∧ f4 ≤ 1000000000) :
    REC.chOk ⟨[97], t, f0, f1, f2, f3, f4, 0, 0, 0, 0, 0, 0, 0⟩ := by
  have hw : REC.T.wordOk [97] := by decide
  rcases ht with ⟨rfl, h⟩ | ⟨rfl | rfl | rfl, h⟩ | ⟨rfl, h⟩
  all_goals
    refine ⟨hw, by dsimp only; decide, fun k hk => ?_, ?_, .inl ⟨rfl, rfl⟩⟩
    · rcases (show k = 0 ∨ k = 1 ∨ k = 2 ∨ k = 3 ∨ k = 4 ∨ k = 5 ∨ k = 6 ∨ k = 7 ∨ k = 8 ∨ k = 9 ∨ k = 10 ∨ k = 11 by omega) with rfl | rfl | rfl | rfl | rfl | rfl | rfl | rfl | rfl | rfl | rfl | rfl
      all_goals
        simp [REC.needB, REC.inF, REC.fd, REC.fdL, REC.mayB, REC.vl, REC.Ch.fs]
        try omega
    · simp [REC.needB, REC.fd, REC.fdL]
      try omega
noncomputable def C46 : Cfg := (C45.add 8 F8).add 11 F11
theorem ok46 : CfgOk Tryz.prog C46 := (ok45.add sound8).add sound11
set_option maxRecDepth 10000
noncomputable def F14 : List AVal → Option AVal := pureF C46 1 14
theorem sound14 : Sound Tryz.prog 14 F14 := sound_self ok46 1 14
theorem F14_eq {a b : AVal} {l m : List Int} (ha : Rw a l) (hb : Rw b m) (h1 : Lg l) (h2 : Lg m) : F14 [a, b] = some (.bool (decide (l = m))) := by
  unfold F14
  refine pureF_of (x := x14) rfl rfl ?_
  rw [x14_eq.1, x14_eq.2.1]
  simp (disch := first | omega | simp only [go_sem, ↓reduceIte, dropK_eq]) only [x14b, go_sem, ↓reduceIte, dropK_eq, ha.len, hb.len]
  refine Cd_split (fun h => ?_) (fun h => ?_)
  · simp (disch := first | omega | simp only [go_sem, ↓reduceIte, dropK_eq]) only [go_sem, ↓reduceIte, dropK_eq]
    refine Ends_plain rfl ?_
    congr 1
    simp only [decide_eq_true_eq] at h
    refine (decide_eq_false fun e => h ?_).symm
    rw [e]
  · have hl : l.length = m.length := by
      simp only [decide_eq_false_iff_not] at h
      omega
    simp (disch := first | omega | simp only [go_sem, ↓reduceIte, dropK_eq]) only [go_sem, ↓reduceIte, dropK_eq, ha.len, hb.len]
    refine Ev_loop_inv (I := fun n st => ∃ (i : Nat) (tm : Nat → AVal) (hp : Heap) (nc : Nat), st = ⟨tm, hp, nc⟩ ∧ i ≤ l.length ∧ n = l.length - i ∧ tm 0 = a ∧ tm 1 = b ∧ tm 12 = .int .i64 l.length ∧ tm 13 = .int .i64 i ∧
      ∀ j, j < i → l.getD j 0 = m.getD j 0) (n := l.length) ?_ (by omega) ?_
    · refine ⟨0, _, _, _, rfl, by omega, rfl, ?_⟩
      simp only [go_sem, ↓reduceIte, dropK_eq, List.getD_cons_zero]
      exact fun j hj => absurd hj (Nat.not_lt_zero j)
    · rintro n st ⟨i, tm, hp, nc, rfl, hi, rfl, k0, k1, k12, k13, hj⟩
      rcases Nat.lt_or_ge i l.length with hlt | hge
      · have d1 : decide ((i : Int) < (l.length : Int)) = true := decide_eq_true (by omega)
        have ia := ha.ia hlt
        have ib := hb.ia (hl ▸ hlt)
        simp (disch := first | omega | simp only [go_sem, ↓reduceIte, dropK_eq]) only [x14l4, go_sem, ↓reduceIte, dropK_eq, k0, k1, k12, k13, d1, ia, ib]
        refine Cd_split (fun h => ?_) (fun h => ?_)
        · simp (disch := first | omega | simp only [go_sem, ↓reduceIte, dropK_eq]) only [go_sem, ↓reduceIte, dropK_eq]
          refine Ends_plain rfl ?_
          congr 1
          simp only [decide_eq_true_eq] at h
          exact (decide_eq_false fun e => h (by rw [e])).symm
        · simp only [decide_eq_false_iff_not, ne_eq, Decidable.not_not] at h
          simp (disch := first | omega | simp only [go_sem, ↓reduceIte, dropK_eq]) only [go_sem, ↓reduceIte, dropK_eq, k0, k1, k12, k13]
          refine ⟨l.length - (i + 1), by omega, i + 1, _, _, _, rfl, by omega, rfl, ?_⟩
          simp (disch := first | omega | simp only [go_sem, ↓reduceIte, dropK_eq]) only [go_sem, ↓reduceIte, dropK_eq, k0, k1, k12, k13]
          refine ⟨by simp, fun j hj' => ?_⟩
          by_cases e : j = i
          · subst e; exact h
          · exact hj j (by omega)
      · obtain rfl : i = l.length := by omega
        have d1 : decide ((l.length : Int) < (l.length : Int)) = false := decide_eq_false (by omega)
        simp (disch := first | omega | simp only [go_sem, ↓reduceIte, dropK_eq]) only [x14l4, go_sem, ↓reduceIte, dropK_eq, k0, k1, k12, k13, d1]
        refine Ends_plain rfl ?_
        congr 1
        exact (decide_eq_true (getD_ext hl hj)).symm
noncomputable def C47 : Cfg := C46.add 14 F14
theorem ok47 : CfgOk Tryz.prog C47 := ok46.add sound14
noncomputable def F37 : List AVal → Option AVal := pureF C47 1 37
theorem sound37 : Sound Tryz.prog 37 F37 := sound_self ok47 1 37
theorem F37_eq {s1 l1 h1 s2 l2 h2 : Int} {a b : AVal} {l m : List Int} (ha : Rw a l) (hb : Rw b m) (g1 : Lg l) (g2 : Lg m) :
    F37 [.agg [.int .i64 s1, .int .i64 l1, .int .i64 h1, a], .agg [.int .i64 s2, .int .i64 l2, .int .i64 h2, b]] = some (.bool (decide (s1 = s2 ∧ l1 = l2 ∧ h1 = h2 ∧ l = m))) := by
  have e14 := F14_eq ha hb g1 g2
  have a1 := ha.sc
  have a2 := hb.sc
  have p1 := ha.plain
  have p2 := hb.plain
  unfold F37
  refine pureF_of (x := x37) rfl rfl ?_
  rw [x37_eq.1, x37_eq.2.1]
  by_cases d1 : s1 = s2
  rotate_left
  · rw [decide_eq_false (show ¬ (s1 = s2 ∧ l1 = l2 ∧ h1 = h2 ∧ l = m) from fun h => d1 h.1)]
    have d1 := decide_eq_false d1
    simp (disch := first | omega | simp only [*, go_sem, ↓reduceIte, dropK_eq]) only [x37b, go_sem, ↓reduceIte, dropK_eq, d1]
    exact Ends_plain rfl rfl
  by_cases d2 : l1 = l2
  rotate_left
  · rw [decide_eq_false (show ¬ (s1 = s2 ∧ l1 = l2 ∧ h1 = h2 ∧ l = m) from fun h => d2 h.2.1)]
    have d1 := decide_eq_true d1
    have d2 := decide_eq_false d2
    simp (disch := first | omega | simp only [*, go_sem, ↓reduceIte, dropK_eq]) only [x37b, go_sem, ↓reduceIte, dropK_eq, d1, d2]
    exact Ends_plain rfl rfl
  by_cases d3 : h1 = h2
  rotate_left
  · rw [decide_eq_false (show ¬ (s1 = s2 ∧ l1 = l2 ∧ h1 = h2 ∧ l = m) from fun h => d3 h.2.2.1)]
    have d1 := decide_eq_true d1
    have d2 := decide_eq_true d2
    have d3 := decide_eq_false d3
    simp (disch := first | omega | simp only [*, go_sem, ↓reduceIte, dropK_eq]) only [x37b, go_sem, ↓reduceIte, dropK_eq, d1, d2, d3]
    exact Ends_plain rfl rfl
  rw [show decide (l = m) = decide (s1 = s2 ∧ l1 = l2 ∧ h1 = h2 ∧ l = m) from decide_eq_decide.2 ⟨fun h => ⟨d1, d2, d3, h⟩, fun h => h.2.2.2⟩] at e14
  generalize decide (s1 = s2 ∧ l1 = l2 ∧ h1 = h2 ∧ l = m) = q at *
  subst d1 d2 d3
  simp (disch := first | omega | simp only [*, go_sem, ↓reduceIte, dropK_eq]) only [x37b, go_sem, ↓reduceIte, dropK_eq, callX_known (C := C47) (g := 14) rfl, ft_call (C := C47) (g := 14) rfl, e14]
  exact Ends_plain rfl rfl
noncomputable def C48 : Cfg := C47.add 37 F37
theorem ok48 : CfgOk Tryz.prog C48 := ok47.add sound37
noncomputable def F13 : List AVal → Option AVal := pureF C48 1 13
theorem sound13 : Sound Tryz.prog 13 F13 := sound_self ok48 1 13
theorem F13_refl {e : En} {hl ml : List Int} (hh : Rw e.hv hl) (hm : Rw e.mv ml) (g1 : Lg hl) (g2 : Lg ml) : F13 [EK e, EK e] = some (.bool true) := by
  have e14 := F14_eq hm hm g2 g2
  have e37 := F37_eq (s1 := e.gs) (l1 := e.gl) (h1 := e.gh) (s2 := e.gs) (l2 := e.gl) (h2 := e.gh) hh hh g1 g1
  rw [decide_eq_true rfl] at e14
  rw [decide_eq_true ⟨rfl, rfl, rfl, rfl⟩] at e37
  have a1 := hh.sc
  have a2 := hm.sc
  have p1 := hh.plain
  have p2 := hm.plain
  unfold F13
  refine pureF_of (x := x13) rfl rfl ?_
  rw [x13_eq.1, x13_eq.2.1]
  simp (disch := first | omega | simp only [*, go_sem, ↓reduceIte, dropK_eq]) only [x13b, go_sem, ↓reduceIte, dropK_eq, callX_known (C := C48) (g := 14) rfl, ft_call (C := C48) (g := 14) rfl, callX_known (C := C48) (g := 37) rfl, ft_call (C := C48) (g := 37) rfl, e14, e37]
  exact Ends_plain rfl rfl
set_option maxRecDepth 10000
noncomputable def C49 : Cfg := C48.add 13 F13
theorem ok49 : CfgOk Tryz.prog C49 := ok48.add sound13
def capC (chart size most : Int) : REC.Ch := { someC chart size 0 with f4 := 1 + trn most 40 }
theorem capC_ok (chart size most : Int) : REC.chOk (capC chart size most) ∧ (1 ≤ (capC chart size most).t ∧ (capC chart size most).t ≤ 5) := by
  obtain ⟨_, a3, a4⟩ := trn_rng chart (n := 5) (by decide)
  obtain ⟨_, b3, b4⟩ := trn_rng size (n := 1000) (by decide)
  obtain ⟨_, c3, c4⟩ := trn_rng 0 (n := 24) (by decide)
  obtain ⟨_, d3, d4⟩ := trn_rng most (n := 40) (by decide)
  unfold capC someC
  by_cases h1 : trn chart 5 = 0
  · rw [if_pos h1]
    exact ⟨chOk_of (.inl ⟨rfl, rfl, by dsimp only; decide⟩) (by dsimp only; omega) (by omega), by dsimp only; decide⟩
  rw [if_neg h1]
  by_cases h2 : trn chart 5 = 3
  · rw [if_pos h2]
    exact ⟨chOk_of (.inr (.inr ⟨rfl, rfl, rfl, rfl⟩)) (by dsimp only; omega) (by omega), by dsimp only; decide⟩
  rw [if_neg h2]
  exact ⟨chOk_of (.inr (.inl ⟨by dsimp only; omega, by dsimp only; omega, rfl, rfl⟩)) (by dsimp only; omega) (by omega), by show 1 ≤ 1 + trn chart 5 ∧ 1 + trn chart 5 ≤ 5; omega⟩
theorem outs_get (st : En → Int → En × Sn × Int) (e : En) (l : List Int) {i : Nat} (hi : i < (outs st e l).length) : (outs st e l)[i] = (st (goE st e (l.take i)) (l.getD i 0)).2 := by
  induction l generalizing e i with
  | nil => simp [outs] at hi
  | cons x l ih =>
    cases i with
    | zero => rfl
    | succ i =>
      simp only [outs, List.getElem_cons_succ, List.take_succ_cons, List.getD_cons_succ]
      rw [ih]
      rfl
theorem rowN_rg {es : Nat} {α : Type} {enc : α → AVal} (l : List α) : Xec.Rg es enc (rowN es (l.map enc)) l := by
  cases l with
  | nil => exact Xec.Rg.nils
  | cons x l => exact Xec.Rg.slc (x :: l)
theorem law3 {chart size most : Int} {a : AVal} {l : List Int} (ha : Rw a l) (hl : l.length ≤ 100000000000000) : pureF C49 1 3 [.int .i64 chart, .int .i64 size, .int .i64 most, a] = some (.bool true) := by
  obtain ⟨hc, ht⟩ := capC_ok chart size most
  have e8 := F8_eq (chart := chart) (size := size) (m := 0)
  obtain ⟨⟨d1, d2⟩, d3, d4⟩ := trn_rng most (n := 40) (by decide)
  have e9 := F9_ok hc ht
  have hE := newE_ok hc ht
  have e11 := F11_eq
  have htk := ha.sliceTo (n := min l.length 80) (by omega)
  have hta := ha.take (min l.length 80)
  have hlt := hta.len
  have hl2 : (l.take (min l.length 80)).length ≤ 80 := by rw [List.length_take]; omega
  have hmn : mnxA false (.int .i64 (l.length : Int)) [.int .i64 80] = some (.int .i64 ((min l.length 80 : Nat) : Int)) := by
    rw [mnx_min]; refine congrArg (fun z => some (AVal.int .i64 z)) ?_; omega
  have hlen := ha.len
  have hap := ha.plain
  generalize l.take (min l.length 80) = l2 at hlt hta hl2
  generalize rwTake (min l.length 80) a = a2 at *
  have hap2 := hta.plain
  have hst := stE_ok (capC chart size most)
  have e10 := F10_eq hst hE hta (by omega)
  have hg := fun i => goE_ok hst hE (l2.take i)
  have hgl := hg l2.length
  rw [List.take_length] at hgl
  have s1 := hE.m.sc
  have s2 : isSc (newE (capC chart size most)).hv = true := by rw [hE.h]; rfl
  have p1 := hE.m.plain
  have p2 : ∀ d, plain d (newE (capC chart size most)).hv = true := fun d => by rw [hE.h]; exact plain_nils d
  have s3 := hgl.m.sc
  have s4 : isSc (goE (stE (capC chart size most)) (newE (capC chart size most)) l2).hv = true := by rw [hgl.h]; rfl
  have ho := outs_len (stE (capC chart size most)) (newE (capC chart size most)) l2
  have hog : ∀ {i : Nat} (hi : i < (outs (stE (capC chart size most)) (newE (capC chart size most)) l2).length), _ := fun {i} hi => outs_get (stE (capC chart size most)) (newE (capC chart size most)) l2 hi
  have hr1 := rowN_rg (es := 12) (enc := fun o : Sn × Int => SnK o.1) (outs (stE (capC chart size most)) (newE (capC chart size most)) l2)
  have hr2 := rowN_rw ((outs (stE (capC chart size most)) (newE (capC chart size most)) l2).map (·.2))
  have hn1 := hr1.len
  have hn2 := hr2.len
  rw [List.length_map, ho] at hn2
  rw [ho] at hn1
  have hr1s := hr1.sc
  have hcc : ChC (capC chart size most) = [sv (someC chart size 0).n, .int .i64 (someC chart size 0).t, .int .i64 (someC chart size 0).f0, .int .i64 (someC chart size 0).f1, .int .i64 (someC chart size 0).f2, .int .i64 (someC chart size 0).f3, .int .i64 (1 + trn most 40), .int .i64 (someC chart size 0).f5, .int .i64 (someC chart size 0).f6, .int .i64 (someC chart size 0).f7, .int .i64 (someC chart size 0).f8, .int .i64 (someC chart size 0).f9, .int .i64 (someC chart size 0).f10, .int .i64 (someC chart size 0).f11] := rfl
  have hf4 : (capC chart size most).f4 = 1 + trn most 40 := rfl
  rw [hcc] at e9
  clear hcc
  generalize hCq : capC chart size most = c at *
  have h0n : (newE c).n = 0 := by unfold newE; repeat' split
                                  all_goals rfl
  generalize newE c = e0 at *
  generalize outs (stE c) e0 l2 = os at *
  generalize hgf : goE (stE c) e0 l2 = eL at *
  unfold trn at *
  generalize hT : (most.tmod 40 + 40).tmod 40 = T at *
  generalize hS : someC chart size 0 = s at *
  refine pureF_of (x := x3) rfl rfl ?_
  rw [x3_eq.1, x3_eq.2.1]
  simp (disch := first | omega | simp only [*, go_sem, ↓reduceIte, dropK_eq]) only [x3b, go_sem, ↓reduceIte, dropK_eq, callX_known (C := C49) (g := 8) rfl, ft_call (C := C49) (g := 8) rfl, callX_known (C := C49) (g := 9) rfl, ft_call (C := C49) (g := 9) rfl, callX_known (C := C49) (g := 11) rfl, ft_call (C := C49) (g := 11) rfl, callX_known (C := C49) (g := 10) rfl, ft_call (C := C49) (g := 10) rfl, e8, e9, e11, e10, hT, s1, s2, s3, s4, hlen, hmn, htk, hlt, hn1, hn2, hap2]
  have q3 : (3009001, 8) = ((3009001, 8) : Key) := rfl
  refine Ev_range (ti := 71) (len := l2.length) (J := fun i tm hp nc => tm 15 = .int .i64 (goE (stE c) e0 (l2.take i)).n ∧ hp (3009001, 8) = some (.var (EC (goE (stE c) e0 (l2.take i)))) ∧ hp (3005007, 5) = some (.var (EC eL)) ∧
    hp (3001003, 1) = some (.var [sv s.n, .int .i64 s.t, .int .i64 s.f0, .int .i64 s.f1, .int .i64 s.f2, .int .i64 s.f3, .int .i64 (1 + T), .int .i64 s.f5, .int .i64 s.f6, .int .i64 s.f7, .int .i64 s.f8, .int .i64 s.f9, .int .i64 s.f10, .int .i64 s.f11])) (by omega) (by simp only [go_sem, ↓reduceIte, dropK_eq]) ?_ ?_
  · simp only [go_sem, ↓reduceIte, dropK_eq, List.take_zero, goE, List.foldl_nil]
    rw [h0n]
  rintro i tm hp nc hi' hc k71 ⟨k15, kq, kL, kc⟩
  have k3 := hc 3 rfl; have k9 := hc 9 rfl; have k12 := hc 12 rfl; have k13 := hc 13 rfl; have k14 := hc 14 rfl; have k16 := hc 16 rfl; have k69 := hc 69 rfl; have k70 := hc 70 rfl; simp only [go_sem, ↓reduceIte, dropK_eq] at k3 k9 k12 k13 k14 k16 k69 k70
  rcases Nat.lt_or_ge i l2.length with hlt2 | hge2
  · have d1 : decide ((i : Int) < (l2.length : Int)) = true := decide_eq_true (by omega)
    have ia := hta.ia hlt2
    have hE1 := hg i
    have e12 := hst.go _ (l2.getD i 0) hE1
    have hio : i < os.length := by omega
    have hoi := hog hio
    have ia13 := hr1.ia hio
    have ia14 := hr2.ia (i := i) (by rw [List.length_map]; exact hio)
    have hgd : (os.map (·.2)).getD i 0 = os[i].2 := by
      rw [List.getD_eq_getElem?_getD, List.getElem?_map, List.getElem?_eq_getElem hio]; rfl
    rw [hgd, hoi] at ia14
    rw [hoi] at ia13
    have hgn := goE_snoc (stE c) e0 (l2.take i) (l2.getD i 0)
    rw [← take_snoc hlt2] at hgn
    rw [hgn]
    generalize goE (stE c) e0 (l2.take i) = e1 at *
    generalize l2.getD i 0 = y at *
    clear hgn hoi hgd hog hr1 hr2 hn1 hn2 hta e10
    have b1 := hE1.m.sc
    have b2 : isSc e1.hv = true := by rw [hE1.h]; rfl
    have b3 := hE1.m.plain
    have b4 : ∀ d, plain d e1.hv = true := fun d => by rw [hE1.h]; exact plain_nils d
    have hEn := hE1.n
    rw [hf4] at hEn
    unfold aft
    by_cases hn : e1.n = c.f4
    · have hs : stE c e1 y = (E00, Sn0, 11) := if_pos hn
      rw [hs] at e12 ia13 ia14 ⊢
      rw [hf4] at hn
      have d2 := decide_eq_true hn
      clear hE1 hst hg hE hgl hgf hc ht ha htk hlen
      simp (disch := first | omega | simp only [*, go_sem, ↓reduceIte, dropK_eq]) only [x3l11, go_sem, ↓reduceIte, dropK_eq, k3, k9, k13, k14, k16, k69, k70, k71, k15, d1, kq, kL, kc, ia, b1, b2, b3, b4, callX_known (C := C49) (g := 12) rfl, ft_call (C := C49) (g := 12) rfl, e12, ia13, ia14, d2]
      exact ⟨hlt2, by simp⟩
    have d2 : decide (e1.n = 1 + T) = false := decide_eq_false (by rw [← hf4]; exact hn)
    by_cases hx : smpOk c y
    · have hs : stE c e1 y = (nxE e1 y, snOf (snE e1 y), 0) := by unfold stE; rw [if_neg hn, if_pos hx]
      have hE2 := nxE_ok hE1 hn hx
      have hnn : (nxE e1 y).n = e1.n + 1 := by unfold nxE valN cntN; split <;> rfl
      have hnl : (nxE e1 y).l = y := by unfold nxE valN cntN; split <;> rfl
      rw [hs] at e12 ia13 ia14 ⊢
      have b5 := hE2.m.sc
      have b6 : isSc (nxE e1 y).hv = true := by rw [hE2.h]; rfl
      generalize nxE e1 y = e2 at *
      generalize snOf (snE e1 y) = sn at *
      clear hE1 hE2 hst hg hE hgl hgf hc ht ha htk hlen hs
      simp (disch := first | omega | simp only [*, go_sem, ↓reduceIte, dropK_eq]) only [x3l11, go_sem, ↓reduceIte, dropK_eq, k3, k9, k13, k14, k16, k69, k70, k71, k15, d1, kq, kL, kc, ia, b1, b2, b3, b4, b5, b6, callX_known (C := C49) (g := 12) rfl, ft_call (C := C49) (g := 12) rfl, e12, ia13, ia14, d2, hnn, hnl]
      exact ⟨hlt2, by simp, by rw [← hnn, ← hnl]⟩
    · have hs : stE c e1 y = (E00, Sn0, 3) := by unfold stE; rw [if_neg hn, if_neg hx]
      rw [hs] at e12 ia13 ia14 ⊢
      clear hE1 hst hg hE hgl hgf hc ht ha htk hlen
      simp (disch := first | omega | simp only [*, go_sem, ↓reduceIte, dropK_eq]) only [x3l11, go_sem, ↓reduceIte, dropK_eq, k3, k9, k13, k14, k16, k69, k70, k71, k15, d1, kq, kL, kc, ia, b1, b2, b3, b4, callX_known (C := C49) (g := 12) rfl, ft_call (C := C49) (g := 12) rfl, e12, ia13, ia14, d2]
      exact ⟨hlt2, by simp⟩
  · obtain rfl : i = l2.length := by omega
    have d1 : decide ((l2.length : Int) < (l2.length : Int)) = false := decide_eq_false (by omega)
    rw [List.take_length, hgf] at kq k15
    have hgn := hgl.n
    rw [hf4] at hgn
    have d2 : decide (eL.n ≤ 1 + T) = true := decide_eq_true hgn.2
    have e13 := F13_refl (e := eL) (hl := []) (by rw [hgl.h]; exact .inl ⟨rfl, rfl⟩) hgl.m (by simp [Lg]) (by have := hgl.k.1; simp only [Lg]; omega)
    have p3 := hgl.m.plain
    have p4 : ∀ d, plain d eL.hv = true := fun d => by rw [hgl.h]; exact plain_nils d
    simp (disch := first | omega | simp only [*, go_sem, ↓reduceIte, dropK_eq]) only [x3l11, go_sem, ↓reduceIte, dropK_eq, k3, k9, k12, k13, k14, k16, k69, k70, k71, k15, d1, kq, kL, kc, s3, s4, p3, p4, callX_known (C := C49) (g := 13) rfl, ft_call (C := C49) (g := 13) rfl, e13, d2]
    exact Ends_plain rfl rfl
theorem law3w (xs : List AVal) (h : WTL [.int .i64, .int .i64, .int .i64, .slice 1 8 (.int .i64)] xs) : pureF C49 1 3 xs = some (.bool true) := by
  simp only [WTL] at h
  obtain ⟨a, _, rfl, ha, b, _, rfl, hb, c, _, rfl, hc, q, _, rfl, hq, rfl⟩ := h
  rw [WT] at ha hb hc
  obtain ⟨n, rfl, hn1, hn2⟩ := ha
  obtain ⟨x, rfl, hx1, hx2⟩ := hb
  obtain ⟨y, rfl, hy1, hy2⟩ := hc
  obtain ⟨l, hl, hl2, hl3⟩ := wt_ints hq
  exact law3 hl (by omega)
end Go.Proofs.YtldineoabbodpaaGreatDoor
namespace Go.Proofs.YtldineoabbodpaaGreatDoor
open Go Go.Xec Go.ChangeShapes Go.WideShapes Go.ChangeAt Go.RowKit
theorem seatOwn : ownKnob Tryz.prog.godebug = none := by kernel_rfl
theorem seatLaidOut : laidOutB Tryz.prog = true := by kernel_rfl
theorem gv0 : Tryz.prog.globalNamed "math/bits.deBruijn32tab" = some 0 := by kernel_rfl
theorem gv1 : Tryz.prog.globalNamed "math/bits.deBruijn64tab" = some 1 := by kernel_rfl
abbrev seatList : List (String × DataW Unit) := Rows.channelStillRow.laid
theorem laid_of_met {W : World} (h : laidMetH Tryz.prog seatList W) (hS : W.ShapedOpen Tryz.prog) : Laid Tryz.prog W := by
  rw [Go.MakeChecks.laidMetH_plain _ _ _ (by kernel_rfl)] at h
  have h1 := h.tail
  refine ⟨?_, ?_, ?_, ?_⟩
  · intro t ht hne
    simp only [tabs, List.mem_cons, List.not_mem_nil, or_false] at ht
    rcases ht with rfl | rfl
    · exact absurd (by kernel_rfl : Tryz.prog.globalNamed "internal/strconv.uint64pow10" = none) hne
    · exact Lib.tabIs_of_head (k := .u8) (zs := Lib.deBruijn64tab.map Int.ofNat) gv1 (t := 255) (e := 5) (n := 64) (by kernel_rfl) (by kernel_rfl) (by kernel_rfl) (by kernel_rfl) (by kernel_rfl) h1
  · intro n hn hg
    simp only [errs, List.mem_cons, List.not_mem_nil, or_false] at hn
    rcases hn with rfl | rfl
    · exact absurd (by kernel_rfl : Tryz.prog.globalNamed "strconv.ErrSyntax" = none) hg
    · exact absurd (by kernel_rfl : Tryz.prog.globalNamed "strconv.ErrRange" = none) hg
  · intro g hg
    rw [(by kernel_rfl : Tryz.prog.globalNamed "internal/bytealg.MaxLen" = none)] at hg
    cases hg
  · intro hg
    exact absurd (by kernel_rfl : Tryz.prog.globalNamed "errors.errorType" = none) hg
noncomputable def laidWorld (os : Os) : World :=
  let w0 := World.holding Tryz.prog os ⟨#[], #[], []⟩
  let put (h : Array Obj) (g : Nat) (cs : Array Value) : Array Obj := h.modify g fun
    | .cells _ t frozen => .cells cs t frozen
    | o => o
  let k1 := put w0.heap 0 #[.int .u8 0, .int .u8 1, .int .u8 28, .int .u8 2, .int .u8 29, .int .u8 14, .int .u8 24, .int .u8 3, .int .u8 30, .int .u8 22, .int .u8 20, .int .u8 15, .int .u8 25, .int .u8 17, .int .u8 4, .int .u8 8, .int .u8 31, .int .u8 27, .int .u8 13, .int .u8 23, .int .u8 21, .int .u8 19, .int .u8 16, .int .u8 7, .int .u8 26, .int .u8 12, .int .u8 18, .int .u8 6, .int .u8 11, .int .u8 5, .int .u8 10, .int .u8 9]
  let k2 := put k1 1 #[.int .u8 0, .int .u8 1, .int .u8 56, .int .u8 2, .int .u8 57, .int .u8 49, .int .u8 28, .int .u8 3, .int .u8 61, .int .u8 58, .int .u8 42, .int .u8 50, .int .u8 38, .int .u8 29, .int .u8 17, .int .u8 4, .int .u8 62, .int .u8 47, .int .u8 59, .int .u8 36, .int .u8 45, .int .u8 43, .int .u8 51, .int .u8 22, .int .u8 53, .int .u8 39, .int .u8 33, .int .u8 30, .int .u8 24, .int .u8 18, .int .u8 12, .int .u8 5, .int .u8 63, .int .u8 55, .int .u8 48, .int .u8 27, .int .u8 60, .int .u8 41, .int .u8 37, .int .u8 16, .int .u8 46, .int .u8 35, .int .u8 44, .int .u8 21, .int .u8 52, .int .u8 32, .int .u8 23, .int .u8 11, .int .u8 54, .int .u8 26, .int .u8 40, .int .u8 15, .int .u8 34, .int .u8 20, .int .u8 31, .int .u8 10, .int .u8 25, .int .u8 14, .int .u8 19, .int .u8 9, .int .u8 13, .int .u8 8, .int .u8 7, .int .u8 6]
  { w0 with heap := k2 }
set_option maxRecDepth 100000 in
theorem laidWorld_met (os : Os) (args : Array Value) : laidMetH Tryz.prog seatList ((laidWorld os).forCall (fun _ _ => 0) ⟨#[], args, []⟩).memory := by
  rw [Go.MakeChecks.laidMetH_plain _ _ _ (by kernel_rfl)]
  exact laidMet_of_run' 8 (by kernel_rfl) (by kernel_rfl)
end Go.Proofs.YtldineoabbodpaaGreatDoor
