/-
  Laid together: part 7.
-/
import Derived.Test.YtldineoabbodpaaGreatDoorZL6
set_option linter.unusedVariables false
set_option linter.unusedSimpArgs false
namespace Go.Proofs.YtldineoabbodpaaGreatDoor
open Go Go.Xec
attribute [local go_sem] tm0 ne_eq not_false_eq_true List.length_append List.length_replicate List.replicate_succ List.replicate_zero Int.cast_ofNat_Int not_true_eq_false decide_true decide_false ite_self beq_self_eq_true Bool.true_beq Bool.false_beq Bool.not_true Bool.not_false
attribute [local go_sem_proc] Nat.reduceAdd Nat.reduceMul Nat.reduceSub Nat.reduceLeDiff Nat.reduceLT Nat.reduceEqDiff Int.reduceLT Int.reduceLE Int.reduceAdd Int.reduceSub Int.reduceMul Int.reduceToNat Int.reducePow Int.reduceNe Int.reduceMod Int.reduceDiv Int.reduceEq Nat.reducePow Int.reduceNeg
set_option maxRecDepth 10000
noncomputable def F76 : List AVal → Option AVal := pureF C3 1 76
theorem sound76 : Sound Tryz.prog 76 F76 := sound_self ok3 1 76
noncomputable def C40a : Cfg := (((((((((((((((C29.add 217 F217).add 21 F21).add 218 F218).add 32 F32).addN 57 clK).add 71 F71).add 33 F33).add 289 F289).add 22 F22).add 59 F59).add 222 F222).add 223 F223).add 224 F224).add 225 F225).add 29 REC.F29).add 76 F76
theorem ok40a : CfgOk Tryz.prog C40a := (((((((((((((((ok29.add sound217).add sound21).add sound218).add sound32).addN soundN57).add sound71).add sound33).add sound289).add sound22).add sound59).add sound222).add sound223).add sound224).add sound225).add REC.sound29).add sound76
noncomputable def C40 : Cfg := Cfg.addμ (Cfg.addμ (Cfg.addμ (Cfg.addμ (Cfg.addμ (Cfg.addμ (Cfg.addμ (Cfg.addμ (Cfg.addμ (Cfg.addμ (Cfg.addμ C40a 91 "datum/channel.step" 209) 96 "datum/channel.step" 286) 97 "datum/channel.step" 288) 100 "datum/channel.step" 291) 103 "datum/channel.step" 298) 91 "datum/channel.right" 208) 96 "datum/channel.right" 285) 97 "datum/channel.right" 287) 100 "datum/channel.right" 290) 103 "datum/channel.right" 297) 91 "datum/channel.flush" 207
theorem ok40 : CfgOk Tryz.prog C40 := addμ_ok (addμ_ok (addμ_ok (addμ_ok (addμ_ok (addμ_ok (addμ_ok (addμ_ok (addμ_ok (addμ_ok (addμ_ok ok40a (fun v w => by kernel_rfl)) (fun v w => by kernel_rfl)) (fun v w => by kernel_rfl)) (fun v w => by kernel_rfl)) (fun v w => by kernel_rfl)) (fun v w => by kernel_rfl)) (fun v w => by kernel_rfl)) (fun v w => by kernel_rfl)) (fun v w => by kernel_rfl)) (fun v w => by kernel_rfl)) (fun v w => by kernel_rfl)
structure Cu where
  t : Int
  s : Int
  b : Int
  n : Int
  h : Int
  l : Int
structure Ew where
  t : Int
  w : Int
  s : Int
  n : Int
  zl : Int
  zh : Int
  ql : Int
  qh : Int
abbrev Cu0 : Cu := ⟨0, 0, 0, 0, 0, 0⟩
abbrev Ew0 : Ew := ⟨0, 0, 0, 0, 0, 0, 0, 0⟩
structure En where
  c : REC.Ch
  n : Int
  l : Int
  gs : Int
  gl : Int
  gh : Int
  hv : AVal
  b : Bs
  t : Tl
  u : Cu
  w : Ew
  mv : AVal
abbrev ChC (c : REC.Ch) : List AVal := [sv c.n, .int .i64 c.t, .int .i64 c.f0, .int .i64 c.f1, .int .i64 c.f2, .int .i64 c.f3, .int .i64 c.f4, .int .i64 c.f5, .int .i64 c.f6, .int .i64 c.f7, .int .i64 c.f8, .int .i64 c.f9, .int .i64 c.f10, .int .i64 c.f11]
abbrev EC (e : En) : List AVal := [sv e.c.n, .int .i64 e.c.t, .int .i64 e.c.f0, .int .i64 e.c.f1, .int .i64 e.c.f2, .int .i64 e.c.f3, .int .i64 e.c.f4, .int .i64 e.c.f5, .int .i64 e.c.f6, .int .i64 e.c.f7, .int .i64 e.c.f8, .int .i64 e.c.f9, .int .i64 e.c.f10, .int .i64 e.c.f11,
  .int .i64 e.n, .int .i64 e.l, .int .i64 e.gs, .int .i64 e.gl, .int .i64 e.gh, e.hv, .int .i64 e.b.s, .int .i64 e.b.m, .int .i64 e.b.u, .int .i64 e.b.r, .int .i64 e.b.l,
  .int .i64 e.t.k, .int .i64 e.t.s, .int .i64 e.t.m, .int .i64 e.t.u, .int .i64 e.u.t, .int .i64 e.u.s, .int .i64 e.u.b, .int .i64 e.u.n, .int .i64 e.u.h, .int .i64 e.u.l,
  .int .i64 e.w.t, .int .i64 e.w.w, .int .i64 e.w.s, .int .i64 e.w.n, .int .i64 e.w.zl, .int .i64 e.w.zh, .int .i64 e.w.ql, .int .i64 e.w.qh, e.mv]
abbrev EK (e : En) : AVal := .agg (EC e)
abbrev SK (k v w g : Int) (r : List Int) : AVal := .agg (.int .i64 k :: .int .i64 v :: .int .i64 w :: .int .i64 g :: i64s r)
abbrev z8I : List Int := [0, 0, 0, 0, 0, 0, 0, 0]
abbrev κE (c : Nat) : Key := (36000000, c)
section
variable {d c0 : Nat} {hp : Heap} {nc : Nat} {K : AVal × Heap × Nat → Prop} {e : En}
theorem judge219 {p : Pt} {wide : Int} {ml : List Int} (hm : Rw e.mv ml) (hmo : mksOk ml) (hp' : ptOk p) (h1 : 0 ≤ p.h) (h2 : U p.l) (hk : hp (κE c0) = some (.var (EC e)))
    (hK : ∀ hp' nc', hp' (κE c0) = some (.var (EC { e with mv := .slc 1 (i64s (pushL ml (maskP p))) })) → (∀ k' : Key, k' ≠ κE c0 → k'.1 / 1000000 ≠ 219 → hp' k' = hp k') → K (SK 2 (verP p) wide 0 (tell8 (natL (pushL ml (maskP p)))), hp', nc')) :
    Bd (inlD C40 (d + 1) 219 [.ptr (κE c0) 0 0 0 0, PtK p, .int .i64 wide] hp nc) K := by
  refine inl_of (x := x219) rfl rfl ?_
  rw [x219_eq.1, x219_eq.2.1]
  have e222 := F222_eq hp' h1 h2
  have e223 := F223_eq hp' h1 h2
  have e224 := F224_draw hp' h1 h2
  have hmr := maskP_rng hp'
  have e225 := F225_ok (m := maskP p) hm hmo hmr
  have hmo2 : mksOk (pushL ml (maskP p)) := by
    have := hmo.1
    refine ⟨by simp only [pushL, List.length_drop, List.length_append, List.length_cons, List.length_nil]; omega, fun m hm' => ?_⟩
    have h3 := List.mem_of_mem_drop hm'
    rcases List.mem_append.1 h3 with h4 | h4
    · exact hmo.2 m h4
    · simp at h4; subst h4; exact hmr
  have e59 := F59_ok (Rw.slc (pushL ml (maskP p))) (by have := hmo2.1; simp only [Lg]; omega) hmo2
  have ap := hm.plain
  have hmv : cellsOf e.mv = [e.mv] := hm.cells
  generalize pushL ml (maskP p) = ml2 at *
  have hdl : i64A (drawL p) = .agg [.int .i64 (rnd (p.c * 1000 - radU p) p.d 0), .int .i64 (rnd (p.c * 1000 - rad p) p.d 1), .int .i64 (rnd (p.c * 1000) p.d 0), .int .i64 (rnd (p.c * 1000) p.d 1), .int .i64 (rnd (p.c * 1000 + rad p) p.d 0), .int .i64 (rnd (p.c * 1000 + radU p) p.d 1), .int .i64 (rnd ((p.c + p.v) * 1000) p.d 0), .int .i64 (rnd ((p.c + p.v) * 1000) p.d 1)] := rfl
  rw [hdl] at e222 e224
  have ht8 : i64s (tell8 (natL ml2)) = [.int .i64 (ruleI (natL ml2) 0), .int .i64 (ruleI (natL ml2) 1), .int .i64 (ruleI (natL ml2) 2), .int .i64 (ruleI (natL ml2) 3), .int .i64 (ruleI (natL ml2) 4), .int .i64 (ruleI (natL ml2) 5), .int .i64 (ruleI (natL ml2) 6), .int .i64 (ruleI (natL ml2) 7)] := rfl
  rw [ht8] at e59
  simp (disch := first | omega | simp only [*, go_sem, ↓reduceIte, dropK_eq]) only [x219b, go_sem, ↓reduceIte, dropK_eq, callX_known (C := C40) (g := 222) rfl, ft_call (C := C40) (g := 222) rfl, callX_known (C := C40) (g := 223) rfl, ft_call (C := C40) (g := 223) rfl, callX_known (C := C40) (g := 224) rfl, ft_call (C := C40) (g := 224) rfl, callX_known (C := C40) (g := 225) rfl, ft_call (C := C40) (g := 225) rfl, callX_known (C := C40) (g := 59) rfl, ft_call (C := C40) (g := 59) rfl, hk, e222, e223, e224, e225, e59]
  refine hK _ _ ?_ fun k' h3 h4 => ?_
  · simp only [go_sem, ↓reduceIte, dropK_eq]
  · repeat rw [upd_ne _ _ (by first | exact h3 | (rintro rfl; simp at h4))]
end
set_option maxRecDepth 10000
def valS (e : En) (ml row : List Int) (reach : Int) : En × AVal :=
  if e.b.m < e.c.f3 then ({ e with b := takeB e.b row }, SK 1 0 0 0 z8I)
  else ({ e with mv := .slc 1 (i64s (pushL ml (maskP (ptB e.b (sumL row))))) }, SK 2 (verP (ptB e.b (sumL row))) (wideB e.b reach) 0 (tell8 (natL (pushL ml (maskP (ptB e.b (sumL row)))))))
theorem tell8_map (l : List Nat) : (tell8 l).map (AVal.int .i64) = [.int .i64 (ruleI l 0), .int .i64 (ruleI l 1), .int .i64 (ruleI l 2), .int .i64 (ruleI l 3), .int .i64 (ruleI l 4), .int .i64 (ruleI l 5), .int .i64 (ruleI l 6), .int .i64 (ruleI l 7)] := rfl
section
variable {d c0 c1 : Nat} {hp : Heap} {nc : Nat} {K : AVal × Heap × Nat → Prop} {e : En}
theorem values213s {x reach : Int} {ml : List Int} (hb : baOk e.b) (hs : e.b.s = 1) (hf : 2 ≤ e.c.f3 ∧ e.c.f3 ≤ 25) (hm : Rw e.mv ml) (hmo : mksOk ml) (hx : inM x) (hre : 0 ≤ reach ∧ reach ≤ 2000000) (hk : hp (κE c0) = some (.var (EC e))) (hr : hp (286001003, c1) = some (.row 0 1 [.int .i64 x]))
    (hK : ∀ hp' nc', hp' (κE c0) = some (.var (EC (valS e ml [x] reach).1)) → (∀ k' : Key, k' ≠ κE c0 → k'.1 / 1000000 ≠ 219 → k'.1 / 1000000 ≠ 213 → hp' k' = hp k') → K ((valS e ml [x] reach).2, hp', nc')) :
    Bd (inlD C40 (d + 2) 213 [.ptr (κE c0) 0 0 0 0, .sl (286001003, c1) 0 1 0 1, .int .i64 reach] hp nc) K := by
  refine inl_of (x := x213) rfl rfl ?_
  rw [x213_eq.1, x213_eq.2.1]
  have ap := hm.plain
  by_cases h : e.b.m < e.c.f3
  · have d1 := decide_eq_true h
    have e217 := F217_ok (b := e.b) (a := .slc 1 [.int .i64 x]) (l := [x]) (Rw.slc [x]) hb (by omega) (by rw [hs]; rfl) (by intro y hy; simp at hy; subst hy; exact hx)
    simp only [valS, if_pos h] at hK
    generalize takeB e.b [x] = b2 at *
    clear h hf hre hs hx
    simp (disch := first | omega | simp only [*, go_sem, ↓reduceIte, dropK_eq]) only [x213b, go_sem, ↓reduceIte, dropK_eq, callX_names (C := C40) (g := 217) rfl, ftC_names (C := C40) (g := 217) rfl, hk, hr, d1, e217]
    refine hK _ _ ?_ fun k' h3 h4 h5 => ?_
    · simp only [go_sem, ↓reduceIte, dropK_eq]
    · repeat rw [upd_ne _ _ (by first | exact h3 | (rintro rfl; simp at h5))]
  · have d1 := decide_eq_false h
    have hm2 : 2 ≤ e.b.m := by omega
    have hsum : sumL [x] = x := by simp [sumL]
    simp only [inM] at hx
    have hxb : -(e.b.s * 1000000) ≤ x ∧ x ≤ e.b.s * 1000000 := by rw [hs]; omega
    have e21 := F21_ok (x := x) hb hm2 hxb
    obtain ⟨hpo, hph, hpl⟩ := ptB_ok hb hm2 hxb
    have e218 := F218_ok (r := reach) hb hm2 hre
    simp only [valS, if_neg h, hsum] at hK
    generalize ptB e.b x = p at *
    generalize wideB e.b reach = wd at *
    clear h hsum
    simp (disch := first | omega | simp only [*, go_sem, ↓reduceIte, dropK_eq]) only [x213b, go_sem, ↓reduceIte, dropK_eq, hk, hr, d1, ↓Ev_loop, ↓EvN_step, x213l6, Int.zero_add, callX_known (C := C40) (g := 21) rfl, ft_call (C := C40) (g := 21) rfl, callX_known (C := C40) (g := 218) rfl, ft_call (C := C40) (g := 218) rfl, e21, e218, call_inl (C := C40) (g := 219) rfl, ft_inl (C := C40) (g := 219) rfl]
    refine judge219 hm hmo hpo hph hpl ?_ fun hp' nc' h3 h4 => ?_
    · simp only [go_sem, ↓reduceIte, dropK_eq, hk]
    have hq : hp' (213000000, nc) = some (.var (.int .i64 0 :: .int .i64 0 :: .int .i64 0 :: .int .i64 0 :: i64s z8I)) := by
      rw [h4 _ (by simp) (by simp)]
      simp only [go_sem, ↓reduceIte, dropK_eq]
    simp (disch := first | omega | simp only [*, go_sem, ↓reduceIte, dropK_eq]) only [go_sem, ↓reduceIte, dropK_eq, tell8_map, hq]
    refine hK _ _ ?_ fun k' h5 h6 h7 => ?_
    · simp only [go_sem, ↓reduceIte, dropK_eq, h3]
    · rw [upd_ne _ _ (by rintro rfl; simp at h7), h4 k' h5 h6]
      repeat rw [upd_ne _ _ (by first | exact h5 | (rintro rfl; simp at h7))]
end
set_option maxRecDepth 10000
abbrev SC (k v w g r0 r1 r2 r3 r4 r5 r6 r7 : Int) : List AVal := [.int .i64 k, .int .i64 v, .int .i64 w, .int .i64 g, .int .i64 r0, .int .i64 r1, .int .i64 r2, .int .i64 r3, .int .i64 r4, .int .i64 r5, .int .i64 r6, .int .i64 r7]
theorem SK_tell (k v w g : Int) (l : List Nat) : SK k v w g (tell8 l) = .agg (SC k v w g (ruleI l 0) (ruleI l 1) (ruleI l 2) (ruleI l 3) (ruleI l 4) (ruleI l 5) (ruleI l 6) (ruleI l 7)) := rfl
theorem valS_cells (e : En) (ml row : List Int) (reach : Int) : ∃ k v w g r0 r1 r2 r3 r4 r5 r6 r7, (valS e ml row reach).2 = .agg (SC k v w g r0 r1 r2 r3 r4 r5 r6 r7) := by
  unfold valS
  split
  · exact ⟨1, 0, 0, 0, 0, 0, 0, 0, 0, 0, 0, 0, rfl⟩
  · exact ⟨_, _, _, _, _, _, _, _, _, _, _, _, SK_tell _ _ _ _ _⟩
theorem ptT_ok {t : Tl} {d : Int} (ht : tlOk t) (hm : 1 ≤ t.m) (hd : 0 ≤ d ∧ d ≤ t.most) : ptOk (ptT t d) ∧ 0 ≤ (ptT t d).h ∧ U (ptT t d).l := by
  have hu := tlOk_u ht
  have h7 := ht.2
  obtain ⟨⟨g1, ⟨g2, g2'⟩, g3, g4, g5⟩, g6, g7⟩ := ht
  have h1 := mul_bnd2 (x := t.m) (y := t.s) (M := 25) (N := 1000) (by omega) g5 (show 0 ≤ t.s by omega) g2'
  have h1' : 1 ≤ t.m * t.s := Int.mul_pos (by omega) (by omega)
  by_cases hk : t.k ≤ 3
  · have hmo : t.most = t.s := if_pos (by omega)
    rw [hmo] at h7 hd
    have h2 := mul_bnd2 (x := d) (y := t.m * t.s) (M := 1000) (N := 25000) hd.1 (by omega) h1.1 h1.2
    have h3 := mul_bnd2 h1.1 h1.2 (show 0 ≤ t.s by omega) g2'
    have h3' : 1 ≤ t.m * t.s * t.s := Int.mul_pos (by omega) (by omega)
    have h4 := mul_bnd2 (x := t.u) (y := t.s) (M := 25000) (N := 1000) h7.1 (by omega) (by omega) g2'
    have h5 := mul_bnd2 (x := t.u) (y := t.m * t.s - t.u) (M := 25000) (N := 25000) h7.1 (by omega) (by omega) (by omega)
    have h6 := mul_bnd2 h5.1 h5.2 (show 0 ≤ t.s by omega) g2'
    have hp : ptT t d = ⟨t.u * t.s, if t.k = 2 then t.m * t.s * t.s else t.m * t.s, d * (t.m * t.s) - t.u * t.s, t.u * (t.m * t.s - t.u) * t.s / 18446744073709551616, t.u * (t.m * t.s - t.u) * t.s % 18446744073709551616⟩ := if_pos hk
    rw [hp]
    simp only [ptOk, U]
    split <;> omega
  · have hp : ptT t d = ⟨t.u, t.m * t.s, d * t.m - t.u, t.u * t.m / 18446744073709551616, t.u * t.m % 18446744073709551616⟩ := if_neg hk
    have hmo : t.most = 1000000 := if_neg hk
    rw [hmo] at hd
    have h2 := mul_bnd2 (x := d) (y := t.m) (M := 1000000) (N := 25) hd.1 (by omega) g4 g5
    have h3 := mul_bnd2 (x := t.u) (y := t.m) (M := 25000000) (N := 25) hu.1 hu.2 g4 g5
    rw [hp]
    simp only [ptOk, U]
    omega
def cntS (e : En) (ml : List Int) (x : Int) : En × AVal :=
  if e.t.m < e.c.f3 then ({ e with t := takeT e.t x }, SK 1 0 0 0 z8I)
  else ({ e with mv := .slc 1 (i64s (pushL ml (maskP (ptT e.t x)))) }, SK 2 (verP (ptT e.t x)) 0 0 (tell8 (natL (pushL ml (maskP (ptT e.t x))))))
theorem cntS_cells (e : En) (ml : List Int) (x : Int) : ∃ k v w g r0 r1 r2 r3 r4 r5 r6 r7, (cntS e ml x).2 = .agg (SC k v w g r0 r1 r2 r3 r4 r5 r6 r7) := by
  unfold cntS
  split
  · exact ⟨1, 0, 0, 0, 0, 0, 0, 0, 0, 0, 0, 0, rfl⟩
  · exact ⟨_, _, _, _, _, _, _, _, _, _, _, _, SK_tell _ _ _ _ _⟩
section
variable {d c0 c1 : Nat} {hp : Heap} {nc : Nat} {K : AVal × Heap × Nat → Prop} {e : En}
theorem step286 {x last : Int} {ml : List Int} (hb : baOk e.b) (hs : e.b.s = 1) (hf : 2 ≤ e.c.f3 ∧ e.c.f3 ≤ 25) (hm : Rw e.mv ml) (hmo : mksOk ml) (hx : inM x) (hl : inM last) (hk : hp (κE c0) = some (.var (EC e)))
    (hK : ∀ hp' nc', hp' (κE c0) = some (.var (EC (valS e ml [x] (max (x - last) (last - x))).1)) → (∀ k' : Key, k' ≠ κE c0 → k'.1 / 1000000 ≠ 219 → k'.1 / 1000000 ≠ 213 → k'.1 / 1000000 ≠ 286 → hp' k' = hp k') → K ((valS e ml [x] (max (x - last) (last - x))).2, hp', nc')) :
    Bd (inlD C40 (d + 3) 286 [.agg [.ptr (κE c0) 0 0 0 0], .int .i64 x, .int .i64 last] hp nc) K := by
  refine inl_of (x := x286) rfl rfl ?_
  rw [x286_eq.1, x286_eq.2.1]
  have hre : 0 ≤ max (x - last) (last - x) ∧ max (x - last) (last - x) ≤ 2000000 := by simp only [inM] at hx hl; omega
  obtain ⟨g1, g2, g3, g4, q0, q1, q2, q3, q4, q5, q6, q7, hv⟩ := valS_cells e ml [x] (max (x - last) (last - x))
  have hx' := hx; have hl' := hl
  simp only [inM] at hx' hl'
  rw [hv] at hK
  simp (disch := first | omega | simp only [*, go_sem, ↓reduceIte, dropK_eq]) only [x286b, go_sem, ↓reduceIte, dropK_eq, hk, mnx_max, call_inl (C := C40) (g := 213) rfl, ft_inl (C := C40) (g := 213) rfl]
  refine values213s hb hs hf hm hmo hx hre ?_ ?_ fun hp' nc' h3 h4 => ?_
  · simp only [go_sem, ↓reduceIte, dropK_eq, hk]
  · simp only [go_sem, ↓reduceIte, dropK_eq]
  have hq : hp' (286000001, nc) = some (.var [.int .i64 0, .int .i64 0, .int .i64 0, .int .i64 0, .int .i64 0, .int .i64 0, .int .i64 0, .int .i64 0, .int .i64 0, .int .i64 0, .int .i64 0, .int .i64 0]) := by
    rw [h4 _ (by simp) (by simp) (by simp)]
    simp only [go_sem, ↓reduceIte, dropK_eq]
  rw [hv]
  generalize (valS e ml [x] (max (x - last) (last - x))).1 = e2 at *
  simp (disch := first | omega | simp only [*, go_sem, ↓reduceIte, dropK_eq]) only [go_sem, ↓reduceIte, dropK_eq, hq]
  refine hK _ _ ?_ fun k' h5 h6 h7 h8 => ?_
  · simp only [go_sem, ↓reduceIte, dropK_eq, h3]
  · rw [upd_ne _ _ (by rintro rfl; simp at h8), h4 k' h5 h6 h7]
    repeat rw [upd_ne _ _ (by first | exact h5 | (rintro rfl; simp at h8))]
theorem step288 {x last : Int} {ml : List Int} (ht : tlOk e.t) (hf : 1 ≤ e.c.f3 ∧ e.c.f3 ≤ 25) (hm : Rw e.mv ml) (hmo : mksOk ml) (hx : 0 ≤ x ∧ x ≤ e.t.most) (hk : hp (κE c0) = some (.var (EC e)))
    (hK : ∀ hp' nc', hp' (κE c0) = some (.var (EC (cntS e ml x).1)) → (∀ k' : Key, k' ≠ κE c0 → k'.1 / 1000000 ≠ 219 → k'.1 / 1000000 ≠ 288 → hp' k' = hp k') → K ((cntS e ml x).2, hp', nc')) :
    Bd (inlD C40 (d + 2) 288 [.agg [.ptr (κE c0) 0 0 0 0], .int .i64 x, .int .i64 last] hp nc) K := by
  refine inl_of (x := x288) rfl rfl ?_
  rw [x288_eq.1, x288_eq.2.1]
  have ap := hm.plain
  by_cases h : e.t.m < e.c.f3
  · have d1 := decide_eq_true h
    have e289 := F289_ok ht (by omega) hx
    simp only [cntS, if_pos h] at hK
    generalize takeT e.t x = t2 at *
    clear h hf hx
    simp (disch := first | omega | simp only [*, go_sem, ↓reduceIte, dropK_eq]) only [x288b, go_sem, ↓reduceIte, dropK_eq, callX_known (C := C40) (g := 289) rfl, ft_call (C := C40) (g := 289) rfl, hk, d1, e289]
    refine hK _ _ ?_ fun k' h3 h4 h5 => ?_
    · simp only [go_sem, ↓reduceIte, dropK_eq]
    · repeat rw [upd_ne _ _ (by first | exact h3 | (rintro rfl; simp at h5))]
  · have d1 := decide_eq_false h
    have e22 := F22_ok ht (by omega) hx
    obtain ⟨hpo, hph, hpl⟩ := ptT_ok ht (by omega) hx
    simp only [cntS, if_neg h, SK_tell] at hK
    generalize ptT e.t x = p at *
    clear h hf hx
    simp (disch := first | omega | simp only [*, go_sem, ↓reduceIte, dropK_eq]) only [x288b, go_sem, ↓reduceIte, dropK_eq, hk, d1, callX_known (C := C40) (g := 22) rfl, ft_call (C := C40) (g := 22) rfl, e22, call_inl (C := C40) (g := 219) rfl, ft_inl (C := C40) (g := 219) rfl]
    refine judge219 hm hmo hpo hph hpl ?_ fun hp' nc' h3 h4 => ?_
    · simp only [go_sem, ↓reduceIte, dropK_eq, hk]
    have hq : hp' (288000001, nc) = some (.var [.int .i64 0, .int .i64 0, .int .i64 0, .int .i64 0, .int .i64 0, .int .i64 0, .int .i64 0, .int .i64 0, .int .i64 0, .int .i64 0, .int .i64 0, .int .i64 0]) := by
      rw [h4 _ (by simp) (by simp)]
      simp only [go_sem, ↓reduceIte, dropK_eq]
    rw [SK_tell]
    simp (disch := first | omega | simp only [*, go_sem, ↓reduceIte, dropK_eq]) only [go_sem, ↓reduceIte, dropK_eq, hq]
    refine hK _ _ ?_ fun k' h5 h6 h7 => ?_
    · simp only [go_sem, ↓reduceIte, dropK_eq, h3]
    · rw [upd_ne _ _ (by rintro rfl; simp at h7), h4 k' h5 h6]
      repeat rw [upd_ne _ _ (by first | exact h5 | (rintro rfl; simp at h7))]
end
set_option maxRecDepth 10000
def smpOk (c : REC.Ch) (x : Int) : Prop := if c.t = 2 ∨ c.t = 3 then 0 ≤ x ∧ x ≤ c.f0 else if c.t = 4 ∨ c.t = 5 then 0 ≤ x ∧ x ≤ 1000000 else c.f1 ≤ x ∧ x ≤ c.f2
instance (c : REC.Ch) (x : Int) : Decidable (smpOk c x) := by unfold smpOk; infer_instance
theorem F76_eq {c : REC.Ch} {x : Int} : F76 [.agg (ChC c), .int .i64 x] = some (.bool (decide (smpOk c x))) := by
  unfold F76
  refine pureF_of (x := x76) rfl rfl ?_
  rw [x76_eq.1, x76_eq.2.1]
  have e1 := F60_eq (x := x) (l := 0) (h := c.f0)
  have e2 := F60_eq (x := x) (l := 0) (h := 1000000)
  have e3 := F60_eq (x := x) (l := c.f1) (h := c.f2)
  by_cases h2 : c.t = 2
  · have d2 := decide_eq_true h2
    rw [show decide (smpOk c x) = decide (0 ≤ x ∧ x ≤ c.f0) from decide_eq_decide.2 (by unfold smpOk; rw [if_pos (by omega)])]
    simp (disch := first | omega | simp only [*, go_sem, ↓reduceIte, dropK_eq]) only [x76b, go_sem, ↓reduceIte, dropK_eq, callX_known (C := C3) (g := 60) rfl, ft_call (C := C3) (g := 60) rfl, e1, d2]
    exact Ends_plain rfl rfl
  have d2 := decide_eq_false h2
  by_cases h3 : c.t = 3
  · have d3 := decide_eq_true h3
    rw [show decide (smpOk c x) = decide (0 ≤ x ∧ x ≤ c.f0) from decide_eq_decide.2 (by unfold smpOk; rw [if_pos (by omega)])]
    simp (disch := first | omega | simp only [*, go_sem, ↓reduceIte, dropK_eq]) only [x76b, go_sem, ↓reduceIte, dropK_eq, callX_known (C := C3) (g := 60) rfl, ft_call (C := C3) (g := 60) rfl, e1, d2, d3]
    exact Ends_plain rfl rfl
  have d3 := decide_eq_false h3
  by_cases h4 : c.t = 4
  · have d4 := decide_eq_true h4
    rw [show decide (smpOk c x) = decide (0 ≤ x ∧ x ≤ 1000000) from decide_eq_decide.2 (by unfold smpOk; rw [if_neg (by omega), if_pos (by omega)])]
    simp (disch := first | omega | simp only [*, go_sem, ↓reduceIte, dropK_eq]) only [x76b, go_sem, ↓reduceIte, dropK_eq, callX_known (C := C3) (g := 60) rfl, ft_call (C := C3) (g := 60) rfl, e2, d2, d3, d4]
    exact Ends_plain rfl rfl
  have d4 := decide_eq_false h4
  by_cases h5 : c.t = 5
  · have d5 := decide_eq_true h5
    rw [show decide (smpOk c x) = decide (0 ≤ x ∧ x ≤ 1000000) from decide_eq_decide.2 (by unfold smpOk; rw [if_neg (by omega), if_pos (by omega)])]
    simp (disch := first | omega | simp only [*, go_sem, ↓reduceIte, dropK_eq]) only [x76b, go_sem, ↓reduceIte, dropK_eq, callX_known (C := C3) (g := 60) rfl, ft_call (C := C3) (g := 60) rfl, e2, d2, d3, d4, d5]
    exact Ends_plain rfl rfl
  have d5 := decide_eq_false h5
  rw [show decide (smpOk c x) = decide (c.f1 ≤ x ∧ x ≤ c.f2) from decide_eq_decide.2 (by unfold smpOk; rw [if_neg (by omega), if_neg (by omega)])]
  simp (disch := first | omega | simp only [*, go_sem, ↓reduceIte, dropK_eq]) only [x76b, go_sem, ↓reduceIte, dropK_eq, callX_known (C := C3) (g := 60) rfl, ft_call (C := C3) (g := 60) rfl, e3, d2, d3, d4, d5]
  exact Ends_plain rfl rfl
def faceT (t : Int) : Nat := if t = 0 then 91 else if t = 1 then 96 else if t = 6 then 100 else if t = 7 then 103 else 97
section
variable {d : Nat} {hp : Heap} {nc : Nat} {K : AVal × Heap × Nat → Prop} {e : En} {κ : Key}
theorem face30 {C : Cfg} (hC : C.xf = xf) (hk : hp κ = some (.var (EC e))) (hK : ∀ nc', K (.ifc (faceT e.c.t) (.agg [.ptr κ 0 0 0 0]), hp, nc')) : Bd (inlD C (d + 1) 30 [.ptr κ 0 0 0 0] hp nc) K := by
  refine inl_of (x := x30) (by rw [hC]; rfl) rfl ?_
  rw [x30_eq.1, x30_eq.2.1]
  unfold faceT at hK
  by_cases h0 : e.c.t = 0
  · have d0 := decide_eq_true h0
    rw [if_pos h0] at hK
    simp (disch := first | omega | simp only [*, go_sem, ↓reduceIte, dropK_eq]) only [x30b, go_sem, ↓reduceIte, dropK_eq, hk, d0]
    exact hK _
  have d0 := decide_eq_false h0
  rw [if_neg h0] at hK
  by_cases h1 : e.c.t = 1
  · have d1 := decide_eq_true h1
    rw [if_pos h1] at hK
    simp (disch := first | omega | simp only [*, go_sem, ↓reduceIte, dropK_eq]) only [x30b, go_sem, ↓reduceIte, dropK_eq, hk, d0, d1]
    exact hK _
  have d1 := decide_eq_false h1
  rw [if_neg h1] at hK
  by_cases h2 : e.c.t = 6
  · have d2 := decide_eq_true h2
    rw [if_pos h2] at hK
    simp (disch := first | omega | simp only [*, go_sem, ↓reduceIte, dropK_eq]) only [x30b, go_sem, ↓reduceIte, dropK_eq, hk, d0, d1, d2]
    exact hK _
  have d2 := decide_eq_false h2
  rw [if_neg h2] at hK
  by_cases h3 : e.c.t = 7
  · have d3 := decide_eq_true h3
    rw [if_pos h3] at hK
    simp (disch := first | omega | simp only [*, go_sem, ↓reduceIte, dropK_eq]) only [x30b, go_sem, ↓reduceIte, dropK_eq, hk, d0, d1, d2, d3]
    exact hK _
  have d3 := decide_eq_false h3
  rw [if_neg h3] at hK
  simp (disch := first | omega | simp only [*, go_sem, ↓reduceIte, dropK_eq]) only [x30b, go_sem, ↓reduceIte, dropK_eq, hk, d0, d1, d2, d3]
  exact hK _
end
set_option maxRecDepth 10000
abbrev E00 : En := ⟨⟨[], 0, 0, 0, 0, 0, 0, 0, 0, 0, 0, 0, 0, 0⟩, 0, 0, 0, 0, 0, .nils, ⟨0, 0, 0, 0, 0⟩, ⟨0, 0, 0, 0⟩, Cu0, Ew0, .nils⟩
theorem plain_sv (d : Nat) (s : List UInt8) : plain d (sv s) = true := plain_str d _
theorem EK_plain {e : En} (h1 : ∀ d, plain d e.hv = true) (h2 : ∀ d, plain d e.mv = true) (d : Nat) : plain (d + 1) (EK e) = true := by
  simp only [plain_agg, plainL_cons, plainL_nil, plain_int, plain_sv, h1, h2, Bool.and_self]
theorem SC_plain (k v w g r0 r1 r2 r3 r4 r5 r6 r7 : Int) (d : Nat) : plain (d + 1) (.agg (SC k v w g r0 r1 r2 r3 r4 r5 r6 r7)) = true := by
  simp only [plain_agg, plainL_cons, plainL_nil, plain_int, Bool.and_self]
theorem tup3_plain {a b c : AVal} (ha : plain 63 a = true) (hb : plain 63 b = true) (hc : plain 63 c = true) : plain Xec.freeze (.tup [a, b, c]) = true := by
  show plain (63 + 1) _ = true
  simp only [plain_tup, plainL_cons, plainL_nil, ha, hb, hc, Bool.and_self]
theorem tup2_plain {a b : AVal} (ha : plain 63 a = true) (hb : plain 63 b = true) : plain Xec.freeze (.tup [a, b]) = true := by
  show plain (63 + 1) _ = true
  simp only [plain_tup, plainL_cons, plainL_nil, ha, hb, Bool.and_self]
noncomputable def F36 : List AVal → Option AVal := pureF C40 5 36
theorem sound36 : Sound Tryz.prog 36 F36 := sound_self ok40 5 36
theorem F36_full {e : En} {x : Int} {ml hl : List Int} (hh : Rw e.hv hl) (hm : Rw e.mv ml) (h : e.n = e.c.f4) : F36 [EK e, .int .i64 x] = some (.tup [EK E00, .agg (SC 0 0 0 0 0 0 0 0 0 0 0 0), .int .i64 11]) := by
  have d1 := decide_eq_true h
  have am := hm.sc
  have as2 := hh.sc
  unfold F36
  refine pureF_of (x := x36) rfl rfl ?_
  rw [x36_eq.1, x36_eq.2.1]
  simp (disch := first | omega | simp only [*, go_sem, ↓reduceIte, dropK_eq]) only [x36b, go_sem, ↓reduceIte, dropK_eq, d1]
  exact Ends_plain (tup3_plain (EK_plain (e := E00) (fun d => plain_nils d) (fun d => plain_nils d) 62) (SC_plain _ _ _ _ _ _ _ _ _ _ _ _ 62) (plain_int 63 _ _)) rfl
theorem F36_range {e : En} {x : Int} {ml hl : List Int} (hh : Rw e.hv hl) (hm : Rw e.mv ml) (h : e.n ≠ e.c.f4) (hx : ¬ smpOk e.c x) : F36 [EK e, .int .i64 x] = some (.tup [EK E00, .agg (SC 0 0 0 0 0 0 0 0 0 0 0 0), .int .i64 3]) := by
  have d1 := decide_eq_false h
  have e76 := F76_eq (c := e.c) (x := x)
  rw [decide_eq_false hx] at e76
  have am := hm.sc
  have as2 := hh.sc
  unfold F36
  refine pureF_of (x := x36) rfl rfl ?_
  rw [x36_eq.1, x36_eq.2.1]
  simp (disch := first | omega | simp only [*, go_sem, ↓reduceIte, dropK_eq]) only [x36b, go_sem, ↓reduceIte, dropK_eq, d1, callX_known (C := C40) (g := 76) rfl, ft_call (C := C40) (g := 76) rfl, e76]
  exact Ends_plain (tup3_plain (EK_plain (e := E00) (fun d => plain_nils d) (fun d => plain_nils d) 62) (SC_plain _ _ _ _ _ _ _ _ _ _ _ _ 62) (plain_int 63 _ _)) rfl
def valN (e : En) (ml : List Int) (x : Int) : En := { (valS e ml [x] (max (x - e.l) (e.l - x))).1 with n := e.n + 1, l := x }
theorem F36_single {e : En} {x : Int} {ml hl : List Int} (h : e.n ≠ e.c.f4) (hn : 0 ≤ e.n ∧ e.n ≤ 1000000000) (hsm : smpOk e.c x) (ht : e.c.t = 1) (hb : baOk e.b) (hs : e.b.s = 1) (hf : 2 ≤ e.c.f3 ∧ e.c.f3 ≤ 25) (hh : Rw e.hv hl) (hm : Rw e.mv ml) (hmo : mksOk ml) (hx : inM x) (hl : inM e.l) :
    F36 [EK e, .int .i64 x] = some (.tup [EK (valN e ml x), (valS e ml [x] (max (x - e.l) (e.l - x))).2, .int .i64 0]) := by
  have d1 := decide_eq_false h
  have e76 := F76_eq (c := e.c) (x := x)
  rw [decide_eq_true hsm] at e76
  have ap := hm.plain
  have ap2 := hh.plain
  have hfc : faceT e.c.t = 96 := by rw [ht]; rfl
  have hN : (valS e ml [x] (max (x - e.l) (e.l - x))).1.n = e.n := by unfold valS; split <;> rfl
  have hs1 : isSc (valS e ml [x] (max (x - e.l) (e.l - x))).1.hv = true := by
    unfold valS
    split <;> exact hh.sc
  have hs2 : isSc (valS e ml [x] (max (x - e.l) (e.l - x))).1.mv = true := by
    unfold valS
    split
    · exact hm.sc
    · rfl
  have hp1 : ∀ d, plain d (valS e ml [x] (max (x - e.l) (e.l - x))).1.hv = true := by unfold valS; split <;> exact ap2
  have hp2 : ∀ d, plain d (valS e ml [x] (max (x - e.l) (e.l - x))).1.mv = true := by
    unfold valS
    split
    · exact ap
    · exact fun d => plain_slc d _ _
  have am := hm.sc
  have as2 := hh.sc
  unfold F36
  refine pureF_of (x := x36) rfl rfl ?_
  rw [x36_eq.1, x36_eq.2.1]
  simp (disch := first | omega | simp only [*, go_sem, ↓reduceIte, dropK_eq]) only [x36b, go_sem, ↓reduceIte, dropK_eq, d1, callX_known (C := C40) (g := 76) rfl, ft_call (C := C40) (g := 76) rfl, e76, call_inl (C := C40) (g := 30) rfl, ft_inl (C := C40) (g := 30) rfl]
  refine face30 rfl (e := e) (by simp only [go_sem, ↓reduceIte, dropK_eq]) fun nc' => ?_
  rw [hfc]
  simp (disch := first | omega | simp only [*, go_sem, ↓reduceIte, dropK_eq]) only [go_sem, ↓reduceIte, dropK_eq, invX_ifc (C := C40) (t := 96) (m := "datum/channel.step") (g := 286) rfl, call_inl (C := C40) (g := 286) rfl, ft_inl (C := C40) (g := 286) rfl]
  refine step286 (e := e) hb hs hf hm hmo hx hl (by simp only [go_sem, ↓reduceIte, dropK_eq]) fun hp' nc' h3 h4 => ?_
  obtain ⟨g1, g2, g3, g4, q0, q1, q2, q3, q4, q5, q6, q7, hv⟩ := valS_cells e ml [x] (max (x - e.l) (e.l - x))
  rw [hv]
  have k1 := h4 (36000001, 0) (by simp) (by simp) (by simp) (by simp)
  have k2 := h4 (36000002, 0) (by simp) (by simp) (by simp) (by simp)
  unfold valN
  clear ap ap2 am as2
  generalize (valS e ml [x] (max (x - e.l) (e.l - x))).1 = e2 at *
  simp (disch := first | omega | simp only [*, go_sem, ↓reduceIte, dropK_eq]) only [go_sem, ↓reduceIte, dropK_eq, h3, k1, k2, hs1, hs2, hN]
  exact Ends_plain (tup3_plain (EK_plain (e := { e2 with n := e.n + 1, l := x }) hp1 hp2 62) (SC_plain _ _ _ _ _ _ _ _ _ _ _ _ 62) (plain_int 63 _ _)) rfl
def cntN (e : En) (ml : List Int) (x : Int) : En := { (cntS e ml x).1 with n := e.n + 1, l := x }
theorem F36_count {e : En} {x : Int} {ml hl : List Int} (h : e.n ≠ e.c.f4) (hn : 0 ≤ e.n ∧ e.n ≤ 1000000000) (hsm : smpOk e.c x) (ht : 2 ≤ e.c.t ∧ e.c.t ≤ 5) (hb : tlOk e.t) (hf : 1 ≤ e.c.f3 ∧ e.c.f3 ≤ 25) (hh : Rw e.hv hl) (hm : Rw e.mv ml) (hmo : mksOk ml) (hx : 0 ≤ x ∧ x ≤ e.t.most) :
    F36 [EK e, .int .i64 x] = some (.tup [EK (cntN e ml x), (cntS e ml x).2, .int .i64 0]) := by
  have d1 := decide_eq_false h
  have e76 := F76_eq (c := e.c) (x := x)
  rw [decide_eq_true hsm] at e76
  have ap := hm.plain
  have ap2 := hh.plain
  have hfc : faceT e.c.t = 97 := by unfold faceT; rw [if_neg (by omega), if_neg (by omega), if_neg (by omega), if_neg (by omega)]
  have hN : (cntS e ml x).1.n = e.n := by unfold cntS; split <;> rfl
  have hs1 : isSc (cntS e ml x).1.hv = true := by
    unfold cntS
    split <;> exact hh.sc
  have hs2 : isSc (cntS e ml x).1.mv = true := by
    unfold cntS
    split
    · exact hm.sc
    · rfl
  have hp1 : ∀ d, plain d (cntS e ml x).1.hv = true := by unfold cntS; split <;> exact ap2
  have hp2 : ∀ d, plain d (cntS e ml x).1.mv = true := by
    unfold cntS
    split
    · exact ap
    · exact fun d => plain_slc d _ _
  have am := hm.sc
  have as2 := hh.sc
  unfold F36
  refine pureF_of (x := x36) rfl rfl ?_
  rw [x36_eq.1, x36_eq.2.1]
  simp (disch := first | omega | simp only [*, go_sem, ↓reduceIte, dropK_eq]) only [x36b, go_sem, ↓reduceIte, dropK_eq, d1, callX_known (C := C40) (g := 76) rfl, ft_call (C := C40) (g := 76) rfl, e76, call_inl (C := C40) (g := 30) rfl, ft_inl (C := C40) (g := 30) rfl]
  refine face30 rfl (e := e) (by simp only [go_sem, ↓reduceIte, dropK_eq]) fun nc' => ?_
  rw [hfc]
  simp (disch := first | omega | simp only [*, go_sem, ↓reduceIte, dropK_eq]) only [go_sem, ↓reduceIte, dropK_eq, invX_ifc (C := C40) (t := 97) (m := "datum/channel.step") (g := 288) rfl, call_inl (C := C40) (g := 288) rfl, ft_inl (C := C40) (g := 288) rfl]
  refine step288 (e := e) hb hf hm hmo hx (by simp only [go_sem, ↓reduceIte, dropK_eq]) fun hp' nc' h3 h4 => ?_
  obtain ⟨g1, g2, g3, g4, q0, q1, q2, q3, q4, q5, q6, q7, hv⟩ := cntS_cells e ml x
  rw [hv]
  have k1 := h4 (36000001, 0) (by simp) (by simp) (by simp)
  have k2 := h4 (36000002, 0) (by simp) (by simp) (by simp)
  unfold cntN
  clear ap ap2 am as2
  generalize (cntS e ml x).1 = e2 at *
  simp (disch := first | omega | simp only [*, go_sem, ↓reduceIte, dropK_eq]) only [go_sem, ↓reduceIte, dropK_eq, h3, k1, k2, hs1, hs2, hN]
  exact Ends_plain (tup3_plain (EK_plain (e := { e2 with n := e.n + 1, l := x }) hp1 hp2 62) (SC_plain _ _ _ _ _ _ _ _ _ _ _ _ 62) (plain_int 63 _ _)) rfl
set_option maxRecDepth 10000
theorem F29_one {c : REC.Ch} (hn : c.n.length ≤ 1000000) : REC.F29 [.agg [.slc 14 [.agg (ChC c)]]] = some (.bool (decide (REC.chOk c))) := by
  have h := REC.F29_eq (r := [c]) (Xec.Rg.slc [c]) (by simp) (by intro d hd; simp at hd; subst hd; exact hn)
  refine h.trans (congrArg (fun b => some (AVal.bool b)) (decide_eq_decide.2 ⟨fun h => h.1 c (by simp), fun h => ⟨fun d hd => ?_, by simp, by simp, by simp⟩⟩))
  simp at hd; subst hd; exact h
def newE (c : REC.Ch) : En :=
  if c.t = 1 then { E00 with c := c, b := ⟨1, 0, 0, 0, 0⟩ } else if c.t = 0 then { E00 with c := c, gs := c.f0, gl := c.f1, gh := c.f2, b := ⟨c.f0, 0, 0, 0, 0⟩ }
  else if c.t ≤ 5 then { E00 with c := c, t := ⟨c.t, max c.f0 1, 0, 0⟩ } else { E00 with c := c }
noncomputable def F9 : List AVal → Option AVal := pureF C40 2 9
theorem sound9 : Sound Tryz.prog 9 F9 := sound_self ok40 2 9
theorem F9_single {c : REC.Ch} (hn : c.n.length ≤ 1000000) (h : REC.chOk c) (ht : c.t = 1) : F9 [.agg (ChC c)] = some (.tup [EK { E00 with c := c, b := ⟨1, 0, 0, 0, 0⟩ }, .int .i64 0]) := by
  have e29 := F29_one hn
  rw [decide_eq_true h] at e29
  have e32 := F32_eq (n := 1)
  rw [if_pos (by omega)] at e32
  have hfc : faceT c.t = 96 := by rw [ht]; rfl
  unfold F9
  refine pureF_of (x := x9) rfl rfl ?_
  rw [x9_eq.1, x9_eq.2.1]
  simp (disch := first | omega | simp only [*, go_sem, ↓reduceIte, dropK_eq]) only [x9b, go_sem, ↓reduceIte, dropK_eq, callX_names (C := C40) (g := 29) rfl, ftC_names (C := C40) (g := 29) rfl, e29, call_inl (C := C40) (g := 30) rfl, ft_inl (C := C40) (g := 30) rfl]
  refine face30 rfl (e := { E00 with c := c }) (by simp only [go_sem, ↓reduceIte, dropK_eq]) fun nc' => ?_
  rw [show ({ E00 with c := c } : En).c.t = c.t from rfl, hfc]
  simp (disch := first | omega | simp only [*, go_sem, ↓reduceIte, dropK_eq]) only [go_sem, ↓reduceIte, dropK_eq, tasA_ifc, callX_known (C := C40) (g := 32) rfl, ft_call (C := C40) (g := 32) rfl, e32]
  exact Ends_plain (tup2_plain (EK_plain (e := { E00 with c := c, b := ⟨1, 0, 0, 0, 0⟩ }) (fun d => plain_nils d) (fun d => plain_nils d) 62) (plain_int 63 _ _)) rfl
theorem F9_count {c : REC.Ch} (hn : c.n.length ≤ 1000000) (h : REC.chOk c) (ht : 2 ≤ c.t ∧ c.t ≤ 5) (hs : tlOk ⟨c.t, max c.f0 1, 0, 0⟩) : F9 [.agg (ChC c)] = some (.tup [EK { E00 with c := c, t := ⟨c.t, max c.f0 1, 0, 0⟩ }, .int .i64 0]) := by
  have e29 := F29_one hn
  rw [decide_eq_true h] at e29
  have e33 := F33_eq (k := c.t) (s := max c.f0 1)
  rw [if_pos hs] at e33
  have hfc : faceT c.t = 97 := by unfold faceT; rw [if_neg (by omega), if_neg (by omega), if_neg (by omega), if_neg (by omega)]
  unfold F9
  refine pureF_of (x := x9) rfl rfl ?_
  rw [x9_eq.1, x9_eq.2.1]
  simp (disch := first | omega | simp only [*, go_sem, ↓reduceIte, dropK_eq]) only [x9b, go_sem, ↓reduceIte, dropK_eq, callX_names (C := C40) (g := 29) rfl, ftC_names (C := C40) (g := 29) rfl, e29, call_inl (C := C40) (g := 30) rfl, ft_inl (C := C40) (g := 30) rfl]
  refine face30 rfl (e := { E00 with c := c }) (by simp only [go_sem, ↓reduceIte, dropK_eq]) fun nc' => ?_
  rw [show ({ E00 with c := c } : En).c.t = c.t from rfl, hfc]
  simp (disch := first | omega | simp only [*, go_sem, ↓reduceIte, dropK_eq]) only [go_sem, ↓reduceIte, dropK_eq, tasA_ifc, mnx_max, callX_known (C := C40) (g := 33) rfl, ft_call (C := C40) (g := 33) rfl, e33]
  exact Ends_plain (tup2_plain (EK_plain (e := { E00 with c := c, t := ⟨c.t, max c.f0 1, 0, 0⟩ }) (fun d => plain_nils d) (fun d => plain_nils d) 62) (plain_int 63 _ _)) rfl
set_option maxRecDepth 10000
def bareE (e : En) : En :=
  if e.c.t = 0 then { e with gs := 0, gl := 0, gh := 0, hv := .nils, b := ⟨0, 0, 0, 0, 0⟩ } else if e.c.t = 1 then { e with b := ⟨0, 0, 0, 0, 0⟩ }
  else if e.c.t = 6 then { e with u := ⟨0, 0, 0, 0, 0, 0⟩ } else if e.c.t = 7 then { e with w := ⟨0, 0, 0, 0, 0, 0, 0, 0⟩ } else { e with t := ⟨0, 0, 0, 0⟩ }
noncomputable def F105 : List AVal → Option AVal := pureF C40 2 105
theorem sound105 : Sound Tryz.prog 105 F105 := sound_self ok40 2 105
theorem F105_eq {e : En} {ml hl : List Int} (hh : Rw e.hv hl) (hm : Rw e.mv ml) : F105 [EK e] = some (EK (bareE e)) := by
  have am := hm.sc
  have as2 := hh.sc
  unfold F105
  refine pureF_of (x := x105) rfl rfl ?_
  rw [x105_eq.1, x105_eq.2.1]
  simp (disch := first | omega | simp only [*, go_sem, ↓reduceIte, dropK_eq]) only [x105b, go_sem, ↓reduceIte, dropK_eq, call_inl (C := C40) (g := 30) rfl, ft_inl (C := C40) (g := 30) rfl]
  refine face30 rfl (e := e) (by simp only [go_sem, ↓reduceIte, dropK_eq]) fun nc' => ?_
  unfold faceT bareE
  by_cases h0 : e.c.t = 0
  · rw [if_pos h0, if_pos h0]
    simp (disch := first | omega | simp only [*, go_sem, ↓reduceIte, dropK_eq]) only [go_sem, ↓reduceIte, dropK_eq, tasA_ifc]
    exact Ends_plain (EK_plain (e := { e with gs := 0, gl := 0, gh := 0, hv := .nils, b := ⟨0, 0, 0, 0, 0⟩ }) (fun d => plain_nils d) hm.plain 63) rfl
  rw [if_neg h0, if_neg h0]
  by_cases h1 : e.c.t = 1
  · rw [if_pos h1, if_pos h1]
    simp (disch := first | omega | simp only [*, go_sem, ↓reduceIte, dropK_eq]) only [go_sem, ↓reduceIte, dropK_eq, tasA_ifc]
    exact Ends_plain (EK_plain (e := { e with b := ⟨0, 0, 0, 0, 0⟩ }) hh.plain hm.plain 63) rfl
  rw [if_neg h1, if_neg h1]
  by_cases h2 : e.c.t = 6
  · rw [if_pos h2, if_pos h2]
    simp (disch := first | omega | simp only [*, go_sem, ↓reduceIte, dropK_eq]) only [go_sem, ↓reduceIte, dropK_eq, tasA_ifc]
    exact Ends_plain (EK_plain (e := { e with u := ⟨0, 0, 0, 0, 0, 0⟩ }) hh.plain hm.plain 63) rfl
  rw [if_neg h2, if_neg h2]
  by_cases h3 : e.c.t = 7
  · rw [if_pos h3, if_pos h3]
    simp (disch := first | omega | simp only [*, go_sem, ↓reduceIte, dropK_eq]) only [go_sem, ↓reduceIte, dropK_eq, tasA_ifc]
    exact Ends_plain (EK_plain (e := { e with w := ⟨0, 0, 0, 0, 0, 0, 0, 0⟩ }) hh.plain hm.plain 63) rfl
  rw [if_neg h3, if_neg h3]
  simp (disch := first | omega | simp only [*, go_sem, ↓reduceIte, dropK_eq]) only [go_sem, ↓reduceIte, dropK_eq, tasA_ifc]
  exact Ends_plain (EK_plain (e := { e with t := ⟨0, 0, 0, 0⟩ }) hh.plain hm.plain 63) rfl
theorem bareE_hv {e : En} {hl : List Int} (hh : Rw e.hv hl) : Rw (bareE e).hv (if e.c.t = 0 then [] else hl) := by
  unfold bareE
  by_cases h0 : e.c.t = 0
  · rw [if_pos h0, if_pos h0]; exact .inl ⟨rfl, rfl⟩
  rw [if_neg h0, if_neg h0]
  split
  · exact hh
  split
  · exact hh
  split
  · exact hh
  · exact hh
noncomputable def C41 : Cfg := ((C40.add 36 F36).add 9 F9).add 105 F105
theorem ok41 : CfgOk Tryz.prog C41 := ((ok40.add sound36).add sound9).add sound105
noncomputable def F61 : List AVal → Option AVal := pureF C41 1 61
theorem sound61 : Sound Tryz.prog 61 F61 := sound_self ok41 1 61
def noE (e : En) : Prop := (e.b.s = 0 ∧ e.b.m = 0 ∧ e.b.u = 0 ∧ e.b.r = 0 ∧ e.b.l = 0) ∧ (e.t.k = 0 ∧ e.t.s = 0 ∧ e.t.m = 0 ∧ e.t.u = 0) ∧
  (e.u.t = 0 ∧ e.u.s = 0 ∧ e.u.b = 0 ∧ e.u.n = 0 ∧ e.u.h = 0 ∧ e.u.l = 0) ∧ (e.w.t = 0 ∧ e.w.w = 0 ∧ e.w.s = 0 ∧ e.w.n = 0 ∧ e.w.zl = 0 ∧ e.w.zh = 0 ∧ e.w.ql = 0 ∧ e.w.qh = 0) ∧ e.gs = 0 ∧ e.gl = 0 ∧ e.gh = 0
instance (e : En) : Decidable (noE e) := by unfold noE; infer_instance
def restE (e : En) (hl ml : List Int) : Prop := noE (bareE e) ∧ (if e.c.t = 0 then [] else hl).length = 0 ∧ mksOk ml ∧ (e.c.t < 6 ∨ ml.length = 0)
instance (e : En) (hl ml : List Int) : Decidable (restE e hl ml) := by unfold restE; infer_instance
theorem eq4 {a b c d : Int} : eqCells [0, 0, 0, 0] [.int .i64 a, .int .i64 b, .int .i64 c, .int .i64 d] [.int .i64 0, .int .i64 0, .int .i64 0, .int .i64 0] = some (decide (a = 0 ∧ b = 0 ∧ c = 0 ∧ d = 0)) := by
  simp only [go_sem, ↓reduceIte, dropK_eq, Bool.decide_and]
theorem eq5 {a b c d e : Int} : eqCells [0, 0, 0, 0, 0] [.int .i64 a, .int .i64 b, .int .i64 c, .int .i64 d, .int .i64 e] [.int .i64 0, .int .i64 0, .int .i64 0, .int .i64 0, .int .i64 0] = some (decide (a = 0 ∧ b = 0 ∧ c = 0 ∧ d = 0 ∧ e = 0)) := by
  simp only [go_sem, ↓reduceIte, dropK_eq, Bool.decide_and]
theorem eq6 {a b c d e f : Int} : eqCells [0, 0, 0, 0, 0, 0] [.int .i64 a, .int .i64 b, .int .i64 c, .int .i64 d, .int .i64 e, .int .i64 f] [.int .i64 0, .int .i64 0, .int .i64 0, .int .i64 0, .int .i64 0, .int .i64 0] = some (decide (a = 0 ∧ b = 0 ∧ c = 0 ∧ d = 0 ∧ e = 0 ∧ f = 0)) := by
  simp only [go_sem, ↓reduceIte, dropK_eq, Bool.decide_and]
theorem eq8 {a b c d e f g h : Int} : eqCells [0, 0, 0, 0, 0, 0, 0, 0] [.int .i64 a, .int .i64 b, .int .i64 c, .int .i64 d, .int .i64 e, .int .i64 f, .int .i64 g, .int .i64 h] [.int .i64 0, .int .i64 0, .int .i64 0, .int .i64 0, .int .i64 0, .int .i64 0, .int .i64 0, .int .i64 0] = some (decide (a = 0 ∧ b = 0 ∧ c = 0 ∧ d = 0 ∧ e = 0 ∧ f = 0 ∧ g = 0 ∧ h = 0)) := by
  simp only [go_sem, ↓reduceIte, dropK_eq, Bool.decide_and]
theorem F61_eq {e : En} {ml hl : List Int} (hh : Rw e.hv hl) (hm : Rw e.mv ml) (hl1 : Lg hl) (hl2 : Lg ml) : F61 [EK e] = some (.bool (decide (restE e hl ml))) := by
  have am := hm.sc
  have as2 := hh.sc
  have ap := hm.plain
  have ap2 := hh.plain
  have e105 := F105_eq hh hm
  have hb := bareE_hv hh
  have hb2 : ((if e.c.t = 0 then [] else hl).length : Int) < 9223372036854775808 := by
    have := hl1
    simp only [Lg] at this
    split
    · simp
    · omega
  have hmv : ∀ d, plain d (bareE e).hv = true := hb.plain
  have hbm : (bareE e).mv = e.mv := by
    unfold bareE
    repeat' split
    all_goals rfl
  have bm : isSc (bareE e).mv = true := by rw [hbm]; exact am
  have bh := hb.sc
  have bl := hb.len
  have ml1 := hm.len
  have hR : restE e hl ml = (noE (bareE e) ∧ (if e.c.t = 0 then [] else hl).length = 0 ∧ mksOk ml ∧ (e.c.t < 6 ∨ ml.length = 0)) := rfl
  have hR2 : decide (restE e hl ml) = decide (noE (bareE e) ∧ (if e.c.t = 0 then [] else hl).length = 0 ∧ mksOk ml ∧ (e.c.t < 6 ∨ ml.length = 0)) := rfl
  rw [hR2]
  generalize (if e.c.t = 0 then [] else hl) = hl' at *
  generalize bareE e = e2 at *
  clear hR hR2 hb hmv hbm
  unfold F61
  refine pureF_of (x := x61) rfl rfl ?_
  rw [x61_eq.1, x61_eq.2.1]
  by_cases h1 : e2.b.s = 0 ∧ e2.b.m = 0 ∧ e2.b.u = 0 ∧ e2.b.r = 0 ∧ e2.b.l = 0
  rotate_left
  · have d1 := decide_eq_false h1
    rw [decide_eq_false (by unfold noE; exact fun h => h1 h.1.1)]
    clear h1
    simp (disch := first | omega | simp only [*, go_sem, ↓reduceIte, dropK_eq]) only [x61b, go_sem, ↓reduceIte, dropK_eq, callX_known (C := C41) (g := 105) rfl, ft_call (C := C41) (g := 105) rfl, e105, ↓eq5, ↓eq4, ↓eq6, ↓eq8, bh, bm, d1]
    exact Ends_plain rfl rfl
  have d1 := decide_eq_true h1
  by_cases h2 : e2.t.k = 0 ∧ e2.t.s = 0 ∧ e2.t.m = 0 ∧ e2.t.u = 0
  rotate_left
  · have d2 := decide_eq_false h2
    rw [decide_eq_false (by unfold noE; exact fun h => h2 h.1.2.1)]
    clear h1 h2
    simp (disch := first | omega | simp only [*, go_sem, ↓reduceIte, dropK_eq]) only [x61b, go_sem, ↓reduceIte, dropK_eq, callX_known (C := C41) (g := 105) rfl, ft_call (C := C41) (g := 105) rfl, e105, ↓eq5, ↓eq4, ↓eq6, ↓eq8, bh, bm, d1, d2]
    exact Ends_plain rfl rfl
  have d2 := decide_eq_true h2
  by_cases h3 : e2.u.t = 0 ∧ e2.u.s = 0 ∧ e2.u.b = 0 ∧ e2.u.n = 0 ∧ e2.u.h = 0 ∧ e2.u.l = 0
  rotate_left
  · have d3 := decide_eq_false h3
    rw [decide_eq_false (by unfold noE; exact fun h => h3 h.1.2.2.1)]
    clear h1 h2 h3
    simp (disch := first | omega | simp only [*, go_sem, ↓reduceIte, dropK_eq]) only [x61b, go_sem, ↓reduceIte, dropK_eq, callX_known (C := C41) (g := 105) rfl, ft_call (C := C41) (g := 105) rfl, e105, ↓eq5, ↓eq4, ↓eq6, ↓eq8, bh, bm, d1, d2, d3]
    exact Ends_plain rfl rfl
  have d3 := decide_eq_true h3
  by_cases h4 : e2.w.t = 0 ∧ e2.w.w = 0 ∧ e2.w.s = 0 ∧ e2.w.n = 0 ∧ e2.w.zl = 0 ∧ e2.w.zh = 0 ∧ e2.w.ql = 0 ∧ e2.w.qh = 0
  rotate_left
  · have d4 := decide_eq_false h4
    rw [decide_eq_false (by unfold noE; exact fun h => h4 h.1.2.2.2.1)]
    clear h1 h2 h3 h4
    simp (disch := first | omega | simp only [*, go_sem, ↓reduceIte, dropK_eq]) only [x61b, go_sem, ↓reduceIte, dropK_eq, callX_known (C := C41) (g := 105) rfl, ft_call (C := C41) (g := 105) rfl, e105, ↓eq5, ↓eq4, ↓eq6, ↓eq8, bh, bm, d1, d2, d3, d4]
    exact Ends_plain rfl rfl
  have d4 := decide_eq_true h4
  by_cases h5 : e2.gs = 0
  rotate_left
  · have d5 : decide (¬ e2.gs = 0) = true := decide_eq_true h5
    rw [decide_eq_false (by unfold noE; exact fun h => h5 h.1.2.2.2.2.1)]
    clear h1 h2 h3 h4 h5
    simp (disch := first | omega | simp only [*, go_sem, ↓reduceIte, dropK_eq]) only [x61b, go_sem, ↓reduceIte, dropK_eq, callX_known (C := C41) (g := 105) rfl, ft_call (C := C41) (g := 105) rfl, e105, ↓eq5, ↓eq4, ↓eq6, ↓eq8, bh, bm, d1, d2, d3, d4, d5]
    exact Ends_plain rfl rfl
  have d5 : decide (¬ e2.gs = 0) = false := decide_eq_false (not_not_intro h5)
  by_cases h6 : e2.gl = 0
  rotate_left
  · have d6 : decide (¬ e2.gl = 0) = true := decide_eq_true h6
    rw [decide_eq_false (by unfold noE; exact fun h => h6 h.1.2.2.2.2.2.1)]
    clear h1 h2 h3 h4 h5 h6
    simp (disch := first | omega | simp only [*, go_sem, ↓reduceIte, dropK_eq]) only [x61b, go_sem, ↓reduceIte, dropK_eq, callX_known (C := C41) (g := 105) rfl, ft_call (C := C41) (g := 105) rfl, e105, ↓eq5, ↓eq4, ↓eq6, ↓eq8, bh, bm, d1, d2, d3, d4, d5, d6]
    exact Ends_plain rfl rfl
  have d6 : decide (¬ e2.gl = 0) = false := decide_eq_false (not_not_intro h6)
  by_cases h7 : e2.gh = 0
  rotate_left
  · have d7 : decide (¬ e2.gh = 0) = true := decide_eq_true h7
    rw [decide_eq_false (by unfold noE; exact fun h => h7 h.1.2.2.2.2.2.2)]
    clear h1 h2 h3 h4 h5 h6 h7
    simp (disch := first | omega | simp only [*, go_sem, ↓reduceIte, dropK_eq]) only [x61b, go_sem, ↓reduceIte, dropK_eq, callX_known (C := C41) (g := 105) rfl, ft_call (C := C41) (g := 105) rfl, e105, ↓eq5, ↓eq4, ↓eq6, ↓eq8, bh, bm, d1, d2, d3, d4, d5, d6, d7]
    exact Ends_plain rfl rfl
  have d7 : decide (¬ e2.gh = 0) = false := decide_eq_false (not_not_intro h7)
  have hno : noE e2 := ⟨h1, h2, h3, h4, h5, h6, h7⟩
  by_cases h8 : 0 < (hl'.length : Int)
  · have d8 := decide_eq_true h8
    rw [decide_eq_false (fun h => by have := h.2.1; omega)]
    clear h1 h2 h3 h4 h5 h6 h7 hno h8
    simp (disch := first | omega | simp only [*, go_sem, ↓reduceIte, dropK_eq]) only [x61b, go_sem, ↓reduceIte, dropK_eq, callX_known (C := C41) (g := 105) rfl, ft_call (C := C41) (g := 105) rfl, e105, ↓eq5, ↓eq4, ↓eq6, ↓eq8, bh, bm, d1, d2, d3, d4, d5, d6, d7, bl, d8]
    exact Ends_plain rfl rfl
  have d8 := decide_eq_false h8
  by_cases h9 : mksOk ml
  rotate_left
  · have e59 := F59_no hm hl2 h9
    rw [decide_eq_false (fun h => h9 h.2.2.1)]
    clear h1 h2 h3 h4 h5 h6 h7 hno h8 h9
    simp (disch := first | omega | simp only [*, go_sem, ↓reduceIte, dropK_eq]) only [x61b, go_sem, ↓reduceIte, dropK_eq, callX_known (C := C41) (g := 105) rfl, ft_call (C := C41) (g := 105) rfl, callX_known (C := C41) (g := 59) rfl, ft_call (C := C41) (g := 59) rfl, e105, e59, ↓eq5, ↓eq4, ↓eq6, ↓eq8, bh, bm, d1, d2, d3, d4, d5, d6, d7, bl, d8]
    exact Ends_plain rfl rfl
  have e59 := F59_ok hm hl2 h9
  have ht8 : i64s (tell8 (natL ml)) = [.int .i64 (ruleI (natL ml) 0), .int .i64 (ruleI (natL ml) 1), .int .i64 (ruleI (natL ml) 2), .int .i64 (ruleI (natL ml) 3), .int .i64 (ruleI (natL ml) 4), .int .i64 (ruleI (natL ml) 5), .int .i64 (ruleI (natL ml) 6), .int .i64 (ruleI (natL ml) 7)] := rfl
  rw [ht8] at e59
  by_cases h10 : e.c.t < 6
  · have d10 := decide_eq_true h10
    rw [decide_eq_true (⟨hno, by omega, h9, .inl h10⟩)]
    clear h1 h2 h3 h4 h5 h6 h7 hno h8 h9
    simp (disch := first | omega | simp only [*, go_sem, ↓reduceIte, dropK_eq]) only [x61b, go_sem, ↓reduceIte, dropK_eq, callX_known (C := C41) (g := 105) rfl, ft_call (C := C41) (g := 105) rfl, callX_known (C := C41) (g := 59) rfl, ft_call (C := C41) (g := 59) rfl, e105, e59, ↓eq5, ↓eq4, ↓eq6, ↓eq8, bh, bm, d1, d2, d3, d4, d5, d6, d7, bl, d8, d10]
    exact Ends_plain rfl rfl
  have d10 := decide_eq_false h10
  have d11 : decide ((ml.length : Int) = 0) = decide (noE e2 ∧ hl'.length = 0 ∧ mksOk ml ∧ (e.c.t < 6 ∨ ml.length = 0)) := decide_eq_decide.2 ⟨fun h => ⟨hno, by omega, h9, .inr (by omega)⟩, fun h => by have := h.2.2.2; omega⟩
  generalize decide (noE e2 ∧ hl'.length = 0 ∧ mksOk ml ∧ (e.c.t < 6 ∨ ml.length = 0)) = b at *
  clear h1 h2 h3 h4 h5 h6 h7 hno h8 h9 h10
  simp (disch := first | omega | simp only [*, go_sem, ↓reduceIte, dropK_eq]) only [x61b, go_sem, ↓reduceIte, dropK_eq, callX_known (C := C41) (g := 105) rfl, ft_call (C := C41) (g := 105) rfl, callX_known (C := C41) (g := 59) rfl, ft_call (C := C41) (g := 59) rfl, e105, e59, ↓eq5, ↓eq4, ↓eq6, ↓eq8, bh, bm, d1, d2, d3, d4, d5, d6, d7, bl, d8, d10, ml1, d11]
  exact Ends_plain rfl rfl
set_option maxRecDepth 10000
noncomputable def C42 : Cfg := C41.add 61 F61
theorem ok42 : CfgOk Tryz.prog C42 := ok41.add sound61
section
variable {d : Nat} {hp : Heap} {nc : Nat} {K : AVal × Heap × Nat → Prop} {e : En} {κ : Key}
def lrnE (e : En) (size : Int) : Prop := baOk e.b ∧ e.b.s = size ∧ e.b.m ≤ e.c.f3
instance (e : En) (size : Int) : Decidable (lrnE e size) := by unfold lrnE; infer_instance
theorem learned211 {size : Int} (hu : i64R e.b.u) (hk : hp κ = some (.var (EC e))) (hK : ∀ nc', K (.bool (decide (lrnE e size)), hp, nc')) : Bd (inlD C42 (d + 1) 211 [.ptr κ 0 0 0 0, .int .i64 size] hp nc) K := by
  refine inl_of (x := x211) rfl rfl ?_
  rw [x211_eq.1, x211_eq.2.1]
  have e53 := F53_eq hu
  by_cases h1 : baOk e.b
  · by_cases h2 : e.b.s = size
    · have d3 : decide (e.b.m ≤ e.c.f3) = decide (lrnE e size) := decide_eq_decide.2 ⟨fun h => ⟨h1, h2, h⟩, fun h => h.2.2⟩
      rw [decide_eq_true h1] at e53
      have d2 := decide_eq_true h2
      clear h1 h2
      simp (disch := first | omega | simp only [*, go_sem, ↓reduceIte, dropK_eq]) only [x211b, go_sem, ↓reduceIte, dropK_eq, hk, callX_known (C := C42) (g := 53) rfl, ft_call (C := C42) (g := 53) rfl, e53, d2, d3]
      exact hK _
    · rw [decide_eq_true h1] at e53
      rw [decide_eq_false (show ¬ lrnE e size from fun h => h2 h.2.1)] at hK
      have d2 := decide_eq_false h2
      clear h1 h2
      simp (disch := first | omega | simp only [*, go_sem, ↓reduceIte, dropK_eq]) only [x211b, go_sem, ↓reduceIte, dropK_eq, hk, callX_known (C := C42) (g := 53) rfl, ft_call (C := C42) (g := 53) rfl, e53, d2]
      exact hK _
  · rw [decide_eq_false h1] at e53
    rw [decide_eq_false (show ¬ lrnE e size from fun h => h1 h.1)] at hK
    clear h1
    simp (disch := first | omega | simp only [*, go_sem, ↓reduceIte, dropK_eq]) only [x211b, go_sem, ↓reduceIte, dropK_eq, hk, callX_known (C := C42) (g := 53) rfl, ft_call (C := C42) (g := 53) rfl, e53]
    exact hK _
theorem right285 {fr : En} {c0 : Nat} (hu : i64R e.b.u) (hf1 : isSc fr.hv = true) (hf2 : isSc fr.mv = true) (hk : hp (27000000, c0) = some (.var (EC e))) (hK : ∀ hp' nc', K (.bool (decide (lrnE e 1)), hp', nc')) : Bd (inlD C42 (d + 2) 285 [.agg [.ptr (27000000, c0) 0 0 0 0], EK fr] hp nc) K := by
  refine inl_of (x := x285) rfl rfl ?_
  rw [x285_eq.1, x285_eq.2.1]
  simp (disch := first | omega | simp only [*, go_sem, ↓reduceIte, dropK_eq]) only [x285b, go_sem, ↓reduceIte, dropK_eq, hf1, hf2, call_inl (C := C42) (g := 211) rfl, ft_inl (C := C42) (g := 211) rfl]
  refine learned211 (e := e) hu (by simp only [go_sem, ↓reduceIte, dropK_eq, hk]) fun nc' => ?_
  simp (disch := first | omega | simp only [*, go_sem, ↓reduceIte, dropK_eq]) only [go_sem, ↓reduceIte, dropK_eq]
  exact hK _ _
def cntE (e fr : En) : Prop := tlOk e.t ∧ e.t.k = fr.t.k ∧ e.t.s = fr.t.s ∧ e.t.m ≤ e.c.f3
instance (e fr : En) : Decidable (cntE e fr) := by unfold cntE; infer_instance
theorem right287 {fr : En} {c0 : Nat} (hf1 : isSc fr.hv = true) (hf2 : isSc fr.mv = true) (hk : hp (27000000, c0) = some (.var (EC e))) (hK : ∀ hp' nc', K (.bool (decide (cntE e fr)), hp', nc')) : Bd (inlD C42 (d + 2) 287 [.agg [.ptr (27000000, c0) 0 0 0 0], EK fr] hp nc) K := by
  refine inl_of (x := x287) rfl rfl ?_
  rw [x287_eq.1, x287_eq.2.1]
  have e71 := F71_eq (t := e.t)
  simp only [TK] at e71
  by_cases h1 : tlOk e.t
  rotate_left
  · rw [decide_eq_false h1] at e71
    rw [decide_eq_false (show ¬ cntE e fr from fun h => h1 h.1)] at hK
    clear h1
    simp (disch := first | omega | simp only [*, go_sem, ↓reduceIte, dropK_eq]) only [x287b, go_sem, ↓reduceIte, dropK_eq, hf1, hf2, hk, callX_known (C := C42) (g := 71) rfl, ft_call (C := C42) (g := 71) rfl, e71]
    exact hK _ _
  rw [decide_eq_true h1] at e71
  by_cases h2 : e.t.k = fr.t.k
  rotate_left
  · have d2 := decide_eq_false h2
    rw [decide_eq_false (show ¬ cntE e fr from fun h => h2 h.2.1)] at hK
    clear h1 h2
    simp (disch := first | omega | simp only [*, go_sem, ↓reduceIte, dropK_eq]) only [x287b, go_sem, ↓reduceIte, dropK_eq, hf1, hf2, hk, callX_known (C := C42) (g := 71) rfl, ft_call (C := C42) (g := 71) rfl, e71, d2]
    exact hK _ _
  have d2 := decide_eq_true h2
  by_cases h3 : e.t.s = fr.t.s
  rotate_left
  · have d3 := decide_eq_false h3
    rw [decide_eq_false (show ¬ cntE e fr from fun h => h3 h.2.2.1)] at hK
    clear h1 h2 h3
    simp (disch := first | omega | simp only [*, go_sem, ↓reduceIte, dropK_eq]) only [x287b, go_sem, ↓reduceIte, dropK_eq, hf1, hf2, hk, callX_known (C := C42) (g := 71) rfl, ft_call (C := C42) (g := 71) rfl, e71, d2, d3]
    exact hK _ _
  have d3 := decide_eq_true h3
  have d4 : decide (e.t.m ≤ e.c.f3) = decide (cntE e fr) := decide_eq_decide.2 ⟨fun h => ⟨h1, h2, h3, h⟩, fun h => h.2.2.2⟩
  clear h1 h2 h3
  simp (disch := first | omega | simp only [*, go_sem, ↓reduceIte, dropK_eq]) only [x287b, go_sem, ↓reduceIte, dropK_eq, hf1, hf2, hk, callX_known (C := C42) (g := 71) rfl, ft_call (C := C42) (g := 71) rfl, e71, d2, d3, d4]
  exact hK _ _
end
set_option maxRecDepth 10000
noncomputable def F27 : List AVal → Option AVal := pureF C42 4 27
theorem sound27 : Sound Tryz.prog 27 F27 := sound_self ok42 4 27
def outE (e : En) (hl ml : List Int) : Prop := (0 ≤ e.n ∧ e.n ≤ e.c.f4) ∧ (-1000000 ≤ e.l ∧ e.l ≤ 1000000) ∧ restE e hl ml
instance (e : En) (hl ml : List Int) : Decidable (outE e hl ml) := by unfold outE; infer_instance
section
variable {e fr : En} {ml hl : List Int}
theorem F27_single (hh : Rw e.hv hl) (hm : Rw e.mv ml) (hl1 : Lg hl) (hl2 : Lg ml) (e9 : F9 [.agg (ChC e.c)] = some (.tup [EK fr, .int .i64 0])) (hf1 : isSc fr.hv = true) (hf2 : isSc fr.mv = true) (h : outE e hl ml) (ht : e.c.t = 1) (hu : i64R e.b.u) :
    F27 [EK e] = some (.bool (decide (lrnE e 1))) := by
  have am := hm.sc
  have as2 := hh.sc
  have ap := hm.plain
  have ap2 := hh.plain
  have e60 := F60_eq (x := e.n) (l := 0) (h := e.c.f4)
  have e60' := F60_eq (x := e.l) (l := -1000000) (h := 1000000)
  have e61 := F61_eq hh hm hl1 hl2
  rw [decide_eq_true h.1] at e60
  rw [decide_eq_true h.2.1] at e60'
  rw [decide_eq_true h.2.2] at e61
  clear h
  have hfc : faceT e.c.t = 96 := by rw [ht]; rfl
  unfold F27
  refine pureF_of (x := x27) rfl rfl ?_
  rw [x27_eq.1, x27_eq.2.1]
  simp (disch := first | omega | simp only [*, go_sem, ↓reduceIte, dropK_eq]) only [x27b, go_sem, ↓reduceIte, dropK_eq, callX_known (C := C42) (g := 9) rfl, ft_call (C := C42) (g := 9) rfl, callX_known (C := C42) (g := 60) rfl, ft_call (C := C42) (g := 60) rfl, callX_known (C := C42) (g := 61) rfl, ft_call (C := C42) (g := 61) rfl, e9, e60, e60', e61, hf1, hf2, call_inl (C := C42) (g := 30) rfl, ft_inl (C := C42) (g := 30) rfl]
  refine face30 rfl (e := e) (by simp only [go_sem, ↓reduceIte, dropK_eq]) fun nc' => ?_
  rw [hfc]
  simp (disch := first | omega | simp only [*, go_sem, ↓reduceIte, dropK_eq]) only [go_sem, ↓reduceIte, dropK_eq, invX_ifc (C := C42) (t := 96) (m := "datum/channel.right") (g := 285) rfl, call_inl (C := C42) (g := 30) rfl, ft_inl (C := C42) (g := 30) rfl, call_inl (C := C42) (g := 285) rfl, ft_inl (C := C42) (g := 285) rfl]
  refine right285 (e := e) hu hf1 hf2 (by simp only [go_sem, ↓reduceIte, dropK_eq]) fun hp' nc' => ?_
  simp (disch := first | omega | simp only [*, go_sem, ↓reduceIte, dropK_eq]) only [go_sem, ↓reduceIte, dropK_eq, call_inl (C := C42) (g := 30) rfl, ft_inl (C := C42) (g := 30) rfl]
  exact Ends_plain rfl rfl
theorem F27_count (hh : Rw e.hv hl) (hm : Rw e.mv ml) (hl1 : Lg hl) (hl2 : Lg ml) (e9 : F9 [.agg (ChC e.c)] = some (.tup [EK fr, .int .i64 0])) (hf1 : isSc fr.hv = true) (hf2 : isSc fr.mv = true) (h : outE e hl ml) (ht : 2 ≤ e.c.t ∧ e.c.t ≤ 5) :
    F27 [EK e] = some (.bool (decide (cntE e fr))) := by
  have am := hm.sc
  have as2 := hh.sc
  have ap := hm.plain
  have ap2 := hh.plain
  have e60 := F60_eq (x := e.n) (l := 0) (h := e.c.f4)
  have e60' := F60_eq (x := e.l) (l := -1000000) (h := 1000000)
  have e61 := F61_eq hh hm hl1 hl2
  rw [decide_eq_true h.1] at e60
  rw [decide_eq_true h.2.1] at e60'
  rw [decide_eq_true h.2.2] at e61
  clear h
  have hfc : faceT e.c.t = 97 := by unfold faceT; rw [if_neg (by omega), if_neg (by omega), if_neg (by omega), if_neg (by omega)]
  unfold F27
  refine pureF_of (x := x27) rfl rfl ?_
  rw [x27_eq.1, x27_eq.2.1]
  simp (disch := first | omega | simp only [*, go_sem, ↓reduceIte, dropK_eq]) only [x27b, go_sem, ↓reduceIte, dropK_eq, callX_known (C := C42) (g := 9) rfl, ft_call (C := C42) (g := 9) rfl, callX_known (C := C42) (g := 60) rfl, ft_call (C := C42) (g := 60) rfl, callX_known (C := C42) (g := 61) rfl, ft_call (C := C42) (g := 61) rfl, e9, e60, e60', e61, hf1, hf2, call_inl (C := C42) (g := 30) rfl, ft_inl (C := C42) (g := 30) rfl]
  refine face30 rfl (e := e) (by simp only [go_sem, ↓reduceIte, dropK_eq]) fun nc' => ?_
  rw [hfc]
  simp (disch := first | omega | simp only [*, go_sem, ↓reduceIte, dropK_eq]) only [go_sem, ↓reduceIte, dropK_eq, invX_ifc (C := C42) (t := 97) (m := "datum/channel.right") (g := 287) rfl, call_inl (C := C42) (g := 30) rfl, ft_inl (C := C42) (g := 30) rfl, call_inl (C := C42) (g := 287) rfl, ft_inl (C := C42) (g := 287) rfl]
  refine right287 (e := e) hf1 hf2 (by simp only [go_sem, ↓reduceIte, dropK_eq]) fun hp' nc' => ?_
  simp (disch := first | omega | simp only [*, go_sem, ↓reduceIte, dropK_eq]) only [go_sem, ↓reduceIte, dropK_eq, call_inl (C := C42) (g := 30) rfl, ft_inl (C := C42) (g := 30) rfl]
  exact Ends_plain rfl rfl
end
end Go.Proofs.YtldineoabbodpaaGreatDoor
namespace Go.Proofs.YtldineoabbodpaaGreatDoor
open Go Go.Xec
set_option maxRecDepth 10000
def intV : AVal → Int
  | .int _ n => n
  | _ => 0
def mlOf : AVal → List Int
  | .slc 1 xs => xs.map intV
  | _ => []
theorem mlOf_slc (l : List Int) : mlOf (.slc 1 (i64s l)) = l := by
  show (i64s l).map intV = l
  unfold i64s
  rw [List.map_map]
  exact List.map_id _
section
variable {c : REC.Ch} {e : En} {x : Int}
theorem ch_name (h : REC.chOk c) : c.n.length ≤ 1000000 := by have := h.1.2.2; omega
theorem ch_bnd (h : REC.chOk c) (ht : 1 ≤ c.t ∧ c.t ≤ 5) : (2 ≤ c.f3 ∧ c.f3 ≤ 25) ∧ (1 ≤ c.f4 ∧ c.f4 ≤ 1000000000) ∧ (c.t = 1 → -1000000 ≤ c.f1 ∧ c.f1 < c.f2 ∧ c.f2 ≤ 1000000) ∧ (c.t = 2 ∨ c.t = 3 ∨ c.t = 5 → 1 ≤ c.f0 ∧ c.f0 ≤ 1000) ∧ (c.t = 4 → c.f0 = 0) := by
  obtain ⟨_, _, h3, h4, _⟩ := h
  have k0 := h3 0 (by decide)
  have k1 := (h3 1 (by decide)).1
  have k2 := (h3 2 (by decide)).1
  have k3 := (h3 3 (by decide)).1
  have k4 := (h3 4 (by decide)).1
  have v0 : REC.vl c 0 = c.f0 := rfl
  have v1 : REC.vl c 1 = c.f1 := rfl
  have v2 : REC.vl c 2 = c.f2 := rfl
  have v3 : REC.vl c 3 = c.f3 := rfl
  have v4 : REC.vl c 4 = c.f4 := rfl
  rw [v0] at k0; rw [v1] at k1; rw [v2] at k2; rw [v3] at k3; rw [v4] at k4
  rcases (show c.t = 1 ∨ c.t = 2 ∨ c.t = 3 ∨ c.t = 4 ∨ c.t = 5 by omega) with t | t | t | t | t
  all_goals
    rw [t] at k0 k1 k2 k3 k4 h4 ⊢
    simp [REC.needB, REC.inF, REC.fd, REC.fdL, REC.mayB] at k0 k1 k2 k3 k4 h4
    omega
structure Eok (c : REC.Ch) (e : En) : Prop where
  ec : e.c = c
  ok : REC.chOk c
  n : 0 ≤ e.n ∧ e.n ≤ c.f4
  l : inM e.l
  g : e.gs = 0 ∧ e.gl = 0 ∧ e.gh = 0
  h : e.hv = .nils
  u : e.u = Cu0
  w : e.w = Ew0
  m : Rw e.mv (mlOf e.mv)
  k : mksOk (mlOf e.mv)
  p : (c.t = 1 ∧ baOk e.b ∧ e.b.s = 1 ∧ e.b.m ≤ c.f3 ∧ e.t = ⟨0, 0, 0, 0⟩) ∨ ((2 ≤ c.t ∧ c.t ≤ 5) ∧ tlOk e.t ∧ e.t.k = c.t ∧ e.t.s = max c.f0 1 ∧ e.t.m ≤ c.f3 ∧ e.b = ⟨0, 0, 0, 0, 0⟩)
theorem Eok.t (h : Eok c e) : 1 ≤ c.t ∧ c.t ≤ 5 := by rcases h.p with h | h <;> omega
theorem new_tl (h : REC.chOk c) (ht : 2 ≤ c.t ∧ c.t ≤ 5) : tlOk ⟨c.t, max c.f0 1, 0, 0⟩ := by
  have := ch_bnd h (by omega)
  refine ⟨⟨ht, ?_, ?_, ?_⟩, ?_, ?_⟩ <;> simp only <;> omega
theorem F9_ok (h : REC.chOk c) (ht : 1 ≤ c.t ∧ c.t ≤ 5) : F9 [.agg (ChC c)] = some (.tup [EK (newE c), .int .i64 0]) := by
  unfold newE
  by_cases h1 : c.t = 1
  · rw [F9_single (ch_name h) h h1, if_pos h1]
  · rw [F9_count (ch_name h) h (by omega) (new_tl h (by omega)), if_neg h1, if_neg (by omega), if_pos (by omega)]
theorem newE_ok (h : REC.chOk c) (ht : 1 ≤ c.t ∧ c.t ≤ 5) : Eok c (newE c) := by
  have hb := ch_bnd h ht
  have m0 : mksOk (mlOf .nils) := ⟨by decide, by intro m hm; cases hm⟩
  unfold newE
  by_cases h1 : c.t = 1
  · rw [if_pos h1]
    refine ⟨rfl, h, ⟨Int.le_refl _, by show (0 : Int) ≤ _; omega⟩, (show inM (0 : Int) by decide), ⟨rfl, rfl, rfl⟩, rfl, rfl, rfl, .inl ⟨rfl, rfl⟩, m0, .inl ⟨h1, (show baOk ⟨1, 0, 0, 0, 0⟩ by decide), rfl, by show (0 : Int) ≤ _; omega, rfl⟩⟩
  · rw [if_neg h1, if_neg (by omega), if_pos (by omega)]
    refine ⟨rfl, h, ⟨Int.le_refl _, by show (0 : Int) ≤ _; omega⟩, (show inM (0 : Int) by decide), ⟨rfl, rfl, rfl⟩, rfl, rfl, rfl, .inl ⟨rfl, rfl⟩, m0, .inr ⟨by omega, new_tl h (by omega), rfl, rfl, by show (0 : Int) ≤ _; omega, rfl⟩⟩
theorem newE_nils : (newE c).hv = .nils ∧ (newE c).mv = .nils := by
  unfold newE
  repeat' split
  all_goals exact ⟨rfl, rfl⟩
theorem Eok.out (h : Eok c e) : outE e [] (mlOf e.mv) := by
  obtain ⟨hc, ok, hn, hl, ⟨g1, g2, g3⟩, hh, hu, hw, hm, mk, hp⟩ := h
  have hr : restE e [] (mlOf e.mv) := by
    refine ⟨?_, by split <;> rfl, mk, .inl (by rw [hc]; rcases hp with h | h <;> omega)⟩
    rcases hp with ⟨h1, h2, h3, h4, h5⟩ | ⟨h1, h2, h3, h4, h5, h6⟩
    · rw [show bareE e = { e with b := ⟨0, 0, 0, 0, 0⟩ } by unfold bareE; rw [hc, if_neg (by omega), if_pos h1]]
      simp [noE, h5, hu, hw, g1, g2, g3]
    · rw [show bareE e = { e with t := ⟨0, 0, 0, 0⟩ } by unfold bareE; rw [hc, if_neg (by omega), if_neg (by omega), if_neg (by omega), if_neg (by omega)]]
      simp [noE, h6, hu, hw, g1, g2, g3]
  subst hc
  exact ⟨hn, hl, hr⟩
theorem F27_ok (h : Eok c e) : F27 [EK e] = some (.bool true) := by
  have ho := h.out
  have hh : Rw e.hv [] := by rw [h.h]; exact .inl ⟨rfl, rfl⟩
  have hlm : Lg (mlOf e.mv) := by have := h.k.1; simp only [Lg]; omega
  have hl0 : Lg [] := by simp [Lg]
  obtain ⟨n1, n2⟩ := newE_nils (c := e.c)
  have e9 := F9_ok (c := e.c) (by rw [h.ec]; exact h.ok) (by rw [h.ec]; exact h.t)
  rcases h.p with ⟨h1, h2, h3, h4, h5⟩ | ⟨h1, h2, h3, h4, h5, h6⟩
  · rw [F27_single hh h.m hl0 hlm e9 (by rw [n1]; rfl) (by rw [n2]; rfl) ho (by rw [h.ec]; exact h1) (by have := baOk_u h2; simp only [i64R]; omega), decide_eq_true (show lrnE e 1 from ⟨h2, h3, by rw [h.ec]; exact h4⟩)]
  · rw [F27_count hh h.m hl0 hlm e9 (by rw [n1]; rfl) (by rw [n2]; rfl) ho (by rw [h.ec]; exact h1), decide_eq_true]
    have hnt : (newE e.c).t = ⟨c.t, max c.f0 1, 0, 0⟩ := by unfold newE; rw [h.ec, if_neg (by omega), if_neg (by omega), if_pos (by omega)]
    exact ⟨h2, by rw [hnt]; exact h3, by rw [hnt]; exact h4, by rw [h.ec]; exact h5⟩
end
end Go.Proofs.YtldineoabbodpaaGreatDoor
namespace Go.Proofs.YtldineoabbodpaaGreatDoor
open Go Go.Xec
attribute [local go_sem] tm0 ne_eq not_false_eq_true List.length_append List.length_replicate List.replicate_succ List.replicate_zero Int.cast_ofNat_Int not_true_eq_false decide_true decide_false ite_self beq_self_eq_true Bool.true_beq Bool.false_beq Bool.not_true Bool.not_false
attribute [local go_sem_proc] Nat.reduceAdd Nat.reduceMul Nat.reduceSub Nat.reduceLeDiff Nat.reduceLT Nat.reduceEqDiff Int.reduceLT Int.reduceLE Int.reduceAdd Int.reduceSub Int.reduceMul Int.reduceToNat Int.reducePow Int.reduceNe Int.reduceMod Int.reduceDiv Int.reduceEq Nat.reducePow Int.reduceNeg
set_option maxRecDepth 10000
noncomputable def C43 : Cfg := C42.add 27 F27
theorem ok43 : CfgOk Tryz.prog C43 := ok42.add sound27
noncomputable def F12 : List AVal → Option AVal := pureF C43 1 12
theorem sound12 : Sound Tryz.prog 12 F12 := sound_self ok43 1 12
abbrev SC0 : List AVal := SC 0 0 0 0 0 0 0 0 0 0 0 0
section
variable {c : REC.Ch} {e : En} {x : Int}
theorem F12_pass {hl ml hl2 ml2 : List Int} {e2 : En} {k g1 g2 g3 g4 q0 q1 q2 q3 q4 q5 q6 q7 : Int} (hh : Rw e.hv hl) (hm : Rw e.mv ml) (hh2 : Rw e2.hv hl2) (hm2 : Rw e2.mv ml2) (h : F27 [EK e] = some (.bool true)) (h2 : F36 [EK e, .int .i64 x] = some (.tup [EK e2, .agg (SC g1 g2 g3 g4 q0 q1 q2 q3 q4 q5 q6 q7), .int .i64 k])) :
    F12 [EK e, .int .i64 x] = some (.tup [EK e2, .agg (SC g1 g2 g3 g4 q0 q1 q2 q3 q4 q5 q6 q7), .int .i64 k]) := by
  have am := hm.sc
  have as2 := hh.sc
  have ap := hm.plain
  have ap2 := hh.plain
  have am3 := hm2.sc
  have as3 := hh2.sc
  have ap4 := hm2.plain
  have ap3 := hh2.plain
  unfold F12
  refine pureF_of (x := x12) rfl rfl ?_
  rw [x12_eq.1, x12_eq.2.1]
  simp (disch := first | omega | simp only [*, go_sem, ↓reduceIte, dropK_eq]) only [x12b, go_sem, ↓reduceIte, dropK_eq, callX_known (C := C43) (g := 27) rfl, ft_call (C := C43) (g := 27) rfl, callX_known (C := C43) (g := 36) rfl, ft_call (C := C43) (g := 36) rfl, h, h2, am3, as3]
  exact Ends_plain (tup3_plain (EK_plain (e := e2) ap3 ap4 62) (SC_plain _ _ _ _ _ _ _ _ _ _ _ _ 62) (plain_int 63 _ _)) rfl
def nxE (e : En) (x : Int) : En := if e.c.t = 1 then valN e (mlOf e.mv) x else cntN e (mlOf e.mv) x
def snE (e : En) (x : Int) : AVal := if e.c.t = 1 then (valS e (mlOf e.mv) [x] (max (x - e.l) (e.l - x))).2 else (cntS e (mlOf e.mv) x).2
def ansE (c : REC.Ch) (e : En) (x : Int) : AVal := if e.n = c.f4 then .tup [EK E00, .agg SC0, .int .i64 11] else if smpOk c x then .tup [EK (nxE e x), snE e x, .int .i64 0] else .tup [EK E00, .agg SC0, .int .i64 3]
theorem snE_cells (e : En) (x : Int) : ∃ k v w g r0 r1 r2 r3 r4 r5 r6 r7, snE e x = .agg (SC k v w g r0 r1 r2 r3 r4 r5 r6 r7) := by
  unfold snE
  split
  · exact valS_cells _ _ _ _
  · exact cntS_cells _ _ _
theorem push_ok {ml : List Int} {m : Int} (hmo : mksOk ml) (hm : 0 < m ∧ m < 512) : mksOk (pushL ml m) := by
  have := hmo.1
  refine ⟨by simp only [pushL, List.length_drop, List.length_append, List.length_cons, List.length_nil]; omega, fun m' hm' => ?_⟩
  have h3 := List.mem_of_mem_drop hm'
  rcases List.mem_append.1 h3 with h4 | h4
  · exact hmo.2 m' h4
  · simp at h4; subst h4; exact hm
theorem smp_in (h : Eok c e) (hx : smpOk c x) : inM x := by
  have hb := ch_bnd h.ok h.t
  have ht := h.t
  unfold smpOk at hx
  simp only [inM]
  by_cases h2 : c.t = 2 ∨ c.t = 3
  · rw [if_pos h2] at hx; omega
  by_cases h4 : c.t = 4 ∨ c.t = 5
  · rw [if_neg h2, if_pos h4] at hx; omega
  rw [if_neg h2, if_neg h4] at hx; omega
theorem smp_cnt (h : Eok c e) (ht : 2 ≤ c.t ∧ c.t ≤ 5) (h3 : e.t.k = c.t) (h4 : e.t.s = max c.f0 1) (hx : smpOk c x) : 0 ≤ x ∧ x ≤ e.t.most := by
  have hb := ch_bnd h.ok h.t
  unfold smpOk at hx
  unfold Tl.most
  rw [h3, h4]
  by_cases h2 : c.t = 2 ∨ c.t = 3
  · rw [if_pos h2] at hx; rw [if_pos (by omega)]; omega
  rw [if_neg h2, if_pos (by omega)] at hx
  rw [if_neg (by omega)]
  exact hx
theorem nxE_ok (h : Eok c e) (hn : e.n ≠ c.f4) (hx : smpOk c x) : Eok c (nxE e x) := by
  have hin := smp_in h hx
  have hb := ch_bnd h.ok h.t
  have hnn := h.n
  have hN : 0 ≤ e.n + 1 ∧ e.n + 1 ≤ c.f4 := by omega
  unfold nxE
  rw [h.ec]
  rcases h.p with ⟨h1, h2, h3, h4, h5⟩ | ⟨h1, h2, h3, h4, h5, h6⟩
  · rw [if_pos h1]
    unfold valN valS
    rw [h.ec]
    by_cases hm : e.b.m < c.f3
    · rw [if_pos hm]
      have htk := takeB_ok (row := [x]) h2 (by omega) (by rw [h3]; rfl) (by intro y hy; simp at hy; subst hy; exact hin)
      exact ⟨rfl, h.ok, hN, hin, h.g, h.h, h.u, h.w, h.m, h.k, .inl ⟨h1, htk, h3, by show e.b.m + 1 ≤ _; omega, h5⟩⟩
    · rw [if_neg hm]
      have hsum : sumL [x] = x := by simp [sumL]
      have hxb : -(e.b.s * 1000000) ≤ x ∧ x ≤ e.b.s * 1000000 := by rw [h3]; simp only [inM] at hin; omega
      have hmr := maskP_rng (ptB_ok h2 (by omega) hxb).1
      have hp := push_ok h.k hmr
      rw [hsum]
      refine ⟨rfl, h.ok, hN, hin, h.g, h.h, h.u, h.w, ?_, ?_, .inl ⟨h1, h2, h3, h4, h5⟩⟩
      · simp only [mlOf_slc]; exact Rw.slc _
      · simp only [mlOf_slc]; exact hp
  · have hd := smp_cnt h h1 h3 h4 hx
    rw [if_neg (by omega)]
    unfold cntN cntS
    rw [h.ec]
    by_cases hm : e.t.m < c.f3
    · rw [if_pos hm]
      have htk := takeT_ok h2 (by omega) hd
      exact ⟨rfl, h.ok, hN, hin, h.g, h.h, h.u, h.w, h.m, h.k, .inr ⟨h1, htk, h3, h4, by show e.t.m + 1 ≤ _; omega, h6⟩⟩
    · rw [if_neg hm]
      have hmr := maskP_rng (ptT_ok h2 (by omega) hd).1
      have hp := push_ok h.k hmr
      refine ⟨rfl, h.ok, hN, hin, h.g, h.h, h.u, h.w, ?_, ?_, .inr ⟨h1, h2, h3, h4, h5, h6⟩⟩
      · simp only [mlOf_slc]; exact Rw.slc _
      · simp only [mlOf_slc]; exact hp
theorem F12_eq (h : Eok c e) : F12 [EK e, .int .i64 x] = some (ansE c e x) := by
  have hh : Rw e.hv [] := by rw [h.h]; exact .inl ⟨rfl, rfl⟩
  have h27 := F27_ok h
  have hb := ch_bnd h.ok h.t
  have hnn := h.n
  have hec := h.ec
  unfold ansE
  by_cases hn : e.n = c.f4
  · rw [if_pos hn]
    exact F12_pass (e2 := E00) hh h.m (.inl ⟨rfl, rfl⟩) (.inl ⟨rfl, rfl⟩) h27 (F36_full hh h.m (by rw [hec]; exact hn))
  rw [if_neg hn]
  by_cases hx : smpOk c x
  rotate_left
  · rw [if_neg hx]
    exact F12_pass (e2 := E00) hh h.m (.inl ⟨rfl, rfl⟩) (.inl ⟨rfl, rfl⟩) h27 (F36_range hh h.m (by rw [hec]; exact hn) (by rw [hec]; exact hx))
  rw [if_pos hx]
  have hin := smp_in h hx
  have hok := nxE_ok h hn hx
  have hh2 : Rw (nxE e x).hv [] := by rw [hok.h]; exact .inl ⟨rfl, rfl⟩
  obtain ⟨g1, g2, g3, g4, q0, q1, q2, q3, q4, q5, q6, q7, hv⟩ := snE_cells e x
  rw [hv]
  refine F12_pass hh h.m hh2 hok.m h27 ?_
  rw [← hv]
  unfold nxE snE
  rw [hec]
  rcases h.p with ⟨h1, h2, h3, h4, h5⟩ | ⟨h1, h2, h3, h4, h5, h6⟩
  · rw [if_pos h1, if_pos h1]
    exact F36_single (by rw [hec]; exact hn) (by omega) (by rw [hec]; exact hx) (by rw [hec]; exact h1) h2 h3 (by rw [hec]; exact hb.1) hh h.m h.k hin h.l
  · rw [if_neg (by omega), if_neg (by omega)]
    exact F36_count (by rw [hec]; exact hn) (by omega) (by rw [hec]; exact hx) (by rw [hec]; exact h1) h2 (by rw [hec]; omega) hh h.m h.k (smp_cnt h h1 h3 h4 hx)
end
set_option maxRecDepth 10000
structure Sn where
  k : Int
  v : Int
  w : Int
  g : Int
  r0 : Int
  r1 : Int
  r2 : Int
  r3 : Int
  r4 : Int
  r5 : Int
  r6 : Int
  r7 : Int
  deriving DecidableEq
abbrev SnC (s : Sn) : List AVal := SC s.k s.v s.w s.g s.r0 s.r1 s.r2 s.r3 s.r4 s.r5 s.r6 s.r7
abbrev SnK (s : Sn) : AVal := .agg (SnC s)
abbrev Sn0 : Sn := ⟨0, 0, 0, 0, 0, 0, 0, 0, 0, 0, 0, 0⟩
theorem SnK_plain (s : Sn) (d : Nat) : plain (d + 1) (SnK s) = true := SC_plain _ _ _ _ _ _ _ _ _ _ _ _ d
section
variable (st : En → Int → En × Sn × Int)
def aft (e : En) (x : Int) : En := if (st e x).2.2 = 0 then (st e x).1 else e
def goE (e : En) (l : List Int) : En := l.foldl (aft st) e
def outs (e : En) : List Int → List (Sn × Int)
  | [] => []
  | x :: l => (st e x).2 :: outs (aft st e x) l
theorem outs_len (e : En) (l : List Int) : (outs st e l).length = l.length := by
  induction l generalizing e with
  | nil => rfl
  | cons x l ih => simp [outs, ih]
theorem outs_snoc (e : En) (l : List Int) (x : Int) : outs st e (l ++ [x]) = outs st e l ++ [(st (goE st e l) x).2] := by
  induction l generalizing e with
  | nil => rfl
  | cons y l ih => simp only [List.cons_append, outs, ih, goE, List.foldl_cons]
theorem take_snoc {l : List Int} {i : Nat} (hi : i < l.length) : l.take (i + 1) = l.take i ++ [l.getD i 0] := by
  rw [List.take_add_one, List.getElem?_eq_getElem hi, List.getD_eq_getElem?_getD, List.getElem?_eq_getElem hi]
  rfl
theorem goE_snoc (e : En) (l : List Int) (x : Int) : goE st e (l ++ [x]) = aft st (goE st e l) x := by simp [goE]
theorem Bd_push {ss : List Nat} {es bytes s0 s1 c c' : Nat} {hp h : Heap} {v z : AVal} {xs : List AVal} {K : AVal × Heap → Prop} (ho : Own ss es hp v xs) (hh : ∀ k : Key, k.1 ∈ ss → h k = hp k) (hk : s0 ∈ ss) (hn : s1 ∉ ss)
    (hl : plain Xec.freeze z = true) (hsc : (cellsOf z).all isSc = true) (hb : (xs.length + 1) * bytes ≤ 140737488355328)
    (hK : ∀ v' h', Own ss es h' v' (xs ++ [z]) → (∀ k : Key, k.1 ∉ ss → k.1 ≠ s1 → h' k = h k) → K (v', h')) :
    Bd (appA es bytes (s0, c) v (.sl (s1, c') 0 es 0 1) (upd h (s1, c') (some (.row 0 es [z])))) K := by
  obtain ⟨V, H, hA, hO⟩ := (ho.keep hh).push (s0 := s0) (s1 := s1) (z := z) (bytes := bytes) hk hn hl hsc hb
  rw [hA c c']
  simp only [Bd_some]
  exact hK _ _ (hO c c').1 (hO c c').2
end
noncomputable def C44 : Cfg := C43.add 12 F12
theorem ok44 : CfgOk Tryz.prog C44 := ok43.add sound12
noncomputable def F10 : List AVal → Option AVal := pureF C44 1 10
theorem sound10 : Sound Tryz.prog 10 F10 := sound_self ok44 1 10
structure StOk (P : En → Prop) (st : En → Int → En × Sn × Int) : Prop where
  rw : ∀ e, P e → ∃ hl ml, Rw e.hv hl ∧ Rw e.mv ml
  go : ∀ e x, P e → F12 [EK e, .int .i64 x] = some (.tup [EK (st e x).1, SnK (st e x).2.1, .int .i64 (st e x).2.2])
  rw2 : ∀ e x, P e → ∃ hl ml, Rw (st e x).1.hv hl ∧ Rw (st e x).1.mv ml
  nx : ∀ e x, P e → P (aft st e x)
theorem goE_ok {P : En → Prop} {st : En → Int → En × Sn × Int} (h : StOk P st) {e : En} (he : P e) (l : List Int) : P (goE st e l) := by
  induction l generalizing e with
  | nil => exact he
  | cons x l ih => exact ih (h.nx e x he)
theorem F10_eq {P : En → Prop} {st : En → Int → En × Sn × Int} (h : StOk P st) {e : En} (he : P e) {a : AVal} {l : List Int} (ha : Rw a l) (hl : l.length ≤ 1000000) :
    F10 [EK e, a] = some (.tup [EK (goE st e l), rowN 12 ((outs st e l).map fun o => SnK o.1), rowN 1 (i64s ((outs st e l).map (·.2)))]) := by
  have ap := ha.plain
  obtain ⟨hl0, ml0, hh0, hm0⟩ := h.rw e he
  have am := hm0.sc
  have as2 := hh0.sc
  unfold F10
  refine pureF_of (x := x10) rfl rfl ?_
  rw [x10_eq.1, x10_eq.2.1]
  simp (disch := first | omega | simp only [*, go_sem, ↓reduceIte, dropK_eq]) only [x10b, go_sem, ↓reduceIte, dropK_eq, ha.len, am, as2]
  refine Ev_range (ti := 16) (len := l.length) (J := fun i tm hp nc => Own [10009003] 12 hp (tm 7) ((outs st e (l.take i)).map fun o => SnK o.1) ∧ ((outs st e (l.take i)).map (fun o => SnK o.1) = [] → tm 7 = .nils) ∧
    Own [10009007] 1 hp (tm 8) (i64s ((outs st e (l.take i)).map (·.2))) ∧ (i64s ((outs st e (l.take i)).map (·.2)) = [] → tm 8 = .nils) ∧
    hp (10000000, 0) = some (.var (EC (goE st e (l.take i)))) ∧ hp (10000001, 0) = some (.var (EC E00))) (by omega) (by simp only [go_sem, ↓reduceIte, dropK_eq]) ?_ ?_
  · simp only [go_sem, ↓reduceIte, dropK_eq, List.take_zero, outs, List.map_nil]
    exact ⟨Own.nils _ _ _, fun _ => trivial, Own.nils _ _ _, fun _ => trivial, rfl⟩
  · rintro i tm hp nc hi' hc k16 ⟨ho1, h01, ho2, h02, kq, kr⟩
    have k1 := hc 1 rfl; have k2 := hc 2 rfl; have k4 := hc 4 rfl; have k14 := hc 14 rfl; have k15 := hc 15 rfl; simp only [go_sem, ↓reduceIte, dropK_eq] at k1 k2 k4 k14 k15
    have hP := goE_ok h he (l.take i)
    obtain ⟨hl1, ml1, hh1, hm1⟩ := h.rw _ hP
    have am1 := hm1.sc
    have as1 := hh1.sc
    have ap1 := hm1.plain
    have ap1' := hh1.plain
    rcases Nat.lt_or_ge i l.length with hlt | hge
    · have d1 : decide ((i : Int) < (l.length : Int)) = true := decide_eq_true (by omega)
      have ia := ha.ia hlt
      have e12 := h.go _ (l.getD i 0) hP
      obtain ⟨hl2, ml2, hh2, hm2⟩ := h.rw2 _ (l.getD i 0) hP
      have am2 := hm2.sc
      have as2 := hh2.sc
      have hg := goE_snoc st e (l.take i) (l.getD i 0)
      have hu := outs_snoc st e (l.take i) (l.getD i 0)
      rw [← take_snoc hlt] at hg hu
      unfold aft at hg
      generalize goE st e (l.take i) = e1 at *
      by_cases hz : (st e1 (l.getD i 0)).2.2 = 0
      · rw [if_pos hz] at hg
        have d2 := decide_eq_true hz
        simp (disch := first | omega | simp only [*, go_sem, ↓reduceIte, dropK_eq]) only [x10l4, go_sem, ↓reduceIte, dropK_eq, k1, k2, k4, k14, k15, k16, kq, d1, ia, callX_known (C := C44) (g := 12) rfl, ft_call (C := C44) (g := 12) rfl, e12, am1, as1, am2, as2, d2]
        refine Bd_push ho1 (fun k hk => ?_) (by simp) (by simp) (SnK_plain _ _) rfl (by simp [outs_len]; omega) fun v' h' ho1' hf1 => ?_
        · simp at hk; repeat rw [upd_ne _ _ (by rintro rfl; simp at hk)]
        simp (disch := first | omega | simp only [*, go_sem, ↓reduceIte, dropK_eq]) only [go_sem, ↓reduceIte, dropK_eq]
        refine Bd_push ho2 (fun k hk => ?_) (by simp) (by simp) (plain_int _ _ _) rfl (by simp [outs_len]; omega) fun v2 h2 ho2' hf2 => ?_
        · simp at hk
          rw [hf1 _ (by simp [hk]) (by simp [hk])]
          repeat rw [upd_ne _ _ (by rintro rfl; simp at hk)]
        simp (disch := first | omega | simp only [*, go_sem, ↓reduceIte, dropK_eq]) only [x10l4, go_sem, ↓reduceIte, dropK_eq, k16]
        refine ⟨hlt, by simp, ?_, ?_, ?_, ?_, ?_, ?_⟩
        · rw [hu, List.map_append]
          refine ho1'.keep fun k hk => ?_
          rw [hf2 _ (by simp at hk ⊢; omega) (by simp at hk ⊢; omega)]
          repeat rw [upd_ne _ _ (by rintro rfl; simp at hk)]
        · rw [hu]; intro h; simp at h
        · rw [hu, i64s, List.map_append, List.map_append]; exact ho2'
        · rw [hu]; intro h; simp [i64s] at h
        · rw [hf2 _ (by decide) (by decide), hf1 _ (by decide) (by decide), hg]
          simp only [go_sem, ↓reduceIte, dropK_eq, kq]
        · rw [hf2 _ (by decide) (by decide), hf1 _ (by decide) (by decide)]
          simp only [go_sem, ↓reduceIte, dropK_eq, kr]
      · rw [if_neg hz] at hg
        have d2 := decide_eq_false hz
        simp (disch := first | omega | simp only [*, go_sem, ↓reduceIte, dropK_eq]) only [x10l4, go_sem, ↓reduceIte, dropK_eq, k1, k2, k4, k14, k15, k16, kq, d1, ia, callX_known (C := C44) (g := 12) rfl, ft_call (C := C44) (g := 12) rfl, e12, am1, as1, am2, as2, d2]
        refine Bd_push ho1 (fun k hk => ?_) (by simp) (by simp) (SnK_plain _ _) rfl (by simp [outs_len]; omega) fun v' h' ho1' hf1 => ?_
        · simp at hk; repeat rw [upd_ne _ _ (by rintro rfl; simp at hk)]
        simp (disch := first | omega | simp only [*, go_sem, ↓reduceIte, dropK_eq]) only [go_sem, ↓reduceIte, dropK_eq]
        refine Bd_push ho2 (fun k hk => ?_) (by simp) (by simp) (plain_int _ _ _) rfl (by simp [outs_len]; omega) fun v2 h2 ho2' hf2 => ?_
        · simp at hk
          rw [hf1 _ (by simp [hk]) (by simp [hk])]
          repeat rw [upd_ne _ _ (by rintro rfl; simp at hk)]
        simp (disch := first | omega | simp only [*, go_sem, ↓reduceIte, dropK_eq]) only [x10l4, go_sem, ↓reduceIte, dropK_eq, k16]
        refine ⟨hlt, by simp, ?_, ?_, ?_, ?_, ?_, ?_⟩
        · rw [hu, List.map_append]
          refine ho1'.keep fun k hk => ?_
          rw [hf2 _ (by simp at hk ⊢; omega) (by simp at hk ⊢; omega)]
          repeat rw [upd_ne _ _ (by rintro rfl; simp at hk)]
        · rw [hu]; intro h; simp at h
        · rw [hu, i64s, List.map_append, List.map_append]; exact ho2'
        · rw [hu]; intro h; simp [i64s] at h
        · rw [hf2 _ (by decide) (by decide), hf1 _ (by decide) (by decide), hg]
          simp only [go_sem, ↓reduceIte, dropK_eq, kq]
        · rw [hf2 _ (by decide) (by decide), hf1 _ (by decide) (by decide)]
          simp only [go_sem, ↓reduceIte, dropK_eq, kr]
    · obtain rfl : i = l.length := by omega
      have d1 : decide ((l.length : Int) < (l.length : Int)) = false := decide_eq_false (by omega)
      rw [List.take_length] at *
      simp (disch := first | omega | simp only [*, go_sem, ↓reduceIte, dropK_eq]) only [x10l4, go_sem, ↓reduceIte, dropK_eq, k1, k2, k4, k14, k15, k16, d1, kq, kr, am1, as1]
      rw [Ends_eq, show (64 : Nat) = 63 + 1 from rfl, lendV_tup, lendVL_cons, lendVL_cons, lendVL_cons, lendV_plain (EK_plain ap1' ap1 62), Option.bind_some]
      rw [ho1.lendN h01 62 (plainL_map (enc := fun o : Sn × Int => SnK o.1) 62 (fun o => SnK_plain o.1 61) _) (fun k hk => by simp at hk; repeat rw [upd_ne _ _ (by rintro rfl; simp at hk)]), Option.bind_some]
      rw [ho2.lendN h02 62 (plainL_ints 62 _ _) (fun k hk => by simp at hk; repeat rw [upd_ne _ _ (by rintro rfl; simp at hk)]), Option.bind_some]
      simp only [lendVL_nil, Option.map_some]
set_option maxRecDepth 10000
def snOf : AVal → Sn
  | .agg [a, b, c, d, e0, e1, e2, e3, e4, e5, e6, e7] => ⟨intV a, intV b, intV c, intV d, intV e0, intV e1, intV e2, intV e3, intV e4, intV e5, intV e6, intV e7⟩
  | _ => Sn0
theorem snE_sn (e : En) (x : Int) : snE e x = SnK (snOf (snE e x)) := by
  obtain ⟨_, _, _, _, _, _, _, _, _, _, _, _, h⟩ := snE_cells e x
  rw [h]
  rfl
def stE (c : REC.Ch) (e : En) (x : Int) : En × Sn × Int := if e.n = c.f4 then (E00, Sn0, 11) else if smpOk c x then (nxE e x, snOf (snE e x), 0) else (E00, Sn0, 3)
theorem stE_ok (c : REC.Ch) : StOk (Eok c) (stE c) where
  rw := fun e h => ⟨[], _, by rw [h.h]; exact Rw.nils, h.m⟩
  go := fun e x h => by
    rw [F12_eq h]
    unfold ansE stE
    split
    · rfl
    split
    · rw [snE_sn]; rfl
    · rfl
  rw2 := fun e x h => by
    unfold stE
    by_cases hn : e.n = c.f4
    · rw [if_pos hn]; exact ⟨[], [], Rw.nils, Rw.nils⟩
    by_cases hx : smpOk c x
    · rw [if_neg hn, if_pos hx]
      have := nxE_ok h hn hx
      exact ⟨[], _, by rw [this.h]; exact Rw.nils, this.m⟩
    · rw [if_neg hn, if_neg hx]; exact ⟨[], [], Rw.nils, Rw.nils⟩
  nx := fun e x h => by
    unfold aft stE
    by_cases hn : e.n = c.f4
    · rw [if_pos hn, if_neg (by decide)]; exact h
    by_cases hx : smpOk c x
    · rw [if_neg hn, if_pos hx, if_pos rfl]
      exact nxE_ok h hn hx
    · rw [if_neg hn, if_neg hx, if_neg (by decide)]; exact h
abbrev chA : REC.Ch := ⟨[97], 1, 0, 0, 100, 2, 9, 0, 0, 0, 0, 0, 0, 0⟩
theorem chA_ok : REC.chOk chA := by decide
theorem isq_le {v s : Int} (hs : 0 ≤ s) (hv : 0 ≤ v) (h : v ≤ s * s) : isqI v ≤ s ∧ upI v ≤ s + 1 := by
  obtain ⟨h0, h1, h2⟩ := isqI_spec hv
  have h3 : isqI v ≤ s := by
    rcases Int.lt_or_le s (isqI v) with h4 | h4
    · exfalso
      have h5 : (s + 1) * (s + 1) ≤ isqI v * isqI v := Int.mul_le_mul (by omega) (by omega) (by omega) (by omega)
      have h6 : (s + 1) * (s + 1) = s * s + 2 * s + 1 := by rw [Int.add_mul, Int.mul_add]; omega
      omega
    · exact h4
  refine ⟨h3, ?_⟩
  unfold upI
  split <;> omega
theorem verP_eq (p : Pt) : verP p = if rnd (p.c * 1000 + radU p) p.d 1 < rnd ((p.c + p.v) * 1000) p.d 0 ∨ rnd ((p.c + p.v) * 1000) p.d 1 < rnd (p.c * 1000 - radU p) p.d 0 then 1
    else if rnd (p.c * 1000 + rad p) p.d 0 < rnd ((p.c + p.v) * 1000) p.d 1 ∨ rnd ((p.c + p.v) * 1000) p.d 0 < rnd (p.c * 1000 - rad p) p.d 1 then 2 else 0 := rfl
theorem rad_le {p : Pt} {s : Int} (hs : 0 ≤ s) (h0 : 0 ≤ val p.h p.l) (h : 9000000 * val p.h p.l ≤ s * s) : rad p ≤ s ∧ radU p ≤ s + 1 := isq_le hs (by omega) h
theorem verA : verP (ptB ⟨1, 2, 12, 2, 7⟩ 100) = 1 := by
  have hc : (ptB ⟨1, 2, 12, 2, 7⟩ 100).c = 135360 := by simp [ptB, byB, denB, sprB]
  have hd : (ptB ⟨1, 2, 12, 2, 7⟩ 100).d = 22560 := by simp [ptB, byB, denB, sprB]
  have hv : (ptB ⟨1, 2, 12, 2, 7⟩ 100).v = 2120640 := by simp [ptB, byB, denB, sprB]
  have hh : (ptB ⟨1, 2, 12, 2, 7⟩ 100).h = 0 := by simp [ptB, byB, denB, sprB]
  have hl : (ptB ⟨1, 2, 12, 2, 7⟩ 100).l = 1600000000 := by simp [ptB, byB, denB, sprB]
  generalize ptB ⟨1, 2, 12, 2, 7⟩ 100 = p at *
  have hr := (rad_le (p := p) (s := 120000000) (by decide) (by rw [hh, hl]; simp [val]) (by rw [hh, hl]; simp [val])).2
  rw [verP_eq, if_pos]
  left
  rw [hc, hd, hv]
  generalize radU p = R at hr
  unfold rnd
  rw [if_neg (by decide), if_pos rfl]
  omega
theorem outsA : ∃ s0 s1 s2 : Sn, outs (stE chA) (newE chA) [5, 7, 100] = [(s0, 0), (s1, 0), (s2, 0)] ∧ s1.k = 1 ∧ s2.k = 2 ∧ s2.v = 1 := by
  have h1 : stE chA (newE chA) 5 = ({ newE chA with n := 1, l := 5, b := ⟨1, 1, 5, 0, 5⟩ }, ⟨1, 0, 0, 0, 0, 0, 0, 0, 0, 0, 0, 0⟩, 0) := by kernel_rfl
  have h2 : stE chA { newE chA with n := 1, l := 5, b := ⟨1, 1, 5, 0, 5⟩ } 7 = ({ newE chA with n := 2, l := 7, b := ⟨1, 2, 12, 2, 7⟩ }, ⟨1, 0, 0, 0, 0, 0, 0, 0, 0, 0, 0, 0⟩, 0) := by kernel_rfl
  have h3 : stE chA { newE chA with n := 2, l := 7, b := ⟨1, 2, 12, 2, 7⟩ } 100 = (nxE { newE chA with n := 2, l := 7, b := ⟨1, 2, 12, 2, 7⟩ } 100, snOf (snE { newE chA with n := 2, l := 7, b := ⟨1, 2, 12, 2, 7⟩ } 100), 0) := by
    unfold stE
    rw [if_neg (by decide), if_pos (by decide)]
  have h4 : snOf (snE { newE chA with n := 2, l := 7, b := ⟨1, 2, 12, 2, 7⟩ } 100) = snOf (SK 2 (verP (ptB ⟨1, 2, 12, 2, 7⟩ (sumL [100]))) (wideB ⟨1, 2, 12, 2, 7⟩ (max (100 - 7) (7 - 100))) 0 (tell8 (natL (pushL [] (maskP (ptB ⟨1, 2, 12, 2, 7⟩ (sumL [100]))))))) := by
    unfold snE valS
    rw [if_pos (by decide), if_neg (by decide)]
    rfl
  rw [show sumL [100] = 100 from rfl, verA, SK_tell] at h4
  generalize { newE chA with n := 2, l := 7, b := ⟨1, 2, 12, 2, 7⟩ } = e2 at *
  generalize { newE chA with n := 1, l := 5, b := ⟨1, 1, 5, 0, 5⟩ } = e1 at *
  refine ⟨⟨1, 0, 0, 0, 0, 0, 0, 0, 0, 0, 0, 0⟩, ⟨1, 0, 0, 0, 0, 0, 0, 0, 0, 0, 0, 0⟩, snOf (snE e2 100), (by simp only [outs, aft, h1, h2, h3, if_true]), rfl, ?_⟩
  rw [h4]
  exact ⟨rfl, rfl⟩
noncomputable def C45 : Cfg := C44.add 10 F10
theorem ok45 : CfgOk Tryz.prog C45 := ok44.add sound10
noncomputable def F11 : List AVal → Option AVal := pureF C45 1 11
theorem sound11 : Sound Tryz.prog 11 F11 := sound_self ok45 1 11
theorem newA : newE chA = { E00 with c := chA, b := ⟨1, 0, 0, 0, 0⟩ } := rfl
theorem F11_eq : F11 [] = some (.bool true) := by
  have hE := newE_ok chA_ok (by decide)
  have e9 := F9_ok chA_ok (by decide)
  obtain ⟨s0, s1, s2, ho, hk1, hk2, hv2⟩ := outsA
  have e10 := F10_eq (stE_ok chA) hE (Rw.slc [5, 7, 100]) (by decide)
  obtain ⟨hl, ml, hh, hm⟩ := (stE_ok chA).rw _ (goE_ok (stE_ok chA) hE [5, 7, 100])
  have a1 := hh.sc
  have a2 := hm.sc
  rw [ho] at e10
  generalize goE (stE chA) (newE chA) [5, 7, 100] = e3 at *
  have er1 : (rowN 12 ([(s0, (0 : Int)), (s1, 0), (s2, 0)].map fun o => SnK o.1)) = .slc 12 [SnK s0, SnK s1, SnK s2] := rfl
  have er2 : (rowN 1 (i64s ([(s0, (0 : Int)), (s1, 0), (s2, 0)].map (·.2)))) = .slc 1 [.int .i64 0, .int .i64 0, .int .i64 0] := rfl
  have er3 : i64s [5, 7, 100] = [.int .i64 5, .int .i64 7, .int .i64 100] := rfl
  rw [er1, er2, er3] at e10
  rw [newA] at e9 e10
  clear hE ho
  have d1 : decide (s1.k = 1) = true := decide_eq_true hk1
  have d2 : decide (s2.k = 2) = true := decide_eq_true hk2
  have d3 : decide (s2.v = 1) = true := decide_eq_true hv2
  unfold F11
  refine pureF_of (x := x11) rfl rfl ?_
  rw [x11_eq.1, x11_eq.2.1]
  simp (disch := first | omega | simp only [*, go_sem, ↓reduceIte, dropK_eq]) only [x11b, go_sem, ↓reduceIte, dropK_eq, callX_known (C := C45) (g := 9) rfl, ft_call (C := C45) (g := 9) rfl, e9, callX_names (C := C45) (g := 10) rfl, ftC_names (C := C45) (g := 10) rfl, e10, a1, a2, d1, d2, d3]
  exact Ends_plain rfl rfl
set_option maxRecDepth 10000
def trn (k n : Int) : Int := (k.tmod n + n).tmod n
theorem trn_rng (k : Int) {n : Int} (hn : 0 < n) : (-n < k.tmod n ∧ k.tmod n < n) ∧ 0 ≤ trn k n ∧ trn k n < n := by
  have h1 := Int.lt_tmod_of_pos k hn
  have h2 := Int.tmod_lt_of_pos k hn
  have h3 : 0 ≤ k.tmod n + n := by omega
  exact ⟨⟨h1, h2⟩, Int.tmod_nonneg n h3, Int.tmod_lt_of_pos _ hn⟩
def someC (chart size m : Int) : REC.Ch :=
  if trn chart 5 = 0 then ⟨[97], 1, 0, -1000000, 1000000, 2 + trn m 24, 1000, 0, 0, 0, 0, 0, 0, 0⟩
  else if trn chart 5 = 3 then ⟨[97], 4, 0, 0, 0, 2 + trn m 24, 1000, 0, 0, 0, 0, 0, 0, 0⟩
  else ⟨[97], 1 + trn chart 5, 1 + trn size 1000, 0, 0, 2 + trn m 24, 1000, 0, 0, 0, 0, 0, 0, 0⟩
noncomputable def F8 : List AVal → Option AVal := pureF C45 1 8
theorem sound8 : Sound Tryz.prog 8 F8 := sound_self ok45 1 8
theorem F8_eq {chart size m : Int} : F8 [.int .i64 chart, .int .i64 size, .int .i64 m] = some (.agg (ChC (someC chart size m))) := by
  obtain ⟨⟨a1, a2⟩, a3, a4⟩ := trn_rng chart (n := 5) (by decide)
  obtain ⟨⟨b1, b2⟩, b3, b4⟩ := trn_rng size (n := 1000) (by decide)
  obtain ⟨⟨c1, c2⟩, c3, c4⟩ := trn_rng m (n := 24) (by decide)
  unfold someC
  unfold trn at *
  unfold F8
  refine pureF_of (x := x8) rfl rfl ?_
  rw [x8_eq.1, x8_eq.2.1]
  generalize hA : (chart.tmod 5 + 5).tmod 5 = A at *
  generalize hB : (size.tmod 1000 + 1000).tmod 1000 = B at *
  generalize hM : (m.tmod 24 + 24).tmod 24 = M at *
  by_cases h1 : A = 0
  · have d1 : decide (1 + A = 1) = true := decide_eq_true (by omega)
    rw [if_pos h1]
    simp (disch := first | omega | simp only [*, go_sem, ↓reduceIte, dropK_eq]) only [x8b, go_sem, ↓reduceIte, dropK_eq, hA, hB, hM, d1]
    exact Ends_plain rfl (by rw [h1]; rfl)
  have d1 : decide (1 + A = 1) = false := decide_eq_false (by omega)
  rw [if_neg h1]
  by_cases h2 : A = 3
  · have d2 : decide (1 + A = 4) = true := decide_eq_true (by omega)
    rw [if_pos h2]
    simp (disch := first | omega | simp only [*, go_sem, ↓reduceIte, dropK_eq]) only [x8b, go_sem, ↓reduceIte, dropK_eq, hA, hB, hM, d1, d2]
    exact Ends_plain rfl (by rw [h2]; rfl)
  have d2 : decide (1 + A = 4) = false := decide_eq_false (by omega)
  rw [if_neg h2]
  simp (disch := first | omega | simp only [*, go_sem, ↓reduceIte, dropK_eq]) only [x8b, go_sem, ↓reduceIte, dropK_eq, hA, hB, hM, d1, d2]
  exact Ends_plain rfl rfl
theorem chOk_of {t f0 f1 f2 f3 f4 : Int} (ht : t = 1 ∧ f0 = 0 ∧ -1000000 ≤ f1 ∧ f1 < f2 ∧ f2 ≤ 1000000 ∨ (t = 2 ∨ t = 3 ∨ t = 5) ∧ (1 ≤ f0 ∧ f0 ≤ 1000) ∧ f1 = 0 ∧ f2 = 0 ∨ t = 4 ∧ f0 = 0 ∧ f1 = 0 ∧ f2 = 0) (h3 : 2 ≤ f3 ∧ f3 ≤ 25) (h4 : 1 ≤ f4 ∧ f4 ≤ 1000000000) :
    REC.chOk ⟨[97], t, f0, f1, f2, f3, f4, 0, 0, 0, 0, 0, 0, 0⟩ := by
  have hw : REC.T.wordOk [97] := by decide
  rcases ht with ⟨rfl, h⟩ | ⟨rfl | rfl | rfl, h⟩ | ⟨rfl, h⟩
  all_goals
    refine ⟨hw, by dsimp only; decide, fun k hk => ?_, ?_, .inl ⟨rfl, rfl⟩⟩
    · rcases (show k = 0 ∨ k = 1 ∨ k = 2 ∨ k = 3 ∨ k = 4 ∨ k = 5 ∨ k = 6 ∨ k = 7 ∨ k = 8 ∨ k = 9 ∨ k = 10 ∨ k = 11 by omega) with rfl | rfl | rfl | rfl | rfl | rfl | rfl | rfl | rfl | rfl | rfl | rfl
      all_goals
        simp [REC.needB, REC.inF, REC.fd, REC.fdL, REC.mayB, REC.vl, REC.Ch.fs]
        try omega
    · simp [REC.needB, REC.fd, REC.fdL]
      try omega
noncomputable def C46 : Cfg := (C45.add 8 F8).add 11 F11
theorem ok46 : CfgOk Tryz.prog C46 := (ok45.add sound8).add sound11
end Go.Proofs.YtldineoabbodpaaGreatDoor
namespace Go.Proofs.YtldineoabbodpaaGreatDoor
open Go Go.Xec
set_option maxRecDepth 10000
abbrev chS (k : Int) : REC.Ch := ⟨[97], 1, 0, -1000000, 1000000, k, 1000, 0, 0, 0, 0, 0, 0, 0⟩
theorem someS (m : Int) : someC 0 0 m = chS (2 + trn m 24) := if_pos (by decide)
def eSm (k x : Int) (i : Int) : En := { E00 with c := chS k, n := i, l := if i = 0 then 0 else x, b := ⟨1, i, i * x, 0, if i = 0 then 0 else x⟩ }
theorem eSm_new (k x : Int) : newE (chS k) = eSm k x 0 := by
  unfold eSm newE
  rw [if_pos rfl]
  dsimp only
  rw [if_pos rfl, Int.zero_mul]
abbrev SnB : Sn := ⟨1, 0, 0, 0, 0, 0, 0, 0, 0, 0, 0, 0⟩
theorem stE_learn {k x i : Int} (hk : k ≤ 25) (hi : 0 ≤ i ∧ i < k) (hx : inM x) : stE (chS k) (eSm k x i) x = (eSm k x (i + 1), SnB, 0) := by
  have hs : smpOk (chS k) x := by
    unfold smpOk
    rw [if_neg (by dsimp only; decide), if_neg (by dsimp only; decide)]
    exact hx
  unfold stE
  rw [if_neg (by show ¬ i = 1000; omega), if_pos hs]
  have hm : (eSm k x i).b.m < (eSm k x i).c.f3 := hi.2
  have h1 : (eSm k x i).c.t = 1 := rfl
  unfold nxE snE
  rw [if_pos h1, if_pos h1]
  unfold valN valS
  rw [if_pos hm]
  have hre : reachI (eSm k x i).b [x] = 0 := by
    unfold reachI
    rw [if_pos (show (eSm k x i).b.s = 1 from rfl)]
    show (if i = 0 then 0 else max (x - (if i = 0 then 0 else x)) ((if i = 0 then 0 else x) - x)) = 0
    split
    · rfl
    · omega
  have htk : takeB (eSm k x i).b [x] = ⟨1, i + 1, (i + 1) * x, 0, x⟩ := by
    unfold takeB
    rw [hre]
    show (⟨1, i + 1, i * x + sumL [x], 0 + 0, x⟩ : Bs) = _
    rw [show sumL [x] = x by simp [sumL], Int.add_mul, Int.one_mul, Int.add_zero]
  rw [htk]
  refine Prod.ext ?_ rfl
  show ({ E00 with c := chS k, n := i + 1, l := x, b := ⟨1, i + 1, (i + 1) * x, 0, x⟩ } : En) = eSm k x (i + 1)
  unfold eSm
  rw [if_neg (by omega)]
theorem isq0 : isqI 0 = 0 := by
  have := isq_le (v := 0) (s := 0) (by decide) (by decide) (by decide)
  have h2 := (isqI_spec (v := 0) (by decide)).1
  omega
theorem up0 : upI 0 = 0 := by unfold upI; rw [isq0]; rfl
theorem ver_still {k x y : Int} (hk : 2 ≤ k) : (verP (ptB ⟨1, k, k * x, 0, x⟩ y) = 1) ↔ x ≠ y := by
  rw [verP_eq]
  have hr : rad (ptB ⟨1, k, k * x, 0, x⟩ y) = 0 := by
    unfold rad ptB sprB
    simp only [if_true, Int.mul_zero, Int.zero_mul, val]
    exact isq0
  have hr2 : radU (ptB ⟨1, k, k * x, 0, x⟩ y) = 0 := by
    unfold radU ptB sprB
    simp only [if_true, Int.mul_zero, Int.zero_mul, val]
    exact up0
  rw [hr, hr2]
  have hB : (ptB ⟨1, k, k * x, 0, x⟩ y).c = 11280 * (k - 1) * (k * x) := rfl
  have hD : (ptB ⟨1, k, k * x, 0, x⟩ y).d = 11280 * (k - 1) * k := rfl
  have hV : (ptB ⟨1, k, k * x, 0, x⟩ y).v = 11280 * (k - 1) * (y * k - k * x) := rfl
  rw [hV, hB, hD]
  have hd0 : 0 < 11280 * (k - 1) * k := Int.mul_pos (by omega) (by omega)
  have e1 : 11280 * (k - 1) * (k * x) * 1000 = (1000 * x) * (11280 * (k - 1) * k) := by
    rw [← Int.mul_assoc (11280 * (k - 1)) k x]
    generalize 11280 * (k - 1) * k = D
    rw [Int.mul_comm D x, Int.mul_assoc, Int.mul_comm D 1000, ← Int.mul_assoc, Int.mul_comm x 1000]
  have e2 : (11280 * (k - 1) * (k * x) + 11280 * (k - 1) * (y * k - k * x)) * 1000 = (1000 * y) * (11280 * (k - 1) * k) := by
    rw [← Int.mul_add, show k * x + (y * k - k * x) = k * y by rw [Int.mul_comm y k]; omega, ← Int.mul_assoc (11280 * (k - 1)) k y]
    generalize 11280 * (k - 1) * k = D
    rw [Int.mul_comm D y, Int.mul_assoc, Int.mul_comm D 1000, ← Int.mul_assoc, Int.mul_comm y 1000]
  rw [e2, Int.add_zero, Int.sub_zero, e1]
  generalize 11280 * (k - 1) * k = D at *
  have r0 : ∀ z m, rnd (z * D) D m = z := by
    intro z m
    unfold rnd
    split
    · exact Int.mul_ediv_cancel _ (by omega)
    · rw [← Int.neg_mul, Int.mul_ediv_cancel _ (by omega)]; omega
  simp only [r0]
  split
  · simp; omega
  · simp; omega
structure Stl (k x : Int) (j : Nat) (e : En) : Prop where
  ok : Eok (chS k) e
  b : e.b = ⟨1, k, k * x, 0, x⟩
  n : e.n = k + j
theorem stl_step {k x y : Int} {j : Nat} {e : En} (h : Stl k x j e) (hk : 2 ≤ k ∧ k ≤ 25) (hj : j < 30) (hy : inM y) :
    ∃ e' s, stE (chS k) e y = (e', s, 0) ∧ s.k = 2 ∧ (s.v = 1 ↔ x ≠ y) ∧ Stl k x (j + 1) e' := by
  have hs : smpOk (chS k) y := by
    unfold smpOk
    rw [if_neg (by dsimp only; decide), if_neg (by dsimp only; decide)]
    exact hy
  have hn : e.n ≠ (chS k).f4 := by rw [h.n]; show ¬ k + j = 1000; omega
  have hnx := nxE_ok h.ok hn hs
  refine ⟨nxE e y, snOf (snE e y), ?_, ?_⟩
  · unfold stE
    rw [if_neg hn, if_pos hs]
  have hm : ¬ e.b.m < e.c.f3 := by rw [h.b, h.ok.ec]; exact Int.lt_irrefl k
  have hs1 : sumL [y] = y := by simp [sumL]
  have h1 : snE e y = SK 2 (verP (ptB e.b y)) (wideB e.b (max (y - e.l) (e.l - y))) 0 (tell8 (natL (pushL (mlOf e.mv) (maskP (ptB e.b y))))) := by
    unfold snE valS
    rw [if_pos (by rw [h.ok.ec]), if_neg hm, hs1]
  rw [h1, SK_tell]
  refine ⟨rfl, ?_, hnx, ?_, ?_⟩
  · show verP (ptB e.b y) = 1 ↔ _
    rw [h.b]
    exact ver_still hk.1
  · unfold nxE valN valS
    rw [if_pos (by rw [h.ok.ec]), if_neg hm]
    exact h.b
  · unfold nxE valN
    rw [if_pos (by rw [h.ok.ec])]
    show e.n + 1 = _
    rw [h.n]
    omega
end Go.Proofs.YtldineoabbodpaaGreatDoor
namespace Go.Proofs.YtldineoabbodpaaGreatDoor
open Go Go.Xec
attribute [local go_sem] tm0 ne_eq not_false_eq_true List.length_append List.length_replicate List.replicate_succ List.replicate_zero Int.cast_ofNat_Int not_true_eq_false decide_true decide_false ite_self beq_self_eq_true Bool.true_beq Bool.false_beq Bool.not_true Bool.not_false
attribute [local go_sem_proc] Nat.reduceAdd Nat.reduceMul Nat.reduceSub Nat.reduceLeDiff Nat.reduceLT Nat.reduceEqDiff Int.reduceLT Int.reduceLE Int.reduceAdd Int.reduceSub Int.reduceMul Int.reduceToNat Int.reducePow Int.reduceNe Int.reduceMod Int.reduceDiv Int.reduceEq Nat.reducePow Int.reduceNeg
set_option maxRecDepth 10000
theorem eSm_ok {k x : Int} (hk : 2 ≤ k ∧ k ≤ 25) (hx : inM x) (i : Nat) (hi : (i : Int) ≤ k) : Eok (chS k) (eSm k x i) := by
  have hc : REC.chOk (chS k) := chOk_of (.inl ⟨rfl, rfl, by decide⟩) hk (by decide)
  induction i with
  | zero => rw [show ((0 : Nat) : Int) = 0 from rfl, ← eSm_new]; exact newE_ok hc (by dsimp only; decide)
  | succ i ih =>
    have h1 := ih (by omega)
    have h2 := (stE_ok (chS k)).nx _ x h1
    unfold aft at h2
    rw [stE_learn hk.2 ⟨by omega, by omega⟩ hx] at h2
    exact h2
theorem law4 {m x : Int} {a : AVal} {l : List Int} (ha : Rw a l) (hl : l.length ≤ 100000000000000) : pureF C46 1 4 [.int .i64 m, .int .i64 x, a] = some (.bool true) := by
  obtain ⟨_, c3, c4⟩ := trn_rng m (n := 24) (by decide)
  have e8 := F8_eq (chart := 0) (size := 0) (m := m)
  rw [someS] at e8
  have x1 := Int.lt_tmod_of_pos x (show (0 : Int) < 1000000 by decide)
  have x2 := Int.tmod_lt_of_pos x (show (0 : Int) < 1000000 by decide)
  obtain ⟨n, hn⟩ : ∃ n : Nat, 2 + trn m 24 = (n : Int) := ⟨(2 + trn m 24).toNat, by omega⟩
  have hk : 2 ≤ (n : Int) ∧ (n : Int) ≤ 25 := by omega
  rw [hn] at e8
  have hc : REC.chOk (chS n) := chOk_of (.inl ⟨rfl, rfl, by decide⟩) hk (by decide)
  have e9 := F9_ok hc (by dsimp only; decide)
  rw [eSm_new n (x.tmod 1000000)] at e9
  have e11 := F11_eq
  have htk := ha.sliceTo (n := min l.length 30) (by omega)
  have hlt := (ha.take (min l.length 30)).len
  have hta := ha.take (min l.length 30)
  have hl2 : (l.take (min l.length 30)).length ≤ 30 := by rw [List.length_take]; omega
  have hmn : mnxA false (.int .i64 (l.length : Int)) [.int .i64 30] = some (.int .i64 ((min l.length 30 : Nat) : Int)) := by
    rw [mnx_min]; refine congrArg (fun z => some (AVal.int .i64 z)) ?_; omega
  have hlen := ha.len
  generalize l.take (min l.length 30) = l2 at hlt hta hl2
  generalize rwTake (min l.length 30) a = a2 at *
  have hap := ha.plain
  have hxm : inM (x.tmod 1000000) := by simp only [inM]; omega
  generalize hX : x.tmod 1000000 = X at *
  refine pureF_of (x := x4) rfl rfl ?_
  rw [x4_eq.1, x4_eq.2.1]
  have sm1 : ∀ i, isSc (eSm n X i).hv = true := fun _ => rfl
  have sm2 : ∀ i, isSc (eSm n X i).mv = true := fun _ => rfl
  have pm1 : ∀ i d, plain d (eSm n X i).hv = true := fun _ d => plain_nils d
  have pm2 : ∀ i d, plain d (eSm n X i).mv = true := fun _ d => plain_nils d
  simp (disch := first | omega | simp only [*, go_sem, ↓reduceIte, dropK_eq]) only [x4b, go_sem, ↓reduceIte, dropK_eq, callX_known (C := C46) (g := 8) rfl, ft_call (C := C46) (g := 8) rfl, callX_known (C := C46) (g := 9) rfl, ft_call (C := C46) (g := 9) rfl, callX_known (C := C46) (g := 11) rfl, ft_call (C := C46) (g := 11) rfl, e8, e9, e11, hX, sm1, sm2]
  refine Ev_range (ti := 35) (len := n) (J := fun i tm hp nc => hp (4003005, 3) = some (.var (EC (eSm n X i)))) (by omega) (by simp only [go_sem, ↓reduceIte, dropK_eq]) ?_ ?_
  · simp only [go_sem, ↓reduceIte, dropK_eq]
  rintro i tm hp nc hi' hc k35 kq
  have k1 := hc 1 rfl; have k2 := hc 2 rfl; have k8 := hc 8 rfl; have k34 := hc 34 rfl; simp only [go_sem, ↓reduceIte, dropK_eq] at k1 k2 k8 k34
  rcases Nat.lt_or_ge i n with hlt | hge
  · have d1 : decide ((i : Int) < (n : Int)) = true := decide_eq_true (by omega)
    have e12 := (stE_ok (chS n)).go _ X (eSm_ok hk hxm i (by omega))
    rw [stE_learn hk.2 ⟨by omega, by omega⟩ hxm] at e12
    simp (disch := first | omega | simp only [*, go_sem, ↓reduceIte, dropK_eq]) only [x4l7, go_sem, ↓reduceIte, dropK_eq, k1, k2, k8, k34, k35, d1, kq, sm1, sm2, pm1, pm2, callX_known (C := C46) (g := 12) rfl, ft_call (C := C46) (g := 12) rfl, e12]
    exact ⟨hlt, by simp, rfl⟩
  obtain rfl : i = n := by omega
  have d1 : decide ((i : Int) < (i : Int)) = false := decide_eq_false (by omega)
  simp (disch := first | omega | simp only [*, go_sem, ↓reduceIte, dropK_eq]) only [x4l7, go_sem, ↓reduceIte, dropK_eq, k1, k2, k8, k34, k35, d1, kq, hlen, hmn, htk, hlt, hap]
  have hEi := eSm_ok hk hxm i (Int.le_refl _)
  have hS0 : Stl i X 0 (eSm i X i) := ⟨hEi, by unfold eSm; rw [if_neg (by omega)], by show (i : Int) = i + (0 : Nat); omega⟩
  refine Ev_range (ti := 59) (len := l2.length) (J := fun j tm hp nc => ∃ e, hp (4003005, 3) = some (.var (EC e)) ∧ Stl i X j e) (by omega) (by simp only [go_sem, ↓reduceIte, dropK_eq]) ?_ ?_
  · exact ⟨_, kq, hS0⟩
  clear hc kq
  rintro j tm hp nc hj' hc k59 ⟨e, kq, hS⟩
  have q1 := hc 1 rfl; have q8 := hc 8 rfl; have q57 := hc 57 rfl; have q58 := hc 58 rfl; simp only [go_sem, ↓reduceIte, dropK_eq, k1, k8] at q1 q8 q57 q58
  rcases Nat.lt_or_ge j l2.length with hlt2 | hge2
  · have d1 : decide ((j : Int) < (l2.length : Int)) = true := decide_eq_true (by omega)
    have ia := hta.ia hlt2
    generalize l2.getD j 0 = y at ia
    have y1 := Int.lt_tmod_of_pos y (show (0 : Int) < 1000000 by decide)
    have y2 := Int.tmod_lt_of_pos y (show (0 : Int) < 1000000 by decide)
    obtain ⟨e', s, hst, hsk, hsv, hS'⟩ := stl_step (y := y.tmod 1000000) hS hk (by omega) (by simp only [inM]; omega)
    have e12 := (stE_ok (chS i)).go _ (y.tmod 1000000) hS.ok
    rw [hst] at e12
    have b1 := hS.ok.m.sc
    have b2 : isSc e.hv = true := by rw [hS.ok.h]; rfl
    have b3 := hS'.ok.m.sc
    have b4 : isSc e'.hv = true := by rw [hS'.ok.h]; rfl
    have p1 := hS.ok.m.plain
    have p2 : ∀ d, plain d e.hv = true := fun d => by rw [hS.ok.h]; exact plain_nils d
    have d2 : decide (¬ s.k = 2) = false := decide_eq_false (not_not_intro hsk)
    have d3 : decide (s.v = 1) = decide (¬ X = y.tmod 1000000) := decide_eq_decide.2 hsv
    generalize hY : y.tmod 1000000 = Y at *
    simp (disch := first | omega | simp only [*, go_sem, ↓reduceIte, dropK_eq]) only [x4l15, go_sem, ↓reduceIte, dropK_eq, q1, q8, q57, q58, k59, d1, kq, ia, hY, b1, b2, b3, b4, p1, p2, callX_known (C := C46) (g := 12) rfl, ft_call (C := C46) (g := 12) rfl, e12, d2, d3]
    exact ⟨hlt2, by simp, e', rfl, hS'⟩
  · obtain rfl : j = l2.length := by omega
    have d1 : decide ((l2.length : Int) < (l2.length : Int)) = false := decide_eq_false (by omega)
    simp (disch := first | omega | simp only [*, go_sem, ↓reduceIte, dropK_eq]) only [x4l15, go_sem, ↓reduceIte, dropK_eq, q1, q8, q57, q58, k59, d1, kq]
    exact Ends_plain rfl rfl
end Go.Proofs.YtldineoabbodpaaGreatDoor
namespace Go.Proofs.YtldineoabbodpaaGreatDoor
open Go Go.Xec
theorem law4w (xs : List AVal) (h : WTL [.int .i64, .int .i64, .slice 1 8 (.int .i64)] xs) : pureF C46 1 4 xs = some (.bool true) := by
  simp only [WTL] at h
  obtain ⟨a, _, rfl, ha, b, _, rfl, hb, q, _, rfl, hq, rfl⟩ := h
  rw [WT] at ha hb
  obtain ⟨n, rfl, hn1, hn2⟩ := ha
  obtain ⟨x, rfl, hx1, hx2⟩ := hb
  obtain ⟨l, hl, hl2, hl3⟩ := wt_ints hq
  exact law4 hl (by omega)
end Go.Proofs.YtldineoabbodpaaGreatDoor
namespace Go.Proofs.YtldineoabbodpaaGreatDoor
open Go Go.Xec Go.ChangeShapes Go.WideShapes Go.ChangeAt Go.RowKit
theorem seatOwn : ownKnob Tryz.prog.godebug = none := by kernel_rfl
theorem seatLaidOut : laidOutB Tryz.prog = true := by kernel_rfl
theorem gv0 : Tryz.prog.globalNamed "math/bits.deBruijn32tab" = some 0 := by kernel_rfl
theorem gv1 : Tryz.prog.globalNamed "math/bits.deBruijn64tab" = some 1 := by kernel_rfl
abbrev seatList : List (String × DataW Unit) := Rows.channelStillRow.laid
theorem laid_of_met {W : World} (h : laidMetH Tryz.prog seatList W) (hS : W.ShapedOpen Tryz.prog) : Laid Tryz.prog W := by
  rw [Go.MakeChecks.laidMetH_plain _ _ _ (by kernel_rfl)] at h
  have h1 := h.tail
  refine ⟨?_, ?_, ?_, ?_⟩
  · intro t ht hne
    simp only [tabs, List.mem_cons, List.not_mem_nil, or_false] at ht
    rcases ht with rfl | rfl
    · exact absurd (by kernel_rfl : Tryz.prog.globalNamed "internal/strconv.uint64pow10" = none) hne
    · exact Lib.tabIs_of_head (k := .u8) (zs := Lib.deBruijn64tab.map Int.ofNat) gv1 (t := 255) (e := 5) (n := 64) (by kernel_rfl) (by kernel_rfl) (by kernel_rfl) (by kernel_rfl) (by kernel_rfl) h1
  · intro n hn hg
    simp only [errs, List.mem_cons, List.not_mem_nil, or_false] at hn
    rcases hn with rfl | rfl
    · exact absurd (by kernel_rfl : Tryz.prog.globalNamed "strconv.ErrSyntax" = none) hg
    · exact absurd (by kernel_rfl : Tryz.prog.globalNamed "strconv.ErrRange" = none) hg
  · intro g hg
    rw [(by kernel_rfl : Tryz.prog.globalNamed "internal/bytealg.MaxLen" = none)] at hg
    cases hg
  · intro hg
    exact absurd (by kernel_rfl : Tryz.prog.globalNamed "errors.errorType" = none) hg
noncomputable def laidWorld (os : Os) : World :=
  let w0 := World.holding Tryz.prog os ⟨#[], #[], []⟩
  let put (h : Array Obj) (g : Nat) (cs : Array Value) : Array Obj := h.modify g fun
    | .cells _ t frozen => .cells cs t frozen
    | o => o
  let k1 := put w0.heap 0 #[.int .u8 0, .int .u8 1, .int .u8 28, .int .u8 2, .int .u8 29, .int .u8 14, .int .u8 24, .int .u8 3, .int .u8 30, .int .u8 22, .int .u8 20, .int .u8 15, .int .u8 25, .int .u8 17, .int .u8 4, .int .u8 8, .int .u8 31, .int .u8 27, .int .u8 13, .int .u8 23, .int .u8 21, .int .u8 19, .int .u8 16, .int .u8 7, .int .u8 26, .int .u8 12, .int .u8 18, .int .u8 6, .int .u8 11, .int .u8 5, .int .u8 10, .int .u8 9]
  let k2 := put k1 1 #[.int .u8 0, .int .u8 1, .int .u8 56, .int .u8 2, .int .u8 57, .int .u8 49, .int .u8 28, .int .u8 3, .int .u8 61, .int .u8 58, .int .u8 42, .int .u8 50, .int .u8 38, .int .u8 29, .int .u8 17, .int .u8 4, .int .u8 62, .int .u8 47, .int .u8 59, .int .u8 36, .int .u8 45, .int .u8 43, .int .u8 51, .int .u8 22, .int .u8 53, .int .u8 39, .int .u8 33, .int .u8 30, .int .u8 24, .int .u8 18, .int .u8 12, .int .u8 5, .int .u8 63, .int .u8 55, .int .u8 48, .int .u8 27, .int .u8 60, .int .u8 41, .int .u8 37, .int .u8 16, .int .u8 46, .int .u8 35, .int .u8 44, .int .u8 21, .int .u8 52, .int .u8 32, .int .u8 23, .int .u8 11, .int .u8 54, .int .u8 26, .int .u8 40, .int .u8 15, .int .u8 34, .int .u8 20, .int .u8 31, .int .u8 10, .int .u8 25, .int .u8 14, .int .u8 19, .int .u8 9, .int .u8 13, .int .u8 8, .int .u8 7, .int .u8 6]
  { w0 with heap := k2 }
set_option maxRecDepth 100000 in
theorem laidWorld_met (os : Os) (args : Array Value) : laidMetH Tryz.prog seatList ((laidWorld os).forCall (fun _ _ => 0) ⟨#[], args, []⟩).memory := by
  rw [Go.MakeChecks.laidMetH_plain _ _ _ (by kernel_rfl)]
  exact laidMet_of_run' 8 (by kernel_rfl) (by kernel_rfl)
end Go.Proofs.YtldineoabbodpaaGreatDoor
