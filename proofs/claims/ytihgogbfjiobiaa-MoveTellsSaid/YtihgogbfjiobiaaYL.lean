/-
  Run's loop, over the pairs of samples side by side.
-/
import Derived.Maps.AppendAt
import Derived.Test.YtihgogbfjiobiaaYI
set_option linter.unusedVariables false
namespace Go.Proofs.Ytihgogbfjiobiaa
open Go Go.RowKit Go.Shelf

attribute [local go_sem] Oper.semAt_some
theorem calls_sound {f : FuncId} {fn : Func} {F : List Go.Xec.AVal → Option Go.Xec.AVal} (hf : Try.prog.funcs[f]? = some fn) (hname : (fn.name == "runtime.NumGoroutine") = false) (hb : fn.body.isSome = true)
    (hs : Go.Xec.Sound Try.prog f F) {ys : List Go.Xec.AVal} {r : Go.Xec.AVal} (hF : F ys = some r) (w : World) (hL : Go.Xec.Laid Try.prog w) {vs : List Value} (hl : Go.Xec.VL (Go.Xec.ctx0 w fun b => b < w.heap.size) ys vs) :
    Calls Try.prog f vs.toArray w fun e w' => ∃ v, e = .returned v ∧ Below w.heap.size w w' ∧ Go.Xec.V (Go.Xec.ctx0 w' fun b => b < w'.heap.size) r v := by
  rcases hs ys r hF w _ vs (fun _ h => h) hL hl with ⟨_, h⟩ | ⟨v, w', h, _⟩
  · refine h.mono ?_
    rintro e w' ⟨v, rfl, h1, h2, h3, h4⟩
    refine ⟨v, rfl, ⟨h3.1, h3.2.1, h3.2.2, h1, h2⟩, ?_⟩
    have e : (fun b => b < w.heap.size ∨ (w.heap.size ≤ b ∧ b < w'.heap.size)) = fun b => b < w'.heap.size := by
      funext b
      apply propext
      omega
    rw [e] at h4
    exact h4
  · exfalso
    cases hbb : fn.body with
    | none => rw [hbb] at hb; cases hb
    | some c =>
      simp only [callFunc, Sem.run_bind, run_program, Result.andThen_ok, hf, hname, hbb] at h
      simp at h
theorem ctx_grow {w w' : World} (h : Below w.heap.size w w') : Go.Xec.Grow (Go.Xec.ctx0 w fun b => b < w.heap.size) (Go.Xec.ctx0 w' fun b => b < w'.heap.size) := by
  refine ⟨fun b hb => Nat.lt_of_lt_of_le hb h.size, fun b hb => h.block b hb, fun _ _ _ hp => hp, fun b => ?_⟩
  show Go.Xec.bsz w b ≤ Go.Xec.bsz w' b
  unfold Go.Xec.bsz
  rcases Nat.lt_or_ge b w.heap.size with hb | hb
  · rw [h.block b hb]
    exact Nat.le_refl _
  · rw [Array.getElem?_eq_none hb]
    exact Nat.zero_le _
theorem cell_at {w : World} {b i : Nat} {cs : Array Value} {T : TypeId} {fr : Nat × Nat} {v : Value} (h : w.heap[b]? = some (.cells cs T fr)) (hi : cs[i]? = some v) : w.cell? ⟨b, i, none⟩ = some v := by
  simp only [World.cell?, h, hi]
  rfl
theorem infoI : (Try.prog.info? 3).map (fun i => (i.zero, i.size, i.bytes)) = some (some (.int .i64 0), 1, 8) := by kernel_rfl
/-- The first range over a function in a code. -/
def digR : Code → Option Code
  | .seq a b => (digR a).orElse fun _ => digR b
  | .cond _ a b => (digR a).orElse fun _ => digR b
  | .block _ c => digR c
  | .loop c => digR c
  | .rangeFunc g ps a b => some (.rangeFunc g ps a b)
  | _ => none
theorem ownsRow_low {W : World} {b b' : Nat} {e : TypeId} {size : Nat} {v : Value} {n : Nat} {xs : List Value} (h : W.ownsRow b e size v n xs) (hb : b' ≤ b) : W.ownsRow b' e size v n xs := by
  refine ⟨h.1, ?_⟩
  rcases h.2 with h | ⟨g, cap, cur, h1, h2, h3⟩
  · exact .inl h
  · exact .inr ⟨g, cap, cur, h1, Nat.le_trans hb h2, h3⟩
theorem ownsRow_off {W : World} {b : Nat} {e : TypeId} {size : Nat} {v : Value} {n : Nat} {xs : List Value} (h : W.ownsRow b e size v n xs) {k : Nat} (hk : k < b) : v.ownBlock ≠ some k := by
  intro e'
  have := (h.lt k e').1
  omega
theorem cells3_own (B : Nat) (t : TypeId) (cs : Array Value) : Own (fun (_ : Unit) W => W.heap[B]? = some (.cells cs t (0, 0))) := by
  intro _ X Y row hs hg hrow
  refine (hg.block B (Array.getElem?_eq_some_iff.1 hs).1 (fun e' => ?_)).trans hs
  obtain ⟨o, ho, hc⟩ := hrow B e'.symm
  rw [hs] at ho; cases ho; cases hc
theorem cells_not_row {W : World} {B : Nat} {t e : TypeId} {cs : Array Value} (h : W.heap[B]? = some (.cells cs t (0, 0))) (hte : t ≠ e) {base size k : Nat} {v : Value} {xs : List Value} (hr : W.ownsRow base e size v k xs) : some B ≠ v.ownBlock := by
  rcases hr.2 with ⟨rfl, _⟩ | ⟨g, cap, cur, rfl, _, hgb, _⟩
  · simp [Value.ownBlock]
  · intro e'
    obtain rfl : B = g := by simpa [Value.ownBlock] using e'
    have := h.symm.trans hgb
    simp at this
    exact hte this.2
theorem free_at {w : World} {b i : Nat} {cs : Array Value} {T : TypeId} (h : w.heap[b]? = some (.cells cs T (0, 0))) : w.frozen? ⟨b, i, none⟩ = false := by simp [World.frozen?, h]
theorem cells_set {W : World} {B i : Nat} {cs : Array Value} {t : TypeId} (h : W.heap[B]? = some (.cells cs t (0, 0))) (v : Value) : (W.setCell ⟨B, i, none⟩ v).heap[B]? = some (.cells (cs.setIfInBounds i v) t (0, 0)) := by
  obtain ⟨hlt, hk⟩ := Array.getElem?_eq_some_iff.1 h
  show (W.heap.modify B _)[B]? = _
  rw [Array.getElem?_eq_getElem (by rw [Array.size_modify]; exact hlt), Array.getElem_modify_self, hk]
  rfl
theorem cell_other {W : World} {B b i : Nat} (v : Value) (h : b ≠ B) : (W.setCell ⟨B, i, none⟩ v).heap[b]? = W.heap[b]? := Below.heap_setCell W ⟨B, i, none⟩ v b h
theorem grown_setCell (W : World) (b i : Nat) (v : Value) : W.grownBy (W.setCell ⟨b, i, none⟩ v) (some b) :=
  ⟨rfl, rfl, rfl, (KeepsWalks.setCell W _ v).size, fun k _ hk => Below.heap_setCell _ _ _ k (fun e => hk (by rw [e]))⟩
/-- Behind a round's three stores into the move's block. -/
theorem stored3 {W V : World} {n₀ nB B Bs Bl Bf : Nat} {T : TypeId} {m0 m1 m2 a b c v : Value} {k : Nat} {xs : List Value} (hV : V.heap[B]? = some (.cells #[m0, m1, m2] T (0, 0))) (hT : T ≠ 3) (hv : Boxed V Bs 22 v) (hr : V.ownsRow nB 3 1 v k xs)
    (hk : KeepsOthers W V) (hb : Below n₀ W V) (hB : n₀ ≤ B) (hBs : B ≠ Bs) (hl : B ≠ Bl) (hf : B ≠ Bf) (el : V.heap[Bl]? = W.heap[Bl]?) (ef : V.heap[Bf]? = W.heap[Bf]?) :
    ∀ V', V' = ((V.setCell ⟨B, 0, none⟩ a).setCell ⟨B, 1, none⟩ b).setCell ⟨B, 2, none⟩ c →
      V'.heap[B]? = some (.cells #[a, b, c] T (0, 0)) ∧ Boxed V' Bs 22 v ∧ V'.ownsRow nB 3 1 v k xs ∧ KeepsOthers W V' ∧ KpB n₀ Bl Bf W V' := by
  rintro V' rfl
  have g0 := cells_set (i := 0) hV a
  have g1 := cells_set (i := 1) g0 b
  have g2 := cells_set (i := 2) g1 c
  have r0 := hr.kept (grown_setCell V B 0 a) (.inr (cells_not_row hV hT hr).symm)
  have r1 := r0.kept (grown_setCell _ B 1 b) (.inr (cells_not_row g0 hT r0).symm)
  have r2 := r1.kept (grown_setCell _ B 2 c) (.inr (cells_not_row g1 hT r1).symm)
  refine ⟨g2, ?_, r2, ((hk.trans (KeepsOthers.setCell _ _ _)).trans (KeepsOthers.setCell _ _ _)).trans (KeepsOthers.setCell _ _ _), ((hb.setCell (p := ⟨B, 0, none⟩) hB a).setCell (p := ⟨B, 1, none⟩) hB b).setCell (p := ⟨B, 2, none⟩) hB c, ?_, ?_⟩
  · exact (cell_other c hBs.symm).trans ((cell_other b hBs.symm).trans ((cell_other a hBs.symm).trans hv))
  · exact (cell_other c hl.symm).trans ((cell_other b hl.symm).trans ((cell_other a hl.symm).trans el))
  · exact (cell_other c hf.symm).trans ((cell_other b hf.symm).trans ((cell_other a hf.symm).trans ef))
def sub64 (a b : Int) : Int := wrap64 (a - b)
def stepW (p : Int × Int) : Int := if sub64 p.1 p.2 > sub64 p.2 p.1 then sub64 p.1 p.2 else sub64 p.2 p.1
def mvW (m : Mv) (l : List (Int × Int)) : Mv := l.foldl (fun m p => ⟨wrap64 (m.n + 1), p.2, wrap64 (m.s + stepW p)⟩) m
theorem mvW_snoc (m : Mv) (l : List (Int × Int)) (p : Int × Int) : mvW m (l ++ [p]) = ⟨wrap64 ((mvW m l).n + 1), p.2, wrap64 ((mvW m l).s + stepW p)⟩ := by simp [mvW]
abbrev mvCells (m : Mv) : Array Value := #[.int .i64 m.n, .int .i64 m.l, .int .i64 m.s]
set_option maxRecDepth 100000 in
set_option maxHeartbeats 4000000 in
theorem loop_wp {asg bd : Code} (hcode : digR (Try.f7.body.getD .skip) = some (.rangeFunc (.tmp 46) #[47] asg bd)) {Q : Exit → Act → World → Prop}
    {w W0 : World} {m : Mv} {zs : List Int} {f0 : Int} {ao : Option Addr} {cp : Nat} {Bm Bs Bl Bf : Nat}
    (hb : Below w.heap.size w W0) (hM : W0.heap[Bm]? = some (.cells (mvCells m) 25 (0, 0))) (hS : W0.heap[Bs]? = some (.cells #[.slice none 0 0] 22 (0, 0)))
    (hF : W0.heap[Bf]? = some (.cells #[.int .i64 f0] 3 (0, 0))) (hL : W0.heap[Bl]? = some (.cells #[.slice ao zs.length cp] 22 (0, 0)))
    {Br : Nat} {cR : Array Value} (hR : W0.heap[Br]? = some (.cells cR 25 (0, 0))) (hrm : Br ≠ Bm) (hrs : Br ≠ Bs) (hrl : Br ≠ Bl) (hrf : Br ≠ Bf)
    (hms : Bm ≠ Bs) (hml : Bm ≠ Bl) (hmf : Bm ≠ Bf) (hsl : Bs ≠ Bl) (hsf : Bs ≠ Bf) (hlf : Bl ≠ Bf) (lm : w.heap.size ≤ Bm) (ls : w.heap.size ≤ Bs) (ll : w.heap.size ≤ Bl) (lf : w.heap.size ≤ Bf)
    (hlen : zs.length ≤ 100000) (hcs : IntsAt w.heap.size W0 ao zs)
    (x0 x1 x3 x4 x5 x6 x8 x9 x10 x11 x12 x13 x14 x15 x16 x17 x18 x19 x20 x21 x22 x23 x24 x25 x26 x27 x28 x29 x30 x31 x32 x33 x34 x35 x36 x37 x38 x39 x40 x41 x42 x43 x44 x45 x47 x48 x49 x50 x51 x52 x53 x54 x55 x56 x57 x58 x59 x60 x61 x62 x63 x64 x65 x66 x67 x68 x69 x70 x71 x72 x73 x74 : Value)
    (hdone : ∀ (D : Nat) (W : World) (v : Value), W0.heap.size ≤ D → W.heap[D]? = some (.deferred (some [])) → Below w.heap.size w W →
      W.heap[Bm]? = some (.cells (mvCells (mvW m (pairsOf f0 zs))) 25 (0, 0)) → W.heap[Bs]? = some (.cells #[v] 22 (0, 0)) → W.ownsRow w.heap.size 3 1 v zs.length ((pairsOf f0 zs).map fun p => Value.int .i64 (stepW p)) → (v = .slice none 0 0 ↔ zs = []) → W.heap[Br]? = some (.cells cR 25 (0, 0)) →
      Q .normal { tmps := #[x0, x1, .pointer (some ⟨Bm, 0, none⟩), x3, x4, x5, x6, .pointer (some ⟨Bs, 0, none⟩), x8, x9, x10, x11, x12, x13, x14, x15, x16, x17, x18, x19, x20, x21, x22, x23, x24, x25, x26, x27, x28, x29, x30, x31, x32, x33, x34, x35, x36, x37, x38, x39, x40, x41, x42, x43, x44, x45, .func (.func 22) #[] #[.pointer (some ⟨Bl, 0, none⟩), .pointer (some ⟨Bf, 0, none⟩)], x47, x48, x49, x50, x51, x52, x53, x54, x55, x56, x57, x58, x59, x60, x61, x62, x63, x64, x65, x66, x67, x68, x69, x70, x71, x72, x73, x74], defers := [{ target := .collected D, args := #[] }] } W) :
    (Code.rangeFunc (.tmp 46) #[47] asg bd).wpIn Fence.wide 6 Try.prog Q { tmps := #[x0, x1, .pointer (some ⟨Bm, 0, none⟩), x3, x4, x5, x6, .pointer (some ⟨Bs, 0, none⟩), x8, x9, x10, x11, x12, x13, x14, x15, x16, x17, x18, x19, x20, x21, x22, x23, x24, x25, x26, x27, x28, x29, x30, x31, x32, x33, x34, x35, x36, x37, x38, x39, x40, x41, x42, x43, x44, x45, .func (.func 22) #[] #[.pointer (some ⟨Bl, 0, none⟩), .pointer (some ⟨Bf, 0, none⟩)], x47, x48, x49, x50, x51, x52, x53, x54, x55, x56, x57, x58, x59, x60, x61, x62, x63, x64, x65, x66, x67, x68, x69, x70, x71, x72, x73, x74], defers := [] } W0 := by
  obtain ⟨i0, hi, hz0, hz1, hz2⟩ := info_parts infoI
  simp only [Try.f7, digR, Option.getD_some, Option.orElse, Option.some.injEq, Code.rangeFunc.injEq, true_and] at hcode
  obtain ⟨rfl, rfl⟩ := hcode
  have ltm := (Array.getElem?_eq_some_iff.1 hM).1
  have lts := (Array.getElem?_eq_some_iff.1 hS).1
  have ltl := (Array.getElem?_eq_some_iff.1 hL).1
  have ltf := (Array.getElem?_eq_some_iff.1 hF).1
  have hsz := hb.size
  refine range_first rfl (by omega) rfl trivial (enters_of Try.func22 (by kernel_rfl) rfl) (nb_stops Fence.wide 5 trivial rfl (by omega) Bl Bf w.heap.size cp ao zs f0 hlen hlf lf W0 ltl ltf hsz hL hF hcs) ltf ?hKt ?hKb (fun _ => rfl)
    (fun pre W => W.heap[Bm]? = some (.cells (mvCells (mvW m pre)) 25 (0, 0)) ∧ (∃ v, Boxed W Bs 22 v ∧ W.ownsRow W0.heap.size 3 1 v pre.length (pre.map fun p => Value.int .i64 (stepW p)) ∧ (v = .slice none 0 0 ↔ pre = [])) ∧ Below w.heap.size w W ∧ W0.heap.size ≤ W.heap.size ∧ W.heap[Br]? = some (.cells cR 25 (0, 0)))
    ?hI ?hIf ?h0
    (fun x a' W => ∃ Bx, W0.heap.size ≤ Bx ∧ W.heap[Bx]? = some (.cells #[.int .i64 x.1, .int .i64 x.2] 47 (0, 0)) ∧ a' = { tmps := #[x0, x1, .pointer (some ⟨Bm, 0, none⟩), x3, x4, x5, x6, .pointer (some ⟨Bs, 0, none⟩), x8, .pointer (some ⟨Bx, 0, none⟩), x10, x11, x12, x13, x14, x15, x16, x17, x18, x19, x20, x21, x22, x23, x24, x25, x26, x27, x28, x29, x30, x31, x32, x33, x34, x35, x36, x37, x38, x39, x40, x41, x42, x43, x44, x45, .func (.func 22) #[] #[.pointer (some ⟨Bl, 0, none⟩), .pointer (some ⟨Bf, 0, none⟩)], .agg #[.int .i64 x.1, .int .i64 x.2], x48, x49, x50, x51, x52, x53, x54, x55, x56, x57, x58, x59, x60, x61, x62, x63, x64, x65, x66, x67, x68, x69, x70, x71, x72, x73, x74], defers := [] })
    ?hAx ?assign ?body ?done
  case hKt => rintro A B C ⟨h1, h2, h3⟩ ⟨g1, g2, g3⟩; exact ⟨h1.trans g1, g2.trans h2, g3.trans h3⟩
  case hKb =>
    intro W l o o' hl hc _
    refine ⟨?_, World.putObj_heap_other (by omega), World.putObj_heap_other (by omega)⟩
    exact (Below.refl _ W).grown (grownBy_putObj' W l o') (by have := (Array.getElem?_eq_some_iff.1 hc).1; omega) (fun k e => by cases e; omega)
  case hI =>
    refine OwnFrom.and (Own.from (fun pre X Y row hs hg hr => cells3_own Bm 25 (mvCells (mvW m pre)) () X Y row hs hg hr) _) (OwnFrom.and (Own.from (holdsRow_own W0.heap.size Bs 22 3 1 (fun pre : List (Int × Int) => pre.length) (fun pre => pre.map fun p => Value.int .i64 (stepW p)) (fun pre v => v = .slice none 0 0 ↔ pre = [])) _) (OwnFrom.and (ownFrom_below (Nat.le_refl _) hsz) (OwnFrom.and ?_ (Own.from (fun pre X Y row hs hg hr => cells3_own Br 25 cR () X Y row hs hg hr) _))))
    intro _ X Y row hs hg _
    exact Nat.le_trans hs hg.size
  case hIf =>
    rintro pre W v ⟨h1, ⟨u, h2, h3, h4⟩, h5, h6, h7⟩
    exact ⟨(box_other v hmf).trans h1, ⟨u, h2.other hsf v, h3.kept (grownBy_setCell' W Bf v) (.inr (ownsRow_off h3 ltf)), h4⟩, h5.setCell (p := ⟨Bf, 0, none⟩) lf v, by simpa using h6, (box_other v hrf).trans h7⟩
  case h0 => exact ⟨hM, ⟨_, hS, World.ownsRow_nil _ _ _ _, by simp⟩, hb, Nat.le_refl _, hR⟩
  case hAx =>
    rintro x a' _ X Y row ⟨Bx, h1, h2, h3⟩ hg hr
    exact ⟨Bx, h1, cells3_own Bx 47 _ () X Y row h2 hg (fun r e => (hr r e).2), h3⟩
  case assign =>
    rintro l pre x W K ⟨h1, ⟨u, h2, h3, h4⟩, h5, h6, h7⟩ hK
    gi_wp2
    refine hK _ _ ((KeepsOthers.alloc _ _).from _) ⟨(Below.refl _ W).alloc h5.size _, Below.heap_alloc _ _ _ (by omega), Below.heap_alloc _ _ _ (by omega)⟩ ⟨(Below.heap_alloc _ _ _ (by omega)).trans h1, ⟨u, h2.alloc _, h3.alloc _, h4⟩, h5.alloc h5.size _, by simp; omega, (Below.heap_alloc _ _ _ (Array.getElem?_eq_some_iff.1 h7).1).trans h7⟩ ⟨W.heap.size, h6, World.alloc_heap_new _ _, rfl⟩
  case body =>
    rintro l pre x a' W hl ⟨h1, ⟨u, h2, h3, h4⟩, h5, h6, h7⟩ ⟨Bx, hB1, hB2, rfl⟩ hlt
    have cx0 : W.cell? ⟨Bx, 0, none⟩ = some (.int .i64 x.1) := cell_at hB2 rfl
    have cx1 : W.cell? ⟨Bx, 1, none⟩ = some (.int .i64 x.2) := cell_at hB2 rfl
    have cs := h2.cell
    have hl1 : pre.length + 1 ≤ maxLen := by simp only [maxLen]; omega
    have hl2 : (pre.length + 1) * 8 ≤ 140737488355328 := by omega
    have hB3 := cells_not_row hB2 (by decide) h3
    have hM3 := cells_not_row h1 (by decide) h3
    have ltM := (Array.getElem?_eq_some_iff.1 h1).1
    have ltR := (Array.getElem?_eq_some_iff.1 h7).1
    have ltB := (Array.getElem?_eq_some_iff.1 hB2).1
    gi_wp2_with (gi_at_builtin; refine wpListIn_append_own _ rfl _ _ 22 rfl W0.heap.size 3 i0 (.int .i64 0) 1 8 Try.underlying22 hi hz0 hz1 hz2 rfl (by decide) _ _ _ rfl (h3.alloc _) ⟨W.heap.size, 0, none⟩ 1 1 [.int .i64 _] rfl rfl (cell_one_new _ _ _) (by simp [Value.oneCell']) hl1 hl2 (by simp; omega) ?_; intro v' w1 hown' hgrow _; obtain ⟨g', cap', rfl⟩ := ownsRow_succ hown'; obtain ⟨hv1, hv2, hr2, hk2, hb2⟩ := h2.appended (by decide) (ownsRow_low h3 hsz) (by omega) ls (ownsRow_low hown' hsz) hgrow; have hc1 := hv1.cell; have hf1 := hv1.frozen; have gM := (box_other (.slice (some ⟨g', 0, none⟩) (pre.length + 1) cap') hms).trans ((hgrow.block Bm (by simp; omega) hM3).trans ((Below.heap_alloc _ _ _ ltM).trans h1)); have gB := (box_other (.slice (some ⟨g', 0, none⟩) (pre.length + 1) cap') (show Bx ≠ Bs by omega)).trans ((hgrow.block Bx (by simp; omega) hB3).trans ((Below.heap_alloc _ _ _ ltB).trans hB2)); have m0 := cell_at (i := 0) gM rfl; have m1 := cell_at (i := 1) gM rfl; have m2 := cell_at (i := 2) gM rfl; have b1 := cell_at (i := 1) gB rfl; have fM0 := free_at (i := 0) gM; have fM1 := free_at (i := 1) gM; have fM2 := free_at (i := 2) gM)
    · have hrV := hown'.kept (grownBy_setCell' w1 Bs (.slice (some ⟨g', 0, none⟩) (pre.length + 1) cap')) (.inr (hv1.not_row (by decide) hown').symm)
      have elV := (box_other (.slice (some ⟨g', 0, none⟩) (pre.length + 1) cap') (Ne.symm hsl)).trans ((hgrow.block Bl (by simp; omega) (fun e => ownsRow_off h3 ltl e.symm)).trans (Below.heap_alloc _ _ _ (by omega)))
      have efV := (box_other (.slice (some ⟨g', 0, none⟩) (pre.length + 1) cap') (Ne.symm hsf)).trans ((hgrow.block Bf (by simp; omega) (fun e => ownsRow_off h3 ltf e.symm)).trans (Below.heap_alloc _ _ _ (by omega)))
      have gR := (box_other (.slice (some ⟨g', 0, none⟩) (pre.length + 1) cap') hrs).trans ((hgrow.block Br (by simp; omega) (cells_not_row h7 (by decide) h3)).trans ((Below.heap_alloc _ _ _ ltR).trans h7))
      obtain ⟨q1, q2, q3, q4, q5⟩ := stored3 gM (by decide) hv2 hrV hk2 hb2 lm hms hml hmf elV efV _ rfl
      have es : stepW x = wrap64 (x.1 - x.2) := by
        unfold stepW sub64
        split <;> omega
      refine ⟨q4.from _, q5, ⟨?_, ⟨_, q2, ?_, by simp⟩, h5.trans q5.1, Nat.le_trans h6 q5.1.size, (cell_other _ hrm).trans ((cell_other _ hrm).trans ((cell_other _ hrm).trans gR))⟩⟩
      · rw [q1, mvW_snoc, es]
      · rw [List.map_append, List.length_append]
        exact q3
    · have hrV := hown'.kept (grownBy_setCell' w1 Bs (.slice (some ⟨g', 0, none⟩) (pre.length + 1) cap')) (.inr (hv1.not_row (by decide) hown').symm)
      have elV := (box_other (.slice (some ⟨g', 0, none⟩) (pre.length + 1) cap') (Ne.symm hsl)).trans ((hgrow.block Bl (by simp; omega) (fun e => ownsRow_off h3 ltl e.symm)).trans (Below.heap_alloc _ _ _ (by omega)))
      have efV := (box_other (.slice (some ⟨g', 0, none⟩) (pre.length + 1) cap') (Ne.symm hsf)).trans ((hgrow.block Bf (by simp; omega) (fun e => ownsRow_off h3 ltf e.symm)).trans (Below.heap_alloc _ _ _ (by omega)))
      have gR := (box_other (.slice (some ⟨g', 0, none⟩) (pre.length + 1) cap') hrs).trans ((hgrow.block Br (by simp; omega) (cells_not_row h7 (by decide) h3)).trans ((Below.heap_alloc _ _ _ ltR).trans h7))
      obtain ⟨q1, q2, q3, q4, q5⟩ := stored3 gM (by decide) hv2 hrV hk2 hb2 lm hms hml hmf elV efV _ rfl
      have es : stepW x = wrap64 (x.2 - x.1) := by
        unfold stepW sub64
        split <;> omega
      refine ⟨q4.from _, q5, ⟨?_, ⟨_, q2, ?_, by simp⟩, h5.trans q5.1, Nat.le_trans h6 q5.1.size, (cell_other _ hrm).trans ((cell_other _ hrm).trans ((cell_other _ hrm).trans gR))⟩⟩
      · rw [q1, mvW_snoc, es]
      · rw [List.map_append, List.length_append]
        exact q3
  case done =>
    rintro D xs W hD rfl ⟨h1, ⟨u, h2, h3, h4⟩, h5, h6, h7⟩ hd
    rw [pairsOf_len] at h3
    exact hdone D W u hD hd h5 h1 h2 (ownsRow_low h3 hsz) (h4.trans ⟨fun e => List.eq_nil_of_length_eq_zero (by rw [← pairsOf_len zs f0, e]; rfl), fun e => by rw [e]; rfl⟩) h7
end Go.Proofs.Ytihgogbfjiobiaa
