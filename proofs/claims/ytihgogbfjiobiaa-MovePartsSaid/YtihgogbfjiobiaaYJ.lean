/-
  Run, walked: where all is well.
-/
import Derived.Test.YtihgogbfjiobiaaYL
set_option linter.unusedVariables false
namespace Go.Proofs.Ytihgogbfjiobiaa
open Go Go.RowKit Go.Shelf

attribute [local go_sem] Oper.semAt_some
/-- What the loop begins with. -/
def firstM (m : Mv) (zs : List Int) : Mv := if m.n = 0 then match zs with
  | [] => m
  | x :: _ => ⟨1, x, 0⟩ else m
def restM (m : Mv) (zs : List Int) : List Int := if m.n = 0 then zs.tail else zs
def runW (m : Mv) (zs : List Int) : Mv := mvW (firstM m zs) (pairsOf (firstM m zs).l (restM m zs))
def stepsW (m : Mv) (zs : List Int) : List Int := (pairsOf (firstM m zs).l (restM m zs)).map stepW
/-- Behind the stores into the result's box. -/
theorem fin5 {w W : World} {D B k : Nat} {a b c m0 m1 m2 v : Value} {xs : List Value} (hDB : B ≠ D) (hd : W.heap[D]? = some (.deferred (some []))) (hB : W.heap[B]? = some (.cells #[m0, m1, m2] 25 (0, 0))) (hb : Below w.heap.size w W) (hBw : w.heap.size ≤ B) (hr : W.ownsRow w.heap.size 3 1 v k xs) :
    ∀ V, V = (((W.setCell ⟨B, 0, none⟩ a).setCell ⟨B, 1, none⟩ b).setCell ⟨B, 2, none⟩ c).drew →
      V.heap[D]? = some (.deferred (some [])) ∧ (V.putObj D (.deferred none)).heap[B]? = some (.cells #[a, b, c] 25 (0, 0)) ∧ (V.putObj D (.deferred none)).ownsRow w.heap.size 3 1 v k xs ∧ (w.heap.size ≤ D → Below w.heap.size w (V.putObj D (.deferred none))) := by
  rintro V rfl
  have g0 := cells_set (i := 0) hB a
  have g1 := cells_set (i := 1) g0 b
  have g2 := cells_set (i := 2) g1 c
  have r0 := hr.kept (grown_setCell W B 0 a) (.inr (cells_not_row hB (by decide) hr).symm)
  have r1 := r0.kept (grown_setCell _ B 1 b) (.inr (cells_not_row g0 (by decide) r0).symm)
  have r2 := r1.kept (grown_setCell _ B 2 c) (.inr (cells_not_row g1 (by decide) r1).symm)
  have d0 := (cell_other (B := B) (i := 2) c hDB.symm).trans ((cell_other (B := B) (i := 1) b hDB.symm).trans ((cell_other (B := B) (i := 0) a hDB.symm).trans hd))
  have b3 := (((hb.setCell (p := ⟨B, 0, none⟩) hBw a).setCell (p := ⟨B, 1, none⟩) hBw b).setCell (p := ⟨B, 2, none⟩) hBw c)
  refine ⟨d0, (World.putObj_heap_other hDB).trans g2, ownsRow_putObj (W := (((W.setCell ⟨B, 0, none⟩ a).setCell ⟨B, 1, none⟩ b).setCell ⟨B, 2, none⟩ c).drew) r2 _ d0 rfl, fun hD => ?_⟩
  exact b3.drew.grown (grownBy_putObj' _ D _) (Nat.le_trans b3.size (Nat.le_refl _)) (fun j e => by cases e; exact hD)
def IsB (m : Mv) (zs : List Int) : Prop := m.n = 0 ∧ zs = []
def IsC (m : Mv) (zs : List Int) (x : Int) (r : List Int) : Prop := m.n = 0 ∧ zs = x :: r
set_option maxRecDepth 100000 in
set_option maxHeartbeats 4000000 in
theorem run_C {m : Mv} {zs : List Int} {a : Go.Xec.AVal} {ao : Option Addr} {cp : Nat} (w : World) (hL : Go.Xec.Laid Try.prog w) (hm : mvOk m) (hx : allX zs) (hlen : zs.length ≤ 100000) (hn : m.n + zs.length ≤ 1000000000)
    (hcap : zs.length ≤ cp) (ha : RI a zs) (hv : Go.Xec.V (Go.Xec.ctx0 w fun b => b < w.heap.size) a (.slice ao zs.length cp)) (hcs : IntsAt w.heap.size w ao zs) {x : Int} {r : List Int} (hq : IsC m zs x r) :
    Calls Try.prog 7 #[.agg #[.int .i64 m.n, .int .i64 m.l, .int .i64 m.s], .slice ao zs.length cp] w fun e w' => ∃ v, e = .returned (.tuple #[.agg #[.int .i64 (runW m zs).n, .int .i64 (runW m zs).l, .int .i64 (runW m zs).s], v, .int .i64 0]) ∧
      w'.ownsRow w.heap.size 3 1 v (stepsW m zs).length ((stepsW m zs).map (Value.int .i64)) ∧ (v = .slice none 0 0 ↔ (stepsW m zs) = []) ∧ Below w.heap.size w w' := by
  generalize hRM : runW m zs = RM
  generalize hRS : stepsW m zs = RS
  refine (callsIn_wide (n := 6)).1 ?_
  refine callsIn_of_wp_marks Try.func7 rfl trivial ?_ rfl
  simp only [Try.ntmps7, List.size_toArray, List.length_cons, List.length_nil, Nat.reduceAdd, Nat.reduceSub, Array.replicate_succ, Array.replicate_zero, List.push_toArray, List.append_toArray, List.nil_append, List.cons_append]
  have hmn : i64In m.n := by
    obtain ⟨n, l, s⟩ := m
    simp only [mvOk, mOk, i64In] at hm ⊢
    omega
  have e10 := F10_eq (n := m.n) (l := m.l) (s := m.s) hmn
  rw [decide_eq_true (show mOk m.n m.l m.s from hm)] at e10
  have e16 := F16_eq ha hlen
  rw [decide_eq_false (show ¬ ¬ allX zs from fun h => h hx)] at e16
  have hL1 : ∀ W, Below w.heap.size w W → Go.Xec.Laid Try.prog W := fun W h => hL.keep h.block
  gi_wp2_with fail
  refine ⟨trivial, ?_⟩
  refine (callsIn_wide.2 (calls_sound Try.func10 (by kernel_rfl) (by kernel_rfl) sound10 e10 _ (hL1 _ (((Below.refl _ w).alloc (Nat.le_refl _) _).alloc (by simp) _)) (vs := [.agg #[.int .i64 m.n, .int .i64 m.l, .int .i64 m.s]]) ?hV10)).mono ?_
  case hV10 =>
    simp only [Go.Xec.VL, Go.Xec.V]
    exact ⟨_, _, rfl, ⟨_, rfl, _, _, rfl, rfl, _, _, rfl, rfl, _, _, rfl, rfl, rfl⟩, rfl⟩
  rintro e w1 ⟨v, rfl, hb1, hv1⟩
  simp only [Go.Xec.V] at hv1
  subst hv1
  have hs1 := hb1.size
  simp only [World.size_alloc] at hs1 hb1
  have hM1 : w1.heap[w.heap.size]? = some (.cells #[.int .i64 m.n, .int .i64 m.l, .int .i64 m.s] 25 (0, 0)) := by
    rw [hb1.block _ (by omega), Below.heap_alloc _ _ _ (by simp)]
    exact World.alloc_heap_new w _
  have hR1 : w1.heap[w.heap.size + 1]? = some (.cells #[.int .i64 0, .int .i64 0, .int .i64 0] 25 (0, 0)) := by
    rw [hb1.block _ (by omega)]
    have := World.alloc_heap_new (w.alloc (.cells #[.int .i64 m.n, .int .i64 m.l, .int .i64 m.s] 25)) (.cells #[.int .i64 0, .int .i64 0, .int .i64 0] 25)
    rwa [World.size_alloc] at this
  have hw1 : Below w.heap.size w w1 := (((Below.refl _ w).alloc (Nat.le_refl _) _).alloc (by simp) _).trans (hb1.mono (by omega))
  gi_wp2_with fail
  refine ⟨trivial, ?_⟩
  refine (callsIn_wide.2 (calls_sound Try.func16 (by kernel_rfl) (by kernel_rfl) sound16 e16 w1 (hL1 _ hw1) (vs := [.slice ao zs.length cp, .func (.func 17) #[] #[]]) ?hV16)).mono ?_
  case hV16 =>
    have hv1 := Go.Xec.V_grow (ctx_grow hw1) _ _ hv
    simp only [Go.Xec.VL]
    refine ⟨_, _, rfl, hv1, _, _, rfl, ?_, rfl⟩
    simp only [Go.Xec.V, Go.Xec.VL]
    exact ⟨[], [], rfl, rfl, rfl⟩
  rintro e w2 ⟨v, rfl, hb2, hv2⟩
  simp only [Go.Xec.V] at hv2
  subst hv2
  have hs2 := hb2.size
  have hw2 : Below w.heap.size w w2 := hw1.trans (hb2.mono hw1.size)
  have hM2 := (hb2.block w.heap.size (by omega)).trans hM1
  have hR2 := (hb2.block (w.heap.size + 1) (by omega)).trans hR1
  have cn : w2.cell? ⟨w.heap.size, 0, none⟩ = some (.int .i64 m.n) := cell_at hM2 rfl
  have hM3 : (w2.alloc (.cells #[.slice none 0 0] 22)).heap[w.heap.size]? = some (.cells #[.int .i64 m.n, .int .i64 m.l, .int .i64 m.s] 25 (0, 0)) := by
    rw [Below.heap_alloc _ _ _ (by omega)]
    exact hM2
  have cn3 : (w2.alloc (.cells #[.slice none 0 0] 22)).cell? ⟨w.heap.size, 0, none⟩ = some (.int .i64 m.n) := cell_at hM3 rfl
  have cl3 : (w2.alloc (.cells #[.slice none 0 0] 22)).cell? ⟨w.heap.size, 1, none⟩ = some (.int .i64 m.l) := cell_at hM3 rfl
  have hfit : ¬ 1000000000 - m.n < (zs.length : Int) := by omega
  obtain ⟨hn0, hz⟩ := hq
  have hzl : (0 : Int) < (zs.length : Int) := by rw [hz]; simp
  have hzn : 0 < zs.length := by omega
  have hrl : r.length = zs.length - 1 := by rw [hz]; simp
  have e1 : firstM m zs = ⟨1, x, 0⟩ := by simp [firstM, hz, hn0]
  have e2 : restM m zs = r := by simp [restM, hz, hn0]
  have r1 : RM = mvW ⟨1, x, 0⟩ (pairsOf x r) := by rw [← hRM, runW, e1, e2]
  have r2 : RS = (pairsOf x r).map stepW := by rw [← hRS, stepsW, e1, e2]
  have hg : ∀ i (hi : i < r.length), zs[i + 1]'(by omega) = r[i] := by intro i hi; simp [hz]
  have h0 : zs[0] = x := by simp [hz]
  clear hz e1 e2
  obtain ⟨b, o, rfl, hbn, hc0⟩ := hcs 0 hzn
  rw [h0] at hc0
  have hc4 : (w2.alloc (.cells #[.slice none 0 0] 22)).cell? ⟨b, o, none⟩ = some (.int .i64 x) := (((hw2.alloc hw2.size _)).cell (p := ⟨b, o, none⟩) hbn).trans hc0
  have cs3 : (w2.alloc (.cells #[.slice none 0 0] 22)).cell? ⟨w.heap.size, 2, none⟩ = some (.int .i64 m.s) := cell_at hM3 rfl
  have fm0 := free_at (i := 0) hM3
  have fm1 := free_at (i := 1) hM3
  have fm2 := free_at (i := 2) hM3
  gi_wp2_with fail
  gi_region
  gi_wp2_with fail
  · have hcR : IntsAt w.heap.size w (some ⟨b, o, none⟩) r := by
      intro i hi
      omega
    have hl2 : r.length ≤ 100000 := by omega
    rw [← hrl]
    clear hg hrl
    refine ⟨trivial, ?_⟩
    have g0 := cells_set (i := 0) hM3 (.int .i64 1)
    have g1 := cells_set (i := 1) g0 (.int .i64 x)
    have g2 := cells_set (i := 2) g1 (.int .i64 0)
    have z3 : ((((w2.alloc (.cells #[.slice none 0 0] 22)).setCell ⟨w.heap.size, 0, none⟩ (.int .i64 1)).setCell ⟨w.heap.size, 1, none⟩ (.int .i64 x)).setCell ⟨w.heap.size, 2, none⟩ (.int .i64 0)).drew.heap.size = w2.heap.size + 1 := by simp [World.drew]
    have hb3 : Below w.heap.size w ((((w2.alloc (.cells #[.slice none 0 0] 22)).setCell ⟨w.heap.size, 0, none⟩ (.int .i64 1)).setCell ⟨w.heap.size, 1, none⟩ (.int .i64 x)).setCell ⟨w.heap.size, 2, none⟩ (.int .i64 0)).drew := ((((hw2.alloc hw2.size _).setCell (p := ⟨w.heap.size, 0, none⟩) (Nat.le_refl _) _).setCell (p := ⟨w.heap.size, 1, none⟩) (Nat.le_refl _) _).setCell (p := ⟨w.heap.size, 2, none⟩) (Nat.le_refl _) _).drew
    have ho : ∀ k, k ≠ w.heap.size → ((((w2.alloc (.cells #[.slice none 0 0] 22)).setCell ⟨w.heap.size, 0, none⟩ (.int .i64 1)).setCell ⟨w.heap.size, 1, none⟩ (.int .i64 x)).setCell ⟨w.heap.size, 2, none⟩ (.int .i64 0)).drew.heap[k]? = (w2.alloc (.cells #[.slice none 0 0] 22)).heap[k]? := fun k hk => (cell_other _ hk).trans ((cell_other _ hk).trans (cell_other _ hk))
    have hS3 := (ho w2.heap.size (by omega)).trans (World.alloc_heap_new w2 (.cells #[.slice none 0 0] 22))
    have hR3 := (ho (w.heap.size + 1) (by omega)).trans ((Below.heap_alloc w2 (.cells #[.slice none 0 0] 22) _ (by omega)).trans hR2)
    have hM4 : ((((w2.alloc (.cells #[.slice none 0 0] 22)).setCell ⟨w.heap.size, 0, none⟩ (.int .i64 1)).setCell ⟨w.heap.size, 1, none⟩ (.int .i64 x)).setCell ⟨w.heap.size, 2, none⟩ (.int .i64 0)).drew.heap[w.heap.size]? = some (.cells (mvCells ⟨1, x, 0⟩) 25 (0, 0)) := g2
    clear ho g0 g1 g2 cs3 fm0 fm1 fm2 cn3 cl3 hM3 hc4
    generalize ((((w2.alloc (.cells #[.slice none 0 0] 22)).setCell ⟨w.heap.size, 0, none⟩ (.int .i64 1)).setCell ⟨w.heap.size, 1, none⟩ (.int .i64 x)).setCell ⟨w.heap.size, 2, none⟩ (.int .i64 0)).drew = w3 at *
    have hM3 := hM4
    refine (nb_in Fence.wide 5 trivial rfl x (some ⟨b, o, none⟩) r.length 0 _).mono ?_
    rintro e w4 ⟨rfl, rfl⟩
    gi_wp2_with fail
    have hb4 : Below w.heap.size w ((w3.alloc (.cells #[.int .i64 x] 3)).alloc (.cells #[.slice (some ⟨b, o, none⟩) r.length 0] 22)) := (hb3.alloc hb3.size _).alloc (by simp; have := hb3.size; omega) _
    have a4 : ∀ (kb : Nat) (ob : Obj), w3.heap[kb]? = some ob → ((w3.alloc (.cells #[.int .i64 x] 3)).alloc (.cells #[.slice (some ⟨b, o, none⟩) r.length 0] 22)).heap[kb]? = some ob := by
      intro kb ob hb
      have hlt := (Array.getElem?_eq_some_iff.1 hb).1
      rw [Below.heap_alloc _ _ _ (by simp; omega), Below.heap_alloc _ _ _ hlt]
      exact hb
    have hF4 : ((w3.alloc (.cells #[.int .i64 x] 3)).alloc (.cells #[.slice (some ⟨b, o, none⟩) r.length 0] 22)).heap[w3.heap.size]? = some (.cells #[.int .i64 x] 3 (0, 0)) := by
      rw [Below.heap_alloc _ _ _ (by simp)]
      exact World.alloc_heap_new _ _
    have hL4 : ((w3.alloc (.cells #[.int .i64 x] 3)).alloc (.cells #[.slice (some ⟨b, o, none⟩) r.length 0] 22)).heap[w3.heap.size + 1]? = some (.cells #[.slice (some ⟨b, o, none⟩) r.length 0] 22 (0, 0)) := by
      have := World.alloc_heap_new (w3.alloc (.cells #[.int .i64 x] 3)) (.cells #[.slice (some ⟨b, o, none⟩) r.length 0] 22)
      rwa [World.size_alloc] at this
    have hz4 := hb3.size
    rw [z3] at hF4 hL4
    refine loop_wp (w := w) (m := ⟨1, x, 0⟩) ?hc hb4 (a4 _ _ hM3) (a4 _ _ hS3) hF4 hL4 (a4 _ _ hR3) (by omega) (by omega) (by omega) (by omega) (by omega) (by omega) (by omega) (by omega) (by omega) (by omega) (by omega) (by omega) (by omega) (by omega) hl2 (hcR.below hb4) _ _ _ _ _ _ _ _ _ _ _ _ _ _ _ _ _ _ _ _ _ _ _ _ _ _ _ _ _ _ _ _ _ _ _ _ _ _ _ _ _ _ _ _ _ _ _ _ _ _ _ _ _ _ _ _ _ _ _ _ _ _ _ _ _ _ _ _ _ _ _ _ ?_
    case hc => kernel_rfl
    intro D W v hD hd hbW hMW hSW hrW hnW hRW
    have hDr : D ≠ w.heap.size + 1 := by have := hb3.size; simp at hD; omega
    have fr0 := free_at (i := 0) hRW
    have fr1 := free_at (i := 1) hRW
    have fr2 := free_at (i := 2) hRW
    have cr0 : W.cell? ⟨w.heap.size + 1, 0, none⟩ = some (.int .i64 0) := cell_at hRW rfl
    have cr1 : W.cell? ⟨w.heap.size + 1, 1, none⟩ = some (.int .i64 0) := cell_at hRW rfl
    have cr2 : W.cell? ⟨w.heap.size + 1, 2, none⟩ = some (.int .i64 0) := cell_at hRW rfl
    have hc0 : W.cell? ⟨w2.heap.size, 0, none⟩ = some v := cell_at hSW rfl
    have hc1 : W.cell? ⟨w.heap.size, 0, none⟩ = some (.int .i64 (mvW ⟨1, x, 0⟩ (pairsOf x r)).n) := cell_at hMW rfl
    have hc2 : W.cell? ⟨w.heap.size, 1, none⟩ = some (.int .i64 (mvW ⟨1, x, 0⟩ (pairsOf x r)).l) := cell_at hMW rfl
    have hc3 : W.cell? ⟨w.heap.size, 2, none⟩ = some (.int .i64 (mvW ⟨1, x, 0⟩ (pairsOf x r)).s) := cell_at hMW rfl
    gi_wp2_with fail
    gi_region
    gi_wp2_with fail
    obtain ⟨W5, hW5⟩ : ∃ W5, (((W.setCell ⟨w.heap.size + 1, 0, none⟩ (.int .i64 (mvW ⟨1, x, 0⟩ (pairsOf x r)).n)).setCell ⟨w.heap.size + 1, 1, none⟩ (.int .i64 (mvW ⟨1, x, 0⟩ (pairsOf x r)).l)).setCell ⟨w.heap.size + 1, 2, none⟩ (.int .i64 (mvW ⟨1, x, 0⟩ (pairsOf x r)).s)).drew = W5 := ⟨_, rfl⟩
    rw [hW5]
    obtain ⟨f1, f2, f3, f4⟩ := fin5 (Ne.symm hDr) hd hRW hbW (by omega) hrW _ hW5.symm
    refine ⟨by simp, .inl ⟨_, _, rfl, run_takeDeferred f1, ?_⟩⟩
    have g0 : (W5.putObj D (.deferred none)).cell? ⟨w.heap.size + 1, 0, none⟩ = some (.int .i64 (mvW ⟨1, x, 0⟩ (pairsOf x r)).n) := cell_at f2 rfl
    have g1 : (W5.putObj D (.deferred none)).cell? ⟨w.heap.size + 1, 1, none⟩ = some (.int .i64 (mvW ⟨1, x, 0⟩ (pairsOf x r)).l) := cell_at f2 rfl
    have g2 : (W5.putObj D (.deferred none)).cell? ⟨w.heap.size + 1, 2, none⟩ = some (.int .i64 (mvW ⟨1, x, 0⟩ (pairsOf x r)).s) := cell_at f2 rfl
    subst r1 r2
    refine ⟨.tuple #[.agg #[.int .i64 (mvW ⟨1, x, 0⟩ (pairsOf x r)).n, .int .i64 (mvW ⟨1, x, 0⟩ (pairsOf x r)).l, .int .i64 (mvW ⟨1, x, 0⟩ (pairsOf x r)).s], v, .int .i64 0], ?res, v, rfl, by rw [List.length_map, pairsOf_len, List.map_map]; exact f3, ?nil, f4 (by have := hb3.size; simp at hD; omega)⟩
    case nil =>
      refine hnW.trans ⟨fun e => by rw [e]; rfl, fun e => ?_⟩
      have := congrArg List.length e
      rw [List.length_map, pairsOf_len] at this
      exact List.eq_nil_of_length_eq_zero this
    case res =>
      simp [results, go_sem, Try.f7, g0, g1, g2]
  · have hcR : IntsAt w.heap.size w (some ⟨b, o + 1, none⟩) r := by
      intro i hi
      obtain ⟨b', o', e, h1, h2⟩ := hcs (i + 1) (by omega)
      simp only [Option.some.injEq, Addr.mk.injEq, and_true] at e
      obtain ⟨rfl, rfl⟩ := e
      rw [hg i hi] at h2
      exact ⟨b, o + 1, rfl, hbn, by rw [Nat.add_assoc, Nat.add_comm 1 i]; exact h2⟩
    have hl2 : r.length ≤ 100000 := by omega
    rw [← hrl]
    clear hg hrl
    refine ⟨trivial, ?_⟩
    have g0 := cells_set (i := 0) hM3 (.int .i64 1)
    have g1 := cells_set (i := 1) g0 (.int .i64 x)
    have g2 := cells_set (i := 2) g1 (.int .i64 0)
    have z3 : ((((w2.alloc (.cells #[.slice none 0 0] 22)).setCell ⟨w.heap.size, 0, none⟩ (.int .i64 1)).setCell ⟨w.heap.size, 1, none⟩ (.int .i64 x)).setCell ⟨w.heap.size, 2, none⟩ (.int .i64 0)).drew.heap.size = w2.heap.size + 1 := by simp [World.drew]
    have hb3 : Below w.heap.size w ((((w2.alloc (.cells #[.slice none 0 0] 22)).setCell ⟨w.heap.size, 0, none⟩ (.int .i64 1)).setCell ⟨w.heap.size, 1, none⟩ (.int .i64 x)).setCell ⟨w.heap.size, 2, none⟩ (.int .i64 0)).drew := ((((hw2.alloc hw2.size _).setCell (p := ⟨w.heap.size, 0, none⟩) (Nat.le_refl _) _).setCell (p := ⟨w.heap.size, 1, none⟩) (Nat.le_refl _) _).setCell (p := ⟨w.heap.size, 2, none⟩) (Nat.le_refl _) _).drew
    have ho : ∀ k, k ≠ w.heap.size → ((((w2.alloc (.cells #[.slice none 0 0] 22)).setCell ⟨w.heap.size, 0, none⟩ (.int .i64 1)).setCell ⟨w.heap.size, 1, none⟩ (.int .i64 x)).setCell ⟨w.heap.size, 2, none⟩ (.int .i64 0)).drew.heap[k]? = (w2.alloc (.cells #[.slice none 0 0] 22)).heap[k]? := fun k hk => (cell_other _ hk).trans ((cell_other _ hk).trans (cell_other _ hk))
    have hS3 := (ho w2.heap.size (by omega)).trans (World.alloc_heap_new w2 (.cells #[.slice none 0 0] 22))
    have hR3 := (ho (w.heap.size + 1) (by omega)).trans ((Below.heap_alloc w2 (.cells #[.slice none 0 0] 22) _ (by omega)).trans hR2)
    have hM4 : ((((w2.alloc (.cells #[.slice none 0 0] 22)).setCell ⟨w.heap.size, 0, none⟩ (.int .i64 1)).setCell ⟨w.heap.size, 1, none⟩ (.int .i64 x)).setCell ⟨w.heap.size, 2, none⟩ (.int .i64 0)).drew.heap[w.heap.size]? = some (.cells (mvCells ⟨1, x, 0⟩) 25 (0, 0)) := g2
    clear ho g0 g1 g2 cs3 fm0 fm1 fm2 cn3 cl3 hM3 hc4
    generalize ((((w2.alloc (.cells #[.slice none 0 0] 22)).setCell ⟨w.heap.size, 0, none⟩ (.int .i64 1)).setCell ⟨w.heap.size, 1, none⟩ (.int .i64 x)).setCell ⟨w.heap.size, 2, none⟩ (.int .i64 0)).drew = w3 at *
    have hM3 := hM4
    refine (nb_in Fence.wide 5 trivial rfl x (some ⟨b, o + 1, none⟩) r.length (cp - 1) _).mono ?_
    rintro e w4 ⟨rfl, rfl⟩
    gi_wp2_with fail
    have hb4 : Below w.heap.size w ((w3.alloc (.cells #[.int .i64 x] 3)).alloc (.cells #[.slice (some ⟨b, o + 1, none⟩) r.length (cp - 1)] 22)) := (hb3.alloc hb3.size _).alloc (by simp; have := hb3.size; omega) _
    have a4 : ∀ (kb : Nat) (ob : Obj), w3.heap[kb]? = some ob → ((w3.alloc (.cells #[.int .i64 x] 3)).alloc (.cells #[.slice (some ⟨b, o + 1, none⟩) r.length (cp - 1)] 22)).heap[kb]? = some ob := by
      intro kb ob hb
      have hlt := (Array.getElem?_eq_some_iff.1 hb).1
      rw [Below.heap_alloc _ _ _ (by simp; omega), Below.heap_alloc _ _ _ hlt]
      exact hb
    have hF4 : ((w3.alloc (.cells #[.int .i64 x] 3)).alloc (.cells #[.slice (some ⟨b, o + 1, none⟩) r.length (cp - 1)] 22)).heap[w3.heap.size]? = some (.cells #[.int .i64 x] 3 (0, 0)) := by
      rw [Below.heap_alloc _ _ _ (by simp)]
      exact World.alloc_heap_new _ _
    have hL4 : ((w3.alloc (.cells #[.int .i64 x] 3)).alloc (.cells #[.slice (some ⟨b, o + 1, none⟩) r.length (cp - 1)] 22)).heap[w3.heap.size + 1]? = some (.cells #[.slice (some ⟨b, o + 1, none⟩) r.length (cp - 1)] 22 (0, 0)) := by
      have := World.alloc_heap_new (w3.alloc (.cells #[.int .i64 x] 3)) (.cells #[.slice (some ⟨b, o + 1, none⟩) r.length (cp - 1)] 22)
      rwa [World.size_alloc] at this
    have hz4 := hb3.size
    rw [z3] at hF4 hL4
    refine loop_wp (w := w) (m := ⟨1, x, 0⟩) ?hc hb4 (a4 _ _ hM3) (a4 _ _ hS3) hF4 hL4 (a4 _ _ hR3) (by omega) (by omega) (by omega) (by omega) (by omega) (by omega) (by omega) (by omega) (by omega) (by omega) (by omega) (by omega) (by omega) (by omega) hl2 (hcR.below hb4) _ _ _ _ _ _ _ _ _ _ _ _ _ _ _ _ _ _ _ _ _ _ _ _ _ _ _ _ _ _ _ _ _ _ _ _ _ _ _ _ _ _ _ _ _ _ _ _ _ _ _ _ _ _ _ _ _ _ _ _ _ _ _ _ _ _ _ _ _ _ _ _ ?_
    case hc => kernel_rfl
    intro D W v hD hd hbW hMW hSW hrW hnW hRW
    have hDr : D ≠ w.heap.size + 1 := by have := hb3.size; simp at hD; omega
    have fr0 := free_at (i := 0) hRW
    have fr1 := free_at (i := 1) hRW
    have fr2 := free_at (i := 2) hRW
    have cr0 : W.cell? ⟨w.heap.size + 1, 0, none⟩ = some (.int .i64 0) := cell_at hRW rfl
    have cr1 : W.cell? ⟨w.heap.size + 1, 1, none⟩ = some (.int .i64 0) := cell_at hRW rfl
    have cr2 : W.cell? ⟨w.heap.size + 1, 2, none⟩ = some (.int .i64 0) := cell_at hRW rfl
    have hc0 : W.cell? ⟨w2.heap.size, 0, none⟩ = some v := cell_at hSW rfl
    have hc1 : W.cell? ⟨w.heap.size, 0, none⟩ = some (.int .i64 (mvW ⟨1, x, 0⟩ (pairsOf x r)).n) := cell_at hMW rfl
    have hc2 : W.cell? ⟨w.heap.size, 1, none⟩ = some (.int .i64 (mvW ⟨1, x, 0⟩ (pairsOf x r)).l) := cell_at hMW rfl
    have hc3 : W.cell? ⟨w.heap.size, 2, none⟩ = some (.int .i64 (mvW ⟨1, x, 0⟩ (pairsOf x r)).s) := cell_at hMW rfl
    gi_wp2_with fail
    gi_region
    gi_wp2_with fail
    obtain ⟨W5, hW5⟩ : ∃ W5, (((W.setCell ⟨w.heap.size + 1, 0, none⟩ (.int .i64 (mvW ⟨1, x, 0⟩ (pairsOf x r)).n)).setCell ⟨w.heap.size + 1, 1, none⟩ (.int .i64 (mvW ⟨1, x, 0⟩ (pairsOf x r)).l)).setCell ⟨w.heap.size + 1, 2, none⟩ (.int .i64 (mvW ⟨1, x, 0⟩ (pairsOf x r)).s)).drew = W5 := ⟨_, rfl⟩
    rw [hW5]
    obtain ⟨f1, f2, f3, f4⟩ := fin5 (Ne.symm hDr) hd hRW hbW (by omega) hrW _ hW5.symm
    refine ⟨by simp, .inl ⟨_, _, rfl, run_takeDeferred f1, ?_⟩⟩
    have g0 : (W5.putObj D (.deferred none)).cell? ⟨w.heap.size + 1, 0, none⟩ = some (.int .i64 (mvW ⟨1, x, 0⟩ (pairsOf x r)).n) := cell_at f2 rfl
    have g1 : (W5.putObj D (.deferred none)).cell? ⟨w.heap.size + 1, 1, none⟩ = some (.int .i64 (mvW ⟨1, x, 0⟩ (pairsOf x r)).l) := cell_at f2 rfl
    have g2 : (W5.putObj D (.deferred none)).cell? ⟨w.heap.size + 1, 2, none⟩ = some (.int .i64 (mvW ⟨1, x, 0⟩ (pairsOf x r)).s) := cell_at f2 rfl
    subst r1 r2
    refine ⟨.tuple #[.agg #[.int .i64 (mvW ⟨1, x, 0⟩ (pairsOf x r)).n, .int .i64 (mvW ⟨1, x, 0⟩ (pairsOf x r)).l, .int .i64 (mvW ⟨1, x, 0⟩ (pairsOf x r)).s], v, .int .i64 0], ?res, v, rfl, by rw [List.length_map, pairsOf_len, List.map_map]; exact f3, ?nil, f4 (by have := hb3.size; simp at hD; omega)⟩
    case nil =>
      refine hnW.trans ⟨fun e => by rw [e]; rfl, fun e => ?_⟩
      have := congrArg List.length e
      rw [List.length_map, pairsOf_len] at this
      exact List.eq_nil_of_length_eq_zero this
    case res =>
      simp [results, go_sem, Try.f7, g0, g1, g2]
set_option maxRecDepth 100000 in
set_option maxHeartbeats 4000000 in
theorem run_A {m : Mv} {zs : List Int} {a : Go.Xec.AVal} {ao : Option Addr} {cp : Nat} (w : World) (hL : Go.Xec.Laid Try.prog w) (hm : mvOk m) (hx : allX zs) (hlen : zs.length ≤ 100000) (hn : m.n + zs.length ≤ 1000000000)
    (hcap : zs.length ≤ cp) (ha : RI a zs) (hv : Go.Xec.V (Go.Xec.ctx0 w fun b => b < w.heap.size) a (.slice ao zs.length cp)) (hcs : IntsAt w.heap.size w ao zs) (hn0 : m.n ≠ 0) :
    Calls Try.prog 7 #[.agg #[.int .i64 m.n, .int .i64 m.l, .int .i64 m.s], .slice ao zs.length cp] w fun e w' => ∃ v, e = .returned (.tuple #[.agg #[.int .i64 (runW m zs).n, .int .i64 (runW m zs).l, .int .i64 (runW m zs).s], v, .int .i64 0]) ∧
      w'.ownsRow w.heap.size 3 1 v (stepsW m zs).length ((stepsW m zs).map (Value.int .i64)) ∧ (v = .slice none 0 0 ↔ (stepsW m zs) = []) ∧ Below w.heap.size w w' := by
  generalize hRM : runW m zs = RM
  generalize hRS : stepsW m zs = RS
  refine (callsIn_wide (n := 6)).1 ?_
  refine callsIn_of_wp_marks Try.func7 rfl trivial ?_ rfl
  simp only [Try.ntmps7, List.size_toArray, List.length_cons, List.length_nil, Nat.reduceAdd, Nat.reduceSub, Array.replicate_succ, Array.replicate_zero, List.push_toArray, List.append_toArray, List.nil_append, List.cons_append]
  have hmn : i64In m.n := by
    obtain ⟨n, l, s⟩ := m
    simp only [mvOk, mOk, i64In] at hm ⊢
    omega
  have e10 := F10_eq (n := m.n) (l := m.l) (s := m.s) hmn
  rw [decide_eq_true (show mOk m.n m.l m.s from hm)] at e10
  have e16 := F16_eq ha hlen
  rw [decide_eq_false (show ¬ ¬ allX zs from fun h => h hx)] at e16
  have hL1 : ∀ W, Below w.heap.size w W → Go.Xec.Laid Try.prog W := fun W h => hL.keep h.block
  gi_wp2_with fail
  refine ⟨trivial, ?_⟩
  refine (callsIn_wide.2 (calls_sound Try.func10 (by kernel_rfl) (by kernel_rfl) sound10 e10 _ (hL1 _ (((Below.refl _ w).alloc (Nat.le_refl _) _).alloc (by simp) _)) (vs := [.agg #[.int .i64 m.n, .int .i64 m.l, .int .i64 m.s]]) ?hV10)).mono ?_
  case hV10 =>
    simp only [Go.Xec.VL, Go.Xec.V]
    exact ⟨_, _, rfl, ⟨_, rfl, _, _, rfl, rfl, _, _, rfl, rfl, _, _, rfl, rfl, rfl⟩, rfl⟩
  rintro e w1 ⟨v, rfl, hb1, hv1⟩
  simp only [Go.Xec.V] at hv1
  subst hv1
  have hs1 := hb1.size
  simp only [World.size_alloc] at hs1 hb1
  have hM1 : w1.heap[w.heap.size]? = some (.cells #[.int .i64 m.n, .int .i64 m.l, .int .i64 m.s] 25 (0, 0)) := by
    rw [hb1.block _ (by omega), Below.heap_alloc _ _ _ (by simp)]
    exact World.alloc_heap_new w _
  have hR1 : w1.heap[w.heap.size + 1]? = some (.cells #[.int .i64 0, .int .i64 0, .int .i64 0] 25 (0, 0)) := by
    rw [hb1.block _ (by omega)]
    have := World.alloc_heap_new (w.alloc (.cells #[.int .i64 m.n, .int .i64 m.l, .int .i64 m.s] 25)) (.cells #[.int .i64 0, .int .i64 0, .int .i64 0] 25)
    rwa [World.size_alloc] at this
  have hw1 : Below w.heap.size w w1 := (((Below.refl _ w).alloc (Nat.le_refl _) _).alloc (by simp) _).trans (hb1.mono (by omega))
  gi_wp2_with fail
  refine ⟨trivial, ?_⟩
  refine (callsIn_wide.2 (calls_sound Try.func16 (by kernel_rfl) (by kernel_rfl) sound16 e16 w1 (hL1 _ hw1) (vs := [.slice ao zs.length cp, .func (.func 17) #[] #[]]) ?hV16)).mono ?_
  case hV16 =>
    have hv1 := Go.Xec.V_grow (ctx_grow hw1) _ _ hv
    simp only [Go.Xec.VL]
    refine ⟨_, _, rfl, hv1, _, _, rfl, ?_, rfl⟩
    simp only [Go.Xec.V, Go.Xec.VL]
    exact ⟨[], [], rfl, rfl, rfl⟩
  rintro e w2 ⟨v, rfl, hb2, hv2⟩
  simp only [Go.Xec.V] at hv2
  subst hv2
  have hs2 := hb2.size
  have hw2 : Below w.heap.size w w2 := hw1.trans (hb2.mono hw1.size)
  have hM2 := (hb2.block w.heap.size (by omega)).trans hM1
  have hR2 := (hb2.block (w.heap.size + 1) (by omega)).trans hR1
  have cn : w2.cell? ⟨w.heap.size, 0, none⟩ = some (.int .i64 m.n) := cell_at hM2 rfl
  have hM3 : (w2.alloc (.cells #[.slice none 0 0] 22)).heap[w.heap.size]? = some (.cells #[.int .i64 m.n, .int .i64 m.l, .int .i64 m.s] 25 (0, 0)) := by
    rw [Below.heap_alloc _ _ _ (by omega)]
    exact hM2
  have cn3 : (w2.alloc (.cells #[.slice none 0 0] 22)).cell? ⟨w.heap.size, 0, none⟩ = some (.int .i64 m.n) := cell_at hM3 rfl
  have cl3 : (w2.alloc (.cells #[.slice none 0 0] 22)).cell? ⟨w.heap.size, 1, none⟩ = some (.int .i64 m.l) := cell_at hM3 rfl
  have hfit : ¬ 1000000000 - m.n < (zs.length : Int) := by omega
  have e1 : firstM m zs = m := if_neg hn0
  have e2 : restM m zs = zs := if_neg hn0
  have r1 : RM = mvW m (pairsOf m.l zs) := by rw [← hRM, runW, e1, e2]
  have r2 : RS = (pairsOf m.l zs).map stepW := by rw [← hRS, stepsW, e1, e2]
  gi_wp2_with fail
  refine ⟨trivial, ?_⟩
  have hS3 : (w2.alloc (.cells #[.slice none 0 0] 22)).heap[w2.heap.size]? = some (.cells #[.slice none 0 0] 22 (0, 0)) := World.alloc_heap_new _ _
  have hR3 : (w2.alloc (.cells #[.slice none 0 0] 22)).heap[w.heap.size + 1]? = some (.cells #[.int .i64 0, .int .i64 0, .int .i64 0] 25 (0, 0)) := by
    rw [Below.heap_alloc _ _ _ (by omega)]
    exact hR2
  have z3 : (w2.alloc (.cells #[.slice none 0 0] 22)).heap.size = w2.heap.size + 1 := by simp
  have hb3 : Below w.heap.size w (w2.alloc (.cells #[.slice none 0 0] 22)) := hw2.alloc hw2.size _
  generalize w2.alloc (.cells #[.slice none 0 0] 22) = w3 at *
  refine (nb_in Fence.wide 5 trivial rfl m.l ao zs.length cp _).mono ?_
  rintro e w4 ⟨rfl, rfl⟩
  gi_wp2_with fail
  have hb4 : Below w.heap.size w ((w3.alloc (.cells #[.int .i64 m.l] 3)).alloc (.cells #[.slice ao zs.length cp] 22)) := (hb3.alloc hb3.size _).alloc (by simp; have := hb3.size; omega) _
  have a4 : ∀ (kb : Nat) (ob : Obj), w3.heap[kb]? = some ob → ((w3.alloc (.cells #[.int .i64 m.l] 3)).alloc (.cells #[.slice ao zs.length cp] 22)).heap[kb]? = some ob := by
    intro kb ob hb
    have hlt := (Array.getElem?_eq_some_iff.1 hb).1
    rw [Below.heap_alloc _ _ _ (by simp; omega), Below.heap_alloc _ _ _ hlt]
    exact hb
  have hF4 : ((w3.alloc (.cells #[.int .i64 m.l] 3)).alloc (.cells #[.slice ao zs.length cp] 22)).heap[w3.heap.size]? = some (.cells #[.int .i64 m.l] 3 (0, 0)) := by
    rw [Below.heap_alloc _ _ _ (by simp)]
    exact World.alloc_heap_new _ _
  have hL4 : ((w3.alloc (.cells #[.int .i64 m.l] 3)).alloc (.cells #[.slice ao zs.length cp] 22)).heap[w3.heap.size + 1]? = some (.cells #[.slice ao zs.length cp] 22 (0, 0)) := by
    have := World.alloc_heap_new (w3.alloc (.cells #[.int .i64 m.l] 3)) (.cells #[.slice ao zs.length cp] 22)
    rwa [World.size_alloc] at this
  have hz4 := hb3.size
  rw [z3] at hF4 hL4
  refine loop_wp (w := w) (m := m) ?hc hb4 (a4 _ _ hM3) (a4 _ _ hS3) hF4 hL4 (a4 _ _ hR3) (by omega) (by omega) (by omega) (by omega) (by omega) (by omega) (by omega) (by omega) (by omega) (by omega) (by omega) (by omega) (by omega) (by omega) hlen (hcs.below hb4) _ _ _ _ _ _ _ _ _ _ _ _ _ _ _ _ _ _ _ _ _ _ _ _ _ _ _ _ _ _ _ _ _ _ _ _ _ _ _ _ _ _ _ _ _ _ _ _ _ _ _ _ _ _ _ _ _ _ _ _ _ _ _ _ _ _ _ _ _ _ _ _ ?_
  case hc => kernel_rfl
  intro D W v hD hd hbW hMW hSW hrW hnW hRW
  have hDr : D ≠ w.heap.size + 1 := by have := hb3.size; simp at hD; omega
  have fr0 := free_at (i := 0) hRW
  have fr1 := free_at (i := 1) hRW
  have fr2 := free_at (i := 2) hRW
  have cr0 : W.cell? ⟨w.heap.size + 1, 0, none⟩ = some (.int .i64 0) := cell_at hRW rfl
  have cr1 : W.cell? ⟨w.heap.size + 1, 1, none⟩ = some (.int .i64 0) := cell_at hRW rfl
  have cr2 : W.cell? ⟨w.heap.size + 1, 2, none⟩ = some (.int .i64 0) := cell_at hRW rfl
  have hc0 : W.cell? ⟨w2.heap.size, 0, none⟩ = some v := cell_at hSW rfl
  have hc1 : W.cell? ⟨w.heap.size, 0, none⟩ = some (.int .i64 (mvW m (pairsOf m.l zs)).n) := cell_at hMW rfl
  have hc2 : W.cell? ⟨w.heap.size, 1, none⟩ = some (.int .i64 (mvW m (pairsOf m.l zs)).l) := cell_at hMW rfl
  have hc3 : W.cell? ⟨w.heap.size, 2, none⟩ = some (.int .i64 (mvW m (pairsOf m.l zs)).s) := cell_at hMW rfl
  gi_wp2_with fail
  gi_region
  gi_wp2_with fail
  obtain ⟨W5, hW5⟩ : ∃ W5, (((W.setCell ⟨w.heap.size + 1, 0, none⟩ (.int .i64 (mvW m (pairsOf m.l zs)).n)).setCell ⟨w.heap.size + 1, 1, none⟩ (.int .i64 (mvW m (pairsOf m.l zs)).l)).setCell ⟨w.heap.size + 1, 2, none⟩ (.int .i64 (mvW m (pairsOf m.l zs)).s)).drew = W5 := ⟨_, rfl⟩
  rw [hW5]
  obtain ⟨f1, f2, f3, f4⟩ := fin5 (Ne.symm hDr) hd hRW hbW (by omega) hrW _ hW5.symm
  refine ⟨by simp, .inl ⟨_, _, rfl, run_takeDeferred f1, ?_⟩⟩
  have g0 : (W5.putObj D (.deferred none)).cell? ⟨w.heap.size + 1, 0, none⟩ = some (.int .i64 (mvW m (pairsOf m.l zs)).n) := cell_at f2 rfl
  have g1 : (W5.putObj D (.deferred none)).cell? ⟨w.heap.size + 1, 1, none⟩ = some (.int .i64 (mvW m (pairsOf m.l zs)).l) := cell_at f2 rfl
  have g2 : (W5.putObj D (.deferred none)).cell? ⟨w.heap.size + 1, 2, none⟩ = some (.int .i64 (mvW m (pairsOf m.l zs)).s) := cell_at f2 rfl
  subst r1 r2
  refine ⟨.tuple #[.agg #[.int .i64 (mvW m (pairsOf m.l zs)).n, .int .i64 (mvW m (pairsOf m.l zs)).l, .int .i64 (mvW m (pairsOf m.l zs)).s], v, .int .i64 0], ?res, v, rfl, by rw [List.length_map, pairsOf_len, List.map_map]; exact f3, ?nil, f4 (by have := hb3.size; simp at hD; omega)⟩
  case nil =>
    refine hnW.trans ⟨fun e => by rw [e]; rfl, fun e => ?_⟩
    have := congrArg List.length e
    rw [List.length_map, pairsOf_len] at this
    exact List.eq_nil_of_length_eq_zero this
  case res =>
    simp [results, go_sem, Try.f7, g0, g1, g2]
set_option maxRecDepth 100000 in
set_option maxHeartbeats 4000000 in
theorem run_B {m : Mv} {zs : List Int} {a : Go.Xec.AVal} {ao : Option Addr} {cp : Nat} (w : World) (hL : Go.Xec.Laid Try.prog w) (hm : mvOk m) (hx : allX zs) (hlen : zs.length ≤ 100000) (hn : m.n + zs.length ≤ 1000000000)
    (hcap : zs.length ≤ cp) (ha : RI a zs) (hv : Go.Xec.V (Go.Xec.ctx0 w fun b => b < w.heap.size) a (.slice ao zs.length cp)) (hcs : IntsAt w.heap.size w ao zs) (hq : IsB m zs) :
    Calls Try.prog 7 #[.agg #[.int .i64 m.n, .int .i64 m.l, .int .i64 m.s], .slice ao zs.length cp] w fun e w' => ∃ v, e = .returned (.tuple #[.agg #[.int .i64 (runW m zs).n, .int .i64 (runW m zs).l, .int .i64 (runW m zs).s], v, .int .i64 0]) ∧
      w'.ownsRow w.heap.size 3 1 v (stepsW m zs).length ((stepsW m zs).map (Value.int .i64)) ∧ (v = .slice none 0 0 ↔ (stepsW m zs) = []) ∧ Below w.heap.size w w' := by
  generalize hRM : runW m zs = RM
  generalize hRS : stepsW m zs = RS
  refine (callsIn_wide (n := 6)).1 ?_
  refine callsIn_of_wp_marks Try.func7 rfl trivial ?_ rfl
  simp only [Try.ntmps7, List.size_toArray, List.length_cons, List.length_nil, Nat.reduceAdd, Nat.reduceSub, Array.replicate_succ, Array.replicate_zero, List.push_toArray, List.append_toArray, List.nil_append, List.cons_append]
  have hmn : i64In m.n := by
    obtain ⟨n, l, s⟩ := m
    simp only [mvOk, mOk, i64In] at hm ⊢
    omega
  have e10 := F10_eq (n := m.n) (l := m.l) (s := m.s) hmn
  rw [decide_eq_true (show mOk m.n m.l m.s from hm)] at e10
  have e16 := F16_eq ha hlen
  rw [decide_eq_false (show ¬ ¬ allX zs from fun h => h hx)] at e16
  have hL1 : ∀ W, Below w.heap.size w W → Go.Xec.Laid Try.prog W := fun W h => hL.keep h.block
  gi_wp2_with fail
  refine ⟨trivial, ?_⟩
  refine (callsIn_wide.2 (calls_sound Try.func10 (by kernel_rfl) (by kernel_rfl) sound10 e10 _ (hL1 _ (((Below.refl _ w).alloc (Nat.le_refl _) _).alloc (by simp) _)) (vs := [.agg #[.int .i64 m.n, .int .i64 m.l, .int .i64 m.s]]) ?hV10)).mono ?_
  case hV10 =>
    simp only [Go.Xec.VL, Go.Xec.V]
    exact ⟨_, _, rfl, ⟨_, rfl, _, _, rfl, rfl, _, _, rfl, rfl, _, _, rfl, rfl, rfl⟩, rfl⟩
  rintro e w1 ⟨v, rfl, hb1, hv1⟩
  simp only [Go.Xec.V] at hv1
  subst hv1
  have hs1 := hb1.size
  simp only [World.size_alloc] at hs1 hb1
  have hM1 : w1.heap[w.heap.size]? = some (.cells #[.int .i64 m.n, .int .i64 m.l, .int .i64 m.s] 25 (0, 0)) := by
    rw [hb1.block _ (by omega), Below.heap_alloc _ _ _ (by simp)]
    exact World.alloc_heap_new w _
  have hR1 : w1.heap[w.heap.size + 1]? = some (.cells #[.int .i64 0, .int .i64 0, .int .i64 0] 25 (0, 0)) := by
    rw [hb1.block _ (by omega)]
    have := World.alloc_heap_new (w.alloc (.cells #[.int .i64 m.n, .int .i64 m.l, .int .i64 m.s] 25)) (.cells #[.int .i64 0, .int .i64 0, .int .i64 0] 25)
    rwa [World.size_alloc] at this
  have hw1 : Below w.heap.size w w1 := (((Below.refl _ w).alloc (Nat.le_refl _) _).alloc (by simp) _).trans (hb1.mono (by omega))
  gi_wp2_with fail
  refine ⟨trivial, ?_⟩
  refine (callsIn_wide.2 (calls_sound Try.func16 (by kernel_rfl) (by kernel_rfl) sound16 e16 w1 (hL1 _ hw1) (vs := [.slice ao zs.length cp, .func (.func 17) #[] #[]]) ?hV16)).mono ?_
  case hV16 =>
    have hv1 := Go.Xec.V_grow (ctx_grow hw1) _ _ hv
    simp only [Go.Xec.VL]
    refine ⟨_, _, rfl, hv1, _, _, rfl, ?_, rfl⟩
    simp only [Go.Xec.V, Go.Xec.VL]
    exact ⟨[], [], rfl, rfl, rfl⟩
  rintro e w2 ⟨v, rfl, hb2, hv2⟩
  simp only [Go.Xec.V] at hv2
  subst hv2
  have hs2 := hb2.size
  have hw2 : Below w.heap.size w w2 := hw1.trans (hb2.mono hw1.size)
  have hM2 := (hb2.block w.heap.size (by omega)).trans hM1
  have hR2 := (hb2.block (w.heap.size + 1) (by omega)).trans hR1
  have cn : w2.cell? ⟨w.heap.size, 0, none⟩ = some (.int .i64 m.n) := cell_at hM2 rfl
  have hM3 : (w2.alloc (.cells #[.slice none 0 0] 22)).heap[w.heap.size]? = some (.cells #[.int .i64 m.n, .int .i64 m.l, .int .i64 m.s] 25 (0, 0)) := by
    rw [Below.heap_alloc _ _ _ (by omega)]
    exact hM2
  have cn3 : (w2.alloc (.cells #[.slice none 0 0] 22)).cell? ⟨w.heap.size, 0, none⟩ = some (.int .i64 m.n) := cell_at hM3 rfl
  have cl3 : (w2.alloc (.cells #[.slice none 0 0] 22)).cell? ⟨w.heap.size, 1, none⟩ = some (.int .i64 m.l) := cell_at hM3 rfl
  have hfit : ¬ 1000000000 - m.n < (zs.length : Int) := by omega
  obtain ⟨hn0, hz⟩ := hq
  have hzl : ¬ (0 : Int) < (zs.length : Int) := by rw [hz]; decide
  have e1 : firstM m zs = m := by simp [firstM, hz]
  have e2 : restM m zs = zs := by simp [restM, hz]
  have r1 : RM = mvW m (pairsOf m.l zs) := by rw [← hRM, runW, e1, e2]
  have r2 : RS = (pairsOf m.l zs).map stepW := by rw [← hRS, stepsW, e1, e2]
  clear hz e1 e2
  gi_wp2_with fail
  refine ⟨trivial, ?_⟩
  have hS3 : (w2.alloc (.cells #[.slice none 0 0] 22)).heap[w2.heap.size]? = some (.cells #[.slice none 0 0] 22 (0, 0)) := World.alloc_heap_new _ _
  have hR3 : (w2.alloc (.cells #[.slice none 0 0] 22)).heap[w.heap.size + 1]? = some (.cells #[.int .i64 0, .int .i64 0, .int .i64 0] 25 (0, 0)) := by
    rw [Below.heap_alloc _ _ _ (by omega)]
    exact hR2
  have z3 : (w2.alloc (.cells #[.slice none 0 0] 22)).heap.size = w2.heap.size + 1 := by simp
  have hb3 : Below w.heap.size w (w2.alloc (.cells #[.slice none 0 0] 22)) := hw2.alloc hw2.size _
  generalize w2.alloc (.cells #[.slice none 0 0] 22) = w3 at *
  refine (nb_in Fence.wide 5 trivial rfl m.l ao zs.length cp _).mono ?_
  rintro e w4 ⟨rfl, rfl⟩
  gi_wp2_with fail
  have hb4 : Below w.heap.size w ((w3.alloc (.cells #[.int .i64 m.l] 3)).alloc (.cells #[.slice ao zs.length cp] 22)) := (hb3.alloc hb3.size _).alloc (by simp; have := hb3.size; omega) _
  have a4 : ∀ (kb : Nat) (ob : Obj), w3.heap[kb]? = some ob → ((w3.alloc (.cells #[.int .i64 m.l] 3)).alloc (.cells #[.slice ao zs.length cp] 22)).heap[kb]? = some ob := by
    intro kb ob hb
    have hlt := (Array.getElem?_eq_some_iff.1 hb).1
    rw [Below.heap_alloc _ _ _ (by simp; omega), Below.heap_alloc _ _ _ hlt]
    exact hb
  have hF4 : ((w3.alloc (.cells #[.int .i64 m.l] 3)).alloc (.cells #[.slice ao zs.length cp] 22)).heap[w3.heap.size]? = some (.cells #[.int .i64 m.l] 3 (0, 0)) := by
    rw [Below.heap_alloc _ _ _ (by simp)]
    exact World.alloc_heap_new _ _
  have hL4 : ((w3.alloc (.cells #[.int .i64 m.l] 3)).alloc (.cells #[.slice ao zs.length cp] 22)).heap[w3.heap.size + 1]? = some (.cells #[.slice ao zs.length cp] 22 (0, 0)) := by
    have := World.alloc_heap_new (w3.alloc (.cells #[.int .i64 m.l] 3)) (.cells #[.slice ao zs.length cp] 22)
    rwa [World.size_alloc] at this
  have hz4 := hb3.size
  rw [z3] at hF4 hL4
  refine loop_wp (w := w) (m := m) ?hc hb4 (a4 _ _ hM3) (a4 _ _ hS3) hF4 hL4 (a4 _ _ hR3) (by omega) (by omega) (by omega) (by omega) (by omega) (by omega) (by omega) (by omega) (by omega) (by omega) (by omega) (by omega) (by omega) (by omega) hlen (hcs.below hb4) _ _ _ _ _ _ _ _ _ _ _ _ _ _ _ _ _ _ _ _ _ _ _ _ _ _ _ _ _ _ _ _ _ _ _ _ _ _ _ _ _ _ _ _ _ _ _ _ _ _ _ _ _ _ _ _ _ _ _ _ _ _ _ _ _ _ _ _ _ _ _ _ ?_
  case hc => kernel_rfl
  intro D W v hD hd hbW hMW hSW hrW hnW hRW
  have hDr : D ≠ w.heap.size + 1 := by have := hb3.size; simp at hD; omega
  have fr0 := free_at (i := 0) hRW
  have fr1 := free_at (i := 1) hRW
  have fr2 := free_at (i := 2) hRW
  have cr0 : W.cell? ⟨w.heap.size + 1, 0, none⟩ = some (.int .i64 0) := cell_at hRW rfl
  have cr1 : W.cell? ⟨w.heap.size + 1, 1, none⟩ = some (.int .i64 0) := cell_at hRW rfl
  have cr2 : W.cell? ⟨w.heap.size + 1, 2, none⟩ = some (.int .i64 0) := cell_at hRW rfl
  have hc0 : W.cell? ⟨w2.heap.size, 0, none⟩ = some v := cell_at hSW rfl
  have hc1 : W.cell? ⟨w.heap.size, 0, none⟩ = some (.int .i64 (mvW m (pairsOf m.l zs)).n) := cell_at hMW rfl
  have hc2 : W.cell? ⟨w.heap.size, 1, none⟩ = some (.int .i64 (mvW m (pairsOf m.l zs)).l) := cell_at hMW rfl
  have hc3 : W.cell? ⟨w.heap.size, 2, none⟩ = some (.int .i64 (mvW m (pairsOf m.l zs)).s) := cell_at hMW rfl
  gi_wp2_with fail
  gi_region
  gi_wp2_with fail
  obtain ⟨W5, hW5⟩ : ∃ W5, (((W.setCell ⟨w.heap.size + 1, 0, none⟩ (.int .i64 (mvW m (pairsOf m.l zs)).n)).setCell ⟨w.heap.size + 1, 1, none⟩ (.int .i64 (mvW m (pairsOf m.l zs)).l)).setCell ⟨w.heap.size + 1, 2, none⟩ (.int .i64 (mvW m (pairsOf m.l zs)).s)).drew = W5 := ⟨_, rfl⟩
  rw [hW5]
  obtain ⟨f1, f2, f3, f4⟩ := fin5 (Ne.symm hDr) hd hRW hbW (by omega) hrW _ hW5.symm
  refine ⟨by simp, .inl ⟨_, _, rfl, run_takeDeferred f1, ?_⟩⟩
  have g0 : (W5.putObj D (.deferred none)).cell? ⟨w.heap.size + 1, 0, none⟩ = some (.int .i64 (mvW m (pairsOf m.l zs)).n) := cell_at f2 rfl
  have g1 : (W5.putObj D (.deferred none)).cell? ⟨w.heap.size + 1, 1, none⟩ = some (.int .i64 (mvW m (pairsOf m.l zs)).l) := cell_at f2 rfl
  have g2 : (W5.putObj D (.deferred none)).cell? ⟨w.heap.size + 1, 2, none⟩ = some (.int .i64 (mvW m (pairsOf m.l zs)).s) := cell_at f2 rfl
  subst r1 r2
  refine ⟨.tuple #[.agg #[.int .i64 (mvW m (pairsOf m.l zs)).n, .int .i64 (mvW m (pairsOf m.l zs)).l, .int .i64 (mvW m (pairsOf m.l zs)).s], v, .int .i64 0], ?res, v, rfl, by rw [List.length_map, pairsOf_len, List.map_map]; exact f3, ?nil, f4 (by have := hb3.size; simp at hD; omega)⟩
  case nil =>
    refine hnW.trans ⟨fun e => by rw [e]; rfl, fun e => ?_⟩
    have := congrArg List.length e
    rw [List.length_map, pairsOf_len] at this
    exact List.eq_nil_of_length_eq_zero this
  case res =>
    simp [results, go_sem, Try.f7, g0, g1, g2]
end Go.Proofs.Ytihgogbfjiobiaa
