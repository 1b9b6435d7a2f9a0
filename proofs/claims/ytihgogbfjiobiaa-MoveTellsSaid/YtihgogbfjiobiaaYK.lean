/-
  Run: where it refuses; what it answers, in all.
-/
import Derived.Test.YtihgogbfjiobiaaYJ
set_option linter.unusedVariables false
namespace Go.Proofs.Ytihgogbfjiobiaa
open Go Go.RowKit Go.Shelf

def NoPost (w : World) (n : Int) (e : Ending) (w' : World) : Prop := e = .returned (.tuple #[.agg #[.int .i64 0, .int .i64 0, .int .i64 0], .slice none 0 0, .int .i64 n]) ∧ Below w.heap.size w w'
set_option maxRecDepth 100000 in
set_option maxHeartbeats 4000000 in
theorem no1 {m : Mv} {v : Value} (w : World) (hL : Go.Xec.Laid Try.prog w) (hmn : i64In m.n) (hm : ¬ mvOk m) :
    Calls Try.prog 7 #[.agg #[.int .i64 m.n, .int .i64 m.l, .int .i64 m.s], v] w (NoPost w 1) := by
  have e10 := F10_eq (n := m.n) (l := m.l) (s := m.s) hmn
  rw [decide_eq_false (show ¬ mOk m.n m.l m.s from hm)] at e10
  refine (callsIn_wide (n := 6)).1 ?_
  refine callsIn_of_wp Try.func7 rfl trivial ?_ rfl
  simp only [Try.ntmps7, List.size_toArray, List.length_cons, List.length_nil, Nat.reduceAdd, Nat.reduceSub, Array.replicate_succ, Array.replicate_zero, List.push_toArray, List.append_toArray, List.nil_append, List.cons_append]
  have hL1 : ∀ W, Below w.heap.size w W → Go.Xec.Laid Try.prog W := fun W h => hL.keep h.block
  gi_wp2_with fail
  refine ⟨trivial, ?_⟩
  refine (callsIn_wide.2 (calls_sound Try.func10 (by kernel_rfl) (by kernel_rfl) sound10 e10 _ (hL1 _ (((Below.refl _ w).alloc (Nat.le_refl _) _).alloc (by simp) _)) (vs := [.agg #[.int .i64 m.n, .int .i64 m.l, .int .i64 m.s]]) ?hV10)).mono ?_
  case hV10 =>
    simp only [Go.Xec.VL, Go.Xec.V]
    exact ⟨_, _, rfl, ⟨_, rfl, _, _, rfl, rfl, _, _, rfl, rfl, _, _, rfl, rfl, rfl⟩, rfl⟩
  rintro e w1 ⟨v, rfl, hb1, hv1⟩
  simp only [Go.Xec.V] at hv1
  subst hv1
  have hs1 := hb1.size
  simp only [World.size_alloc] at hs1 hb1
  have hM1 : w1.heap[w.heap.size]? = some (.cells #[.int .i64 m.n, .int .i64 m.l, .int .i64 m.s] 25 (0, 0)) := by
    rw [hb1.block _ (by omega), Below.heap_alloc _ _ _ (by simp)]
    exact World.alloc_heap_new w _
  have hR1 : w1.heap[w.heap.size + 1]? = some (.cells #[.int .i64 0, .int .i64 0, .int .i64 0] 25 (0, 0)) := by
    rw [hb1.block _ (by omega)]
    have := World.alloc_heap_new (w.alloc (.cells #[.int .i64 m.n, .int .i64 m.l, .int .i64 m.s] 25)) (.cells #[.int .i64 0, .int .i64 0, .int .i64 0] 25)
    rwa [World.size_alloc] at this
  have hw1 : Below w.heap.size w w1 := (((Below.refl _ w).alloc (Nat.le_refl _) _).alloc (by simp) _).trans (hb1.mono (by omega))
  have c0 : w1.cell? ⟨w.heap.size + 1, 0, none⟩ = some (.int .i64 0) := cell_at hR1 rfl
  have c1 : w1.cell? ⟨w.heap.size + 1, 1, none⟩ = some (.int .i64 0) := cell_at hR1 rfl
  have c2 : w1.cell? ⟨w.heap.size + 1, 2, none⟩ = some (.int .i64 0) := cell_at hR1 rfl
  have f0 := free_at (i := 0) hR1
  have f1 := free_at (i := 1) hR1
  have f2 := free_at (i := 2) hR1
  gi_wp2_with fail
  have g2 := cells_set (i := 2) (cells_set (i := 1) (cells_set (i := 0) hR1 (.int .i64 0)) (.int .i64 0)) (.int .i64 0)
  have b3 := (((hw1.setCell (p := ⟨w.heap.size + 1, 0, none⟩) (by simp) (.int .i64 0)).setCell (p := ⟨w.heap.size + 1, 1, none⟩) (by simp) (.int .i64 0)).setCell (p := ⟨w.heap.size + 1, 2, none⟩) (by simp) (.int .i64 0))
  generalize ((w1.setCell ⟨w.heap.size + 1, 0, none⟩ (.int .i64 0)).setCell ⟨w.heap.size + 1, 1, none⟩ (.int .i64 0)).setCell ⟨w.heap.size + 1, 2, none⟩ (.int .i64 0) = W5 at *
  have k0 : W5.cell? ⟨w.heap.size + 1, 0, none⟩ = some (.int .i64 0) := cell_at g2 rfl
  have k1 : W5.cell? ⟨w.heap.size + 1, 1, none⟩ = some (.int .i64 0) := cell_at g2 rfl
  have k2 : W5.cell? ⟨w.heap.size + 1, 2, none⟩ = some (.int .i64 0) := cell_at g2 rfl
  refine bodyPost_ret (v := .tuple #[.agg #[.int .i64 0, .int .i64 0, .int .i64 0], .slice none 0 0, .int .i64 1]) ?res rfl ⟨rfl, b3⟩
  case res => simp [results, go_sem, Try.f7, k0, k1, k2]
set_option maxRecDepth 100000 in
set_option maxHeartbeats 4000000 in
theorem no3 {m : Mv} {zs : List Int} {a : Go.Xec.AVal} {ao : Option Addr} {cp : Nat} (w : World) (hL : Go.Xec.Laid Try.prog w) (hmn : i64In m.n) (hm : mvOk m) (hx : ¬ allX zs) (hlen : zs.length ≤ 100000)
    (ha : RI a zs) (hv : Go.Xec.V (Go.Xec.ctx0 w fun b => b < w.heap.size) a (.slice ao zs.length cp)) :
    Calls Try.prog 7 #[.agg #[.int .i64 m.n, .int .i64 m.l, .int .i64 m.s], .slice ao zs.length cp] w (NoPost w 3) := by
  have e10 := F10_eq (n := m.n) (l := m.l) (s := m.s) hmn
  rw [decide_eq_true (show mOk m.n m.l m.s from hm)] at e10
  have e16 := F16_eq ha hlen
  rw [decide_eq_true (show ¬ allX zs from hx)] at e16
  refine (callsIn_wide (n := 6)).1 ?_
  refine callsIn_of_wp Try.func7 rfl trivial ?_ rfl
  simp only [Try.ntmps7, List.size_toArray, List.length_cons, List.length_nil, Nat.reduceAdd, Nat.reduceSub, Array.replicate_succ, Array.replicate_zero, List.push_toArray, List.append_toArray, List.nil_append, List.cons_append]
  have hL1 : ∀ W, Below w.heap.size w W → Go.Xec.Laid Try.prog W := fun W h => hL.keep h.block
  gi_wp2_with fail
  refine ⟨trivial, ?_⟩
  refine (callsIn_wide.2 (calls_sound Try.func10 (by kernel_rfl) (by kernel_rfl) sound10 e10 _ (hL1 _ (((Below.refl _ w).alloc (Nat.le_refl _) _).alloc (by simp) _)) (vs := [.agg #[.int .i64 m.n, .int .i64 m.l, .int .i64 m.s]]) ?hV10)).mono ?_
  case hV10 =>
    simp only [Go.Xec.VL, Go.Xec.V]
    exact ⟨_, _, rfl, ⟨_, rfl, _, _, rfl, rfl, _, _, rfl, rfl, _, _, rfl, rfl, rfl⟩, rfl⟩
  rintro e w1 ⟨v, rfl, hb1, hv1⟩
  simp only [Go.Xec.V] at hv1
  subst hv1
  have hs1 := hb1.size
  simp only [World.size_alloc] at hs1 hb1
  have hM1 : w1.heap[w.heap.size]? = some (.cells #[.int .i64 m.n, .int .i64 m.l, .int .i64 m.s] 25 (0, 0)) := by
    rw [hb1.block _ (by omega), Below.heap_alloc _ _ _ (by simp)]
    exact World.alloc_heap_new w _
  have hR1 : w1.heap[w.heap.size + 1]? = some (.cells #[.int .i64 0, .int .i64 0, .int .i64 0] 25 (0, 0)) := by
    rw [hb1.block _ (by omega)]
    have := World.alloc_heap_new (w.alloc (.cells #[.int .i64 m.n, .int .i64 m.l, .int .i64 m.s] 25)) (.cells #[.int .i64 0, .int .i64 0, .int .i64 0] 25)
    rwa [World.size_alloc] at this
  have hw1 : Below w.heap.size w w1 := (((Below.refl _ w).alloc (Nat.le_refl _) _).alloc (by simp) _).trans (hb1.mono (by omega))
  gi_wp2_with fail
  refine ⟨trivial, ?_⟩
  refine (callsIn_wide.2 (calls_sound Try.func16 (by kernel_rfl) (by kernel_rfl) sound16 e16 w1 (hL1 _ hw1) (vs := [.slice ao zs.length cp, .func (.func 17) #[] #[]]) ?hV16)).mono ?_
  case hV16 =>
    have hv1 := Go.Xec.V_grow (ctx_grow hw1) _ _ hv
    simp only [Go.Xec.VL]
    refine ⟨_, _, rfl, hv1, _, _, rfl, ?_, rfl⟩
    simp only [Go.Xec.V, Go.Xec.VL]
    exact ⟨[], [], rfl, rfl, rfl⟩
  rintro e w2 ⟨v, rfl, hb2, hv2⟩
  simp only [Go.Xec.V] at hv2
  subst hv2
  have hs2 := hb2.size
  have hw2 : Below w.heap.size w w2 := hw1.trans (hb2.mono hw1.size)
  have hM2 := (hb2.block w.heap.size (by omega)).trans hM1
  have hR2 := (hb2.block (w.heap.size + 1) (by omega)).trans hR1
  have cn : w2.cell? ⟨w.heap.size, 0, none⟩ = some (.int .i64 m.n) := cell_at hM2 rfl
  have c0 : w2.cell? ⟨w.heap.size + 1, 0, none⟩ = some (.int .i64 0) := cell_at hR2 rfl
  have c1 : w2.cell? ⟨w.heap.size + 1, 1, none⟩ = some (.int .i64 0) := cell_at hR2 rfl
  have c2 : w2.cell? ⟨w.heap.size + 1, 2, none⟩ = some (.int .i64 0) := cell_at hR2 rfl
  have f0 := free_at (i := 0) hR2
  have f1 := free_at (i := 1) hR2
  have f2 := free_at (i := 2) hR2
  gi_wp2_with fail
  have g2 := cells_set (i := 2) (cells_set (i := 1) (cells_set (i := 0) hR2 (.int .i64 0)) (.int .i64 0)) (.int .i64 0)
  have b3 := (((hw2.setCell (p := ⟨w.heap.size + 1, 0, none⟩) (by simp) (.int .i64 0)).setCell (p := ⟨w.heap.size + 1, 1, none⟩) (by simp) (.int .i64 0)).setCell (p := ⟨w.heap.size + 1, 2, none⟩) (by simp) (.int .i64 0))
  generalize ((w2.setCell ⟨w.heap.size + 1, 0, none⟩ (.int .i64 0)).setCell ⟨w.heap.size + 1, 1, none⟩ (.int .i64 0)).setCell ⟨w.heap.size + 1, 2, none⟩ (.int .i64 0) = W5 at *
  have k0 : W5.cell? ⟨w.heap.size + 1, 0, none⟩ = some (.int .i64 0) := cell_at g2 rfl
  have k1 : W5.cell? ⟨w.heap.size + 1, 1, none⟩ = some (.int .i64 0) := cell_at g2 rfl
  have k2 : W5.cell? ⟨w.heap.size + 1, 2, none⟩ = some (.int .i64 0) := cell_at g2 rfl
  refine bodyPost_ret (v := .tuple #[.agg #[.int .i64 0, .int .i64 0, .int .i64 0], .slice none 0 0, .int .i64 3]) ?res rfl ⟨rfl, b3⟩
  case res => simp [results, go_sem, Try.f7, k0, k1, k2]
set_option maxRecDepth 100000 in
set_option maxHeartbeats 4000000 in
theorem no11 {m : Mv} {zs : List Int} {a : Go.Xec.AVal} {ao : Option Addr} {cp : Nat} (w : World) (hL : Go.Xec.Laid Try.prog w) (hmn : i64In m.n) (hm : mvOk m) (hx : allX zs) (hlen : zs.length ≤ 100000) (hfull : 1000000000 - m.n < (zs.length : Int))
    (ha : RI a zs) (hv : Go.Xec.V (Go.Xec.ctx0 w fun b => b < w.heap.size) a (.slice ao zs.length cp)) :
    Calls Try.prog 7 #[.agg #[.int .i64 m.n, .int .i64 m.l, .int .i64 m.s], .slice ao zs.length cp] w (NoPost w 11) := by
  have e10 := F10_eq (n := m.n) (l := m.l) (s := m.s) hmn
  rw [decide_eq_true (show mOk m.n m.l m.s from hm)] at e10
  have e16 := F16_eq ha hlen
  rw [decide_eq_false (show ¬ ¬ allX zs from fun h => h hx)] at e16
  have hn0 : 0 ≤ m.n ∧ m.n ≤ 1000000000 := by
    obtain ⟨n, l, s⟩ := m
    simp only [mvOk, mOk] at hm ⊢
    omega
  refine (callsIn_wide (n := 6)).1 ?_
  refine callsIn_of_wp Try.func7 rfl trivial ?_ rfl
  simp only [Try.ntmps7, List.size_toArray, List.length_cons, List.length_nil, Nat.reduceAdd, Nat.reduceSub, Array.replicate_succ, Array.replicate_zero, List.push_toArray, List.append_toArray, List.nil_append, List.cons_append]
  have hL1 : ∀ W, Below w.heap.size w W → Go.Xec.Laid Try.prog W := fun W h => hL.keep h.block
  gi_wp2_with fail
  refine ⟨trivial, ?_⟩
  refine (callsIn_wide.2 (calls_sound Try.func10 (by kernel_rfl) (by kernel_rfl) sound10 e10 _ (hL1 _ (((Below.refl _ w).alloc (Nat.le_refl _) _).alloc (by simp) _)) (vs := [.agg #[.int .i64 m.n, .int .i64 m.l, .int .i64 m.s]]) ?hV10)).mono ?_
  case hV10 =>
    simp only [Go.Xec.VL, Go.Xec.V]
    exact ⟨_, _, rfl, ⟨_, rfl, _, _, rfl, rfl, _, _, rfl, rfl, _, _, rfl, rfl, rfl⟩, rfl⟩
  rintro e w1 ⟨v, rfl, hb1, hv1⟩
  simp only [Go.Xec.V] at hv1
  subst hv1
  have hs1 := hb1.size
  simp only [World.size_alloc] at hs1 hb1
  have hM1 : w1.heap[w.heap.size]? = some (.cells #[.int .i64 m.n, .int .i64 m.l, .int .i64 m.s] 25 (0, 0)) := by
    rw [hb1.block _ (by omega), Below.heap_alloc _ _ _ (by simp)]
    exact World.alloc_heap_new w _
  have hR1 : w1.heap[w.heap.size + 1]? = some (.cells #[.int .i64 0, .int .i64 0, .int .i64 0] 25 (0, 0)) := by
    rw [hb1.block _ (by omega)]
    have := World.alloc_heap_new (w.alloc (.cells #[.int .i64 m.n, .int .i64 m.l, .int .i64 m.s] 25)) (.cells #[.int .i64 0, .int .i64 0, .int .i64 0] 25)
    rwa [World.size_alloc] at this
  have hw1 : Below w.heap.size w w1 := (((Below.refl _ w).alloc (Nat.le_refl _) _).alloc (by simp) _).trans (hb1.mono (by omega))
  gi_wp2_with fail
  refine ⟨trivial, ?_⟩
  refine (callsIn_wide.2 (calls_sound Try.func16 (by kernel_rfl) (by kernel_rfl) sound16 e16 w1 (hL1 _ hw1) (vs := [.slice ao zs.length cp, .func (.func 17) #[] #[]]) ?hV16)).mono ?_
  case hV16 =>
    have hv1 := Go.Xec.V_grow (ctx_grow hw1) _ _ hv
    simp only [Go.Xec.VL]
    refine ⟨_, _, rfl, hv1, _, _, rfl, ?_, rfl⟩
    simp only [Go.Xec.V, Go.Xec.VL]
    exact ⟨[], [], rfl, rfl, rfl⟩
  rintro e w2 ⟨v, rfl, hb2, hv2⟩
  simp only [Go.Xec.V] at hv2
  subst hv2
  have hs2 := hb2.size
  have hw2 : Below w.heap.size w w2 := hw1.trans (hb2.mono hw1.size)
  have hM2 := (hb2.block w.heap.size (by omega)).trans hM1
  have hR2 := (hb2.block (w.heap.size + 1) (by omega)).trans hR1
  have cn : w2.cell? ⟨w.heap.size, 0, none⟩ = some (.int .i64 m.n) := cell_at hM2 rfl
  have c0 : w2.cell? ⟨w.heap.size + 1, 0, none⟩ = some (.int .i64 0) := cell_at hR2 rfl
  have c1 : w2.cell? ⟨w.heap.size + 1, 1, none⟩ = some (.int .i64 0) := cell_at hR2 rfl
  have c2 : w2.cell? ⟨w.heap.size + 1, 2, none⟩ = some (.int .i64 0) := cell_at hR2 rfl
  have f0 := free_at (i := 0) hR2
  have f1 := free_at (i := 1) hR2
  have f2 := free_at (i := 2) hR2
  gi_wp2_with fail
  have g2 := cells_set (i := 2) (cells_set (i := 1) (cells_set (i := 0) hR2 (.int .i64 0)) (.int .i64 0)) (.int .i64 0)
  have b3 := (((hw2.setCell (p := ⟨w.heap.size + 1, 0, none⟩) (by simp) (.int .i64 0)).setCell (p := ⟨w.heap.size + 1, 1, none⟩) (by simp) (.int .i64 0)).setCell (p := ⟨w.heap.size + 1, 2, none⟩) (by simp) (.int .i64 0))
  generalize ((w2.setCell ⟨w.heap.size + 1, 0, none⟩ (.int .i64 0)).setCell ⟨w.heap.size + 1, 1, none⟩ (.int .i64 0)).setCell ⟨w.heap.size + 1, 2, none⟩ (.int .i64 0) = W5 at *
  have k0 : W5.cell? ⟨w.heap.size + 1, 0, none⟩ = some (.int .i64 0) := cell_at g2 rfl
  have k1 : W5.cell? ⟨w.heap.size + 1, 1, none⟩ = some (.int .i64 0) := cell_at g2 rfl
  have k2 : W5.cell? ⟨w.heap.size + 1, 2, none⟩ = some (.int .i64 0) := cell_at g2 rfl
  refine bodyPost_ret (v := .tuple #[.agg #[.int .i64 0, .int .i64 0, .int .i64 0], .slice none 0 0, .int .i64 11]) ?res rfl ⟨rfl, b3⟩
  case res => simp [results, go_sem, Try.f7, k0, k1, k2]
end Go.Proofs.Ytihgogbfjiobiaa
