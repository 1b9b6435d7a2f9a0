/-
  The order, walked: the world behind it is the world ahead of it and new blocks.
-/
import Derived.Maps.RangeWalk
import Derived.Maps.AppendAt
import Derived.WalkKit
import Derived.StillTailTactics
import Derived.Test.YtkihpjehigmnpaaYS
set_option linter.unusedVariables false
set_option linter.unusedSimpArgs false
namespace Go.Proofs.Ytkihpjehigmnpaa
open Go Go.RowKit Go.Shelf Go.Sort

set_option maxHeartbeats 1000000 in
theorem or_calls (a b r : Int) (hr1 : a ≠ 0 → r = a) (hr0 : a = 0 → r = b) (B : Nat) (w : World) (h0 : w.cell? ⟨B, 0, none⟩ = some (.int .i64 a)) (h1 : w.cell? ⟨B, 1, none⟩ = some (.int .i64 b)) :
    Calls Try.prog 29 #[.slice (some ⟨B, 0, none⟩) 2 2] w fun e w' => e = .returned (.int .i64 r) ∧ w' = w := by
  go_enter Try.func29, Try.ntmps29
  go_wp2_with fail
  go_loopw [8] (fun i wr => wr = w ∧ ∃ k : Nat, k ≤ 2 ∧ i = .int .i64 k ∧ (1 ≤ k → a = 0) ∧ (2 ≤ k → b = 0)) (fun i _ => 2 - (intOf i).toNat)
  case atStart => exact ⟨rfl, 0, by omega, rfl, by omega, by omega⟩
  case round =>
    obtain ⟨rfl, k, hk, rfl, ha, hb⟩ := hrel
    match k, hk, ha, hb with
    | 0, _, _, _ =>
      go_wp2_with fail
      · have hne : (a != 0) = true := by assumption
        go_ret
        exact ⟨by rw [hr1 (by simpa using hne)]; rfl, rfl⟩
      · have hne : (a != 0) = false := by assumption
        go_roundw
        case rel => exact ⟨trivial, 1, by omega, by simp, fun _ => by simpa using hne, by omega⟩
        case measure => simp [intOf]
    | 1, _, ha, _ =>
      go_wp2_with fail
      · have hne : (b != 0) = true := by assumption
        go_ret
        exact ⟨by rw [hr0 (ha (by omega))]; rfl, rfl⟩
      · have hne : (b != 0) = false := by assumption
        go_roundw
        case rel => exact ⟨trivial, 2, by omega, by simp, fun _ => ha (by omega), fun _ => by simpa using hne⟩
        case measure => simp [intOf]
    | 2, _, ha, hb =>
      go_wp2_with fail
      go_ret
      exact ⟨by rw [hr0 (ha (by omega)), hb (by omega)]; rfl, rfl⟩
theorem cmp_lib (a b : Int) : Lib.compareInt a b = cmpI a b := by
  unfold Lib.compareInt cmpI
  rfl
theorem cmp_calls (a b : Int) (w : World) : Calls Try.prog 30 #[.int .i64 a, .int .i64 b] w fun e w' => e = .returned (.int .i64 (cmpI a b)) ∧ w' = w := by
  have h := AnyG.cmp_Compare_int Try.cmpIA a b w
  rw [cmp_lib] at h
  exact h
def encAl (a : Al) : List Value := [.int .i64 a.c, .int .i64 a.k, .int .i64 a.s]
theorem region_still (n : Nat) {P : Program} {l : List Oper} {id : Nat} {Q : Exit → Act → World → Prop} {a : Act} {w : World} (hm : P.follows .mixedOrders = true)
    (hB : Region.lexTailB .any l.toArray n = true) (W : World) (hW : W = w.drew) (h : wpStill P l.toArray W (fun a' => wpList P l.toArray Q (l.drop n) a' W) (l.take n) a) : (Code.region id l.toArray true).wp P Q a w := by
  subst hW
  exact wp_region_still_tail n hm hB h
theorem cellE {w : World} {b i : Nat} {cs : Array Value} {T : TypeId} {fr : Nat × Nat} {v : Value} (h : w.heap[b]? = some (.cells cs T fr)) (hi : cs[i]? = some v) : w.cell? ⟨b, i, none⟩ = some v := by
  simp only [World.cell?, h, hi]
  rfl
set_option maxHeartbeats 1000000 in
theorem order_calls (x y : Al) (w : World) : Calls Try.prog 27 #[.agg #[.int .i64 x.c, .int .i64 x.k, .int .i64 x.s], .agg #[.int .i64 y.c, .int .i64 y.k, .int .i64 y.s]] w fun e w' => e = .returned (.int .i64 (ordA x y)) ∧ ∃ q os', w' = grow (w.drewN q) os' := by
  have h1 := fun W => cmp_calls x.c y.c W
  have h2 := fun W => cmp_calls x.k y.k W
  have h3 := or_calls (cmpI x.c y.c) (cmpI x.k y.k) (ordA x y) (fun h => if_neg h) (fun h => if_pos h)
  generalize ordA x y = r at h3 ⊢
  generalize cmpI x.c y.c = p at h1 h3
  generalize cmpI x.k y.k = q at h2 h3
  go_enter Try.func27, Try.ntmps27
  go_wp2_with fail
  have a1 := Go.heap_alloc_new w (.cells #[Value.int .i64 x.c, Value.int .i64 x.k, Value.int .i64 x.s] 51)
  have a2 := Go.heap_alloc_new (w.alloc (.cells #[Value.int .i64 x.c, Value.int .i64 x.k, Value.int .i64 x.s] 51)) (.cells #[Value.int .i64 y.c, Value.int .i64 y.k, Value.int .i64 y.s] 51)
  rw [show (w.alloc (.cells #[Value.int .i64 x.c, Value.int .i64 x.k, Value.int .i64 x.s] 51)).heap.size = w.heap.size + 1 by simp] at a2
  have hx : ((w.alloc (.cells #[Value.int .i64 x.c, Value.int .i64 x.k, Value.int .i64 x.s] 51)).alloc (.cells #[Value.int .i64 y.c, Value.int .i64 y.k, Value.int .i64 y.s] 51)).drew.heap[w.heap.size]? = some (.cells #[Value.int .i64 x.c, Value.int .i64 x.k, Value.int .i64 x.s] 51) := (Below.heap_alloc _ _ _ (by simp)).trans a1
  have hy : ((w.alloc (.cells #[Value.int .i64 x.c, Value.int .i64 x.k, Value.int .i64 x.s] 51)).alloc (.cells #[Value.int .i64 y.c, Value.int .i64 y.k, Value.int .i64 y.s] 51)).drew.heap[w.heap.size + 1]? = some (.cells #[Value.int .i64 y.c, Value.int .i64 y.k, Value.int .i64 y.s] 51) := a2
  have hg : ((w.alloc (.cells #[Value.int .i64 x.c, Value.int .i64 x.k, Value.int .i64 x.s] 51)).alloc (.cells #[Value.int .i64 y.c, Value.int .i64 y.k, Value.int .i64 y.s] 51)).drew = grow (w.drewN 1) #[.cells #[Value.int .i64 x.c, Value.int .i64 x.k, Value.int .i64 x.s] 51, .cells #[Value.int .i64 y.c, Value.int .i64 y.k, Value.int .i64 y.s] 51] := rfl
  generalize ((w.alloc (.cells #[Value.int .i64 x.c, Value.int .i64 x.k, Value.int .i64 x.s] 51)).alloc (.cells #[Value.int .i64 y.c, Value.int .i64 y.k, Value.int .i64 y.s] 51)) = W1 at hx hy hg ⊢
  refine region_still 10 (by kernel_rfl) (by kernel_rfl) _ rfl ?_
  generalize W1.drew = W at hx hy hg ⊢
  have x0 : W.cell? ⟨w.heap.size, 0, none⟩ = some (.int .i64 x.c) := cellE hx rfl
  have x1 : W.cell? ⟨w.heap.size, 1, none⟩ = some (.int .i64 x.k) := cellE hx rfl
  have y0 : W.cell? ⟨w.heap.size + 1, 0, none⟩ = some (.int .i64 y.c) := cellE hy rfl
  have y1 : W.cell? ⟨w.heap.size + 1, 1, none⟩ = some (.int .i64 y.k) := cellE hy rfl
  simp only [List.take_succ_cons, List.take_zero, List.drop_succ_cons, List.drop_zero]
  have HG : Hid _ := hg
  have H3 : Hid _ := h3
  clear a1 a2 hx hy hg h3
  repeat still_step
  still_call (h1 W)
  repeat still_step
  still_call (h2 W)
  refine wpStill_nil ?_
  go_wp2_with (go_at_call 29; refine (H3.out _ _ ?_ ?_).mono ?_; exact cellE (Go.heap_alloc_new _ _) rfl; exact cellE (Go.heap_alloc_new _ _) rfl; rintro e w' ⟨rfl, hw⟩; rw [hw])
  go_ret
  exact ⟨rfl, 1, _, by rw [HG.out, alloc_eq_grow, grow_grow]⟩
instance : Inhabited Al := ⟨⟨0, 0, 0⟩⟩
theorem order_lays (blk off size : Nat) (w : World) : CmpLays Try.prog 27 #[] encAl 3 ordA blk off size w :=
  fun _ _ _ _ x y => order_calls x y _
theorem cmpI_lt (a b : Int) : (cmpI a b < 0 ↔ a < b) ∧ (cmpI a b = 0 ↔ a = b) := by
  unfold cmpI
  constructor
  all_goals repeat' split
  all_goals omega
theorem ordA_lt (a b : Al) : ordA a b < 0 ↔ a.c < b.c ∨ (a.c = b.c ∧ a.k < b.k) := by
  have h1 := cmpI_lt a.c b.c
  have h2 := cmpI_lt a.k b.k
  unfold ordA
  split <;> omega
theorem ordA_swo : SWO (ltOf ordA) where
  irrefl x := by rw [ltOf, decide_eq_false_iff_not, ordA_lt]; omega
  trans x y z h1 h2 := by
    rw [ltOf, decide_eq_true_eq, ordA_lt] at *
    omega
  ntrans x y z h1 h2 := by
    rw [ltOf, decide_eq_false_iff_not, ordA_lt] at *
    omega
end Go.Proofs.Ytkihpjehigmnpaa
