/-
  A loop over a function that keeps one number of its own in a box laid ahead of the loop.
-/
import Derived.RangeFuncNested
import Derived.RangeFuncBound
import Derived.RangeFuncCalls
import Derived.RangeFuncLeaves
import Derived.Shelf.Abstract
import Derived.Shelf.RegionOpen
import Derived.WalkKit
import Derived.OwnWalkIn
import Derived.TacticsInMore
import Derived.LoopNIn
import Derived.LoopIn
import Derived.Test.YtihgogbfjiobiaaYF
set_option linter.unusedVariables false
namespace Go.Proofs.Ytihgogbfjiobiaa
open Go Go.RowKit Go.Shelf

/-- What a write into the box Bf leaves true. -/
def Abid {α : Type} (Bf : Nat) (J : List α → World → Prop) : Prop := ∀ s W v, J s W → J s (W.setCell ⟨Bf, 0, none⟩ v)
/-- An iterator that yields all it has, in order, and writes its own box Bf between two rounds. -/
def SeqF {α : Type} (F : Fence) (n : Nat) (P : Program) (g : Nat) (lb : Array Value) (encs : α → Array Value) (Kp : World → World → Prop) (S : List α → Prop) (N Bf : Nat) (w : World) : Prop :=
  ∀ (l : Nat) (J : List α → World → Prop) (W : World), Below w.heap.size w W → AbidesFrom W.heap.size J → Abid Bf J →
    (∀ pre x W1, J pre W1 → pre.length < N → YieldAt F (n - 1) P l (encs x) W1 fun e W' => e = .returned (.bool true) ∧ J (pre ++ [x]) W' ∧ Kp W1 W') →
    J [] W →
    CallsIn F n P g (#[.func (.yield l) #[] #[]] ++ lb) W fun e W' => (∃ v, e = .returned v) ∧ ∃ xs, S xs ∧ J xs W'
/-- How a round's body is left: it goes on. -/
def goesOn {α : Type} (B : Nat) (Kp : World → World → Prop) (I : List α → World → Prop) (xs : List α) (W : World) : Exit → Act → World → Prop
  | .normal, _, W' => KeepsFrom B W W' ∧ Kp W W' ∧ I xs W'
  | _, _, _ => False
theorem box_other {W : World} {Bf b : Nat} (v : Value) (h : b ≠ Bf) : (W.setCell ⟨Bf, 0, none⟩ v).heap[b]? = W.heap[b]? := Below.heap_setCell W ⟨Bf, 0, none⟩ v b h
section
variable {α : Type} {F : Fence} {n : Nat} {P : Program} {g : Operand} {ps : Array Tmp} {assign body : Code} {Q : Exit → Act → World → Prop} {a : Act} {w : World}
/-- The loop. -/
theorem range_first (hro : F.round = none) (h1 : 1 ≤ n) {gf Bf : Nat} {lb : Array Value} (hg : a.eval g = .func (.func gf) #[] lb) (hFg : F.fn gf) (eg : ∀ args w, (callFunc gf args).run P w = .ok (.enter gf args) w)
    {encs : α → Array Value} {Kp : World → World → Prop} {S : List α → Prop} {N : Nat} (hseq : SeqF F (n - 1) P gf lb encs Kp S N Bf w) (hBf : Bf < w.heap.size)
    (hKt : ∀ {A B C : World}, Kp A B → Kp B C → Kp A C) (hKb : ∀ (W : World) (l : Nat) (o o' : Obj), w.heap.size ≤ l → W.heap[l]? = some o → o.isCells = false → Kp W (W.putObj l o')) (hps : ∀ x, (encs x).size = ps.size)
    (I : List α → World → Prop) (hI : OwnFrom w.heap.size I) (hIf : Abid Bf I) (h0 : I [] w) (Ax : α → Act → World → Prop) (hAx : ∀ x a', OwnFrom w.heap.size (fun (_ : Unit) W => Ax x a' W))
    (hassign : ∀ (l : Nat) (pre : List α) (x : α) (W : World) (K : Act → World → Prop), I pre W → (∀ a' W', KeepsFrom w.heap.size W W' → Kp W W' → I pre W' → Ax x a' W' → K a' W') →
      assign.wpIn (F.inRound l) (n - 1 - 1) P (Exit.then K (fun _ _ _ => False)) { tmps := (ps.zip (encs x)).foldl (fun t (p, v) => t.setIfInBounds p v) a.tmps, defers := [] } W)
    (hbody : ∀ (l : Nat) (pre : List α) (x : α) (a' : Act) (W : World), w.heap.size ≤ l → I pre W → Ax x a' W → pre.length < N → body.wpIn (F.inRound l) (n - 1 - 1) P (goesOn w.heap.size Kp I (pre ++ [x]) W) a' W)
    (hdone : ∀ (D : Nat) (xs : List α) (W : World), w.heap.size ≤ D → S xs → I xs W → W.heap[D]? = some (.deferred (some [])) → Q .normal { a with defers := { target := .collected D, args := #[] } :: a.defers } W) :
    (Code.rangeFunc g ps assign body).wpIn F n P Q a w := by
  refine wpIn_rangeFunc ?_
  intro fn hfn
  rw [hro]
  -- the loop's record, the block for deferred calls
  obtain ⟨r, hr⟩ : ∃ r : LoopState → Option Code → Loop, r = fun st pe => { state := st, pending := pe, fn, tmps := a.tmps, params := ps, assign, body, defers := w.heap.size } := ⟨_, rfl⟩
  obtain ⟨V, hV⟩ : ∃ V, (w.alloc (.deferred (some []))).alloc (.loop (r .ready none)) = V := ⟨_, rfl⟩
  have hl0 : V.heap[w.heap.size + 1]? = some (.loop (r .ready none)) := by
    have := World.alloc_heap_new (w.alloc (.deferred (some []))) (.loop (r .ready none))
    rw [World.size_alloc] at this
    rw [← hV]
    exact this
  have hd0 : V.heap[w.heap.size]? = some (.deferred (some [])) := by
    rw [← hV]
    exact (Below.heap_alloc _ _ _ (by simp)).trans (World.alloc_heap_new w _)
  have hi0 : I [] V := by rw [← hV]; exact hI.alloc _ (hI.alloc _ h0)
  have hbV : Below w.heap.size w V := by rw [← hV]; exact ((Below.refl _ w).alloc (Nat.le_refl _) _).alloc (by simp) _
  have hsV : V.heap.size = w.heap.size + 2 := by rw [← hV]; simp
  refine ⟨w.heap.size + 1, [{ target := .collected w.heap.size, args := #[] }], V, { target := .fn (.func gf) lb, args := #[.func (.yield (w.heap.size + 1)) #[] #[]] }, V, gf, #[.func (.yield (w.heap.size + 1)) #[] #[]] ++ lb, V, ?_, ?_, ?_, ?_, fun _ => h1, ?_⟩
  · rw [← hV, hr]
    exact run_enterLoop_outer _ _ _ _ _
  · simp only [resolve, hg]
    simp [go_sem]
  · intro f' hf'
    simp [Target.leads] at hf'
    subst hf'
    exact hFg
  · simp [invoke, go_sem, eg]
  refine (hseq (w.heap.size + 1) (fun pre W => I pre W ∧ W.heap[w.heap.size + 1]? = some (.loop (r .ready none)) ∧ W.heap[w.heap.size]? = some (.deferred (some []))) V hbV ?_ ?_ ?_ ⟨hi0, hl0, hd0⟩).mono ?_
  · intro s A B row hs hg' hrow
    refine ⟨hI s A B row hs.1 hg' (fun q e => ?_), (grownBy_keeps hg' (fun q e => (hrow q e).2) hs.2.1 rfl).trans hs.2.1, (grownBy_keeps hg' (fun q e => (hrow q e).2) hs.2.2 rfl).trans hs.2.2⟩
    obtain ⟨hB, o, ho, hw⟩ := hrow q e
    exact ⟨by omega, o, ho, Obj.not_cells_of_walk hw⟩
  · intro s W v hs
    exact ⟨hIf s W v hs.1, (box_other v (by omega)).trans hs.2.1, (box_other v (by omega)).trans hs.2.2⟩
  · rintro pre x W ⟨hi, hl, hd⟩ hlen
    have hy := run_yield (P := P) (args := encs x) hl (by rw [hr]; exact hps x)
    rw [hr] at hy
    refine ⟨fn, _, assign, body, hy, roundIn_of_wpIn hfn (hassign _ pre x W _ hi ?_)⟩
    clear hy
    intro a' Wa hk1 hp1 hi1 hax
    have hla := hk1.same _ _ (by omega) hl rfl
    have hda := hk1.same _ _ (Nat.le_refl _) hd rfl
    have hlt := (Array.getElem?_eq_some_iff.1 hla).1
    refine ⟨_, run_beginRound hla (by rw [hr]), ?_⟩
    have hl2 : (Wa.putObj (w.heap.size + 1) (.loop { r .ready none with state := .busy })).heap[w.heap.size + 1]? = some (.loop { r .ready none with state := .busy }) := World.putObj_heap_same hlt
    have hd2 : (Wa.putObj (w.heap.size + 1) (.loop { r .ready none with state := .busy })).heap[w.heap.size]? = some (.deferred (some [])) := (World.putObj_heap_other (by omega)).trans hda
    have hp2 := hKb Wa _ _ (.loop { r .ready none with state := .busy }) (by omega : w.heap.size ≤ w.heap.size + 1) hla rfl
    refine wpIn_mono (hbody _ pre x a' _ (by omega) (hI.putObj _ hi1 (by omega) hla rfl) ((hAx x a').putObj (s := ()) _ hax (by omega) hla rfl) hlen) ?_
    rintro e a3 W3 hp
    cases e with
    | normal =>
      obtain ⟨hk3, hp3, hi3⟩ := hp
      have hl3 := hk3.same _ _ (by omega) hl2 rfl
      have hd3 := hk3.same _ _ (Nat.le_refl _) hd2 rfl
      have he := run_endRound (P := P) none hl3
      rw [hr] at he
      refine ⟨_, _, he, rfl, ⟨hI.putObj _ hi3 (by omega) hl3 rfl, ?_, (World.putObj_heap_other (by omega)).trans hd3⟩, hKt hp1 (hKt (hKt hp2 hp3) (hKb _ _ _ _ (by omega) hl3 rfl))⟩
      rw [hr]
      exact World.putObj_heap_same (Array.getElem?_eq_some_iff.1 hl3).1
    | _ => exact hp.elim
  · rintro e W2 ⟨⟨v, rfl⟩, xs, hS, hi, hl, hd⟩
    exact ⟨none, _, by have := run_endLoop (P := P) hl (by rw [hr]; simp); rw [hr] at this; exact this, hdone _ xs _ (Nat.le_refl _) hS (hI.putObj _ hi (by omega) hl rfl) ((World.putObj_heap_other (by omega)).trans hd)⟩
end
end Go.Proofs.Ytihgogbfjiobiaa
