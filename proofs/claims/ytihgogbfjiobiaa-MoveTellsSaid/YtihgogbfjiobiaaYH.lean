/-
  Neighbours: an iterator that keeps the one ahead in a box.
-/
import Derived.Test.YtihgogbfjiobiaaYG
set_option linter.unusedVariables false
namespace Go.Proofs.Ytihgogbfjiobiaa
open Go Go.RowKit Go.Shelf

attribute [local go_sem] Oper.semAt_some
def lastD (f : Int) (l : List Int) : Int := l.getLastD f
def pairsOf (f : Int) : List Int → List (Int × Int)
  | [] => []
  | x :: r => (f, x) :: pairsOf x r
theorem lastD_snoc (f : Int) (l : List Int) (x : Int) : lastD f (l ++ [x]) = x := by simp [lastD]
theorem pairsOf_snoc : ∀ (l : List Int) (f x : Int), pairsOf f (l ++ [x]) = pairsOf f l ++ [(lastD f l, x)]
  | [], f, x => rfl
  | y :: l, f, x => by
    rw [List.cons_append, pairsOf, pairsOf_snoc l y x, pairsOf]
    simp only [lastD, List.getLastD_cons, List.cons_append]
theorem pairsOf_len : ∀ (l : List Int) (f : Int), (pairsOf f l).length = l.length
  | [], _ => rfl
  | y :: l, f => by rw [pairsOf, List.length_cons, pairsOf_len l y, List.length_cons]
abbrev encP (x : Int × Int) : Array Value := #[.agg #[.int .i64 x.1, .int .i64 x.2]]
def KpB (n₀ Bl Bf : Nat) (W W' : World) : Prop := Below n₀ W W' ∧ W'.heap[Bl]? = W.heap[Bl]? ∧ W'.heap[Bf]? = W.heap[Bf]?
/-- A slice of numbers, below n₀. -/
def IntsAt (n₀ : Nat) (W : World) (ao : Option Addr) (zs : List Int) : Prop := ∀ i (hi : i < zs.length), ∃ b o, ao = some ⟨b, o, none⟩ ∧ b < n₀ ∧ W.cell? ⟨b, o + i, none⟩ = some (.int .i64 zs[i])
set_option maxRecDepth 100000 in
set_option maxHeartbeats 2000000 in
theorem iter_in (F : Fence) (n : Nat) (h22 : F.fn 22) (hro : F.round = none) (hn : 1 ≤ n) (l Bl Bf n₀ cp : Nat) (ao : Option Addr) (zs : List Int) (f0 : Int) (hlen : zs.length ≤ 100000) (J : List (Int × Int) → World → Prop) (hJf : Abid Bf J) (hne : Bl ≠ Bf) (hBn : n₀ ≤ Bf)
    (hY : ∀ pre x W1, J pre W1 → pre.length < zs.length → YieldAt F (n - 1) Try.prog l (encP x) W1 fun e W' => e = .returned (.bool true) ∧ J (pre ++ [x]) W' ∧ KpB n₀ Bl Bf W1 W')
    (W : World) (hBl : W.heap[Bl]? = some (.cells #[.slice ao zs.length cp] 22 (0, 0))) (hBf : W.heap[Bf]? = some (.cells #[.int .i64 f0] 3 (0, 0))) (hcs : IntsAt n₀ W ao zs) (h0 : J [] W) :
    CallsIn F n Try.prog 22 #[.func (.yield l) #[] #[], .pointer (some ⟨Bl, 0, none⟩), .pointer (some ⟨Bf, 0, none⟩)] W fun e W' => (∃ v, e = .returned v) ∧ ∃ xs, xs = pairsOf f0 zs ∧ J xs W' := by
  refine callsIn_of_wp Try.func22 rfl h22 ?_ hro
  simp only [Try.ntmps22, List.size_toArray, List.length_cons, List.length_nil, Nat.reduceAdd, Nat.reduceSub, Array.replicate_succ, Array.replicate_zero, List.push_toArray, List.append_toArray, List.nil_append, List.cons_append]
  have c1 := cell_of_one hBl
  gi_wp2
  gi_loopw [8] (fun i wr => ∃ k : Nat, k ≤ zs.length ∧ i = .int .i64 k ∧ J (pairsOf f0 (zs.take k)) wr ∧ wr.heap[Bl]? = some (.cells #[.slice ao zs.length cp] 22 (0, 0)) ∧ wr.heap[Bf]? = some (.cells #[.int .i64 (lastD f0 (zs.take k))] 3 (0, 0)) ∧ Below n₀ W wr)
    (fun i _ => zs.length - (intOf i).toNat)
  case atStart => exact ⟨0, Nat.zero_le _, rfl, h0, hBl, hBf, Below.refl _ _⟩
  case round =>
    obtain ⟨k, hk, rfl, hJs, hl, hf, hb⟩ := hrel
    by_cases hlt : k < zs.length
    · obtain ⟨b, o, rfl, hbn, hc⟩ := hcs k hlt
      have hcx := (hb.cell (p := ⟨b, o + k, none⟩) hbn).trans hc
      have cf := cell_of_one hf
      have ff := free_of_one hf
      obtain ⟨fn, tmps, assign, body, hy, hR⟩ := hY _ (lastD f0 (zs.take k), zs[k]) wr hJs (by rw [pairsOf_len, List.length_take]; omega)
      dsimp only [encP] at hy
      gi_wp2
      refine hR.mono ?_
      rintro e W3 ⟨rfl, hJ3, hk3, hk4, hk5⟩
      have hl3 := hk4.trans hl
      have hf3 := hk5.trans hf
      have cf3 := cell_of_one hf3
      have ff3 := free_of_one hf3
      gi_wp2
      go_roundw
      case rel =>
        refine ⟨k + 1, by omega, by simp, ?_, ?_, ?_, (hb.trans hk3).setCell (p := ⟨Bf, 0, none⟩) hBn _⟩
        · rw [Go.Xec.take_next hlt, pairsOf_snoc]
          exact hJf _ _ _ hJ3
        · exact (box_other _ hne).trans hl3
        · rw [Go.Xec.take_next hlt, lastD_snoc]
          exact one_setCell hf3
      case measure => simp [intOf]; omega
    · obtain rfl : k = zs.length := by omega
      gi_wp2
      go_end0
      exact ⟨⟨_, rfl⟩, _, rfl, by rw [List.take_length] at hJs; exact hJs⟩
end Go.Proofs.Ytihgogbfjiobiaa
