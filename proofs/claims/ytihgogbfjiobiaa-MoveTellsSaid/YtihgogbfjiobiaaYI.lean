/-
  Run, walked.
-/
import Derived.Test.YtihgogbfjiobiaaYH
set_option linter.unusedVariables false
namespace Go.Proofs.Ytihgogbfjiobiaa
open Go Go.RowKit Go.Shelf

attribute [local go_sem] Oper.semAt_some
set_option maxHeartbeats 1000000 in
theorem nb_in (F : Fence) (n : Nat) (h19 : F.fn 19) (hro : F.round = none) (f0 : Int) (ao : Option Addr) (len cp : Nat) (w : World) :
    CallsIn F n Try.prog 19 #[.int .i64 f0, .slice ao len cp] w fun e w' => e = .returned (.func (.func 22) #[] #[.pointer (some ⟨w.heap.size + 1, 0, none⟩), .pointer (some ⟨w.heap.size, 0, none⟩)]) ∧ w' = (w.alloc (.cells #[.int .i64 f0] 3)).alloc (.cells #[.slice ao len cp] 22) := by
  refine callsIn_of_wp Try.func19 rfl h19 ?_ hro
  simp only [Try.ntmps19, List.size_toArray, List.length_cons, List.length_nil, Nat.reduceAdd, Nat.reduceSub, Array.replicate_succ, Array.replicate_zero, List.push_toArray, List.append_toArray, List.nil_append, List.cons_append]
  have hmf : ∀ (fn : Fn) (first cap : Array Value) (w : World), (Instr.makeFunc fn first cap).run Try.prog w = .ok (.func fn first cap) w := fun _ _ _ _ => rfl
  gi_wp2
  go_ret
  exact ⟨rfl, rfl⟩
theorem IntsAt.below {n₀ : Nat} {A B : World} {ao : Option Addr} {zs : List Int} (h : IntsAt n₀ A ao zs) (hb : Below n₀ A B) : IntsAt n₀ B ao zs := by
  intro i hi
  obtain ⟨b, o, h1, h2, h3⟩ := h i hi
  exact ⟨b, o, h1, h2, (hb.cell (p := ⟨b, o + i, none⟩) h2).trans h3⟩
theorem nb_stops (F : Fence) (n : Nat) (h22 : F.fn 22) (hro : F.round = none) (hn : 1 ≤ n) (Bl Bf n₀ cp : Nat) (ao : Option Addr) (zs : List Int) (f0 : Int) (hlen : zs.length ≤ 100000) (hne : Bl ≠ Bf) (hBn : n₀ ≤ Bf) (w : World) (hBlw : Bl < w.heap.size) (hBfw : Bf < w.heap.size) (hn₀ : n₀ ≤ w.heap.size)
    (hBl : w.heap[Bl]? = some (.cells #[.slice ao zs.length cp] 22 (0, 0))) (hBf : w.heap[Bf]? = some (.cells #[.int .i64 f0] 3 (0, 0))) (hcs : IntsAt n₀ w ao zs) :
    SeqF F n Try.prog 22 #[.pointer (some ⟨Bl, 0, none⟩), .pointer (some ⟨Bf, 0, none⟩)] encP (KpB n₀ Bl Bf) (fun xs => xs = pairsOf f0 zs) zs.length Bf w := by
  intro l J W hW _ hJf hY h0
  exact iter_in F n h22 hro hn l Bl Bf n₀ cp ao zs f0 hlen J hJf hne hBn hY W ((hW.block _ hBlw).trans hBl) ((hW.block _ hBfw).trans hBf) (hcs.below (hW.mono hn₀)) h0
end Go.Proofs.Ytihgogbfjiobiaa
