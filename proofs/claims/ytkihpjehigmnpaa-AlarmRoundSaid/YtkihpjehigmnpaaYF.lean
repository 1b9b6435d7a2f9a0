/-
  A range over a map, at the operations; which entries are left.
-/
import Derived.Maps.RangeRun
import Derived.Test.YtkihpjehigmnpaaYE
set_option linter.unusedVariables false
set_option linter.unusedSimpArgs false
namespace Go.Proofs.Ytkihpjehigmnpaa
open Go Go.RowKit Go.Shelf Go.Sort

/-- One entry of a map from keys of two numbers to numbers. -/
def ME (p : Al × Nat) : MapEntry := { key := .agg #[.int .i64 p.1.c, .int .i64 p.1.k], val := .int .i64 p.1.s, born := p.2 }
def entM (m : List (Al × Nat)) : List (Go.Xec.AVal × Go.Xec.AVal × Nat) := m.map fun p => (KV p.1.c p.1.k, .int .i64 p.1.s, p.2)
theorem EL_ent {x : Go.Xec.Ctx} : ∀ {m : List (Al × Nat)} {es : List MapEntry}, Go.Xec.EL x (entM m) es → es = m.map ME
  | [], _, h => h
  | p :: m, _, ⟨e, r, rfl, h1, h2, h3, h4⟩ => by
    rw [List.map_cons, ← EL_ent h4]
    simp only [Go.Xec.V, Go.Xec.VL] at h1 h2
    obtain ⟨cs, hk, a, q, rfl, ha, b, s, rfl, hb, rfl⟩ := h1
    obtain ⟨k, v, n⟩ := e
    simp only at hk h2 h3
    subst hk ha hb h2 h3
    rfl
/-- What is left. -/
def leftL (m : List (Al × Nat)) (seen : Array Nat) : List (Al × Nat) := m.filter fun p => !seen.contains p.2
theorem leftL_nil (m : List (Al × Nat)) : leftL m #[] = m := by simp [leftL]
theorem leftOf_ME (m : List (Al × Nat)) (seen : Array Nat) : (leftOf (m.map ME).toArray seen).toList = (leftL m seen).map ME := by
  unfold leftOf leftL
  rw [Array.toList_filter, List.filter_map]
  rfl
theorem strike {p : Al × Nat} : ∀ {L : List (Al × Nat)}, (L.map (·.2)).Nodup → p ∈ L → L.Perm (p :: L.filter fun q => q.2 != p.2)
  | x :: r, hn, hp => by
    rw [List.map_cons, List.nodup_cons] at hn
    rcases List.mem_cons.1 hp with rfl | hp
    · have h : (p :: r).filter (fun q => q.2 != p.2) = r := by
        rw [List.filter_cons, if_neg (by simp)]
        refine List.filter_eq_self.2 fun q hq => ?_
        have : q.2 ≠ p.2 := fun e => hn.1 (List.mem_map.2 ⟨q, hq, e⟩)
        simp [this]
      rw [h]
    · have hx : x.2 ≠ p.2 := fun e => hn.1 (List.mem_map.2 ⟨p, hp, e.symm⟩)
      rw [List.filter_cons, if_pos (by simp [hx])]
      exact ((strike hn.2 hp).cons x).trans (List.Perm.swap _ _ _)
theorem leftL_push (m : List (Al × Nat)) (seen : Array Nat) (n : Nat) : leftL m (seen.push n) = (leftL m seen).filter fun q => q.2 != n := by
  unfold leftL
  rw [List.filter_filter]
  congr 1
  funext q
  rw [Array.contains_push]
  cases seen.contains q.2 <;> simp [bne]
theorem leftL_nodup {m : List (Al × Nat)} (hn : (m.map (·.2)).Nodup) (seen : Array Nat) : ((leftL m seen).map (·.2)).Nodup := hn.sublist (List.filter_sublist.map _)
theorem vis_step {m ms : List (Al × Nat)} {seen : Array Nat} (hn : (m.map (·.2)).Nodup) (h : (ms ++ leftL m seen).Perm m) {p : Al × Nat} (hp : p ∈ leftL m seen) : ((ms ++ [p]) ++ leftL m (seen.push p.2)).Perm m ∧ (leftL m (seen.push p.2)).length < (leftL m seen).length := by
  rw [leftL_push]
  have hs := strike (leftL_nodup hn seen) hp
  constructor
  · rw [List.append_assoc]
    exact (List.Perm.append_left ms hs.symm).trans h
  · rw [hs.length_eq, List.length_cons]
    omega
section
variable {P : Program} (w : World) {ops : Array Oper} {rest : List Oper} {o : Oper} {a : Act} {Q : Exit → Act → World → Prop}
theorem wpList_range_m (hg : o.guard = none) (m : Operand) (t : TypeId) (hop : o.op = Op.range t m) (k e : TypeId) (ht : P.underlying t = some (.map k e)) (b : Nat) (es : Array MapEntry) (cl : Nat)
    (hm : a.eval m = .map (some b)) (hb : w.heap[b]? = some (.map es cl))
    (hK : wpList P ops Q rest (a.put o.dst (.pointer (some ⟨w.heap.size, 0, none⟩))) (w.alloc (.mapIter (some b) cl #[] cl))) :
    wpList P ops Q (o :: rest) a w := by
  refine wpList_plain hg fun K' hK' => ?_
  unfold Oper.wp
  simp [execOp, hop, hm, run_range_map w t k e b es cl ht hb, Result.andThen]
  exact hK' _ _ hK
theorem wpList_next_m (hg : o.guard = none) (it : Operand) (hop : o.op = Op.next it false) (r b cl : Nat) (seen : Array Nat) (m : List (Al × Nat))
    (hit : a.eval it = .pointer (some ⟨r, 0, none⟩)) (hr : w.heap[r]? = some (.mapIter (some b) cl seen cl)) (hrb : r ≠ b) (hb : w.heap[b]? = some (.map (m.map ME).toArray cl)) (hold : ∀ p ∈ m, p.2 < cl) (hn : (m.map (·.2)).Nodup)
    (hDone : leftL m seen = [] → wpList P ops Q rest (a.put o.dst (.tuple #[.bool false])) w)
    (hMore : ∀ p ∈ leftL m seen, ∀ w' : World, w.grownBy w' (some r) → w'.heap.size = w.heap.size → w'.heap[r]? = some (.mapIter (some b) cl (seen.push p.2) cl) → (Instr.entry (.pointer (some ⟨r, 0, none⟩))).run P w' = .ok (.tuple #[.agg #[.int .i64 p.1.c, .int .i64 p.1.k], .int .i64 p.1.s]) w' →
      wpList P ops Q rest (a.put o.dst (.tuple #[.bool true, .agg #[.int .i64 p.1.c, .int .i64 p.1.k], .int .i64 p.1.s])) w') :
    wpList P ops Q (o :: rest) a w := by
  refine wpList_plain hg fun K' hK' => ?_
  have hold' : ∀ x ∈ (m.map ME).toArray.toList, x.born < cl := by
    intro x hx
    obtain ⟨p, hp, rfl⟩ := List.mem_map.1 hx
    exact hold p hp
  have hn' : ((m.map ME).toArray.toList.map (·.born)).Nodup := by
    rw [List.map_map]
    exact hn
  unfold Oper.wp
  rcases run_next_at (P := P) w o.type r b cl cl seen _ cl hr hb hold' (Nat.le_refl _) with ⟨h0, hrun⟩ | ⟨e, he, w1, hw1, hrun⟩
  · simp [execOp, hop, hit, hrun, Result.andThen]
    refine hK' _ _ (hDone ?_)
    have : (leftOf (m.map ME).toArray seen).toList.length = 0 := by simpa using h0
    rw [leftOf_ME, List.length_map] at this
    exact List.eq_nil_of_length_eq_zero this
  · rw [leftOf_ME] at he
    obtain ⟨p, hp, rfl⟩ := List.mem_map.1 he
    simp [execOp, hop, hit, hrun, Result.andThen]
    have hlt := (Array.getElem?_eq_some_iff.1 hr).1
    have hs : w1.heap = w.heap := by rcases hw1 with rfl | rfl <;> rfl
    have hr1 : w1.heap[r]? = some (.mapIter (some b) cl seen cl) := by rw [hs]; exact hr
    refine hK' _ _ (hMore p hp _ ?_ ?_ ?_ ?_)
    · refine ⟨by rcases hw1 with rfl | rfl <;> rfl, by rcases hw1 with rfl | rfl <;> rfl, by rcases hw1 with rfl | rfl <;> rfl, ?_, ?_⟩
      · simp [ChangeMaps.setBlock, hs]
      · intro k hk hne
        have : r ≠ k := fun e => hne (by rw [e])
        simp [ChangeMaps.setBlock, hs, Array.getElem?_setIfInBounds, this]
    · simp [ChangeMaps.setBlock, hs]
    · simp [ChangeMaps.setBlock, hs, hlt]
      rfl
    · refine run_entry_at (P := P) _ r b cl seen _ cl (ME p) ?_ ?_ ?_ hn'
      · simp [ChangeMaps.setBlock, hs, hlt]
      · simp [ChangeMaps.setBlock, hs, Array.getElem?_setIfInBounds, hrb, hb]
      · exact List.mem_map.2 ⟨p, (List.mem_filter.1 hp).1, rfl⟩
end
theorem iterSeen_of {w : World} {r : Nat} {a : Option Nat} {b c : Nat} {s : Array Nat} (h : w.heap[r]? = some (.mapIter a b s c)) : w.iterSeen r = s := by
  unfold World.iterSeen
  rw [h]
end Go.Proofs.Ytkihpjehigmnpaa
