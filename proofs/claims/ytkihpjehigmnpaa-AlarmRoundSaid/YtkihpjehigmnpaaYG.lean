/-
  The program's list, walked: what the map holds, as a row, sorted.
-/
import Derived.Test.YtkihpjehigmnpaaYF
set_option linter.unusedVariables false
set_option linter.unusedSimpArgs false
namespace Go.Proofs.Ytkihpjehigmnpaa
open Go Go.RowKit Go.Shelf Go.Sort

theorem infoA : (Try.prog.info? 51).map (fun i => (i.zero, i.size, i.bytes)) = some (some (.agg #[.int .i64 0, .int .i64 0, .int .i64 0]), 3, 24) := by kernel_rfl
theorem cells3_new (w : World) (x y z : Value) (t : TypeId) : ∀ j u, [x, y, z][j]? = some u → (w.alloc (.cells #[x, y, z] t)).cell? ((⟨w.heap.size, 0, none⟩ : Addr).add j) = some u := by
  intro j u hj
  have h := Go.heap_alloc_new w (.cells #[x, y, z] t)
  match j, hj with
  | 0, hj | 1, hj | 2, hj =>
    exact cellE h (by simpa [Addr.add] using hj)
  | j + 3, hj => simp at hj
theorem rowOff {W : World} {b : Nat} {e : TypeId} {size : Nat} {v : Value} {n : Nat} {xs : List Value} (h : W.ownsRow b e size v n xs) {k : Nat} (hk : k < b) : v.ownBlock ≠ some k := by
  intro e'
  have := (h.lt k e').1
  omega
theorem rowSucc {w : World} {b : Nat} {e : TypeId} {size n : Nat} {v : Value} {xs : List Value} (h : w.ownsRow b e size v (n + 1) xs) : ∃ g cap, v = .slice (some ⟨g, 0, none⟩) (n + 1) cap := by
  rcases h.2 with ⟨_, h⟩ | ⟨g, cap, _, h, _⟩
  · cases h
  · exact ⟨g, cap, h⟩
/-- What the list answers. -/
def Listed (al : List Al) (B : Nat) (w' : World) (v : Value) : Prop := ∃ ds : List Al, ds.Perm al ∧ (ds.Pairwise fun x y => ¬ ordA y x < 0) ∧
  ((ds = [] ∧ v = .slice none 0 0) ∨ (ds ≠ [] ∧ ∃ g cap cur, v = .slice (some ⟨g, 0, none⟩) ds.length cap ∧ B ≤ g ∧ w'.heap[g]? = some (.cells cur 51 (0, 0)) ∧ ds.length ≤ cap ∧ cur.size = cap * 3 ∧ HoldsK encAl 3 w' g 0 ds.toArray))
theorem heapK {w : World} {g n : Nat} {os : Array Obj} {cur : Array Value} {e : TypeId} {fr : Nat × Nat} (d : Array Al) (hb : w.heap[g]? = some (.cells cur e fr)) :
    (sortWorldK encAl 3 w g 0 n d os).heap[g]? = some (.cells (putCells id 0 (flatK encAl 3 d) cur) e fr) := by
  have hg : g < w.heap.size := (Array.getElem?_eq_some_iff.1 hb).1
  unfold sortWorldK
  rw [heap_grow_old _ _ (by simpa [putRowK] using hg)]
  simp [putRowK, putRow, mapBlock, Sort.ahead, Array.getElem?_modify, hb, onCells]
theorem grownByK {w : World} {g n : Nat} {os : Array Obj} (d : Array Al) : w.grownBy (sortWorldK encAl 3 w g 0 n d os) (some g) := by
  unfold sortWorldK
  refine ⟨rfl, rfl, rfl, by simp [putRowK], fun k hk hne => ?_⟩
  rw [heap_grow_old _ _ (by simpa [putRowK] using hk)]
  have : g ≠ k := fun e => hne (by rw [e])
  simp [putRowK, putRow, mapBlock, Sort.ahead, Array.getElem?_modify, this]
theorem flat_get : ∀ (l : List Al) (j r : Nat) (h : j < l.length), r < 3 → (l.flatMap encAl)[3 * j + r]? = (encAl l[j])[r]?
  | a :: l, 0, r, _, hr => by
    rw [List.flatMap_cons, List.getElem?_append_left (by simp [encAl]; omega)]
    simp
  | a :: l, j + 1, r, h, hr => by
    rw [List.flatMap_cons, List.getElem?_append_right (by simp [encAl]; omega)]
    rw [show 3 * (j + 1) + r - (encAl a).length = 3 * j + r by simp [encAl]; omega, flat_get l j r (by simpa using h) hr]
    rfl
theorem holds_flat {w : World} {g : Nat} {cur : Array Value} {e : TypeId} {l : List Al} (hb : w.heap[g]? = some (.cells cur e (0, 0))) (ht : cur.toList.take (l.length * 3) = l.flatMap encAl) : HoldsK encAl 3 w g 0 l.toArray := by
  intro t hj
  have ht' : t < l.length * 3 := by simpa using hj
  refine ⟨?_, by simp [World.frozen?, hb]⟩
  have h1 : (cur.toList.take (l.length * 3))[t]? = (l.flatMap encAl)[t]? := by rw [ht]
  rw [List.getElem?_take_of_lt ht'] at h1
  have hq : t / 3 < l.length := by omega
  have h2 := flat_get l (t / 3) (t % 3) hq (by omega)
  rw [show 3 * (t / 3) + t % 3 = t by omega] at h2
  refine cellE (i := 0 + t) hb ?_
  rw [Nat.zero_add, ← Array.getElem?_toList, h1, h2, id, get_flatK _ _ _ _ (by simpa using ht'), getElem!_pos l.toArray (t / 3) (by simpa using hq), List.getElem_toArray, getElem!_pos (encAl l[t / 3]) (t % 3) (by simp [encAl]; omega)]
  exact List.getElem?_eq_getElem _
theorem flatMap_fst (ms : List (Al × Nat)) : (ms.flatMap fun p => encAl p.1) = (ms.map (·.1)).flatMap encAl := by rw [List.flatMap_map]
/-- Behind the sort. -/
theorem listed_sorted {al : List Al} {ms : List (Al × Nat)} {B g cap n : Nat} {os : Array Obj} {cur : Array Value} {w wr : World} {d' : Array Al} (hA : (ms.map (·.1)).Perm al) (hbw : RowKit.Below w.heap.size w wr) (hBg : w.heap.size ≤ g)
    (hg : wr.heap[g]? = some (.cells cur 51 (0, 0))) (h1 : ms.length ≤ cap) (h3 : cur.size = cap * 3) (hne : ms ≠ []) (hH : HoldsK encAl 3 wr g 0 (ms.map (·.1)).toArray)
    (hp : PermIn 0 ms.length (ms.map (·.1)).toArray d') (hs : SortedIn (ltOf ordA) 0 ms.length d') :
    RowKit.Below w.heap.size w (sortWorldK encAl 3 wr g 0 n d' os) ∧ Listed al w.heap.size (sortWorldK encAl 3 wr g 0 n d' os) (.slice (some ⟨g, 0, none⟩) ms.length cap) := by
  have hgl := (Array.getElem?_eq_some_iff.1 hg).1
  have hsz : d'.size = ms.length := by rw [hp.1]; simp
  have hperm : d'.toList.Perm (ms.map (·.1)) := by
    have := hp.2.2
    rw [show d'.extract 0 ms.length = d' by rw [← hsz]; simp, show (ms.map (·.1)).toArray.extract 0 ms.length = (ms.map (·.1)).toArray by simp; rw [List.take_of_length_le (by simp)]] at this
    exact this
  have hlen : d'.toList.length = ms.length := by simpa using hsz
  refine ⟨hbw.grown (grownByK d') hbw.size (fun k e => by cases e; exact hBg), d'.toList, hperm.trans hA, ?_, .inr ⟨?_, g, cap, _, by rw [hlen], hBg, heapK d' hg, by omega, by simp [putCells, h3], ?_⟩⟩
  · rw [List.pairwise_iff_getElem]
    intro i j hi hj hij
    have h := hs i j (Nat.zero_le _) hij (by omega)
    rw [ltOf, decide_eq_false_iff_not, getElem!_pos d' i (by simpa using hi), getElem!_pos d' j (by simpa using hj)] at h
    simpa using h
  · intro e
    rw [e] at hlen
    exact hne (List.eq_nil_of_length_eq_zero hlen.symm)
  · rw [Array.toArray_toList]
    exact holdsK_sortWorldK_c encAl 3 wr g 0 _ d' n os hH hgl (by rw [hsz]; simp)
set_option maxHeartbeats 4000000 in
set_option maxRecDepth 100000 in
theorem list_calls (m : List (Al × Nat)) (cl b : Nat) (w : World) (hn : (m.map (·.2)).Nodup) (hold : ∀ p ∈ m, p.2 < cl) (hl : m.length ≤ 200000) (hb : w.heap[b]? = some (.map (m.map ME).toArray cl)) :
    Calls Try.prog 23 #[.map (some b)] w fun e w' => ∃ v, e = .returned v ∧ Below w.heap.size w w' ∧ Listed (m.map (·.1)) w.heap.size w' v := by
  obtain ⟨i0, hi, hz0, hz1, hz2⟩ := info_parts infoA
  have hblt := (Array.getElem?_eq_some_iff.1 hb).1
  have HM : Hid (∀ ms : List (Al × Nat), ms.Perm m → (ms.map (·.1)).Perm (m.map (·.1))) := fun ms h => h.map _
  generalize m.map (·.1) = al at HM ⊢
  have HN : Hid _ := hn
  have HO : Hid _ := hold
  have HL : Hid _ := hl
  have HB : Hid _ := hb
  clear hn hold hl
  go_enter Try.func23, Try.ntmps23
  go_wp2_with (first
    | (at_range; refine wpList_range_m _ rfl _ 43 rfl 47 3 Try.underlying43 b _ cl rfl HB.out ?_)
    | go_in)
  go_frame
  go_loopw [3] (fun v wr => ∃ (ms : List (Al × Nat)) (seen : Array Nat), wr.heap[w.heap.size]? = some (.mapIter (some b) cl seen cl) ∧ wr.ownsRow (w.heap.size + 1) 51 3 v ms.length (ms.flatMap fun p => encAl p.1) ∧ Hid (v = .slice none 0 0 ↔ ms = []) ∧ Hid ((ms ++ leftL m seen).Perm m) ∧ Below w.heap.size w wr ∧ w.heap.size < wr.heap.size)
    (fun _ wr => (leftL m (wr.iterSeen w.heap.size)).length)
  case atStart =>
    refine ⟨[], #[], Go.heap_alloc_new _ _, World.ownsRow_nil _ _ _ _, by constructor <;> simp, ?_, (Below.refl _ w).alloc (Nat.le_refl _) _, by simp⟩
    show List.Perm _ _
    rw [leftL_nil]
    exact List.Perm.refl _
  case round =>
    obtain ⟨ms, seen, hit, hrow, HV, HP, hbw, hsz⟩ := hrel
    have HI : Hid _ := hit
    have hbr : wr.heap[b]? = some (.map (m.map ME).toArray cl) := (hbw.block b hblt).trans HB.out
    have HBr : Hid _ := hbr
    clear hit hbr
    go_wp2_with (first
      | (at_next; refine wpList_next_m _ rfl _ rfl w.heap.size b cl seen m rfl HI.out (by omega) HBr.out HO.out HN.out ?_ ?_)
      | go_in)
    · intro h0
      have hP : ms.Perm m := by have := HP.out; rwa [h0, List.append_nil] at this
      have hA := HM.out ms hP
      have hml : ms.length ≤ 200000 := by rw [hP.length_eq]; exact HL.out
      have HA : Hid _ := hA
      clear hP hA h0
      rcases hrow.2 with ⟨hnil, hk0⟩ | ⟨g, cap, cur, hv, hbase, hg, h1, h2, h3, h4⟩
      · subst hnil
        obtain rfl : ms = [] := List.eq_nil_of_length_eq_zero hk0
        have hcon := fun W => AnyF.slices_SortFunc_none Try.sortA none 0 (.func (.func 27) #[] #[]) W
        change ∀ W, Calls Try.prog 28 _ _ _ at hcon
        go_wp2_with (go_at_call 28; refine (hcon _).mono ?_; rintro e w' ⟨rfl, rfl⟩)
        go_ret
        exact ⟨_, rfl, hbw, [], HA.out, List.Pairwise.nil, .inl ⟨rfl, rfl⟩⟩
      · subst hv
        have hgl := (Array.getElem?_eq_some_iff.1 hg).1
        have hne : ms ≠ [] := fun e => by have := HV.out.2 e; cases this
        rw [flatMap_fst] at h4
        have hH : HoldsK encAl 3 wr g 0 (ms.map (·.1)).toArray := holds_flat hg (by rw [List.length_map]; exact h4)
        have eg : ∀ args w, (callFunc 27 args).run Try.prog w = .ok (.enter 27 args) w := enters_of Try.func27 (by kernel_rfl) rfl
        have hcon := AnyQ.slices_SortFunc Try.sortA 3 Try.isAgg51 Try.sizeOf51 encAl (fun _ => rfl) (fun x v hv => by simp [encAl] at hv; rcases hv with rfl | rfl | rfl <;> rfl) ordA ordA_swo 27 #[] g 0 cap (ms.map (·.1)).toArray wr eg (order_lays _ _ _ _) hH hgl (by simp; omega)
        rw [show (ms.map (·.1)).toArray.size = ms.length by simp] at hcon
        change Calls Try.prog 28 _ _ _ at hcon
        have K := fun n os d' hp hs => @listed_sorted al ms 0 g cap n os cur w wr d' HA.out hbw (by omega) hg h1 h3 hne hH hp hs
        have HK : Hid _ := K
        clear K hrow hH hg h1 h2 h3 h4 hne eg
        go_wp2_with (go_at_call 28; refine hcon.mono ?_; rintro e w' ⟨rfl, d', n, os, hp, hs, rfl⟩)
        go_ret
        obtain ⟨k1, k2⟩ := HK.out n os d' hp hs
        exact ⟨_, rfl, k1, k2⟩
    · intro pa pn hp w1 hg1 hs1 hr1 hen
      obtain ⟨st1, st2⟩ := vis_step HN.out HP.out hp
      have hml : ms.length + 1 ≤ 200000 := by
        have h1 := st1.length_eq
        have h2 := HL.out
        simp only [List.length_append, List.length_cons, List.length_nil] at h1
        omega
      have hl1 : ms.length + 1 ≤ maxLen := by simp only [maxLen]; omega
      have hl2 : (ms.length + 1) * 24 ≤ 140737488355328 := by omega
      have hrow1 := hrow.kept hg1 (.inr (rowOff hrow (by omega)))
      have hbw1 := hbw.grown hg1 hbw.size (fun k e => by cases e; exact Nat.le_refl _)
      have hnews : ∀ j u, [Value.int .i64 pa.c, .int .i64 pa.k, .int .i64 pa.s][j]? = some u → ((w1.alloc (.cells #[Value.int .i64 pa.c, .int .i64 pa.k] 47)).alloc (.cells #[Value.int .i64 pa.c, .int .i64 pa.k, .int .i64 pa.s] 51)).cell? ((⟨w1.heap.size + 1, 0, none⟩ : Addr).add j) = some u := by
        have := cells3_new (w1.alloc (.cells #[Value.int .i64 pa.c, .int .i64 pa.k] 47)) (.int .i64 pa.c) (.int .i64 pa.k) (.int .i64 pa.s) 51
        rw [show (w1.alloc (.cells #[Value.int .i64 pa.c, .int .i64 pa.k] 47)).heap.size = w1.heap.size + 1 by simp] at this
        exact this
      have HNW : Hid _ := hnews
      have hwl : w.heap.size < w1.heap.size := by omega
      have HR1 : Hid _ := hr1
      have HS1 : Hid _ := And.intro st1 st2
      clear hr1 st1 st2 hp hrow hg1 hnews hs1 hsz
      go_wp2_with (at_builtin; refine wpList_append_own_at _ rfl _ _ 23 rfl (w.heap.size + 1) 51 i0 _ 3 24 Try.underlying23 hi hz0 hz1 hz2 rfl (by decide) _ _ _ rfl ((hrow1.alloc _).alloc _) ⟨w1.heap.size + 1, 0, none⟩ 1 1 [.int .i64 pa.c, .int .i64 pa.k, .int .i64 pa.s] rfl rfl HNW.out (by simp [Value.oneCell']) hl1 hl2 (by simp; omega) ?_; intro v' w2 hown' hgrow hnil hat)
      have hl2w : w1.heap.size + 2 ≤ w2.heap.size := by simpa using hgrow.size
      have hoff := rowOff hrow1 (k := w.heap.size) (by omega)
      go_roundw
      case rel =>
        refine ⟨ms ++ [(pa, pn)], seen.push pn, ?_, ?_, ?_, HS1.out.1, ?_, by omega⟩
        · rw [hgrow.block _ (by simp; omega) (fun e => hoff e.symm), Below.heap_alloc _ _ _ (by simp; omega), Below.heap_alloc _ _ _ hwl]
          exact HR1.out
        · rw [List.length_append, List.flatMap_append]
          exact hown'
        · obtain ⟨g, cap, rfl⟩ := rowSucc hown'
          show _ ↔ _
          constructor <;> simp
        · exact ((hbw1.alloc (by omega) _).alloc (by simp; omega) _).grown hgrow (by simp; omega) (fun k e => by have := (hrow1.lt k e).1; omega)
      case measure =>
        rw [iterSeen_of (w := wr) HI.out, iterSeen_of (w := w2) (s := seen.push pn) (a := some b) (b := cl) (c := cl)]
        · exact HS1.out.2
        · rw [hgrow.block _ (by simp; omega) (fun e => hoff e.symm), Below.heap_alloc _ _ _ (by simp; omega), Below.heap_alloc _ _ _ hwl]
          exact HR1.out
end Go.Proofs.Ytkihpjehigmnpaa
