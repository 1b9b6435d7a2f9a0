/-
  A journal's text, as the program writes it: by a walk.
-/
import Derived.Test.YtaoodcnhmjokoaaGreatDoorYX
import Derived.WalkKit
import Derived.BigCall
import Derived.Shelf.Strings.MapGrows
set_option linter.unusedVariables false
set_option linter.unusedSimpArgs false
namespace Go.Proofs.YtaoodcnhmjokoaaGreatDoor
open Go Go.Xec Go.RowKit

theorem calls_sound {f : FuncId} {fn : Func} {F : List AVal → Option AVal} (hf : Tryz.prog.funcs[f]? = some fn) (hname : (fn.name == "runtime.NumGoroutine") = false) (hb : fn.body.isSome = true)
    (hs : Sound Tryz.prog f F) {ys : List AVal} {r : AVal} (hF : F ys = some r) (w : World) (hL : Laid Tryz.prog w) {vs : List Value} (hl : VL (ctx0 w fun b => b < w.heap.size) ys vs) :
    Calls Tryz.prog f vs.toArray w fun e w' => ∃ v, e = .returned v ∧ Below w.heap.size w w' ∧ V (ctx0 w' fun b => b < w'.heap.size) r v := by
  rcases hs ys r hF w _ vs (fun _ h => h) hL hl with ⟨_, h⟩ | ⟨v, w', h, _⟩
  · refine h.mono ?_
    rintro e w' ⟨v, rfl, h1, h2, h3, h4⟩
    refine ⟨v, rfl, ⟨h3.1, h3.2.1, h3.2.2, h1, h2⟩, ?_⟩
    have e : (fun b => b < w.heap.size ∨ (w.heap.size ≤ b ∧ b < w'.heap.size)) = fun b => b < w'.heap.size := by
      funext b
      apply propext
      omega
    rw [e] at h4
    exact h4
  · exfalso
    cases hbb : fn.body with
    | none => rw [hbb] at hb; cases hb
    | some c =>
      simp only [callFunc, Sem.run_bind, run_program, Result.andThen_ok, hf, hname, hbb] at h
      simp at h
theorem bld_write (B b : Nat) (cs : List Value) (s : ByteArray) (w : World) (h : Lib.IsBuilderF 50 5 B b cs w) (hlen : cs.length + s.size ≤ 140737488355328) (hBw : B ≤ w.heap.size) :
    Calls Tryz.prog 28 #[.pointer (some ⟨b, 0, none⟩), .string s] w fun e w' => e = .returned (.tuple #[.int .i64 s.size, .nilIface]) ∧ (Lib.BuilderAtF 50 5 B b (.pointer (some ⟨b, 0, none⟩)) (cs ++ Lib.strCells s) w' ∧ Below B w w' ∧ Lib.OthersKept 5 (some b) w w') :=
  Any.Builder_WriteString_k { Tryz.lays105 with } Tryz.Builder_Extra_105 B b cs s w h hlen hBw
theorem bld_string (B b : Nat) (l : List UInt8) (w : World) (h : Lib.IsBuilderF 50 5 B b (Lib.byteCells l) w) (hBw : B ≤ w.heap.size) :
    Calls Tryz.prog 30 #[.pointer (some ⟨b, 0, none⟩)] w fun e w' => e = .returned (.string ⟨l.toArray⟩) ∧ Below B w w' :=
  (Any.Builder_String_any_k { Tryz.lays105 with } Tryz.Builder_Extra_105 B b l w h hBw).mono fun e w' h => ⟨h.1, h.2.2.1⟩
set_option maxHeartbeats 2000000 in
set_option maxRecDepth 100000 in
theorem line_calls (l : List UInt8) (hl : L.lineOk l) (B b : Nat) (acc : List UInt8) (w : World) (hL : Laid Tryz.prog w) (h : Lib.IsBuilderF 50 5 B b (Lib.byteCells acc) w) (hlen : acc.length ≤ 1000000) (hBw : B ≤ w.heap.size) (hb : b < w.heap.size) :
    Calls Tryz.prog 26 #[.string (bs l), .pointer (some ⟨b, 0, none⟩)] w fun e w' => e = .returned (.tuple #[]) ∧ Lib.IsBuilderF 50 5 B b (Lib.byteCells (acc ++ lineT l)) w' ∧ Below B w w' := by
  have hl2 : l.length ≤ 200 := hl.2
  have hF := L.F27_eq (l := l) (by omega)
  rw [show L.tellV l = .tup [sv (L.sealV l), .int .i64 0] from if_pos hl] at hF
  have hsl := L.sealV_len l
  go_enter Tryz.func26, Tryz.ntmps26
  go_wp2_with (go_at_call 27; refine (calls_sound Tryz.func27 (by kernel_rfl) (by kernel_rfl) L.sound27 hF w hL (vs := [.string (bs l)]) (by simp only [VL, V]; exact ⟨_, _, rfl, rfl, rfl⟩)).mono ?_)
  rintro e w1 ⟨v, rfl, hb1, hv⟩
  simp only [V, VL] at hv
  obtain ⟨cs, rfl, u, r, rfl, rfl, u2, r2, rfl, rfl, rfl⟩ := hv
  have hI := h.below hb1
  have hw1 := hb1.size
  have hz : (bs (L.sealV l) ++ bs [10]).size = l.length + 10 := by rw [bs_append, bs_size]; simp; omega
  go_wp2_with (go_at_call 28; refine (bld_write B b (Lib.byteCells acc) _ w1 hI (by rw [Lib.byteCells_length, hz]; omega) (by omega)).mono ?_)
  rintro e w2 ⟨rfl, h2, hb2, _⟩
  go_wp2
  go_end0
  refine ⟨rfl, .inr ?_, (hb1.mono ?_).trans hb2⟩
  · rw [Lib.byteCells_append, show Lib.byteCells (lineT l) = Lib.strCells (bs (L.sealV l ++ [10])) from rfl]
    rw [bs_append] at h2
    exact h2
  · exact hBw
/-- Bytes of numbers. -/
theorem dd_no10 (n : Nat) : L.no10 (Lib.decDigits n) := by
  intro b hb
  have := T.dd_digs n b hb
  omega
theorem its_no10 (n : Int) : L.no10 (its n) := by
  show L.no10 (Lib.itoa n)
  unfold Lib.itoa
  split
  · intro b hb
    rcases List.mem_cons.1 hb with rfl | hb
    · decide
    · exact dd_no10 _ b hb
  · exact dd_no10 _
theorem rowT_no10 : ∀ ns : List Int, L.no10 (rowT ns)
  | [] => by intro b hb; simp [rowT, Lib.join_nil] at hb
  | [n] => by rw [rowT_one]; exact its_no10 n
  | n :: m :: r => by
    rw [rowT_cons]
    intro b hb
    rcases List.mem_append.1 hb with hb | hb
    · exact its_no10 n b hb
    · rcases List.mem_cons.1 hb with rfl | hb
      · decide
      · exact rowT_no10 (m :: r) b hb
theorem head_ok {cap first : Int} (h : i64Ok [cap, first]) : L.lineOk (headT cap first) := by
  have h1 : (rowT [cap, first]).length ≤ 44 := rowT_len h
  refine ⟨?_, by simp [headT]; omega⟩
  intro b hb
  rcases List.mem_append.1 hb with hb | hb
  · simp only [List.mem_cons, List.not_mem_nil, or_false] at hb
    rcases hb with rfl | rfl | rfl | rfl <;> decide
  · exact rowT_no10 _ b hb
theorem ent_ok {f : Int} {e : En} (h : i64Ok [f, e.k, e.c, e.s, e.v]) : L.lineOk (entT f e) := ⟨rowT_no10 _, by have := entT_len h; omega⟩
theorem ctx_grow {w w' : World} (h : Below w.heap.size w w') : Grow (ctx0 w fun b => b < w.heap.size) (ctx0 w' fun b => b < w'.heap.size) := by
  refine ⟨fun b hb => Nat.lt_of_lt_of_le hb h.size, fun b hb => h.block b hb, fun _ _ _ hp => hp, fun b => ?_⟩
  show bsz w b ≤ bsz w' b
  unfold bsz
  rcases Nat.lt_or_ge b w.heap.size with hb | hb
  · rw [h.block b hb]
    exact Nat.le_refl _
  · rw [Array.getElem?_eq_none hb]
    exact Nat.zero_le _
theorem below_laid {w w' : World} (hL : Laid Tryz.prog w) (h : Below w.heap.size w w') : Laid Tryz.prog w' := hL.keep h.block
theorem vr_get {x : Ctx} {b : Nat} : ∀ (l : List En) (o : Nat), VR x 4 (l.map EK) b o → ∀ i (hi : i < l.length), x.w.cell? ⟨b, o + i * 4, none⟩ = some (.int .i64 l[i].k) ∧ x.w.cell? ⟨b, o + i * 4 + 1, none⟩ = some (.int .i64 l[i].c) ∧ x.w.cell? ⟨b, o + i * 4 + 2, none⟩ = some (.int .i64 l[i].s) ∧ x.w.cell? ⟨b, o + i * 4 + 3, none⟩ = some (.int .i64 l[i].v)
  | [], _, _, i, hi => absurd hi (by simp)
  | e :: l, o, h, i, hi => by
    simp only [List.map_cons, VR, VE, VC, V] at h
    obtain ⟨⟨_, ⟨_, h0, rfl⟩, ⟨_, h1, rfl⟩, ⟨_, h2, rfl⟩, ⟨_, h3, rfl⟩, _⟩, hr⟩ := h
    cases i with
    | zero => simpa using ⟨h0, h1, h2, h3⟩
    | succ i =>
      have := vr_get l (o + 4) hr i (by simp at hi; omega)
      simp only [List.getElem_cons_succ]
      rw [show o + (i + 1) * 4 = o + 4 + i * 4 by omega]
      exact this
/-- A journal, in a world. -/
theorem jv_val {w : World} {S : Nat → Prop} {cap first : Int} {a : AVal} {l : List En} {v : Value} (ha : RE a l) (h : V (ctx0 w S) (JV cap first a) v) :
    ∃ ao cp, v = .agg #[.int .i64 cap, .int .i64 first, .slice ao l.length cp] ∧ ∀ i (hi : i < l.length), ∃ b o, ao = some ⟨b, o, none⟩ ∧ (S b) ∧ w.cell? ⟨b, o + i * 4, none⟩ = some (.int .i64 l[i].k) ∧ w.cell? ⟨b, o + i * 4 + 1, none⟩ = some (.int .i64 l[i].c) ∧ w.cell? ⟨b, o + i * 4 + 2, none⟩ = some (.int .i64 l[i].s) ∧ w.cell? ⟨b, o + i * 4 + 3, none⟩ = some (.int .i64 l[i].v) := by
  simp only [V, VL] at h
  obtain ⟨cs, rfl, _, _, rfl, rfl, _, _, rfl, rfl, u, _, rfl, hu, rfl⟩ := h
  rcases ha with ⟨rfl, rfl⟩ | ⟨rfl, rfl⟩ | rfl
  · simp only [V] at hu
    subst hu
    exact ⟨_, _, rfl, fun i hi => absurd hi (by simp)⟩
  · simp only [V] at hu
    obtain ⟨q, rfl⟩ := hu
    exact ⟨_, _, rfl, fun i hi => absurd hi (by simp)⟩
  · simp only [V] at hu
    obtain ⟨b, o, cp, rfl, _, hS, hr⟩ := hu
    refine ⟨some ⟨b, o, none⟩, cp, by simp, fun i hi => ⟨b, o, rfl, ?_, vr_get l o hr i hi⟩⟩
    rcases hS with h0 | h0
    · rw [List.map_eq_nil_iff] at h0
      rw [h0] at hi
      simp at hi
    · exact h0
theorem vr_ints {x : Ctx} {b : Nat} : ∀ (ns : List Int) (o : Nat), (∀ i (h : i < ns.length), x.w.cell? ⟨b, o + i, none⟩ = some (.int .i64 ns[i])) → VR x 1 (ns.map (AVal.int .i64)) b o
  | [], _, _ => by simp only [List.map_nil, VR]
  | n :: ns, o, h => by
    simp only [List.map_cons, VR, VE, V]
    refine ⟨⟨trivial, _, h 0 (by simp), rfl⟩, vr_ints ns (o + 1) fun i hi => ?_⟩
    have := h (i + 1) (by simp; omega)
    rw [show o + 1 + i = o + (i + 1) by omega, this]
    rfl
theorem row_calls (ns : List Int) (h : i64Ok ns) (hl : ns.length ≤ 1000) (w : World) (hL : Laid Tryz.prog w) (b : Nat) {cs : Array Value} {fz : Nat × Nat} (hb : w.heap[b]? = some (.cells cs 3 fz)) (hcs : cs = (ns.map (Value.int .i64)).toArray) {n : Nat} (hn : n = ns.length) :
    Calls Tryz.prog 29 #[.slice (some ⟨b, 0, none⟩) n n] w fun e w' => e = .returned (.string (bs (rowT ns))) ∧ Below w.heap.size w w' := by
  subst hn
  refine (calls_sound Tryz.func29 (by kernel_rfl) (by kernel_rfl) sound29 (F29_eq (Rg.slc ns) hl h) w hL (vs := [.slice (some ⟨b, 0, none⟩) ns.length ns.length]) ?_).mono ?_
  · simp only [VL, V]
    refine ⟨_, _, rfl, ⟨b, 0, ns.length, by simp, by simp, .inr (Array.getElem?_eq_some_iff.1 hb).1, ?_⟩, rfl⟩
    refine vr_ints ns 0 fun i hi => ?_
    show w.cell? _ = _
    rw [Lib.cell_of_heap hb, hcs]
    simp [hi]
  · rintro e w' ⟨v, rfl, hb', hv⟩
    simp only [V] at hv
    subst hv
    exact ⟨rfl, hb'⟩
set_option maxHeartbeats 4000000 in
set_option maxRecDepth 100000 in
theorem exp_calls {cap first : Int} {a : AVal} {l : List En} {v : Value} (w : World) (hL : Laid Tryz.prog w) (ha : RE a l) (hj : jOk cap first l) (hv : V (ctx0 w fun b => b < w.heap.size) (JV cap first a) v) :
    Calls Tryz.prog 17 #[v] w fun e w' => e = .returned (.tuple #[.string (bs (expT cap first l)), .int .i64 0]) ∧ Below w.heap.size w w' := by
  obtain ⟨hc1, hc2, hlc, hf0, hf1, hor, hen⟩ := id hj
  obtain ⟨ao, cp, rfl, hcell⟩ := jv_val ha hv
  go_enter Tryz.func17, Tryz.ntmps17
  have hF10 := F10_eq (cap := cap) (first := first) ha (by omega)
  rw [decide_eq_true hj] at hF10
  go_wp2_with (go_at_call 10; refine (calls_sound Tryz.func10 (by kernel_rfl) (by kernel_rfl) sound10 hF10 _ ?hL10 (vs := [.agg #[.int .i64 cap, .int .i64 first, .slice ao l.length cp]]) ?hV10).mono ?_)
  case hL10 => exact below_laid hL ((Below.refl _ w).alloc (Nat.le_refl _) _)
  case hV10 =>
    simp only [VL]
    exact ⟨_, _, rfl, V_grow (ctx_grow ((Below.refl _ w).alloc (Nat.le_refl _) _)) _ _ hv, rfl⟩
  rintro e w2 ⟨v, rfl, hb2, hv2⟩
  simp only [V] at hv2
  subst hv2
  have hbw2 : Below w.heap.size w w2 := ((Below.refl _ w).alloc (Nat.le_refl _) _).trans (hb2.mono (by simp))
  have hJ2 : w2.heap[w.heap.size]? = some (.cells #[.int .i64 cap, .int .i64 first, .slice ao l.length cp] 24 (0, 0)) := by
    rw [hb2.block _ (by simp)]
    exact heap_alloc_new _ _
  have hlt2 : w.heap.size < w2.heap.size := by have := hb2.size; simp at this; omega
  have hmf : ∀ (fn : Fn) (first cap : Array Value) (w : World), (Instr.makeFunc fn first cap).run Tryz.prog w = .ok (.func fn first cap) w := fun _ _ _ _ => rfl
  have hJ3 : (w2.alloc (.cells #[.pointer none, .slice none 0 0] 50)).heap[w.heap.size]? = some (.cells #[.int .i64 cap, .int .i64 first, .slice ao l.length cp] 24 (0, 0)) := by
    rw [Lib.alloc_old _ _ _ hlt2]
    exact hJ2
  have c0 : (w2.alloc (.cells #[.pointer none, .slice none 0 0] 50)).cell? ⟨w.heap.size, 0, none⟩ = some (.int .i64 cap) := by rw [Lib.cell_of_heap hJ3]; rfl
  have c1 : (w2.alloc (.cells #[.pointer none, .slice none 0 0] 50)).cell? ⟨w.heap.size, 1, none⟩ = some (.int .i64 first) := by rw [Lib.cell_of_heap hJ3]; rfl
  have hh : i64Ok [cap, first] := by
    intro n hn
    simp only [List.mem_cons, List.not_mem_nil, or_false] at hn
    rcases hn with rfl | rfl <;> omega
  have hhl : (rowT [cap, first]).length ≤ 44 := rowT_len hh
  have hbW : Below w.heap.size w ((w2.alloc (.cells #[.pointer none, .slice none 0 0] 50)).alloc (.cells #[.int .i64 cap, .int .i64 first] 3)) := (hbw2.alloc (by omega) _).alloc (by simp; omega) _
  have hsq : ((w2.alloc (.cells #[.pointer none, .slice none 0 0] 50)).alloc (.cells #[.int .i64 cap, .int .i64 first] 3)).heap.size = w2.heap.size + 2 := by simp
  have hBl : Lib.IsBuilderF 50 5 w2.heap.size w2.heap.size (Lib.byteCells []) ((w2.alloc (.cells #[.pointer none, .slice none 0 0] 50)).alloc (.cells #[.int .i64 cap, .int .i64 first] 3)) := (Lib.IsBuilderF.of (Lib.fresh_isBuilder 50 5 w2)).alloc _
  have hJ4 : ((w2.alloc (.cells #[.pointer none, .slice none 0 0] 50)).alloc (.cells #[.int .i64 cap, .int .i64 first] 3)).heap[w.heap.size]? = some (.cells #[.int .i64 cap, .int .i64 first, .slice ao l.length cp] 24 (0, 0)) := by
    rw [Lib.alloc_old _ _ _ (by simp; omega)]
    exact hJ3
  go_wp2_with fail
  refine (row_calls [cap, first] hh (by simp) _ (below_laid hL hbW) (w2.heap.size + 1) (fz := (0, 0)) (cs := #[.int .i64 cap, .int .i64 first]) ?hb29 rfl rfl).mono ?_
  case hb29 =>
    have := heap_alloc_new (w2.alloc (.cells #[.pointer none, .slice none 0 0] 50)) (.cells #[.int .i64 cap, .int .i64 first] 3)
    simpa using this
  rintro e w3 ⟨rfl, hb3⟩
  have hs3 := hb3.size
  rw [hsq] at hs3 hb3
  have hbw3 : Below w.heap.size w w3 := hbW.trans (hb3.mono (by omega))
  have hB3 : Lib.IsBuilderF 50 5 w2.heap.size w2.heap.size (Lib.byteCells []) w3 := hBl.below (by rw [hsq]; exact hb3)
  have hJ5 : w3.heap[w.heap.size]? = some (.cells #[.int .i64 cap, .int .i64 first, .slice ao l.length cp] 24 (0, 0)) := (hb3.block _ (by omega)).trans hJ4
  go_wp2_with fail
  rw [bs_append]
  refine (line_calls (headT cap first) (head_ok hh) w2.heap.size w2.heap.size [] w3 (below_laid hL hbw3) hB3 (by simp) (by omega) (by omega)).mono ?_
  rintro e w4 ⟨rfl, hB4, hb4⟩
  have hs4 := hb4.size
  have hbw4 : Below w.heap.size w w4 := hbw3.trans (hb4.mono (by omega))
  have hJ6 : w4.heap[w.heap.size]? = some (.cells #[.int .i64 cap, .int .i64 first, .slice ao l.length cp] 24 (0, 0)) := (hb4.block _ (by omega)).trans hJ5
  have c2 : w4.cell? ⟨w.heap.size, 2, none⟩ = some (.slice ao l.length cp) := by rw [Lib.cell_of_heap hJ6]; rfl
  rw [List.nil_append] at hB4
  go_wp2_with fail
  go_loopw [24] (fun i wr => ∃ k : Nat, k ≤ l.length ∧ i = .int .i64 k ∧ Lib.IsBuilderF 50 5 w2.heap.size w2.heap.size (Lib.byteCells (lineT (headT cap first) ++ rowsT first (l.take k))) wr ∧ wr.heap[w.heap.size]? = some (.cells #[.int .i64 cap, .int .i64 first, .slice ao l.length cp] 24 (0, 0)) ∧ Below w.heap.size w wr ∧ w2.heap.size < wr.heap.size)
    (fun i _ => l.length - (intOf i).toNat)
  case atStart =>
    exact ⟨0, Nat.zero_le _, rfl, by simpa [rowsT] using hB4, hJ6, hbw4, by omega⟩
  case round =>
    obtain ⟨k, hk, rfl, hB, hJ, hbw, hsz⟩ := hrel
    by_cases hkl : k < l.length
    · obtain ⟨b, o, rfl, hbl, d0, d1, d2, d3⟩ := hcell k hkl
      have hcl := cell_of_heap (o := 0) (hbw.block b hbl)
      have ce : ∀ q, wr.cell? ⟨b, q, none⟩ = w.cell? ⟨b, q, none⟩ := fun q => cell_of_heap (hbw.block b hbl)
      rw [← ce] at d0 d1 d2 d3
      have hJa : (wr.alloc (.cells #[.int .i64 l[k].k, .int .i64 l[k].c, .int .i64 l[k].s, .int .i64 l[k].v] 26)).heap[w.heap.size]? = some (.cells #[.int .i64 cap, .int .i64 first, .slice (some ⟨b, o, none⟩) l.length cp] 24 (0, 0)) := by
        rw [Lib.alloc_old _ _ _ (by omega)]
        exact hJ
      have j1 : (wr.alloc (.cells #[.int .i64 l[k].k, .int .i64 l[k].c, .int .i64 l[k].s, .int .i64 l[k].v] 26)).cell? ⟨w.heap.size, 1, none⟩ = some (.int .i64 first) := by rw [Lib.cell_of_heap hJa]; rfl
      have hkl2 : (k : Int) < (l.length : Int) := by omega
      have hbwA : Below w.heap.size w ((wr.alloc (.cells #[.int .i64 l[k].k, .int .i64 l[k].c, .int .i64 l[k].s, .int .i64 l[k].v] 26)).alloc (.cells #[.int .i64 (first + k), .int .i64 l[k].k, .int .i64 l[k].c, .int .i64 l[k].s, .int .i64 l[k].v] 3)) := (hbw.alloc (by omega) _).alloc (by simp; omega) _
      have hsA : ((wr.alloc (.cells #[.int .i64 l[k].k, .int .i64 l[k].c, .int .i64 l[k].s, .int .i64 l[k].v] 26)).alloc (.cells #[.int .i64 (first + k), .int .i64 l[k].k, .int .i64 l[k].c, .int .i64 l[k].s, .int .i64 l[k].v] 3)).heap.size = wr.heap.size + 2 := by simp
      have hBA : Lib.IsBuilderF 50 5 w2.heap.size w2.heap.size (Lib.byteCells (lineT (headT cap first) ++ rowsT first (l.take k))) ((wr.alloc (.cells #[.int .i64 l[k].k, .int .i64 l[k].c, .int .i64 l[k].s, .int .i64 l[k].v] 26)).alloc (.cells #[.int .i64 (first + k), .int .i64 l[k].k, .int .i64 l[k].c, .int .i64 l[k].s, .int .i64 l[k].v] 3)) := (hB.alloc _).alloc _
      have hJA : ((wr.alloc (.cells #[.int .i64 l[k].k, .int .i64 l[k].c, .int .i64 l[k].s, .int .i64 l[k].v] 26)).alloc (.cells #[.int .i64 (first + k), .int .i64 l[k].k, .int .i64 l[k].c, .int .i64 l[k].s, .int .i64 l[k].v] 3)).heap[w.heap.size]? = some (.cells #[.int .i64 cap, .int .i64 first, .slice (some ⟨b, o, none⟩) l.length cp] 24 (0, 0)) := by
        rw [Lib.alloc_old _ _ _ (by simp; omega)]
        exact hJa
      have hok := hen _ (List.getElem_mem hkl)
      have h64 := i64Ok_ent (f := first + k) (e := l[k]) (by omega) (by omega) hok
      have hel := entT_len h64
      have hrl := rowsT_len (l := l.take k) (f := first) (by omega) (by rw [List.length_take]; omega) (fun e he => hen e (List.mem_of_mem_take he))
      rw [List.length_take] at hrl
      have hst := rowsT_snoc (l.take k) first l[k]
      rw [← take_next hkl, List.length_take, Nat.min_eq_left hk] at hst
      have hlen : (lineT (headT cap first) ++ rowsT first (l.take k)).length ≤ 1000000 := by
        simp only [List.length_append, lineT_len, headT, List.length_cons, List.length_nil]
        omega
      go_wp2_with fail
      refine (row_calls [first + k, l[k].k, l[k].c, l[k].s, l[k].v] h64 (by simp) _ (below_laid hL hbwA) (wr.heap.size + 1) (fz := (0, 0)) (cs := #[.int .i64 (first + k), .int .i64 l[k].k, .int .i64 l[k].c, .int .i64 l[k].s, .int .i64 l[k].v]) ?hb29 rfl rfl).mono ?_
      case hb29 =>
        have := heap_alloc_new (wr.alloc (.cells #[.int .i64 l[k].k, .int .i64 l[k].c, .int .i64 l[k].s, .int .i64 l[k].v] 26)) (.cells #[.int .i64 (first + k), .int .i64 l[k].k, .int .i64 l[k].c, .int .i64 l[k].s, .int .i64 l[k].v] 3)
        simpa using this
      rintro e w5 ⟨rfl, hb5⟩
      have hs5 := hb5.size
      have hB5 := hBA.below hb5
      rw [hsA] at hs5 hb5
      have hbw5 : Below w.heap.size w w5 := hbwA.trans (hb5.mono (by omega))
      have hJ5' := (hb5.block _ (by omega)).trans hJA
      go_wp2_with fail
      refine (line_calls (entT (first + k) l[k]) (ent_ok h64) w2.heap.size w2.heap.size _ w5 (below_laid hL hbw5) hB5 hlen (by omega) (by omega)).mono ?_
      rintro e w6 ⟨rfl, hB6, hb6⟩
      have hs6 := hb6.size
      go_wp2
      go_roundw
      case rel =>
        refine ⟨k + 1, by omega, by simp, ?_, (hb6.block _ (by omega)).trans hJ5', hbw5.trans (hb6.mono (by omega)), by omega⟩
        rw [hst, ← List.append_assoc]
        exact hB6
      case measure => simp [intOf]; omega
    · obtain rfl : k = l.length := by omega
      rw [List.take_length] at hB
      go_wp2_with fail
      refine (bld_string w2.heap.size w2.heap.size _ wr hB (by omega)).mono ?_
      rintro e w6 ⟨rfl, hb6⟩
      go_wp2
      go_ret2
      exact ⟨rfl, hbw.trans (hb6.mono (by omega))⟩
end Go.Proofs.YtaoodcnhmjokoaaGreatDoor
