/-
  The program's Print: by a walk.
-/
import Derived.Test.YtppehejnnjlkfaaGreatDoorYCe
import Derived.WalkKit
import Derived.BigCall
import Derived.StillTailTactics
import Derived.Shelf.Strings.MapGrows
set_option linter.unusedVariables false
set_option linter.unusedSimpArgs false
namespace Go.Proofs.YtppehejnnjlkfaaGreatDoor
open Go Go.Xec Go.RowKit

theorem calls_sound {f : FuncId} {fn : Func} {F : List AVal → Option AVal} (hf : Tryz.prog.funcs[f]? = some fn) (hname : (fn.name == "runtime.NumGoroutine") = false) (hb : fn.body.isSome = true)
    (hs : Sound Tryz.prog f F) {ys : List AVal} {r : AVal} (hF : F ys = some r) (w : World) (hL : Laid Tryz.prog w) {vs : List Value} (hl : VL (ctx0 w fun b => b < w.heap.size) ys vs) :
    Calls Tryz.prog f vs.toArray w fun e w' => ∃ v, e = .returned v ∧ Below w.heap.size w w' ∧ V (ctx0 w' fun b => b < w'.heap.size) r v := by
  rcases hs ys r hF w _ vs (fun _ h => h) hL hl with ⟨_, h⟩ | ⟨v, w', h, _⟩
  · refine h.mono ?_
    rintro e w' ⟨v, rfl, h1, h2, h3, h4⟩
    refine ⟨v, rfl, ⟨h3.1, h3.2.1, h3.2.2, h1, h2⟩, ?_⟩
    have e : (fun b => b < w.heap.size ∨ (w.heap.size ≤ b ∧ b < w'.heap.size)) = fun b => b < w'.heap.size := by
      funext b
      apply propext
      omega
    rw [e] at h4
    exact h4
  · exfalso
    cases hbb : fn.body with
    | none => rw [hbb] at hb; cases hb
    | some c =>
      simp only [callFunc, Sem.run_bind, run_program, Result.andThen_ok, hf, hname, hbb] at h
      simp at h
theorem ctx_grow {w w' : World} (h : Below w.heap.size w w') : Grow (ctx0 w fun b => b < w.heap.size) (ctx0 w' fun b => b < w'.heap.size) := by
  refine ⟨fun b hb => Nat.lt_of_lt_of_le hb h.size, fun b hb => h.block b hb, fun _ _ _ hp => hp, fun b => ?_⟩
  show bsz w b ≤ bsz w' b
  unfold bsz
  rcases Nat.lt_or_ge b w.heap.size with hb | hb
  · rw [h.block b hb]
    exact Nat.le_refl _
  · rw [Array.getElem?_eq_none hb]
    exact Nat.zero_le _
theorem below_laid {w w' : World} (hL : Laid Tryz.prog w) (h : Below w.heap.size w w') : Laid Tryz.prog w' := hL.keep h.block
/-- A channel's cells. -/
def chV (c : Ch) : List Value := [.string (bs c.n), .int .i64 c.t, .int .i64 c.f0, .int .i64 c.f1, .int .i64 c.f2, .int .i64 c.f3, .int .i64 c.f4, .int .i64 c.f5, .int .i64 c.f6, .int .i64 c.f7, .int .i64 c.f8, .int .i64 c.f9, .int .i64 c.f10, .int .i64 c.f11]
theorem vc_ch {x : Ctx} {b o : Nat} {c : Ch} (h : VE x 14 (CK c) b o) : ∀ j v, (chV c)[j]? = some v → x.w.cell? ⟨b, o + j, none⟩ = some v := by
  simp only [VE, VC, V] at h
  obtain ⟨_, ⟨_, h0, rfl⟩, ⟨_, h1, rfl⟩, ⟨_, h2, rfl⟩, ⟨_, h3, rfl⟩, ⟨_, h4, rfl⟩, ⟨_, h5, rfl⟩, ⟨_, h6, rfl⟩, ⟨_, h7, rfl⟩, ⟨_, h8, rfl⟩, ⟨_, h9, rfl⟩, ⟨_, h10, rfl⟩, ⟨_, h11, rfl⟩, ⟨_, h12, rfl⟩, ⟨_, h13, rfl⟩, _⟩ := h
  intro j v hj
  match j with
  | 0 => cases hj; exact h0
  | 1 => cases hj; exact h1
  | 2 => cases hj; exact h2
  | 3 => cases hj; exact h3
  | 4 => cases hj; exact h4
  | 5 => cases hj; exact h5
  | 6 => cases hj; exact h6
  | 7 => cases hj; exact h7
  | 8 => cases hj; exact h8
  | 9 => cases hj; exact h9
  | 10 => cases hj; exact h10
  | 11 => cases hj; exact h11
  | 12 => cases hj; exact h12
  | 13 => cases hj; exact h13
  | j + 14 => simp [chV] at hj
theorem vr_ch {x : Ctx} {b : Nat} : ∀ (l : List Ch) (o : Nat), VR x 14 (l.map CK) b o → ∀ i (hi : i < l.length), ∀ j v, (chV l[i])[j]? = some v → x.w.cell? ⟨b, o + i * 14 + j, none⟩ = some v
  | [], _, _, i, hi => absurd hi (by simp)
  | e :: l, o, h, i, hi => by
    rw [List.map_cons, VR] at h
    cases i with
    | zero => simpa using vc_ch h.1
    | succ i =>
      have := vr_ch l (o + 14) h.2 i (by simp at hi; omega)
      simp only [List.getElem_cons_succ]
      rw [show o + (i + 1) * 14 = o + 14 + i * 14 by omega]
      exact this
/-- A recipe, in a world. -/
theorem rec_val {w : World} {S : Nat → Prop} {a : AVal} {l : List Ch} {v : Value} (ha : RC a l) (h : V (ctx0 w S) (.agg [a]) v) :
    ∃ ao cp, v = .agg #[.slice ao l.length cp] ∧ ∀ i (hi : i < l.length), ∃ b o, ao = some ⟨b, o, none⟩ ∧ (S b) ∧ ∀ j v, (chV l[i])[j]? = some v → w.cell? ⟨b, o + i * 14 + j, none⟩ = some v := by
  simp only [V, VL] at h
  obtain ⟨cs, rfl, u, _, rfl, hu, rfl⟩ := h
  rcases ha with ⟨rfl, rfl⟩ | ⟨rfl, rfl⟩ | rfl
  · simp only [V] at hu
    subst hu
    exact ⟨_, _, rfl, fun i hi => absurd hi (by simp)⟩
  · simp only [V] at hu
    obtain ⟨q, rfl⟩ := hu
    exact ⟨_, _, rfl, fun i hi => absurd hi (by simp)⟩
  · simp only [V] at hu
    obtain ⟨b, o, cp, rfl, _, hS, hr⟩ := hu
    refine ⟨some ⟨b, o, none⟩, cp, by simp, fun i hi => ⟨b, o, rfl, ?_, vr_ch l o hr i hi⟩⟩
    rcases hS with h0 | h0
    · rw [List.map_eq_nil_iff] at h0
      rw [h0] at hi
      simp at hi
    · exact h0
theorem vl_strs {x : Ctx} : ∀ {l : List (List UInt8)} {vs : List Value}, VL x (l.map sv) vs → vs = l.map fun s => Value.string (bs s)
  | [], vs, h => by simpa only [List.map_nil, VL] using h
  | s :: l, vs, h => by
    rw [List.map_cons, VL] at h
    obtain ⟨u, r, rfl, hu, hr⟩ := h
    rw [vl_strs hr, List.map_cons]
    simp only [V] at hu
    rw [hu]
/-- The charts' words. -/
def wsA : Array Value := (chW.map fun s => Value.string (bs s)).toArray
theorem words_calls (w : World) (hL : Laid Tryz.prog w) : Calls Tryz.prog 23 #[] w fun e w' => e = .returned (.agg wsA) ∧ Below w.heap.size w w' := by
  refine (calls_sound Tryz.func23 (by kernel_rfl) (by kernel_rfl) sound23 F23_eq w hL (vs := []) (by simp only [VL])).mono ?_
  rintro e w' ⟨v, rfl, hb, hv⟩
  simp only [V] at hv
  obtain ⟨cs, rfl, h⟩ := hv
  exact ⟨by rw [vl_strs h]; rfl, hb⟩
theorem vl_strs' {x : Ctx} : ∀ {l : List (List UInt8)}, VL x (l.map sv) (l.map fun s => Value.string (bs s))
  | [] => by simp only [List.map_nil, VL]
  | s :: l => by
    rw [List.map_cons, List.map_cons, VL]
    exact ⟨_, _, rfl, by simp only [V], vl_strs'⟩
theorem idx_words {t : Nat} (ht : t < 8) (W : World) : (Instr.index 63 (.agg wsA) (.int .i64 (t : Int))).run Tryz.prog W = .ok (.string (bs (chW.getD t []))) W := by
  have hr : (0 : Int) ≤ (t : Int) ∧ (t : Int) < ((8 : Nat) : Int) := by omega
  have hn : szOf Tryz.prog 9 = some 1 := by kernel_rfl
  simp only [Instr.index, asIntOf, Sem.run_bind, run_underlying Tryz.underlying63, Result.andThen_ok, Sem.run_pure, Sem.run_ite, hr, and_self, if_true, szOf_run hn]
  have htw : t < chW.length := ht
  obtain ⟨u, hu, hvu⟩ := part_ok (P := Tryz.prog) (x := ctx0 W fun _ => True) (t := 9) (agg := false) (off := t * 1) (cs := chW.map sv) (vs := chW.map fun s => Value.string (bs s)) (v := sv (chW.getD t [])) (by kernel_rfl) hn vl_strs'
    (by simp only [takeV, Bool.false_eq_true, if_false, Nat.mul_one, List.getElem?_map, List.getD_eq_getElem?_getD, List.getElem?_eq_getElem htw]; rfl) W
  rw [Int.toNat_natCast]
  simp only [V] at hvu
  subst hvu
  exact hu
/-- Where a channel's numbers lie. -/
def ptrs (b : Nat) : List Value := (List.range 12).map fun k => .pointer (some ⟨b, k + 2, none⟩)
set_option maxRecDepth 100000 in
set_option maxHeartbeats 8000000 in
theorem fields_calls (b : Nat) (w : World) : Calls Tryz.prog 24 #[.pointer (some ⟨b, 0, none⟩)] w fun e w' => ∃ B, e = .returned (.slice (some ⟨B, 0, none⟩) 12 12) ∧ w.heap.size ≤ B ∧ w'.heap[B]? = some (.cells (ptrs b).toArray 74 (0, 0)) ∧ Below w.heap.size w w' := by
  go_enter Tryz.func24, Tryz.ntmps24
  go_wp2_with fail
  go_still_tail 36, (by kernel_rfl)
  change wpList _ _ _ _ _ w.drew
  generalize hw : w.drew = w2
  go_wp2
  go_ret
  subst hw
  refine ⟨w.heap.size, rfl, Nat.le_refl _, heap_alloc_new w.drew _, ?_⟩
  exact Below.alloc (w := w.drew) ((Below.refl _ w).drew) (Nat.le_refl _) _
set_option maxRecDepth 100000 in
set_option maxHeartbeats 8000000 in
theorem bounds_calls (w : World) : Calls Tryz.prog 25 #[] w fun e w' => ∃ B, e = .returned (.slice (some ⟨B, 0, none⟩) 12 12) ∧ w.heap.size ≤ B ∧ (∃ cs : Array Value, w'.heap[B]? = some (.cells cs 71 (0, 0)) ∧ ∀ k < 12, cs[k * 4]? = some (.string (bs (fd k).w)) ∧ cs[k * 4 + 1]? = some (.int .i64 (fd k).lo) ∧ cs[k * 4 + 2]? = some (.int .i64 (fd k).hi) ∧ cs[k * 4 + 3]? = some (.int .i64 (fd k).nd)) ∧ Below w.heap.size w w' := by
  go_enter Tryz.func25, Tryz.ntmps25
  go_wp2
  go_ret
  refine ⟨w.heap.size, rfl, Nat.le_refl _, ⟨_, heap_alloc_new w _, ?_⟩, (Below.refl _ w).alloc (Nat.le_refl _) _⟩
  intro k hk
  match k, hk with
  | 0, _ => exact ⟨rfl, rfl, rfl, rfl⟩
  | 1, _ => exact ⟨rfl, rfl, rfl, rfl⟩
  | 2, _ => exact ⟨rfl, rfl, rfl, rfl⟩
  | 3, _ => exact ⟨rfl, rfl, rfl, rfl⟩
  | 4, _ => exact ⟨rfl, rfl, rfl, rfl⟩
  | 5, _ => exact ⟨rfl, rfl, rfl, rfl⟩
  | 6, _ => exact ⟨rfl, rfl, rfl, rfl⟩
  | 7, _ => exact ⟨rfl, rfl, rfl, rfl⟩
  | 8, _ => exact ⟨rfl, rfl, rfl, rfl⟩
  | 9, _ => exact ⟨rfl, rfl, rfl, rfl⟩
  | 10, _ => exact ⟨rfl, rfl, rfl, rfl⟩
  | 11, _ => exact ⟨rfl, rfl, rfl, rfl⟩
/-- Where Print stands: what has been written; nothing that was there has turned. -/
def Stg (w : World) (B : Nat) (acc : List UInt8) (wr : World) : Prop := Lib.IsBuilderF 60 5 B B (Lib.byteCells acc) wr ∧ Below w.heap.size w wr ∧ w.heap.size ≤ B ∧ B < wr.heap.size
theorem Stg.alloc {w wr : World} {B : Nat} {acc : List UInt8} (h : Stg w B acc wr) (o : Obj) : Stg w B acc (wr.alloc o) :=
  ⟨h.1.alloc o, h.2.1.alloc (h.2.1.size) o, h.2.2.1, by have := h.2.2.2; simp; omega⟩
theorem Stg.below {w wr w' : World} {B : Nat} {acc : List UInt8} (h : Stg w B acc wr) (hb : Below wr.heap.size wr w') : Stg w B acc w' :=
  ⟨h.1.below hb, h.2.1.trans (hb.mono h.2.1.size), h.2.2.1, Nat.lt_of_lt_of_le h.2.2.2 hb.size⟩
theorem Stg.drew {w wr : World} {B : Nat} {acc : List UInt8} (h : Stg w B acc wr) : Stg w B acc wr.drew := h.below (Below.refl _ wr).drew
theorem Stg.laid {w wr : World} {B : Nat} {acc : List UInt8} (h : Stg w B acc wr) (hL : Laid Tryz.prog w) : Laid Tryz.prog wr := below_laid hL h.2.1
/-- What one piece of text does. -/
theorem stg_write {w wr : World} {B : Nat} {acc : List UInt8} (h : Stg w B acc wr) (s : List UInt8) {q : ByteArray} (hq : q = bs s) (hlen : acc.length + s.length ≤ 1000000) :
    Calls Tryz.prog 22 #[.pointer (some ⟨B, 0, none⟩), .string q] wr fun e w' => e = .returned (.tuple #[.int .i64 s.length, .nilIface]) ∧ Stg w B (acc ++ s) w' ∧ wr.heap.size ≤ w'.heap.size ∧ (∀ (k : Nat) (cs : Array Value) (T : TypeId), wr.heap[k]? = some (.cells cs T (0, 0)) → k ≠ B → T ≠ 5 → w'.heap[k]? = some (.cells cs T (0, 0))) := by
  subst hq
  refine (bld_write B B (Lib.byteCells acc) (bs s) wr h.1 (by rw [Lib.byteCells_length, bs_size]; omega) (Nat.le_of_lt h.2.2.2)).mono ?_
  rintro e w' ⟨rfl, h1, h2, h3⟩
  refine ⟨by rw [bs_size], ⟨.inr ?_, h.2.1.trans (h2.mono h.2.2.1), h.2.2.1, Nat.lt_of_lt_of_le h.2.2.2 h2.size⟩, h2.size, ?_⟩
  · rw [Lib.byteCells_append, show Lib.byteCells s = Lib.strCells (bs s) from rfl]
    exact h1
  · intro k cs T hk hne hT
    refine h3 k _ hk (fun h => hne (Option.some.inj h)) ?_
    intro c fz he
    cases he
    exact hT rfl
theorem stg_string {w wr : World} {B : Nat} {acc : List UInt8} (h : Stg w B acc wr) :
    Calls Tryz.prog 28 #[.pointer (some ⟨B, 0, none⟩)] wr fun e w' => e = .returned (.string (bs acc)) ∧ Below w.heap.size w w' :=
  (bld_string B B acc wr h.1 (Nat.le_of_lt h.2.2.2)).mono fun e w' h' => ⟨h'.1, h.2.1.trans (h'.2.mono h.2.2.1)⟩
end Go.Proofs.YtppehejnnjlkfaaGreatDoor
