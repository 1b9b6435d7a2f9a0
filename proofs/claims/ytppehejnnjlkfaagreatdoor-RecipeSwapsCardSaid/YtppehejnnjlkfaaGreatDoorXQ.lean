/-
  What an argument of a law's reads as, as an abstract value; a law's row, out of the interpreter's answer.
-/
import Derived.Test.YtppehejnnjlkfaaGreatDoorXP
import Derived.WalkKit
import Derived.ProofKit
import Derived.OpenShut
import Derived.ShutString
import Derived.ChangeOld
import Derived.Carry
import Derived.SizedLaws
import Derived.Handed
import Derived.ShapedOpen
set_option linter.unusedVariables false
set_option linter.unusedSimpArgs false
namespace Go.Xec
open Go Go.WideShapes Go.ChangeShapes Go.RowKit

inductive ATy where
  | bool
  | int (k : IntKind)
  | str
  | slice (es bytes : Nat) (e : ATy)
  | struct (fs : List ATy)
  | arr (n : Nat) (e : ATy)

mutual
def ATy.size : ATy → Nat
  | .struct fs => ATy.sizeL fs
  | .arr n e => n * ATy.size e
  | _ => 1
def ATy.sizeL : List ATy → Nat
  | [] => 0
  | t :: ts => ATy.size t + ATy.sizeL ts
end

section
variable (P : Program)
mutual
def tyOk : ATy → TypeId → Bool
  | .bool, t => match P.underlying t with
    | some .bool => true
    | _ => false
  | .int k, t => match P.underlying t with
    | some (.int k') => decide (k = k')
    | _ => false
  | .str, t => match P.underlying t with
    | some .string => true
    | _ => false
  | .slice es bytes e, t => match P.underlying t with
    | some (.slice u) => decide (P.cellsOf u = es) && decide (P.bytesOf u = bytes) && decide (ATy.size e = es) && decide (1 ≤ es) && tyOk e u
    | _ => false
  | .struct fs, t => match P.underlying t with
    | some (.struct gs) => decide (P.cellsOf t = ATy.sizeL fs) && fieldsOk fs gs.toList 0
    | _ => false
  | .arr n e, t => match P.underlying t with
    | some (.array m u) => decide (m = n) && decide (P.cellsOf u = ATy.size e) && decide (P.cellsOf t = n * ATy.size e) && tyOk e u
    | _ => false
def fieldsOk : List ATy → List Field → Nat → Bool
  | [], [], _ => true
  | a :: as, f :: fs, off => decide (f.offset = off) && decide (P.cellsOf f.type = ATy.size a) && tyOk a f.type && fieldsOk as fs (off + ATy.size a)
  | _, _, _ => false
end
end

mutual
/-- A value of a type: what an argument may be. -/
def WT : ATy → AVal → Prop
  | .bool, a => ∃ b, a = .bool b
  | .int k, a => ∃ n, a = .int k n ∧ k.min ≤ n ∧ n ≤ k.max
  | .str, a => ∃ s : ByteArray, a = .str s ∧ s.size ≤ 140737488351232
  | .slice es bytes e, a => a = .nils ∨ a = .emp ∨ ∃ xs, a = .slc es xs ∧ (∀ x ∈ xs, WT e x) ∧ xs.length * bytes ≤ 140737488351232
  | .struct fs, a => ∃ ps, a = .agg (ps.flatMap cellsOf) ∧ WTL fs ps
  | .arr n e, a => ∃ ps : List AVal, a = .agg (ps.flatMap cellsOf) ∧ ps.length = n ∧ ∀ p ∈ ps, WT e p
def WTL : List ATy → List AVal → Prop
  | [], as => as = []
  | t :: ts, as => ∃ a r, as = a :: r ∧ WT t a ∧ WTL ts r
end

def isAggTy : ATy → Bool
  | .struct _ => true
  | .arr _ _ => true
  | _ => false
theorem WT.cells {t : ATy} {a : AVal} (h : WT t a) (ht : isAggTy t = false) : cellsOf a = [a] := by
  cases t <;> simp only [WT, isAggTy] at h ht
  · obtain ⟨b, rfl⟩ := h; rfl
  · obtain ⟨n, rfl, _⟩ := h; rfl
  · obtain ⟨s, rfl, _⟩ := h; rfl
  · rcases h with rfl | rfl | ⟨xs, rfl, _⟩ <;> rfl
  · cases ht
  · cases ht

section
variable {H : Type} {enc : TypeId × Value → H} {P : Program} {w : World}

def allS (w : World) : Nat → Prop := fun b => b < w.heap.size

theorem cell_none {w : World} {a : Addr} {v : Value} (h : w.cell? a = some v) : a.spot = none := by
  unfold World.cell? at h
  split at h
  · split at h
    · cases h
    · rename_i h'
      simpa using h'
  · cases h
theorem VC_of_cells {cs : List Value} {as : List AVal} {b o : Nat} {x : Ctx} (hl : VL x as cs) (hc : ∀ i v, cs[i]? = some v → x.w.cell? ⟨b, o + i, none⟩ = some v) : VC x as b o := VC_of_VL hl hc

theorem cells_get {a : Addr} {n : Nat} {cs : List Value} (h : w.cells? 0 a n = some cs) : cs.length = n ∧ ∀ i v, cs[i]? = some v → w.cell? (a.add i) = some v := by
  obtain ⟨_, h1, h2⟩ := World.cells?_some h
  refine ⟨h1, fun i v hi => ?_⟩
  rcases Nat.lt_or_ge i n with h' | h'
  · rw [← h2 i h'] at hi
    exact hi
  · rw [List.getElem?_eq_none (by omega)] at hi
    cases hi

theorem weights_sub {e : TypeId} {ds : List (DataW H)} {N : Nat} (h : (DataW.weightsAll P e ds).all (· ≤ N) = true) {d : DataW H} (hd : d ∈ ds) : (d.weights P e).all (· ≤ N) = true := by
  induction ds with
  | nil => cases hd
  | cons x xs ih =>
    simp only [DataW.weightsAll, List.all_append, Bool.and_eq_true] at h
    cases hd with
    | head => exact h.1
    | tail _ hd => exact ih h.2 hd

theorem weights_sub_each {N : Nat} : ∀ {ts : List TypeId} {ds : List (DataW H)} (h : (DataW.weightsEach P ts ds).all (· ≤ N) = true) {i : Nat} {t : TypeId} {d : DataW H} (ht : ts[i]? = some t) (hd : ds[i]? = some d), (d.weights P t).all (· ≤ N) = true
  | t0 :: ts, d0 :: ds, h, 0, t, d, ht, hd => by
    simp only [DataW.weightsEach, List.all_append, Bool.and_eq_true] at h
    simp at ht hd; subst ht; subst hd; exact h.1
  | t0 :: ts, d0 :: ds, h, i + 1, t, d, ht, hd => by
    simp only [DataW.weightsEach, List.all_append, Bool.and_eq_true] at h
    simp at ht hd; exact weights_sub_each h.2 ht hd
  | [], _, _, _, _, _, ht, _ => by simp at ht
  | _ :: _, [], _, _, _, _, _, hd => by simp at hd

theorem flat_take {cs : List Value} {o s : Nat} (h : o + s ≤ cs.length) (rest : List Value) : True := trivial

mutual
theorem trod_wt : ∀ (ty : ATy) (t : TypeId) (n : Nat) (cs : List Value) (x : DataW H × List MemPlace), tyOk P ty t = true → DataW.trod enc P w 0 (fun _ => true) true n t cs = some x → (x.1.weights P t).all (· ≤ reachBytes) = true →
    ∃ a, WT ty a ∧ VL (ctx0 w (allS w)) (cellsOf a) cs ∧ (cellsOf a).length = ty.size
  | .bool, t, n, cs, x, hk, h, hz => by
    simp only [tyOk] at hk
    split at hk
    · rename_i hu
      obtain ⟨b, rfl, rfl⟩ := DataW.trod_bool hu h
      refine ⟨.bool b, ?_, ?_, ?_⟩
      · simp only [WT]; exact ⟨b, rfl⟩
      · simp only [cellsOf, VL, V]; exact ⟨_, _, rfl, rfl, rfl⟩
      · rfl
    · cases hk
  | .int k, t, n, cs, x, hk, h, hz => by
    simp only [tyOk] at hk
    split at hk
    · rename_i k' hu
      simp only [decide_eq_true_eq] at hk
      subst hk
      obtain ⟨b, rfl, rfl, hw⟩ := DataW.trod_int hu h
      simp only [Lit.wf, Bool.and_eq_true, decide_eq_true_eq] at hw
      refine ⟨.int k b, ?_, ?_, ?_⟩
      · simp only [WT]; exact ⟨b, rfl, hw⟩
      · simp only [cellsOf, VL, V]; exact ⟨_, _, rfl, rfl, rfl⟩
      · rfl
    · cases hk
  | .str, t, n, cs, x, hk, h, hz => by
    simp only [tyOk] at hk
    split at hk
    · rename_i hu
      obtain ⟨s, rfl, rfl, _⟩ := DataW.trod_string hu h
      simp only [DataW.weights, List.all_cons, List.all_nil, Bool.and_true, decide_eq_true_eq, Array.length_toList, reachBytes] at hz
      refine ⟨.str s, ?_, ?_, ?_⟩
      · simp only [WT]; exact ⟨s, rfl, of_decide_eq_true hz⟩
      · simp only [cellsOf, VL, V]; exact ⟨_, _, rfl, rfl, rfl⟩
      · rfl
    · cases hk
  | .slice es bytes e, t, n, cs, x, hk, h, hz => by
    simp only [tyOk] at hk
    split at hk
    · rename_i u hu
      simp only [Bool.and_eq_true, decide_eq_true_eq] at hk
      obtain ⟨⟨⟨⟨hce, hbe⟩, hse⟩, hes⟩, hke⟩ := hk
      rcases DataW.trod_slice hu h with ⟨rfl, rfl⟩ | ⟨a, len, cap, elems, rest, m, rfl, rfl, rfl, _, hlc, hcm, hlen, hel, hsp, _⟩
      · refine ⟨.nils, ?_, ?_, rfl⟩
        · simp only [WT, true_or]
        · simp only [cellsOf, VL, V]; exact ⟨_, _, rfl, rfl, rfl⟩
      · obtain ⟨hrl, hrest⟩ := hsp rfl
        simp only [DataW.weights, hu, List.all_cons, Bool.and_eq_true, decide_eq_true_eq, List.length_map, List.all_append] at hz
        obtain ⟨hz0, hz1, hz2⟩ := hz
        rcases Nat.eq_zero_or_pos cap with h0 | h0
        · subst h0
          obtain rfl : len = 0 := by omega
          refine ⟨.emp, ?_, ?_, rfl⟩
          · simp only [WT, true_or, or_true]
          · simp only [cellsOf, VL, V]; exact ⟨_, _, rfl, ⟨a, rfl⟩, rfl⟩
        · -- a first cell there is
          have hfirst : ∃ cs0, w.cells? 0 a (P.cellsOf u) = some cs0 := by
            rcases Nat.eq_zero_or_pos len with h1 | h1
            · subst h1
              have h2 := hrest 0 (by omega)
              simp only [Nat.add_zero, Nat.zero_mul] at h2
              have h3 : (rest[0]?).isSome := by rw [List.getElem?_eq_getElem (by omega)]; rfl
              rw [← h2] at h3
              cases h4 : w.cells? 0 (a.add 0) (P.cellsOf u) with
              | none => rw [h4] at h3; cases h3
              | some cs0 => exact ⟨cs0, by simpa [Addr.add] using h4⟩
            · have h2 := hel 0 h1
              simp only [Nat.zero_mul] at h2
              have h3 : (elems[0]?).isSome := by rw [List.getElem?_eq_getElem (by omega)]; rfl
              rw [← h2] at h3
              cases h4 : w.cells? 0 (a.add 0) (P.cellsOf u) with
              | none => rw [h4] at h3; cases h3
              | some cs0 => exact ⟨cs0, by simpa [Addr.add] using h4⟩
          obtain ⟨cs0, hcs0⟩ := hfirst
          obtain ⟨hl0, hg0⟩ := cells_get hcs0
          have hspot : a.spot = none := by
            have : ∃ v, cs0[0]? = some v := ⟨_, List.getElem?_eq_getElem (by omega)⟩
            obtain ⟨v, hv⟩ := this
            have := hg0 0 v hv
            exact cell_none (by simpa [Addr.add] using this)
          have hblk : a.block < w.heap.size := World.cells?_block hcs0 (by omega)
          -- each element
          have key : ∀ i, i < len → ∃ y : AVal, WT e y ∧ VE (ctx0 w (allS w)) es y a.block (a.off + i * es) := by
            intro i hi
            have h2 := hel i hi
            have h3 : elems[i]? = some (elems[i]'(by omega)) := List.getElem?_eq_getElem (by omega)
            rw [h3] at h2
            cases h4 : w.cells? 0 (a.add (i * P.cellsOf u)) (P.cellsOf u) with
            | none => rw [h4] at h2; cases h2
            | some cs1 =>
              rw [h4] at h2
              simp only [Option.bind_some] at h2
              obtain ⟨y, hy, hvy, hsy⟩ := trod_wt e u m cs1 _ hke h2 (weights_sub hz1 (List.mem_map_of_mem (List.getElem_mem (by omega))))
              refine ⟨y, hy, VE_of_cells (by omega) ?_⟩
              obtain ⟨_, hg1⟩ := cells_get h4
              refine VC_of_cells hvy fun j v hj => ?_
              have := hg1 j v hj
              show w.cell? _ = _
              have e1 : (a.add (i * P.cellsOf u)).add j = ⟨a.block, a.off + i * es + j, none⟩ := by
                obtain ⟨ab, ao, asp⟩ := a
                simp only at hspot
                subst hspot
                simp only [Addr.add]
                split <;> split <;> simp_all <;> omega
              rw [e1] at this
              exact this
          have hlist : ∀ k, k ≤ len → ∃ ys : List AVal, ys.length = k ∧ (∀ y ∈ ys, WT e y) ∧ VR (ctx0 w (allS w)) es ys a.block a.off := by
            intro k
            induction k with
            | zero => exact fun _ => ⟨[], rfl, (fun _ h => by cases h), by simp only [VR]⟩
            | succ k ih =>
              intro hk'
              obtain ⟨ys, h1, h2, h3⟩ := ih (by omega)
              obtain ⟨y, h4, h5⟩ := key k (by omega)
              refine ⟨ys ++ [y], by simp [h1], ?_, VR.append h3 ?_⟩
              · intro z hz'
                rcases List.mem_append.1 hz' with h | h
                · exact h2 z h
                · simp at h; subst h; exact h4
              · simp only [VR]
                rw [h1]
                exact ⟨h5, trivial⟩
          obtain ⟨ys, h1, h2, h3⟩ := hlist len (Nat.le_refl _)
          refine ⟨.slc es ys, ?_, ?_, rfl⟩
          · simp only [WT]
            refine .inr (.inr ⟨ys, rfl, h2, ?_⟩)
            rw [h1, ← hbe]
            have : len * P.bytesOf u ≤ (elems.length + rest.length) * P.bytesOf u := Nat.mul_le_mul_right _ (by omega)
            simp only [reachBytes] at hz0
            omega
          · simp only [cellsOf, VL, V]
            refine ⟨_, _, rfl, ⟨a.block, a.off, cap, ?_, by omega, .inr hblk, h3⟩, rfl⟩
            obtain ⟨ab, ao, asp⟩ := a
            simp only at hspot
            subst hspot
            rw [h1]
    · cases hk
  | .struct fs, t, n, cs, x, hk, h, hz => by
    simp only [tyOk] at hk
    split at hk
    · rename_i gs hu
      simp only [Bool.and_eq_true, decide_eq_true_eq] at hk
      obtain ⟨xs, m, rfl, rfl, hcl, hxl, hget⟩ := DataW.trod_struct hu h
      simp only [DataW.weights, hu] at hz
      obtain ⟨ps, hp1, hp2, hp3⟩ := fields_wt fs gs.toList 0 m cs (xs.map (·.1)) hk.2 (by rw [hcl, hk.1]; omega)
        (by simp [hxl]) (fun i f hf => by
          have := hget i f (by simpa using hf)
          cases hx : xs[i]? with
          | none =>
            have h1 := List.getElem?_eq_none_iff.1 hx
            have h2 : i < gs.toList.length := by
              rcases Nat.lt_or_ge i gs.toList.length with h' | h'
              · exact h'
              · rw [List.getElem?_eq_none h'] at hf; cases hf
            simp at h2
            omega
          | some y => exact ⟨y, by rw [this, hx], by rw [List.getElem?_map, hx]; rfl⟩)
        (by simpa using hz)
      refine ⟨.agg (ps.flatMap cellsOf), ?_, ?_, ?_⟩
      · simp only [WT]; exact ⟨ps, rfl, hp1⟩
      · simp only [cellsOf]
        have : cs = (cs.drop 0).take (ATy.sizeL fs) := by rw [List.drop_zero, List.take_of_length_le (by omega)]
        rw [this]
        exact hp2
      · simp only [cellsOf, ATy.size]
        exact hp3
    · cases hk
  | .arr k e, t, n, cs, x, hk, h, hz => by
    simp only [tyOk] at hk
    split at hk
    · rename_i mm u hu
      simp only [Bool.and_eq_true, decide_eq_true_eq] at hk
      obtain ⟨⟨⟨rfl, hce⟩, hct⟩, hke⟩ := hk
      obtain ⟨xs, m, rfl, rfl, hcl, hxl, hget⟩ := DataW.trod_array hu h
      simp only [DataW.weights, hu] at hz
      have hlist : ∀ j, j ≤ mm → ∃ ys : List AVal, ys.length = j ∧ (∀ y ∈ ys, WT e y) ∧ VL (ctx0 w (allS w)) (ys.flatMap cellsOf) (cs.take (j * ATy.size e)) ∧ (ys.flatMap cellsOf).length = j * ATy.size e := by
        intro j
        induction j with
        | zero => exact fun _ => ⟨[], rfl, (fun _ h => by cases h), by simp [VL], by simp⟩
        | succ j ih =>
          intro hj
          obtain ⟨ys, h1, h2, h3, h3'⟩ := ih (by omega)
          have hg := hget j (by omega)
          rw [List.getElem?_eq_getElem (by omega)] at hg
          obtain ⟨y, hy, hvy, hsy⟩ := trod_wt e u m _ _ hke hg (weights_sub hz (List.mem_map_of_mem (List.getElem_mem (by omega))))
          refine ⟨ys ++ [y], by simp [h1], ?_, ?_, ?_⟩
          · intro z hz'
            rcases List.mem_append.1 hz' with h | h
            · exact h2 z h
            · simp at h; subst h; exact hy
          · have e1 : cs.take ((j + 1) * ATy.size e) = cs.take (j * ATy.size e) ++ (cs.drop (j * ATy.size e)).take (ATy.size e) := by
              rw [Nat.succ_mul, List.take_add]
            rw [e1, List.flatMap_append]
            refine VL.append h3 ?_
            rw [hce] at hvy
            simpa using hvy
          · simp [h3', hsy, Nat.succ_mul]
      obtain ⟨ys, h1, h2, h3, h4⟩ := hlist mm (Nat.le_refl _)
      refine ⟨.agg (ys.flatMap cellsOf), ?_, ?_, ?_⟩
      · simp only [WT]; exact ⟨ys, rfl, h1, h2⟩
      · simp only [cellsOf]
        rw [List.take_of_length_le (by omega)] at h3
        exact h3
      · simp only [cellsOf, ATy.size]
        exact h4
    · cases hk
theorem fields_wt : ∀ (fs : List ATy) (gs : List Field) (off m : Nat) (cs : List Value) (ds : List (DataW H)), fieldsOk P fs gs off = true → off + ATy.sizeL fs ≤ cs.length → ds.length = gs.length →
    (∀ (i : Nat) (f : Field), gs[i]? = some f → ∃ y, DataW.trod enc P w 0 (fun _ => true) true m f.type ((cs.drop f.offset).take (P.cellsOf f.type)) = some y ∧ ds[i]? = some y.1) →
    (DataW.weightsEach P (gs.map (·.type)) ds).all (· ≤ reachBytes) = true →
    ∃ ps, WTL fs ps ∧ VL (ctx0 w (allS w)) (ps.flatMap cellsOf) ((cs.drop off).take (ATy.sizeL fs)) ∧ (ps.flatMap cellsOf).length = ATy.sizeL fs
  | [], gs, off, m, cs, ds, hk, hl, hd, hget, hz => ⟨[], by simp only [WTL], by simp [ATy.sizeL, VL], by simp [ATy.sizeL]⟩
  | a :: as, [], off, m, cs, ds, hk, hl, hd, hget, hz => by simp [fieldsOk] at hk
  | a :: as, f :: gs, off, m, cs, ds, hk, hl, hd, hget, hz => by
    simp only [fieldsOk, Bool.and_eq_true, decide_eq_true_eq] at hk
    obtain ⟨⟨⟨rfl, hc⟩, hk1⟩, hk2⟩ := hk
    simp only [ATy.sizeL] at hl
    obtain ⟨y, hy1, hy2⟩ := hget 0 f rfl
    cases ds with
    | nil => simp at hd
    | cons d ds =>
      simp at hy2
      subst hy2
      simp only [List.map_cons, DataW.weightsEach, List.all_append, Bool.and_eq_true] at hz
      obtain ⟨p, hp1, hp2, hp3⟩ := trod_wt a f.type m _ y hk1 hy1 hz.1
      obtain ⟨ps, hq1, hq2, hq3⟩ := fields_wt as gs (f.offset + ATy.size a) m cs ds hk2 (by omega) (by simpa using hd) (fun i g hg => by
        obtain ⟨z, hz1, hz2⟩ := hget (i + 1) g (by simpa using hg)
        exact ⟨z, hz1, by simpa using hz2⟩) hz.2
      refine ⟨p :: ps, ?_, ?_, ?_⟩
      · simp only [WTL]; exact ⟨p, ps, rfl, hp1, hq1⟩
      · simp only [ATy.sizeL, List.flatMap_cons]
        rw [List.take_add, List.drop_drop]
        rw [hc] at hp2
        exact VL.append hp2 hq2
      · simp [ATy.sizeL, hp3, hq3]
end

/-- An argument of a call. -/
theorem arg_wt {ty : ATy} {t : TypeId} {v : Value} {d : DataW H} {ps : List MemPlace} {base : Nat} {r : Reach} (hk : tyOk P ty t = true) (hv : Value.okWide P w r base t v) (h : DataW.Trod enc P w 0 (fun _ => true) true t v d ps)
    (hz : (d.weights P t).all (· ≤ reachBytes) = true) : ∃ a, WT ty a ∧ V (ctx0 w (allS w)) a v := by
  obtain ⟨n, h⟩ := h
  obtain ⟨a, h1, h2, h3⟩ := trod_wt ty t n _ _ hk h hz
  refine ⟨a, h1, ?_⟩
  have hsc : isAggTy ty = false → v.cells.toList = [v] → V (ctx0 w (allS w)) a v := by
    intro e1 e2
    rw [h1.cells e1, e2] at h2
    simp only [VL, List.cons.injEq] at h2
    obtain ⟨v', r, ⟨rfl, _⟩, h, _⟩ := h2
    exact h
  have hag : ∀ cs, v = .agg cs → ∀ xs, a = .agg xs → V (ctx0 w (allS w)) a v := by
    rintro cs rfl xs rfl
    simp only [V]
    exact ⟨cs.toList, by simp, by simpa [cellsOf, Value.cells] using h2⟩
  cases ty with
  | bool =>
    simp only [tyOk] at hk
    split at hk
    · rename_i hu
      obtain ⟨b, rfl⟩ := okWide_bool hu hv
      exact hsc rfl rfl
    · cases hk
  | int k =>
    simp only [tyOk] at hk
    split at hk
    · rename_i k' hu
      obtain ⟨b, rfl⟩ := okWide_int hu hv
      exact hsc rfl rfl
    · cases hk
  | str =>
    simp only [tyOk] at hk
    split at hk
    · rename_i hu
      obtain ⟨b, rfl⟩ := okWide_string hu hv
      exact hsc rfl rfl
    · cases hk
  | slice es bytes e =>
    simp only [tyOk] at hk
    split at hk
    · rename_i u hu
      obtain ⟨b, l, c, rfl⟩ := okWide_slice hu hv
      exact hsc rfl rfl
    · cases hk
  | struct fs =>
    simp only [tyOk] at hk
    split at hk
    · rename_i gs hu
      obtain ⟨cs, rfl, _⟩ := okWide_struct hu hv
      simp only [WT] at h1
      obtain ⟨ps, rfl, _⟩ := h1
      exact hag _ rfl _ rfl
    · cases hk
  | arr k e =>
    simp only [tyOk] at hk
    split at hk
    · rename_i m u hu
      simp only [Value.okWide, hu] at hv
      obtain ⟨cs, rfl, _⟩ := hv
      simp only [WT] at h1
      obtain ⟨ps, rfl, _⟩ := h1
      exact hag _ rfl _ rfl
    · cases hk

def tysOk (P : Program) : List ATy → List TypeId → Bool
  | [], [] => true
  | a :: as, t :: ts => tyOk P a t && tysOk P as ts
  | _, _ => false

theorem args_wt : ∀ {tys : List ATy} {ts : List TypeId} {vs : List Value} {ds : List (DataW H)} {ps : List MemPlace} {base : Nat}, tysOk P tys ts = true →
    (∀ (j : Nat) t v, ts[j]? = some t → vs[j]? = some v → Value.okWide P w .any base t v) → DataW.TrodAll enc P w 0 (fun _ => true) true ts vs ds ps →
    (DataW.weightsEach P ts ds).all (· ≤ reachBytes) = true → ∃ as, WTL tys as ∧ VL (ctx0 w (allS w)) as vs
  | [], [], vs, ds, ps, base, hk, hv, h, hz => by
    obtain ⟨rfl, _, _⟩ := trodAll_nil h
    exact ⟨[], by simp only [WTL], by simp only [VL]⟩
  | [], _ :: _, vs, ds, ps, base, hk, hv, h, hz => by simp [tysOk] at hk
  | _ :: _, [], vs, ds, ps, base, hk, hv, h, hz => by simp [tysOk] at hk
  | ty :: tys, t :: ts, vs, ds, ps, base, hk, hv, h, hz => by
    simp only [tysOk, Bool.and_eq_true] at hk
    obtain ⟨v, vs', d, ds', p, q, rfl, rfl, rfl, h1, h2⟩ := trodAll_cons h
    simp only [DataW.weightsEach, List.all_append, Bool.and_eq_true] at hz
    obtain ⟨a, ha, hva⟩ := arg_wt hk.1 (hv 0 t v rfl rfl) h1 hz.1
    obtain ⟨as, has, hvas⟩ := args_wt hk.2 (fun j t v ht hv' => hv (j + 1) t v (by simpa using ht) (by simpa using hv')) h2 hz.2
    refine ⟨a :: as, ?_, ?_⟩
    · simp only [WTL]; exact ⟨a, as, rfl, ha, has⟩
    · simp only [VL]; exact ⟨v, vs', rfl, hva, hvas⟩

/-- All arguments read behind the call as they did. -/
theorem trodAll_below (hl : laidOutB P = true) : ∀ {ts : List TypeId} (hr : ts.all (fun t => P.readableRec t && decide (t < P.types.size)) = true) {W W' : World} {vs : List Value} {ds : List (DataW H)} {ps : List MemPlace},
    DataW.TrodAll enc P W 0 (fun _ => true) true ts vs ds ps → Below W.heap.size W W' → DataW.TrodAll enc P W' 0 (fun b => decide (b < W.heap.size)) true ts vs ds ps
  | [], hr, W, W', vs, ds, ps, h, hb => by
    obtain ⟨rfl, rfl, rfl⟩ := trodAll_nil h
    exact trodAll_mk0
  | t :: ts, hr, W, W', vs, ds, ps, h, hb => by
    simp only [List.all_cons, Bool.and_eq_true, decide_eq_true_eq] at hr
    obtain ⟨v, vs', d, ds', p, q, rfl, rfl, rfl, h1, h2⟩ := trodAll_cons h
    refine trodAll_cons_mk (Below.trod hl hr.1.1 hr.1.2 h1 hb ?_) (trodAll_below hl hr.2 h2 hb)
    obtain ⟨m, hm⟩ := h1
    exact fun x hx => DataW.trod_lt m _ _ _ hm x hx
end

/-- What a world that fits says of its shape goes along with what its row takes as laid. -/
theorem returns_of_laid_shaped {H : Type} {enc : TypeId × Value → H} {a : Assume} {C : Checked} {os : Os} {f : FuncId} {fn : Func} {s : ChangeSpec} {conds : List PathCond} {apart fresh handsOn again : Bool} {X : World → Array Value → Prop}
    (hX : ∀ (w w' : World) (args : Array Value), w.heap = w'.heap → X w args → X w' args)
    (own : ownKnob C.prog.godebug = none) (started : os.Started) (noInit : C.prog.inits.idxOf? f = none) (hfn : C.prog.funcs[f]? = some fn)
    (witness : ∃ (w : World) (tape : Tape) (i : Input), w.os = os ∧ (w.forCall tape i).Shaped C.prog ∧ i.vars = [] ∧ Input.okWide C.prog (w.forCall tape i) .any w.heap.size f i ∧
      ((s.pre enc C.prog fn conds apart (w.forCall tape i).memory i.args ∧ X (w.forCall tape i).memory i.args) ∧ sizedMet enc C.prog fn (OpenSpec.ofChange s) apart (w.forCall tape i).memory i.args) ∧ a.holds C.prog (lone (Frame.enter C.prog f i.args .normal) [] (w.forCall tape i)))
    (contract : ∀ (W : World) (base : Nat) (args : Array Value) (ds gs : List (DataW H)) (before : List MemPlace),
      (∀ (j : Nat) t v, fn.params[j]? = some t → args[j]? = some v → Value.okWide C.prog W .any base t v) →
      DataW.Whole enc C.prog fn.params.toList s.vars apart W args.toList ds gs before →
      conds.all (PathCond.test C.prog ⟨fn.params.toList, ds, s.plain.varTypes C.prog, gs⟩) = true →
      (DataW.weightsEach C.prog (fn.params.toList ++ s.plain.varTypes C.prog) (ds ++ gs)).all (· ≤ reachBytes) = true → X W args → W.ShapedOpen C.prog →
      a.holds C.prog (lone (Frame.enter C.prog f args .normal) [] W) →
      Calls C.prog f args W fun e W' => ∃ v, e = .returned v ∧ s.post enc C.prog fn apart fresh handsOn again W args v W') :
    ReturnsInHanded a C os f .any (fun w args => (s.pre enc C.prog fn conds apart w args ∧ X w args) ∧ sizedMet enc C.prog fn (OpenSpec.ofChange s) apart w args) (s.post enc C.prog fn apart fresh handsOn again) := by
  refine returnsInHanded_of_calls own started noInit witness ?_
  intro w tape i _ hsh _ hok hpre hholds
  obtain ⟨_, _, _, fn', hfn', _, _, _, _, hval⟩ := hok
  have e : fn' = fn := Option.some.inj (hfn'.symm.trans hfn)
  subst e
  obtain ⟨⟨⟨ds, gs, before, hw, hc⟩, hx⟩, hz⟩ := hpre
  have hw' := DataW.Whole.of_heap (w' := w.forCall tape i) (by rfl) hw
  refine (contract (w.forCall tape i) w.heap.size i.args ds gs before hval hw' hc (hz.weights hw) (hX _ _ _ (by rfl) hx) hsh hholds).mono fun e W' ⟨v, he, hp⟩ => ?_
  subst he
  exact ChangeSpec.post_blind hp

/-- A law's row: what it says of a call, out of what the interpreter's text of it answers. -/
theorem law_post {H : Type} {enc : TypeId × Value → H} {C : Cfg} {P : Program} {f : FuncId} {fn : Func} {x : XFunc} {s : ChangeSpec} {d : Nat} {tys : List ATy} {tb : TypeId} (ok : CfgOk P C) (hx : C.xf f = some x) (hfn : P.funcs[f]? = some fn)
    (hvars : s.vars = []) (hres : fn.resultTypes = #[tb]) (htb : P.underlying tb = some .bool) (hspec : ∀ ds : List (DataW H), ds.length = fn.params.size → (s.fn H ds).results = [.lit (.bool true)] ∧ (s.fn H ds).args = ds ∧ (s.fn H ds).vars = [])
    (hlaid : laidOutB P = true) (hr : fn.params.toList.all (fun t => P.readableRec t && decide (t < P.types.size)) = true) (hty : tysOk P tys fn.params.toList = true)
    (hlaw : ∀ as, WTL tys as → pureF C d f as = some (.bool true))
    {W : World} {base : Nat} {args : Array Value} {ds gs : List (DataW H)} {before : List MemPlace} (hLd : Laid P W)
    (hval : ∀ (j : Nat) t v, fn.params[j]? = some t → args[j]? = some v → Value.okWide P W .any base t v)
    (hW : DataW.Whole enc P fn.params.toList s.vars false W args.toList ds gs before)
    (hsz : (DataW.weightsEach P (fn.params.toList ++ s.plain.varTypes P) (ds ++ gs)).all (· ≤ reachBytes) = true) :
    Calls P f args W fun e W' => ∃ v, e = .returned v ∧ s.post enc P fn false true false false W args v W' := by
  have hW' := hW
  obtain ⟨p, q, hA, hV, rfl, hfz, hnd⟩ := hW
  rw [hvars] at hV
  obtain ⟨rfl, rfl⟩ := trodVars_none hV
  have hlen : ∀ {ts : List TypeId} {vs : List Value} {ds : List (DataW H)} {ps : List MemPlace}, DataW.TrodAll enc P W 0 (fun _ => true) true ts vs ds ps → ds.length = ts.length := by
    intro ts
    induction ts with
    | nil => intro vs ds ps h; obtain ⟨_, rfl, _⟩ := trodAll_nil h; rfl
    | cons t ts ih => intro vs ds ps h; obtain ⟨v, vs', d, ds', p, q, rfl, rfl, rfl, h1, h2⟩ := trodAll_cons h; simp [ih h2]
  have hwe : (DataW.weightsEach P fn.params.toList ds).all (· ≤ reachBytes) = true := by
    have e : ∀ (ts : List TypeId) (ds : List (DataW H)) (us : List TypeId), ds.length = ts.length → DataW.weightsEach P (ts ++ us) ds = DataW.weightsEach P ts ds := by
      intro ts
      induction ts with
      | nil => intro ds us h; cases ds with
        | nil => cases us <;> simp [DataW.weightsEach]
        | cons => simp at h
      | cons t ts ih => intro ds us h; cases ds with
        | nil => simp at h
        | cons d ds => simp only [List.cons_append, DataW.weightsEach]; rw [ih ds us (by simpa using h)]
    rw [List.append_nil, e _ _ _ (hlen hA)] at hsz
    exact hsz
  obtain ⟨as, has, hvas⟩ := args_wt hty (fun j t v ht hv => hval j t v (by simpa using ht) (by simpa using hv)) hA hwe
  have hp := hlaw as has
  classical
  have hs : Sound P f (fun bs => if bs = as then some (.bool true) else none) := sound_of ok d fun bs r h => by
    split at h
    · rename_i e; subst e; cases h; exact hp
    · cases h
  have hg := hs as (.bool true) (by simp) W (allS W) args.toList (fun _ h => h) hLd hvas
  have hcalls : Calls P f args W fun e w' => ∃ v, e = .returned v ∧ (W.heap.size ≤ w'.heap.size ∧ (∀ b, b < W.heap.size → w'.heap[b]? = W.heap[b]?) ∧ SameEnv W w' ∧ V (ctx0 w' fun b => allS W b ∨ (W.heap.size ≤ b ∧ b < w'.heap.size)) (.bool true) v) := by
    rcases hg with ⟨_, h⟩ | ⟨v, w', h1, _⟩
    · exact h
    · exfalso
      obtain ⟨fn', hfn', hck⟩ := ok.xf f x hx
      unfold chkF at hck
      simp only [Bool.and_eq_true, Bool.not_eq_true', beq_iff_eq, decide_eq_true_eq] at hck
      obtain ⟨⟨⟨⟨⟨hname, hnt⟩, hnp⟩, hle⟩, hres⟩, hbody⟩ := hck
      cases hb : fn'.body with
      | none => rw [hb] at hbody; cases hbody
      | some c =>
        have hrun : (callFunc f args.toList.toArray).run P W = .ok (.enter f args.toList.toArray) W := by
          simp only [callFunc, Sem.run_bind, run_program, Result.andThen_ok, hfn', hname, hb]
          simp
        rw [hrun] at h1
        cases h1
  refine hcalls.mono fun e W' ⟨v, he, hsize, hbel, henv, hv⟩ => ?_
  have hv' := V_bool hv
  subst hv'
  have bel : Below W.heap.size W W' := ⟨henv.1, henv.2.1, henv.2.2, hsize, hbel⟩
  obtain ⟨e1, e2, e3⟩ := hspec ds (by rw [hlen hA]; simp)
  refine ⟨.bool true, he, ds, [], _, [], p, [], hW', ?_, ?_, ?_, bel.frame _, fun h => by cases h⟩
  · rw [List.append_nil, e1, hres]
    exact trodAll_mk1 (shut_bool htb _)
  · rw [List.append_nil, e2]
    exact trodAll_below hlaid hr hA bel
  · rw [List.append_nil, e3, hvars]
    rfl

end Go.Xec
