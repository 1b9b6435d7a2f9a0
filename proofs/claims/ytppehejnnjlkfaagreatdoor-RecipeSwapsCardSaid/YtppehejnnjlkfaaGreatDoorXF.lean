/-
  '==' of structs, values that are built; cells that are read and written.
-/
import Derived.Test.YtppehejnnjlkfaaGreatDoorXE
import Derived.Laws.StructEq
set_option linter.unusedVariables false
set_option linter.unusedSimpArgs false
namespace Go.Xec
open Go

section
variable {P : Program} {B : Nat} {S0 : Base} {ρc : Operand → Value} {o : Oper} {x : Ctx} {h : Heap} {nc : Nat} {key : Key} {e : XArg → AVal}

/-! ### '==' of structs -/
theorem VL.split {x : Ctx} : ∀ {as bs : List AVal} {vs : List Value}, VL x (as ++ bs) vs → VL x as (vs.take as.length) ∧ VL x bs (vs.drop as.length)
  | [], bs, vs, h => by simpa [VL] using h
  | a :: as, bs, vs, h => by
    simp only [List.cons_append, VL] at h
    obtain ⟨v, r, rfl, h1, h2⟩ := h
    obtain ⟨h3, h4⟩ := VL.split h2
    simp only [List.length_cons, List.take_succ_cons, List.drop_succ_cons, VL]
    exact ⟨⟨v, _, rfl, h1, h3⟩, h4⟩

theorem eqCells_append : ∀ (ks ls : List Nat) (xs ys : List AVal) (b : Bool), eqCells (ks ++ ls) xs ys = some b →
    ∃ b1 b2, eqCells ks (xs.take ks.length) (ys.take ks.length) = some b1 ∧ eqCells ls (xs.drop ks.length) (ys.drop ks.length) = some b2 ∧ b = (b1 && b2) ∧ ks.length ≤ xs.length ∧ ks.length ≤ ys.length
  | [], ls, xs, ys, b, h => ⟨true, b, by simp [eqCells], by simpa using h, by simp, by simp, by simp⟩
  | k :: ks, ls, [], ys, b, h => by simp [eqCells] at h
  | k :: ks, ls, x :: xs, [], b, h => by simp [eqCells] at h
  | k :: ks, ls, x :: xs, y :: ys, b, h => by
    simp only [List.cons_append, eqCells] at h
    cases h1 : eq1 k x y with
    | none => rw [h1] at h; cases h
    | some a =>
      cases h2 : eqCells (ks ++ ls) xs ys with
      | none => rw [h1, h2] at h; cases h
      | some c =>
        rw [h1, h2] at h
        simp only [Option.some.injEq] at h
        obtain ⟨b1, b2, e1, e2, e3, e4, e5⟩ := eqCells_append ks ls xs ys c h2
        refine ⟨a && b1, b2, ?_, by simpa using e2, by rw [← h, e3, Bool.and_assoc], by simpa using e4, by simpa using e5⟩
        simp only [List.length_cons, List.take_succ_cons, eqCells, h1, e1]

/-- What '==' of a type's values comes to: 'vs', 'us' their cells. -/
def EqTy (P : Program) (d : Nat) (t : TypeId) (ks : List Nat) : Prop :=
  ∀ (x : Ctx) (D : Nat) (w : World) (xs ys : List AVal) (vs us : Array Value) (off : Nat) (b : Bool), VL x xs ((vs.toList.drop off).take ks.length) → VL x ys ((us.toList.drop off).take ks.length) → eqCells ks xs ys = some b →
    ∃ va vb, (part t vs off).run P w = .ok va w ∧ (part t us off).run P w = .ok vb w ∧ (Op.equalIn (D + d) t va vb).run P w = .ok b w

theorem eqFields_ok {d : Nat} {one : TypeId → Option (List Nat)} (hone : ∀ t ks, one t = some ks → EqTy P d t ks) : ∀ (fs : List Field) (off : Nat) (ks : List Nat), kindsF one fs off = some ks →
    ∀ (x : Ctx) (D : Nat) (w : World) (xs ys : List AVal) (vs us : Array Value) (b : Bool), VL x xs ((vs.toList.drop off).take ks.length) → VL x ys ((us.toList.drop off).take ks.length) → eqCells ks xs ys = some b →
      (Op.eqFields (D + d) vs us fs).run P w = .ok b w
  | [], off, ks, hk, x, D, w, xs, ys, vs, us, b, hx, hy, hb => by
    simp only [kindsF, Option.some.injEq] at hk
    subst hk
    cases xs <;> cases ys <;> simp [eqCells] at hb
    subst hb
    simp [Op.eqFields]
  | f :: fs, off, ks, hk, x, D, w, xs, ys, vs, us, b, hx, hy, hb => by
    simp only [kindsF] at hk
    split at hk
    · cases hk
    · rename_i hname
      split at hk
      · rename_i hoff
        split at hk
        · rename_i ks1 h1
          split at hk
          · rename_i r h2
            · cases hk
              obtain ⟨b1, b2, e1, e2, e3, e4, e5⟩ := eqCells_append _ _ _ _ _ hb
              have lx := hx.length
              have ly := hy.length
              have hx' : VL x (xs.take ks1.length) ((vs.toList.drop off).take ks1.length) := by
                have := hx.take ks1.length
                rw [List.take_take, Nat.min_eq_left (by simp)] at this
                exact this
              have hy' : VL x (ys.take ks1.length) ((us.toList.drop off).take ks1.length) := by
                have := hy.take ks1.length
                rw [List.take_take, Nat.min_eq_left (by simp)] at this
                exact this
              obtain ⟨va, vb, p1, p2, p3⟩ := hone _ _ h1 x D w _ _ vs us off b1 hx' hy' e1
              have hx'' : VL x (xs.drop ks1.length) ((vs.toList.drop (off + ks1.length)).take r.length) := by
                have := hx.drop ks1.length
                rw [List.drop_take, List.drop_drop] at this
                simpa using this
              have hy'' : VL x (ys.drop ks1.length) ((us.toList.drop (off + ks1.length)).take r.length) := by
                have := hy.drop ks1.length
                rw [List.drop_take, List.drop_drop] at this
                simpa using this
              have ih := eqFields_ok hone fs (off + ks1.length) r h2 x D w _ _ vs us b2 hx'' hy'' e2
              rw [Op.eqFields]
              subst hoff
              simp only [ne_eq, hname, not_false_eq_true, if_true, Sem.run_bind, p1, p2, p3, Result.andThen_ok]
              subst e3
              cases b1
              · simp
              · simpa using ih
          · cases hk
        · cases hk
      · cases hk

theorem part_cell {t : TypeId} {d : TypeDesc} (hu : P.underlying t = some d) (hd : isAggD d = false) {vs : Array Value} {off : Nat} {v : Value} (hv : vs[off]? = some v) (w : World) : (part t vs off).run P w = .ok v w := by
  have ha : aggOf P t = some false := by unfold aggOf; rw [hu]; simp [hd]
  simp only [part, Sem.run_bind, aggOf_run ha, Result.andThen_ok, Bool.false_eq_true, if_false, hv, Sem.run_pure]

theorem VL.head {x : Ctx} {a : AVal} {l : List Value} (h : VL x [a] l) : ∃ v, l = [v] ∧ V x a v := by
  simp only [VL] at h
  obtain ⟨v, r, rfl, h1, rfl⟩ := h
  exact ⟨v, rfl, h1⟩

theorem one_of_take {vs : Array Value} {off : Nat} {v : Value} (h : (vs.toList.drop off).take 1 = [v]) : vs[off]? = some v := by
  have : ((vs.toList.drop off).take 1)[0]? = some v := by rw [h]; rfl
  rw [List.getElem?_take] at this
  simpa using this

theorem part_agg {t : TypeId} {n : Nat} (ha : aggOf P t = some true) (hn : szOf P t = some n) (vs : Array Value) (off : Nat) (w : World) : (part t vs off).run P w = .ok (.agg (vs.extract off (off + n))) w := by
  simp only [part, Sem.run_bind, aggOf_run ha, Result.andThen_ok, szOf_run hn, if_true, Sem.run_pure]

theorem eqCells_len : ∀ (ks : List Nat) (xs ys : List AVal) (b : Bool), eqCells ks xs ys = some b → xs.length = ks.length ∧ ys.length = ks.length
  | [], [], [], b, h => ⟨rfl, rfl⟩
  | [], [], _ :: _, b, h => by simp [eqCells] at h
  | [], _ :: _, _, b, h => by simp [eqCells] at h
  | _ :: _, [], _, b, h => by simp [eqCells] at h
  | _ :: _, _ :: _, [], b, h => by simp [eqCells] at h
  | k :: ks, x :: xs, y :: ys, b, h => by
    simp only [eqCells] at h
    cases h1 : eq1 k x y with
    | none => rw [h1] at h; cases h
    | some a =>
      cases h2 : eqCells ks xs ys with
      | none => rw [h1, h2] at h; cases h
      | some c =>
        obtain ⟨e1, e2⟩ := eqCells_len ks xs ys c h2
        simp [e1, e2]

theorem eq1_ok {x : Ctx} {k : Nat} {a c : AVal} {v u : Value} {b : Bool} (h : eq1 k a c = some b) (hv : V x a v) (hu : V x c u) (D : Nat) {t : TypeId} (w : World)
    (ht : (k = 0 ∧ ∃ j, P.underlying t = some (.int j)) ∨ (k = 1 ∧ P.underlying t = some .bool) ∨ (k = 2 ∧ P.underlying t = some .string)) : (Op.equalIn (D + 1) t v u).run P w = .ok b w := by
  unfold eq1 at h
  split at h
  · have hv := V_int hv
    have hu := V_int hu
    split at h
    · rename_i hk
      cases h
      subst hk
      rcases ht with ⟨_, j, ht⟩ | ⟨e, _⟩ | ⟨e, _⟩
      · rw [hv, hu, run_equalIn_int (P := P) w D t _ _ _ _ ht]
      · cases e
      · cases e
    · cases h
  · have hv := V_bool hv
    have hu := V_bool hu
    cases h
    rcases ht with ⟨e, _⟩ | ⟨_, ht⟩ | ⟨e, _⟩
    · cases e
    · rw [hv, hu, equalIn_bool D ht]
    · cases e
  · have hv := V_str hv
    have hu := V_str hu
    cases h
    rcases ht with ⟨e, _⟩ | ⟨e, _⟩ | ⟨_, ht⟩
    · cases e
    · cases e
    · rw [hv, hu, run_equalIn_string (P := P) w D t _ _ ht]
  · cases h

theorem eqTy_scalar {t : TypeId} {k d : Nat} {dd : TypeDesc} (hu : P.underlying t = some dd) (hd : isAggD dd = false)
    (ht : (k = 0 ∧ ∃ j, P.underlying t = some (.int j)) ∨ (k = 1 ∧ P.underlying t = some .bool) ∨ (k = 2 ∧ P.underlying t = some .string)) : EqTy P (d + 1) t [k] := by
  intro x D w xs ys vs us off b hx hy hb
  obtain ⟨l1, l2⟩ := eqCells_len _ _ _ _ hb
  match xs, ys, l1, l2 with
  | [a], [c], _, _ =>
    obtain ⟨v, ev, hv⟩ := VL.head hx
    obtain ⟨u, eu, hu'⟩ := VL.head hy
    simp only [eqCells] at hb
    cases hq : eq1 k a c with
    | none => rw [hq] at hb; cases hb
    | some b' =>
      rw [hq] at hb
      simp only [Bool.and_true, Option.some.injEq] at hb
      subst hb
      exact ⟨v, u, part_cell hu hd (one_of_take ev) w, part_cell hu hd (one_of_take eu) w, eq1_ok hq hv hu' (D + d) w ht⟩

theorem kinds_ok : ∀ (d : Nat) (t : TypeId) (ks : List Nat), kinds P d t = some ks → EqTy P d t ks
  | 0, t, ks, hk => by simp [kinds] at hk
  | d + 1, t, ks, hk => by
    simp only [kinds] at hk
    split at hk
    · rename_i k hu; cases hk; exact eqTy_scalar hu rfl (.inl ⟨rfl, _, hu⟩)
    · rename_i hu; cases hk; exact eqTy_scalar hu rfl (.inr (.inl ⟨rfl, hu⟩))
    · rename_i hu; cases hk; exact eqTy_scalar hu rfl (.inr (.inr ⟨rfl, hu⟩))
    · rename_i fs hu
      split at hk
      · cases hk
      · rename_i hst
        split at hk
        · rename_i ks' hf
          split at hk
          · rename_i hsz
            cases hk
            intro x D w xs ys vs us off b hx hy hb
            have hag : aggOf P t = some true := by unfold aggOf; rw [hu]; rfl
            refine ⟨_, _, part_agg hag hsz vs off w, part_agg hag hsz us off w, ?_⟩
            have hfo : P.fieldsOf t = fs := by simp [Program.fieldsOf, hu]
            rw [show D + (d + 1) = (D + d) + 1 from rfl, run_equalIn_struct (P := P) w (D + d) t _ _ (by rw [hfo]; exact hu) (by simpa using hst), hfo]
            have sh : ∀ (zs : Array Value), (zs.extract off (off + ks.length)).toList = (zs.toList.drop off).take ks.length := by
              intro zs; simp [List.extract_eq_take_drop]
            refine eqFields_ok (kinds_ok d) fs.toList 0 ks hf x D w xs ys _ _ b ?_ ?_ hb
            · rw [sh, List.drop_zero, List.take_take, Nat.min_self]; exact hx
            · rw [sh, List.drop_zero, List.take_take, Nat.min_self]; exact hy
          · cases hk
        · cases hk
    · cases hk

theorem kinds_struct {d : Nat} {t : TypeId} {ks : List Nat} {fs : Array Field} (hk : kinds P (d + 1) t = some ks) (ht : P.underlying t = some (.struct fs)) : szOf P t = some ks.length := by
  simp only [kinds, ht] at hk
  split at hk
  · cases hk
  · split at hk
    · split at hk
      · rename_i hsz
        cases hk
        exact hsz
      · cases hk
    · cases hk

theorem ok_eqA (hs : Sim B S0 h nc x) {neg : Bool} {op : BinOp} {t yt : TypeId} {a b : Operand} {xs ys : List AVal} {ks : List Nat} {r : Bool} {fs : Array Field} (hop : o.op = .binOp op t a b yt) (hn : op = if neg then .neq else .eql) (ha : V x (.agg xs) (ρc a)) (hb : V x (.agg ys) (ρc b))
    (ht : P.underlying t = some (.struct fs)) (hk : kinds P 20 t = some ks) (hg : P.eqGuardType P.depth t = false) (hr : eqCells ks xs ys = some r) : OpOk P B S0 ρc o x (applyW h []) nc key (.bool (if neg then !r else r)) := by
  simp only [V] at ha hb
  obtain ⟨vs, ha, hl⟩ := ha
  obtain ⟨us, hb, hl'⟩ := hb
  obtain ⟨l1, l2⟩ := eqCells_len _ _ _ _ hr
  have hag : aggOf P t = some true := by unfold aggOf; rw [ht]; rfl
  have hsz := kinds_struct hk ht
  have e1 : vs.length = ks.length := by rw [hl.length, l1]
  have e2 : us.length = ks.length := by rw [hl'.length, l2]
  obtain ⟨va, vb, p1, p2, p3⟩ := kinds_ok 20 t ks hk x 9980 x.w xs ys vs.toArray us.toArray 0 r (by simp [← e1]; exact hl) (by simp [← e2]; exact hl') hr
  rw [part_agg hag hsz] at p1 p2
  cases p1; cases p2
  have q1 : vs.toArray.extract 0 (0 + ks.length) = vs.toArray := by simp [← e1]
  have q2 : us.toArray.extract 0 (0 + ks.length) = us.toArray := by simp [← e2]
  rw [q1, q2] at p3
  have hv := run_eq_of (P := P) (neg := neg) (op := op) (t := t) (a := a) (b := b) (va := .agg vs.toArray) (vb := .agg us.toArray) (r := r) x.w hn (.inr (.inr (.inr (.inr ⟨_, rfl⟩))))
    (by cases neg <;> subst hn <;> simp [eqGuard, hg]) p3 (by simp) (by simp) (by simp) (by simp) (by simp)
  refine pureOk hs (u := .bool (if neg then !r else r)) ?_ (by simp only [V])
  simp only [execOp, hop, ha, hb]
  rw [Sem.run_bind, hv, Result.andThen_ok, Sem.run_pure]

/-! ### values that are built -/
def spliceV (cs : List Value) (off : Nat) (new : List Value) : List Value := cs.take off ++ (new ++ cs.drop (off + new.length))
theorem VL_splice {x : Ctx} {cs new : List AVal} {vs us : List Value} (off : Nat) (h : VL x cs vs) (h' : VL x new us) : VL x (splice cs off new) (spliceV vs off us) := by
  unfold splice spliceV
  rw [h'.length]
  exact (h.take off).append (h'.append (h.drop _))
theorem splice_length {cs new : List AVal} {off : Nat} (h : off + new.length ≤ cs.length) : (splice cs off new).length = cs.length := by
  simp [splice]; omega

theorem list_set_splice (l : List Value) (off : Nat) (v : Value) (r : List Value) (h : off + (r.length + 1) ≤ l.length) : spliceV (l.set off v) (off + 1) r = spliceV l off (v :: r) := by
  unfold spliceV
  have h1 : (l.set off v).take (off + 1) = l.take off ++ [v] := by
    apply List.ext_getElem?
    intro j
    simp only [List.getElem?_take, List.getElem?_append, List.length_take, List.getElem?_set]
    by_cases hj : j < off
    · have : ¬ off = j := by omega
      have h2 : j < off + 1 := by omega
      have h3 : j < min off l.length := by omega
      simp [hj, h2, h3, this]
    · by_cases he : j = off
      · subst he
        have : min j l.length = j := by omega
        have hjl : j < l.length := by omega
        simp [this, hjl]
      · have : min off l.length = off := by omega
        have h3 : ¬ j < off + 1 := by omega
        simp [hj, this, h3]
        omega
  have h2 : (l.set off v).drop (off + 1 + r.length) = l.drop (off + (v :: r).length) := by
    apply List.ext_getElem?
    intro j
    simp only [List.getElem?_drop, List.getElem?_set, List.length_cons]
    have : ¬ off = off + 1 + r.length + j := by omega
    simp [this]
    congr 1
    omega
  rw [h1, h2]
  simp

theorem foldl_set (off : Nat) : ∀ (us : List Value) (i : Nat) (arr : Array Value), off + i + us.length ≤ arr.size →
    (us.zipIdx i).foldl (fun (cs : Array Value) (p : Value × Nat) => cs.setIfInBounds (off + p.2) p.1) arr = (spliceV arr.toList (off + i) us).toArray
  | [], i, arr, _ => by simp [spliceV]
  | u :: us, i, arr, h => by
    simp only [List.zipIdx_cons, List.foldl_cons]
    rw [foldl_set off us (i + 1) _ (by simp at h ⊢; omega)]
    congr 1
    rw [show off + (i + 1) = off + i + 1 by omega, Array.toList_setIfInBounds, list_set_splice _ _ _ _ (by simp at h ⊢; omega)]

theorem fill_step (vcells : Array Value) (cells : Array Value) (off : Nat) (h : off + vcells.size ≤ cells.size) :
    (vcells.zipIdx.foldl (fun cs (c, j) => cs.setIfInBounds (off + j) c) cells) = (spliceV cells.toList off vcells.toList).toArray := by
  have := foldl_set off vcells.toList 0 cells (by simpa using h)
  rw [← Array.foldl_toList, Array.toList_zipIdx]
  simpa using this

/-- The cells of a value. -/
theorem V_cells {x : Ctx} {a : AVal} {u : Value} (h : V x a u) (hne : ∀ xs, a ≠ .tup xs) (hany : a ≠ .any) : VL x (cellsOf a) u.cells.toList := by
  cases a <;> first
    | (simp only [V] at h; obtain ⟨cs, rfl, hl⟩ := h; simpa [cellsOf, Value.cells] using hl)
    | exact absurd rfl (hne _)
    | exact absurd rfl hany
    | skip
  all_goals
    simp only [cellsOf, VL]
    refine ⟨u, [], ?_, h, rfl⟩
    simp only [V] at h
  case undef => rw [h]; rfl
  case bool => rw [h]; rfl
  case int => rw [h]; rfl
  case str => rw [h]; rfl
  case nilp => rw [h]; rfl
  case ptr => obtain ⟨b, oo, _, h⟩ := h; rw [h]; rfl
  case pvo => obtain ⟨b, oo, h, _⟩ := h; rw [h]; rfl
  case nils => rw [h]; rfl
  case emp => obtain ⟨b, h⟩ := h; rw [h]; rfl
  case slc => obtain ⟨b, oo, cap, h, _⟩ := h; rw [h]; rfl
  case sl => obtain ⟨b, oo, ad, cap, _, h, _⟩ := h; rw [h]; rfl
  case nili => rw [h]; rfl
  case ifc => obtain ⟨b, h, _⟩ := h; rw [h]; rfl
  case nilf => rw [h]; rfl
  case fn => obtain ⟨b, c, h, _⟩ := h; rw [h]; rfl
  case mp => obtain ⟨b, _, h⟩ := h; rw [h]; rfl

theorem V_sc {x : Ctx} {a : AVal} {u : Value} (h : V x a u) (hsc : isSc a = true) : u.oneCell' = true ∧ u.cells = #[u] := by
  cases a <;> simp only [isSc, Bool.false_eq_true] at hsc <;> simp only [V] at h
  case bool => subst h; exact ⟨rfl, rfl⟩
  case int => subst h; exact ⟨rfl, rfl⟩
  case str => subst h; exact ⟨rfl, rfl⟩
  case nilp => subst h; exact ⟨rfl, rfl⟩
  case ptr => obtain ⟨b, oo, _, rfl⟩ := h; exact ⟨rfl, rfl⟩
  case pvo => obtain ⟨b, oo, rfl, _⟩ := h; exact ⟨rfl, rfl⟩
  case nils => subst h; exact ⟨rfl, rfl⟩
  case emp => obtain ⟨b, rfl⟩ := h; exact ⟨rfl, rfl⟩
  case slc => obtain ⟨b, oo, cap, rfl, _⟩ := h; exact ⟨rfl, rfl⟩
  case sl => obtain ⟨b, oo, ad, cap, _, rfl, _⟩ := h; exact ⟨rfl, rfl⟩
  case nili => subst h; exact ⟨rfl, rfl⟩
  case ifc => obtain ⟨b, rfl, _⟩ := h; exact ⟨rfl, rfl⟩
  case nilf => subst h; exact ⟨rfl, rfl⟩
  case fn => obtain ⟨b, c, rfl, _⟩ := h; exact ⟨rfl, rfl⟩
  case mp => obtain ⟨b, _, rfl⟩ := h; exact ⟨rfl, rfl⟩

theorem VL_sc {x : Ctx} : ∀ {as : List AVal} {us : List Value}, VL x as us → as.all isSc = true → ∀ u ∈ us, u.oneCell' = true
  | [], us, h, _, u, hu => by simp only [VL] at h; subst h; cases hu
  | a :: as, us, h, hsc, u, hu => by
    simp only [VL] at h
    obtain ⟨v, r, rfl, h1, h2⟩ := h
    simp only [List.all_cons, Bool.and_eq_true] at hsc
    rcases List.mem_cons.1 hu with rfl | hu
    · exact (V_sc h1 hsc.1).1
    · exact VL_sc h2 hsc.2 u hu

/-- The cells of what has scalar cells. -/
theorem V_cells_sc {x : Ctx} {a : AVal} {u : Value} (h : V x a u) (hsc : (cellsOf a).all isSc = true) : VL x (cellsOf a) u.cells.toList := by
  refine V_cells h ?_ ?_
  · rintro xs rfl; simp [cellsOf, isSc] at hsc
  · rintro rfl; simp [cellsOf, isSc] at hsc

/-- parts and their values -/
def PartsV (x : Ctx) : List (Nat × Nat × AVal) → List (Nat × Value) → (Nat → Option (Nat × Nat)) → Prop
  | [], [], _ => True
  | (off, n, a) :: ps, (i, u) :: qs, place => place i = some (off, n) ∧ V x a u ∧ PartsV x ps qs place
  | _, _, _ => False

theorem fill_ok {x : Ctx} : ∀ {ps : List (Nat × Nat × AVal)} {qs : List (Nat × Value)} {place : Nat → Option (Nat × Nat)} {cs r : List AVal} {vs : Array Value}, PartsV x ps qs place → VL x cs vs.toList → fillA cs ps = some r →
    ∃ us, Instr.fill place vs qs = some us ∧ VL x r us.toList
  | [], [], place, cs, r, vs, _, hl, hf => by
    simp only [fillA, Option.some.injEq] at hf
    subst hf
    exact ⟨vs, rfl, hl⟩
  | [], _ :: _, place, cs, r, vs, hp, hl, hf => by simp [PartsV] at hp
  | _ :: _, [], place, cs, r, vs, hp, hl, hf => by simp [PartsV] at hp
  | (off, n, a) :: ps, (i, u) :: qs, place, cs, r, vs, hp, hl, hf => by
    simp only [PartsV] at hp
    obtain ⟨hpl, hv, hp⟩ := hp
    simp only [fillA] at hf
    split at hf
    · rename_i hc
      obtain ⟨hc1, hc2, hc3⟩ := hc
      have hcl := V_cells_sc hv hc3
      have hlen := hcl.length
      have hlen' := hl.length
      simp only [Array.length_toList] at hlen hlen'
      have hstep := fill_step u.cells vs off (by omega)
      obtain ⟨us, h1, h2⟩ := fill_ok (vs := (spliceV vs.toList off u.cells.toList).toArray) hp (by simpa using VL_splice off hl hcl) hf
      refine ⟨us, ?_, h2⟩
      simp only [Instr.fill, hpl]
      rw [if_neg (by simp only [Bool.or_eq_true, decide_eq_true_eq]; omega), hstep]
      exact h1
    · cases hf

theorem places_run : ∀ (fs : List Field) (w : World), chkFields P fs = true → ∃ l, (fs.mapM fun (f : Field) => (do pure (f.offset, ← sizeOf f.type) : Sem (Nat × Nat))).run P w = .ok l w ∧ ∀ (i : Nat) (f : Field) (n : Nat), fs[i]? = some f → szOf P f.type = some n → l[i]? = some (f.offset, n)
  | [], w, _ => ⟨[], by simp, by simp⟩
  | f :: fs, w, hc => by
    simp only [chkFields, List.all_cons, Bool.and_eq_true] at hc
    obtain ⟨n, hn⟩ := Option.isSome_iff_exists.1 hc.1
    obtain ⟨l, h1, h2⟩ := places_run fs w hc.2
    refine ⟨(f.offset, n) :: l, ?_, ?_⟩
    · simp only [List.mapM_cons, Sem.run_bind, szOf_run hn, Result.andThen_ok, Sem.run_pure, h1]
    · intro i g m hg hm
      cases i with
      | zero => simp at hg; subst hg; rw [hn] at hm; cases hm; rfl
      | succ i => simp at hg ⊢; exact h2 i g m hg hm

theorem ok_buildS (hs : Sim B S0 h nc x) {t : TypeId} {parts : Array (Nat × Operand)} {fs : Array Field} {z : Value} {zero cs : List AVal} {ps : List (Nat × Nat × AVal)} (hop : o.op = .build t parts) (ht : P.underlying t = some (.struct fs)) (hz : zeroOf P t = some z) (hzc : chkSL z.cells.toList zero = true)
    (hf : chkFields P fs.toList = true) (hp : ∀ place : Nat → Option (Nat × Nat), (∀ (i : Nat) (f : Field) (n : Nat), fs[i]? = some f → szOf P f.type = some n → place i = some (f.offset, n)) → PartsV x ps (parts.toList.map fun p => (p.1, ρc p.2)) place)
    (hcs : fillA zero ps = some cs) : OpOk P B S0 ρc o x (applyW h []) nc key (.agg cs) := by
  obtain ⟨l, h1, h2⟩ := places_run (P := P) fs.toList x.w hf
  obtain ⟨us, h3, h4⟩ := fill_ok (hp (l.toArray[·]?) (fun i f n hi hn => by simpa using h2 i f n (by simpa using hi) hn)) (chkSL_ok hzc) hcs
  refine pureOk hs (u := .agg us) ?_ (by simp only [V]; exact ⟨us.toList, by simp, h4⟩)
  have hm : (fs.mapM fun (f : Field) => (do pure (f.offset, ← sizeOf f.type) : Sem (Nat × Nat))).run P x.w = .ok l.toArray x.w := by
    rw [Array.mapM_eq_mapM_toList]
    simp only [Sem.run_map, h1, Result.andThen_ok]
  simp only [execOp, hop, Instr.build, Sem.run_bind, zero_run hz, Result.andThen_ok, run_underlying ht, hm, Array.toList_map, h3, Sem.run_pure]

theorem ok_buildA (hs : Sim B S0 h nc x) {t et : TypeId} {n s : Nat} {parts : Array (Nat × Operand)} {z : Value} {zero cs : List AVal} {ps : List (Nat × Nat × AVal)} (hop : o.op = .build t parts) (ht : P.underlying t = some (.array n et)) (hz : zeroOf P t = some z) (hzc : chkSL z.cells.toList zero = true)
    (hsz : szOf P et = some s) (hp : PartsV x ps (parts.toList.map fun p => (p.1, ρc p.2)) (fun i => some (i * s, s)))
    (hcs : fillA zero ps = some cs) : OpOk P B S0 ρc o x (applyW h []) nc key (.agg cs) := by
  obtain ⟨us, h3, h4⟩ := fill_ok hp (chkSL_ok hzc) hcs
  refine pureOk hs (u := .agg us) ?_ (by simp only [V]; exact ⟨us.toList, by simp, h4⟩)
  simp only [execOp, hop, Instr.build, Sem.run_bind, zero_run hz, Result.andThen_ok, run_underlying ht, szOf_run hsz, Array.toList_map, h3, Sem.run_pure]

/-! ### cells of memory -/
/-- What is written as a list lies in a block. -/
theorem VC_of_VL {x : Ctx} : ∀ {as : List AVal} {us : List Value} {b o : Nat}, VL x as us → (∀ i u, us[i]? = some u → x.w.cell? ⟨b, o + i, none⟩ = some u) → VC x as b o
  | [], us, b, o, h, _ => by simp [VC]
  | a :: as, us, b, o, h, hc => by
    simp only [VL] at h
    obtain ⟨v, r, rfl, h1, h2⟩ := h
    simp only [VC]
    refine ⟨⟨v, by simpa using hc 0 v rfl, h1⟩, VC_of_VL h2 ?_⟩
    intro i u hi
    have := hc (i + 1) u (by simpa using hi)
    rw [show o + 1 + i = o + (i + 1) by omega]
    exact this
theorem VL_of_VC {x : Ctx} : ∀ {as : List AVal} {b o : Nat}, VC x as b o → ∃ us, VL x as us ∧ ∀ i u, us[i]? = some u → x.w.cell? ⟨b, o + i, none⟩ = some u
  | [], b, o, _ => ⟨[], by simp [VL], by simp⟩
  | a :: as, b, o, h => by
    simp only [VC] at h
    obtain ⟨⟨v, hv, h1⟩, h2⟩ := h
    obtain ⟨us, h3, h4⟩ := VL_of_VC h2
    refine ⟨v :: us, by simp only [VL]; exact ⟨v, us, rfl, h1, h3⟩, ?_⟩
    intro i u hi
    cases i with
    | zero => simp at hi; subst hi; simpa using hv
    | succ i =>
      simp at hi
      have := h4 i u hi
      rw [show o + (i + 1) = o + 1 + i by omega]
      exact this
/-- Cells that another place shows too. -/
theorem VC_copy {x y : Ctx} (g : Grow x y) {b o b' o' : Nat} : ∀ {as : List AVal}, VC x as b o → (∀ i v, i < as.length → x.w.cell? ⟨b, o + i, none⟩ = some v → y.w.cell? ⟨b', o' + i, none⟩ = some v) → VC y as b' o' := by
  intro as h hc
  obtain ⟨us, h1, h2⟩ := VL_of_VC h
  have hl := h1.length
  refine VC_of_VL (VL_grow g _ _ h1) ?_
  intro i u hi
  have : i < us.length := by
    rcases Nat.lt_or_ge i us.length with h3 | h3
    · exact h3
    · rw [List.getElem?_eq_none h3] at hi; cases hi
  exact hc i u (by omega) (h2 i u hi)

theorem run_loadCells_VC {as : List AVal} {b o : Nat} (h : VC x as b o) : ∃ us : List Value, (loadCells ⟨b, o, none⟩ as.length).run P x.w = .ok us.toArray x.w ∧ VL x as us := by
  obtain ⟨us, h1, h2⟩ := VL_of_VC h
  refine ⟨us, ?_, h1⟩
  rw [← h1.length]
  exact run_loadCells_list x.w _ us (fun j v hj => by rw [add_off]; exact h2 j v hj)

/-- What a name's cells are. -/
theorem cs_ok (hs : Sim B S0 h nc x) {k : Key} {g i es : Nat} {blk : Blk} {cs : List AVal} {b oo : Nat} (hk : h k = some blk) (hρ : x.ρ k g = some (b, oo)) (hcs : blk.cs g i es = some cs) : blk.gen = g ∧ VC x cs b (oo + i * es) := by
  obtain ⟨b', o', h1, _, _, h4⟩ := hs.live k blk hk
  cases blk with
  | var cells =>
    simp only [Blk.cs] at hcs
    split at hcs
    · rename_i hg
      subst hg
      cases hcs
      simp only [Blk.gen] at h1
      rw [hρ] at h1
      cases h1
      obtain ⟨rfl, c, ee, _, _, hv⟩ := h4
      exact ⟨rfl, hv.drop _⟩
    · cases hcs
  | row g' es' elems =>
    simp only [Blk.cs] at hcs
    split at hcs
    · rename_i hg
      obtain ⟨rfl, rfl⟩ := hg
      simp only [Blk.gen] at h1
      rw [hρ] at h1
      cases h1
      obtain ⟨c, ee, _, _, hv⟩ := h4
      cases he : elems[i]? with
      | none => rw [he] at hcs; cases hcs
      | some a =>
        rw [he] at hcs
        simp only [Option.map_some, Option.some.injEq] at hcs
        subst hcs
        exact ⟨rfl, (VE_cells (hv.get he)).2⟩
    · cases hcs
  | obj a => simp [Blk.cs] at hcs

theorem run_loadVar_ok {t : TypeId} {agg : Bool} {n off : Nat} {cs : List AVal} {b oo : Nat} {v : AVal} (hagg : aggOf P t = some agg) (hn : szOf P t = some n) (hc : VC x cs b oo) (hv : takeV agg n off cs = some v) :
    ∃ u, (loadVar t ⟨b, oo + off, none⟩).run P x.w = .ok u x.w ∧ V x v u := by
  cases agg with
  | true =>
    simp only [takeV, if_true] at hv
    split at hv
    · rename_i hle
      cases hv
      obtain ⟨us, h1, h2⟩ := run_loadCells_VC (P := P) ((hc.drop off).take n)
      have hlen : ((cs.drop off).take n).length = n := by simp; omega
      rw [hlen] at h1
      refine ⟨.agg us.toArray, ?_, by simp only [V]; exact ⟨us, rfl, h2⟩⟩
      simp only [loadVar, Sem.run_bind, aggOf_run hagg, Result.andThen_ok, szOf_run hn, if_true, h1, Sem.run_pure]
    · cases hv
  | false =>
    simp only [takeV, Bool.false_eq_true, if_false] at hv
    obtain ⟨u, hu, hvu⟩ := hc.get hv
    refine ⟨u, ?_, hvu⟩
    simp only [loadVar, Sem.run_bind, aggOf_run hagg, Result.andThen_ok, Bool.false_eq_true, if_false, run_load, hu]

theorem ok_load (hs : Sim B S0 h nc x) {t : TypeId} {agg : Bool} {n : Nat} {a : Operand} {va v : AVal} (hop : o.op = .load t a) (ha : V x va (ρc a)) (hagg : aggOf P t = some agg) (hn : szOf P t = some n) (hv : (loadR agg n va).run h = some v) :
    OpOk P B S0 ρc o x (applyW h []) nc key v := by
  have run : ∀ bb oo u, ρc a = .pointer (some ⟨bb, oo, none⟩) → (loadVar t ⟨bb, oo, none⟩).run P x.w = .ok u x.w → (execOp ρc o).run P x.w = .ok (.value u) x.w := by
    intro bb oo u hp hr
    simp only [execOp, hop, hp, Instr.loadAt, Instr.sureAddr, Sem.run_bind, Sem.run_pure, Result.andThen_ok, hr]
  unfold loadR at hv
  split at hv
  · rename_i k g i es off
    simp only [V] at ha
    obtain ⟨bb, oo, hρ, ha⟩ := ha
    rw [Rd.run_get] at hv
    cases hk : h k with
    | none => rw [hk] at hv; cases hv
    | some blk =>
      rw [hk] at hv
      simp only [Rd.run_ofO] at hv
      cases hcs : blk.cs g i es with
      | none => rw [hcs] at hv; cases hv
      | some cs =>
        rw [hcs] at hv
        simp only [Option.bind_some] at hv
        obtain ⟨_, hc⟩ := cs_ok hs hk hρ hcs
        obtain ⟨u, hu, hvu⟩ := run_loadVar_ok (P := P) hagg hn hc hv
        exact pureOk hs (run _ _ _ ha hu) hvu
  · simp only [V] at ha
    obtain ⟨bb, oo, ha, hS, hc⟩ := ha
    rw [Rd.run_ofO] at hv
    obtain ⟨u, hu, hvu⟩ := run_loadVar_ok (P := P) hagg hn hc hv
    exact pureOk hs (run _ _ _ ha hu) (V_grow (Grow.unbare x) _ _ hvu)
  · cases hv

end
end Go.Xec
