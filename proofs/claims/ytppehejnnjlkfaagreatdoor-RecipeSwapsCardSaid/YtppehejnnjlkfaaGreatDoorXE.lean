/-
  The other operations that look at no memory.
-/
import Derived.Test.YtppehejnnjlkfaaGreatDoorXD
set_option linter.unusedVariables false
set_option linter.unusedSimpArgs false
namespace Go.Xec
open Go

section
variable {P : Program} {B : Nat} {S0 : Base} {ρc : Operand → Value} {o : Oper} {x : Ctx} {h : Heap} {nc : Nat} {key : Key} {e : XArg → AVal}

theorem szOf_run {t : TypeId} {n : Nat} (h : szOf P t = some n) (w : World) : (sizeOf t).run P w = .ok n w := by
  unfold szOf at h
  cases hi : P.info? t with
  | none => rw [hi] at h; cases h
  | some i =>
    rw [hi] at h
    simp only [Option.map_some, Option.some.injEq] at h
    rw [run_sizeOf (w := w) hi, Program.cellsOf, hi]
    simp only [Option.map_some, Option.getD_some, h]
theorem aggOf_run {t : TypeId} {b : Bool} (h : aggOf P t = some b) (w : World) : (isAgg t).run P w = .ok b w := by
  unfold aggOf at h
  cases hu : P.underlying t with
  | none => rw [hu] at h; cases h
  | some d =>
    rw [hu] at h
    simp only [Option.map_some, Option.some.injEq] at h
    subst h
    simp only [isAgg, Sem.run_bind, run_underlying hu, Result.andThen_ok]
    cases d <;> simp [isAggD]
theorem info_run {t : TypeId} {n : Nat} (h : byOf P t = some n) (w : World) : ∃ i, (typeInfo t).run P w = .ok i w ∧ i.bytes = n := by
  unfold byOf at h
  cases hi : P.info? t with
  | none => rw [hi] at h; cases h
  | some i =>
    rw [hi] at h
    simp only [Option.map_some, Option.some.injEq] at h
    exact ⟨i, run_typeInfo (w := w) hi, h⟩
theorem zero_run {t : TypeId} {z : Value} (h : zeroOf P t = some z) (w : World) : (zeroValue t).run P w = .ok z w := by
  unfold zeroOf at h
  cases hi : P.info? t with
  | none => rw [hi] at h; cases h
  | some i =>
    rw [hi] at h
    simp only [Option.bind_some] at h
    simp only [zeroValue, Sem.run_bind, run_typeInfo (w := w) hi, Result.andThen_ok, h, Sem.run_pure]

theorem ok_un (hs : Sim B S0 h nc x) {op : UnOp} {t : TypeId} {a : Operand} {va v : AVal} (hop : o.op = .unOp op t a) (ha : V x va (ρc a)) (hv : unA op va = some v) : OpOk P B S0 ρc o x (applyW h []) nc key v := by
  unfold unA at hv
  split at hv
  · rename_i k n
    have ha := V_int ha
    cases op <;> simp only [reduceCtorEq] at hv
    · cases hv
      exact pureOk hs (u := .int k (k.wrap (0 - n))) (by simp only [execOp, hop, ha, Op.unary, Op.intArith, Sem.run_bind, Sem.run_pure, Result.andThen_ok]) (by simp only [V])
    · have hop' : (Op.unary .xor (.int k n)) = Op.intBits .xor k (if k.signed then -1 else k.max) n := rfl
      obtain ⟨u, hu, hvu⟩ := run_intBits (x := x) (P := P) .xor k (if k.signed then -1 else k.max) n x.w v (by simp) hv
      exact pureOk hs (u := u) (by simp only [execOp, hop, ha, hop', Sem.run_bind, hu, Sem.run_pure, Result.andThen_ok]) hvu
  · rename_i b
    have ha := V_bool ha
    cases op <;> simp only [reduceCtorEq] at hv
    cases hv
    exact pureOk hs (u := .bool !b) (by simp only [execOp, hop, ha, Op.unary, Sem.run_bind, Sem.run_pure, Result.andThen_ok]) (by simp only [V])
  · cases hv

theorem ok_conv (hs : Sim B S0 h nc x) {s d : TypeId} {k j : IntKind} {n : Int} {a : Operand} (hop : o.op = .convert s d a) (ha : V x (.int j n) (ρc a)) (hd : P.underlying d = some (.int k)) (hsrc : (P.underlying s).isSome = true) :
    OpOk P B S0 ρc o x (applyW h []) nc key (.int k (k.wrap n)) := by
  have ha := V_int ha
  obtain ⟨ds, hds⟩ := Option.isSome_iff_exists.1 hsrc
  refine pureOk hs (u := .int k (k.wrap n)) ?_ (by simp only [V])
  simp only [execOp, hop, ha, convert, Sem.run_bind, run_underlying hds, run_underlying hd, Result.andThen_ok, Conv.intToInt, Sem.run_pure]

theorem ok_idS (hs : Sim B S0 h nc x) {s d : TypeId} {a : Operand} {st : ByteArray} (hop : o.op = .convert s d a) (ha : V x (.str st) (ρc a)) (hd : P.underlying d = some .string) (hsrc : P.underlying s = some .string) :
    OpOk P B S0 ρc o x (applyW h []) nc key (.str st) := by
  have ha := V_str ha
  refine pureOk hs (u := .string st) ?_ (by simp only [V])
  simp only [execOp, hop, ha, convert, Sem.run_bind, run_underlying hsrc, run_underlying hd, Result.andThen_ok, Sem.run_pure]

theorem ok_nilChk (hs : Sim B S0 h nc x) {a : Operand} {va : AVal} (hop : o.op = .nilCheck a) (ha : V x va (ρc a)) (hl : liveA va = true) :
    OpOk P B S0 ρc o x (applyW h []) nc key va := by
  refine pureOk hs (u := ρc a) ?_ ha
  cases va <;> simp only [liveA] at hl <;> try cases hl
  · simp only [V] at ha
    obtain ⟨b, oo, _, hv⟩ := ha
    simp only [execOp, hop, hv, Sem.run_pure]
  · simp only [V] at ha
    obtain ⟨b, oo, hv, _⟩ := ha
    simp only [execOp, hop, hv, Sem.run_pure]
  · simp only [V] at ha
    obtain ⟨u, hv, _⟩ := ha
    simp only [execOp, hop, hv, Sem.run_pure]
  · simp only [V] at ha
    obtain ⟨fs, cs, hv, _⟩ := ha
    rename_i f _ _ _
    cases f
    · simp only [execOp, hop, hv, Sem.run_pure]
    all_goals cases hl

theorem add_off (b o n : Nat) : (⟨b, o, none⟩ : Addr).add n = ⟨b, o + n, none⟩ := by
  unfold Addr.add; split
  · simp_all
  · rfl

theorem ok_fa (hs : Sim B S0 h nc x) {s : TypeId} {a : Operand} {f : Nat} {fs : Array Field} {fd : Field} {n off : Nat} {va v : AVal} (hop : o.op = .fieldAddr s a f) (ha : V x va (ρc a)) (hst : P.underlying s = some (.struct fs)) (hf : fs[f]? = some fd)
    (hoff : fd.offset = off) (hn : szOf P fd.type = some n) (h0 : n ≠ 0) (hv : faA off va = some v) : OpOk P B S0 ρc o x (applyW h []) nc key v := by
  have run : ∀ b oo, ρc a = .pointer (some ⟨b, oo, none⟩) → (execOp ρc o).run P x.w = .ok (.value (.pointer (some ⟨b, oo + off, none⟩))) x.w := by
    intro b oo hp
    simp only [execOp, hop, hp, Instr.fieldAt, Sem.run_bind, run_underlying hst, Result.andThen_ok, hf, Instr.sureAddr, Sem.run_pure, fieldPlace, szOf_run hn, Sem.run_ite, h0, if_false, add_off, hoff]
  cases va <;> simp only [faA, Option.some.injEq, reduceCtorEq] at hv <;> subst hv <;> simp only [V] at ha
  · obtain ⟨b, oo, hρ, ha⟩ := ha
    refine pureOk hs (run _ _ ha) ?_
    simp only [V]
    exact ⟨b, oo, hρ, by congr 3; omega⟩
  · obtain ⟨b, oo, ha, hS, hc⟩ := ha
    refine pureOk hs (run _ _ ha) ?_
    simp only [V]
    exact ⟨b, oo, by congr 3; omega, hS, hc⟩

/-- A piece of a row of cells, as a value. -/
theorem part_ok {t : TypeId} {agg : Bool} {n off : Nat} {cs : List AVal} {vs : List Value} {v : AVal} (hagg : aggOf P t = some agg) (hn : szOf P t = some n) (hl : VL x cs vs) (hv : takeV agg n off cs = some v) (w : World) :
    ∃ u, (part t vs.toArray off).run P w = .ok u w ∧ V x v u := by
  have hlen := hl.length
  cases agg with
  | true =>
    simp only [takeV, if_true] at hv
    split at hv
    · cases hv
      refine ⟨.agg (vs.toArray.extract off (off + n)), ?_, ?_⟩
      · simp only [part, Sem.run_bind, aggOf_run hagg, Result.andThen_ok, szOf_run hn, if_true, Sem.run_pure]
      · simp only [V]
        refine ⟨(vs.drop off).take n, ?_, (hl.drop off).take n⟩
        simp [List.extract_eq_take_drop]
    · cases hv
  | false =>
    simp only [takeV, Bool.false_eq_true, if_false] at hv
    obtain ⟨u, hu, hvu⟩ := hl.get hv
    refine ⟨u, ?_, hvu⟩
    simp only [part, Sem.run_bind, aggOf_run hagg, Result.andThen_ok, Bool.false_eq_true, if_false]
    simp [hu]

theorem ok_fld (hs : Sim B S0 h nc x) {s : TypeId} {a : Operand} {f : Nat} {fs : Array Field} {fd : Field} {n off : Nat} {agg : Bool} {cs : List AVal} {v : AVal} (hop : o.op = .field s a f) (ha : V x (.agg cs) (ρc a)) (hst : P.underlying s = some (.struct fs))
    (hf : fs[f]? = some fd) (hoff : fd.offset = off) (hn : szOf P fd.type = some n) (hagg : aggOf P fd.type = some agg) (hv : takeV agg n off cs = some v) : OpOk P B S0 ρc o x (applyW h []) nc key v := by
  simp only [V] at ha
  obtain ⟨vs, ha, hl⟩ := ha
  obtain ⟨u, hu, hvu⟩ := part_ok (P := P) hagg hn hl hv x.w
  refine pureOk hs (u := u) ?_ hvu
  simp only [execOp, hop, ha, Instr.field, Sem.run_bind, run_underlying hst, Result.andThen_ok, hf, asAgg, Sem.run_pure, hoff, hu]

theorem ok_iaA (hs : Sim B S0 h nc x) {t et : TypeId} {a b : Operand} {n es : Nat} {va vb v : AVal} (hop : o.op = .indexAddr t a b) (ha : V x va (ρc a)) (hb : V x vb (ρc b)) (ht : P.underlying t = some (.array n et)) (hn : szOf P et = some es)
    (hv : iaAA n es va vb = some v) : OpOk P B S0 ρc o x (applyW h []) nc key v := by
  have run : ∀ k (j : Int) bb oo, ρc b = .int k j → 0 ≤ j ∧ j < n → ρc a = .pointer (some ⟨bb, oo, none⟩) → (execOp ρc o).run P x.w = .ok (.value (.pointer (some ⟨bb, oo + j.toNat * es, none⟩))) x.w := by
    intro k j bb oo hj hr hp
    simp only [execOp, hop, hp, hj, Instr.indexAt, asIntOf, Sem.run_bind, run_underlying ht, Result.andThen_ok, Instr.sureAddr, Sem.run_pure, Sem.run_ite, hr, and_self, if_true, szOf_run hn, add_off]
  unfold iaAA at hv
  split at hv
  · have hb := V_int hb
    split at hv
    · rename_i hr
      cases hv
      simp only [V] at ha
      obtain ⟨bb, oo, hρ, ha⟩ := ha
      refine pureOk hs (run _ _ _ _ hb hr ha) ?_
      simp only [V]
      exact ⟨bb, oo, hρ, by congr 3; omega⟩
    · cases hv
  · have hb := V_int hb
    split at hv
    · rename_i hr
      cases hv
      simp only [V] at ha
      obtain ⟨bb, oo, ha, hS, hc⟩ := ha
      refine pureOk hs (run _ _ _ _ hb hr ha) ?_
      simp only [V]
      exact ⟨bb, oo, by congr 3; omega, hS, hc⟩
    · cases hv
  · cases hv

theorem ok_iaS (hs : Sim B S0 h nc x) {t et : TypeId} {a b : Operand} {es : Nat} {va vb v : AVal} (hop : o.op = .indexAddr t a b) (ha : V x va (ρc a)) (hb : V x vb (ρc b)) (ht : P.underlying t = some (.slice et)) (hn : szOf P et = some es)
    (hv : iaSA es va vb = some v) : OpOk P B S0 ρc o x (applyW h []) nc key v := by
  have run : ∀ k (j : Int) ad (len cap : Nat), ρc b = .int k j → 0 ≤ j ∧ j < len → ρc a = .slice (some ad) len cap → (execOp ρc o).run P x.w = .ok (.value (.pointer (some (ad.add (j.toNat * es))))) x.w := by
    intro k j ad len cap hj hr hp
    simp only [execOp, hop, hp, hj, Instr.indexAt, asIntOf, Sem.run_bind, run_underlying ht, Result.andThen_ok, Instr.sureAddr, Sem.run_pure, Sem.run_ite, hr, and_self, if_true, szOf_run hn]
  unfold iaSA at hv
  split at hv
  · rename_i es' xs k j
    have hb := V_int hb
    split at hv
    · rename_i hr
      obtain ⟨rfl, hj⟩ := hr
      cases hx : xs[j.toNat]? with
      | none => rw [hx] at hv; cases hv
      | some y =>
        rw [hx] at hv
        simp only [Option.map_some, Option.some.injEq] at hv
        subst hv
        simp only [V] at ha
        obtain ⟨bb, oo, cap, ha, hcap, hS, hr⟩ := ha
        have hlt : j.toNat < xs.length := by
          rcases Nat.lt_or_ge j.toNat xs.length with h1 | h1
          · exact h1
          · rw [List.getElem?_eq_none h1] at hx; cases hx
        have hne : xs ≠ [] := by intro e; subst e; simp at hlt
        refine pureOk hs (run _ _ _ _ _ hb ⟨hj, by omega⟩ ha) ?_
        simp only [V]
        refine ⟨bb, oo + j.toNat * es, by rw [add_off, Nat.add_zero], hS.resolve_left hne, (VE_cells (hr.get hx)).2⟩
    · cases hv
  · have hb := V_int hb
    split at hv
    · rename_i hr
      obtain ⟨rfl, hj, hlt⟩ := hr
      cases hv
      simp only [V] at ha
      obtain ⟨bb, oo, ad, cap, hρ, ha, hlc, had, hz, hsp⟩ := ha
      refine pureOk hs (run _ _ _ _ _ hb ⟨hj, hlt⟩ ha) ?_
      simp only [V]
      have hc0 : cap ≠ 0 := by omega
      refine ⟨bb, oo, hρ, ?_⟩
      rw [had.resolve_left hc0, add_off, Nat.add_mul, Nat.add_zero, Nat.add_assoc]
    · cases hv
  · cases hv

theorem ok_ixA (hs : Sim B S0 h nc x) {t et : TypeId} {a b : Operand} {n es : Nat} {agg : Bool} {va vb v : AVal} (hop : o.op = .index t a b) (ha : V x va (ρc a)) (hb : V x vb (ρc b)) (ht : P.underlying t = some (.array n et)) (hn : szOf P et = some es)
    (hagg : aggOf P et = some agg) (hv : ixAA agg n es va vb = some v) : OpOk P B S0 ρc o x (applyW h []) nc key v := by
  unfold ixAA at hv
  split at hv
  · rename_i cs k j
    have hb := V_int hb
    split at hv
    · rename_i hr
      simp only [V] at ha
      obtain ⟨vs, ha, hl⟩ := ha
      obtain ⟨u, hu, hvu⟩ := part_ok (P := P) hagg hn hl hv x.w
      refine pureOk hs (u := u) ?_ hvu
      simp only [execOp, hop, ha, hb, Instr.index, asIntOf, Sem.run_bind, run_underlying ht, Result.andThen_ok, Sem.run_pure, Sem.run_ite, hr, and_self, if_true, szOf_run hn, hu]
    · cases hv
  · cases hv

theorem ok_ixS (hs : Sim B S0 h nc x) {t : TypeId} {a b : Operand} {va vb v : AVal} (hop : o.op = .index t a b) (ha : V x va (ρc a)) (hb : V x vb (ρc b)) (ht : P.underlying t = some .string)
    (hv : ixSA va vb = some v) : OpOk P B S0 ρc o x (applyW h []) nc key v := by
  unfold ixSA at hv
  split at hv
  · rename_i s k j
    have hb := V_int hb
    have ha := V_str ha
    split at hv
    · rename_i hj
      cases hx : s[j.toNat]? with
      | none => rw [hx] at hv; cases hv
      | some y =>
        rw [hx] at hv
        simp only [Option.map_some, Option.some.injEq] at hv
        subst hv
        refine pureOk hs (u := .int .u8 y.toNat) ?_ (by simp only [V])
        simp only [execOp, hop, ha, hb, Instr.index, asIntOf, Sem.run_bind, run_underlying ht, Result.andThen_ok, Sem.run_pure, hj, if_true, hx]
    · cases hv
  · cases hv

theorem ok_lenS (hs : Sim B S0 h nc x) {c : Call} {t : TypeId} {a : Operand} {s : ByteArray} (hop : o.op = .call c) (hc : c.callee = .builtin .len) (h0 : c.argTypes[0]? = some t) (h1 : c.args[0]? = some a) (ha : V x (.str s) (ρc a)) (ht : P.underlying t = some .string) :
    OpOk P B S0 ρc o x (applyW h []) nc key (.int .i64 s.size) := by
  have ha := V_str ha
  refine pureOk hs (u := .int .i64 s.size) ?_ (by simp only [V])
  simp only [execOp, hop, resolve, hc, Sem.run_bind, Sem.run_pure, Result.andThen_ok, invoke, builtin, Builtin.len_, h0, Array.getElem?_map, h1, Option.map_some, run_underlying ht, ha, goInt]

theorem ok_lenV (hs : Sim B S0 h nc x) {c : Call} {t et : TypeId} {a : Operand} {va v : AVal} (hop : o.op = .call c) (hc : c.callee = .builtin .len) (h0 : c.argTypes[0]? = some t) (h1 : c.args[0]? = some a) (ha : V x va (ρc a)) (ht : P.underlying t = some (.slice et)) (hv : lenVA va = some v) :
    OpOk P B S0 ρc o x (applyW h []) nc key v := by
  have run : ∀ ad (n cap : Nat), ρc a = .slice ad n cap → (execOp ρc o).run P x.w = .ok (.value (.int .i64 n)) x.w := by
    intro ad n cap hp
    simp only [execOp, hop, resolve, hc, Sem.run_bind, Sem.run_pure, Result.andThen_ok, invoke, builtin, Builtin.len_, h0, Array.getElem?_map, h1, Option.map_some, run_underlying ht, hp, goInt]
  cases va <;> simp only [lenVA, Option.some.injEq, reduceCtorEq] at hv <;> subst hv <;> simp only [V] at ha
  · exact pureOk hs (run _ _ _ ha) (by simp only [V]; rfl)
  · obtain ⟨ad, ha⟩ := ha; exact pureOk hs (run _ _ _ ha) (by simp only [V]; rfl)
  · obtain ⟨b, oo, cap, ha, _⟩ := ha; exact pureOk hs (run _ _ _ ha) (by simp only [V])
  · obtain ⟨b, oo, ad, cap, _, ha, _⟩ := ha; exact pureOk hs (run _ _ _ ha) (by simp only [V])

theorem ok_lenA (hs : Sim B S0 h nc x) {c : Call} {t et : TypeId} {n : Nat} {a : Operand} (hop : o.op = .call c) (hc : c.callee = .builtin .len) (h0 : c.argTypes[0]? = some t) (h1 : c.args[0]? = some a) (ht : P.underlying t = some (.array n et)) :
    OpOk P B S0 ρc o x (applyW h []) nc key (.int .i64 n) := by
  refine pureOk hs (u := .int .i64 n) ?_ (by simp only [V])
  simp only [execOp, hop, resolve, hc, Sem.run_bind, Sem.run_pure, Result.andThen_ok, invoke, builtin, Builtin.len_, h0, Array.getElem?_map, h1, Option.map_some, run_underlying ht, goInt]

theorem run_mnx (isMax : Bool) (w : World) : ∀ (vs : List AVal) (us : List Value) (a v : AVal) (u : Value), VL x vs us → V x a u → mnxA isMax a vs = some v →
    ∃ r, (us.foldlM (if isMax then Builtin.max2 else Builtin.min2) u).run P w = .ok r w ∧ V x v r
  | [], us, a, v, u, hl, ha, hv => by
    simp only [VL] at hl; subst hl
    simp only [mnxA, Option.some.injEq] at hv; subst hv
    exact ⟨u, by simp, ha⟩
  | b :: vs, us, a, v, u, hl, ha, hv => by
    unfold mnxA at hv
    split at hv
    · rename_i h; cases h
    · rename_i k n k' m r h
      cases h
      simp only [VL] at hl
      obtain ⟨ub, us', rfl, hb, hl⟩ := hl
      have ha := V_int ha
      have hb := V_int hb
      obtain ⟨r, hr, hvr⟩ := run_mnx isMax w vs us' _ v (.int k (if isMax then (if m > n then m else n) else (if m < n then m else n))) hl (by simp only [V]) hv
      refine ⟨r, ?_, hvr⟩
      rw [List.foldlM_cons, Sem.run_bind]
      cases isMax
      · simp only [Bool.false_eq_true, if_false, ha, hb, Builtin.min2, Sem.run_pure, Result.andThen_ok] at hr ⊢; exact hr
      · simp only [if_true, ha, hb, Builtin.max2, Sem.run_pure, Result.andThen_ok] at hr ⊢; exact hr
    · cases hv

theorem ok_mnx (hs : Sim B S0 h nc x) {c : Call} {isMax : Bool} {a : Operand} {as : List Operand} {va v : AVal} {vs : List AVal} (hop : o.op = .call c) (hc : c.callee = .builtin (if isMax then .max else .min)) (hargs : c.args.toList = a :: as) (ha : V x va (ρc a)) (hl : VL x vs (as.map ρc))
    (hv : mnxA isMax va vs = some v) : OpOk P B S0 ρc o x (applyW h []) nc key v := by
  obtain ⟨r, hr, hvr⟩ := run_mnx (P := P) isMax x.w vs _ va v _ hl ha hv
  refine pureOk hs (u := r) ?_ hvr
  have hm : (c.args.map ρc).toList = ρc a :: as.map ρc := by rw [Array.toList_map, hargs]; rfl
  cases isMax
  · simp only [Bool.false_eq_true, if_false] at hc hr
    simp only [execOp, hop, resolve, hc, Sem.run_bind, Sem.run_pure, Result.andThen_ok, invoke, builtin, Builtin.min_, hm, hr]
  · simp only [if_true] at hc hr
    simp only [execOp, hop, resolve, hc, Sem.run_bind, Sem.run_pure, Result.andThen_ok, invoke, builtin, Builtin.max_, hm, hr]

theorem ok_ext (hs : Sim B S0 h nc x) {a : Operand} {i : Nat} {xs : List AVal} {v : AVal} (hop : o.op = .extract a i) (ha : V x (.tup xs) (ρc a)) (hv : xs[i]? = some v) : OpOk P B S0 ρc o x (applyW h []) nc key v := by
  simp only [V] at ha
  obtain ⟨vs, ha, hl⟩ := ha
  obtain ⟨u, hu, hvu⟩ := hl.get hv
  refine pureOk hs (u := u) ?_ hvu
  simp [execOp, hop, ha, Instr.extract, hu]

theorem ok_mkf (hs : Sim B S0 h nc x) {f : Fn} {first cap : Array Operand} {fs cs : List AVal} (hop : o.op = .makeFunc f first cap) (h1 : VL x fs (first.toList.map ρc)) (h2 : VL x cs (cap.toList.map ρc)) : OpOk P B S0 ρc o x (applyW h []) nc key (.fn f fs cs) := by
  refine pureOk hs (u := .func f (first.map ρc) (cap.map ρc)) ?_ ?_
  · simp only [execOp, hop, Instr.makeFunc, Sem.run_bind, Sem.run_pure, Result.andThen_ok]
  · simp only [V]
    exact ⟨first.toList.map ρc, cap.toList.map ρc, by rw [← Array.toList_map, ← Array.toList_map], h1, h2⟩

theorem ok_mki (hs : Sim B S0 h nc x) {t : TypeId} {a : Operand} {va : AVal} {d : TypeDesc} (hop : o.op = .makeInterface t a) (ha : V x va (ρc a)) (ht : P.underlying t = some d) (hd : isIface d = false) : OpOk P B S0 ρc o x (applyW h []) nc key (.ifc t va) := by
  refine pureOk hs (u := .iface t (ρc a)) ?_ ?_
  · simp only [execOp, hop, Instr.makeInterface, Sem.run_bind, run_underlying ht, Result.andThen_ok]
    cases d <;> simp [isIface] at hd ⊢
  · simp only [V]; exact ⟨_, rfl, ha⟩

/-! slices of texts, of slices, of arrays -/
theorem run_bound {v : AVal} {u : Value} {n : Nat} (y : Nat) (code : BoundsCode) (hb : bnd (some v) 0 = some n) (hv : V x v u) (hn : n ≤ y) (w : World) : (Instr.sliceBound u y code).run P w = .ok n w := by
  unfold bnd at hb
  split at hb
  · rename_i h; cases h
  · rename_i k j h
    cases h
    split at hb
    · rename_i hj
      cases hb
      have hv := V_int hv
      have : 0 ≤ j ∧ j ≤ (y : Int) := ⟨hj, by omega⟩
      simp only [Instr.sliceBound, hv, asIntOf, Sem.run_bind, Sem.run_pure, Result.andThen_ok, Sem.run_ite, this, and_self, if_true]
    · cases hb
  · cases hb
theorem bnd_some {v : AVal} {d d' : Nat} : bnd (some v) d = bnd (some v) d' := by cases v <;> rfl

/-- The optional ends. -/
def VO (x : Ctx) : Option AVal → Option Value → Prop
  | none, none => True
  | some a, some u => V x a u
  | _, _ => False

theorem run_bounds {lo hi : Option AVal} {ul uh : Option Value} {isSl : Bool} {len cap l hh : Nat} (hl : VO x lo ul) (hh' : VO x hi uh) (h1 : bnd lo 0 = some l) (h2 : bnd hi len = some hh) (hlh : l ≤ hh) (hc : hh ≤ cap) (w : World) :
    (Instr.sliceBounds isSl len cap ul uh none).run P w = .ok (l, hh, cap) w := by
  have low : (∃ v u, lo = some v ∧ ul = some u ∧ ∀ code, (Instr.sliceBound u hh code).run P w = .ok l w) ∨ (ul = none ∧ l = 0) := by
    cases ul with
    | none =>
      cases lo with
      | none => simp only [bnd, Option.some.injEq] at h1; exact .inr ⟨rfl, h1.symm⟩
      | some _ => exact hl.elim
    | some u =>
      cases lo with
      | none => exact hl.elim
      | some v => exact .inl ⟨v, u, rfl, rfl, fun code => run_bound hh code h1 hl hlh w⟩
  have high : (∃ v u, hi = some v ∧ uh = some u ∧ ∀ code, (Instr.sliceBound u cap code).run P w = .ok hh w) ∨ (uh = none ∧ hh = len) := by
    cases uh with
    | none =>
      cases hi with
      | none => simp only [bnd, Option.some.injEq] at h2; exact .inr ⟨rfl, h2.symm⟩
      | some _ => exact hh'.elim
    | some u =>
      cases hi with
      | none => exact hh'.elim
      | some v => exact .inl ⟨v, u, rfl, rfl, fun code => run_bound cap code (bnd_some.trans h2) hh' hc w⟩
  rcases low with ⟨_, u1, _, rfl, e1⟩ | ⟨rfl, rfl⟩ <;> rcases high with ⟨_, u2, _, rfl, e2⟩ | ⟨rfl, rfl⟩ <;>
    simp only [Instr.sliceBounds, Sem.run_bind, Sem.run_pure, Result.andThen_ok] <;> first
      | (rw [e2]; simp only [Result.andThen_ok]; rw [e1]; simp only [Result.andThen_ok])
      | (rw [e1]; simp only [Result.andThen_ok])
      | (rw [e2]; simp only [Result.andThen_ok])

theorem ok_slS (hs : Sim B S0 h nc x) {t : TypeId} {a : Operand} {lo hi : Option Operand} {va v : AVal} {l h' : Option AVal} (hop : o.op = .slice t a lo hi none) (ha : V x va (ρc a)) (hl : VO x l (lo.map ρc)) (hh : VO x h' (hi.map ρc)) (ht : P.underlying t = some .string)
    (hv : slSA va l h' = some v) : OpOk P B S0 ρc o x (applyW h []) nc key v := by
  unfold slSA at hv
  split at hv
  · rename_i s
    split at hv
    · rename_i ll hhh e1 e2
      split at hv
      · rename_i hb
        cases hv
        have ha := V_str ha
        refine pureOk hs (u := .string (s.extract ll hhh)) ?_ (by simp only [V])
        simp only [execOp, hop, Instr.sliceAt, Sem.run_bind, run_underlying ht, Result.andThen_ok, Instr.slice, ha, Option.map_none, Option.isSome_none, Bool.false_eq_true, if_false, Sem.run_pure, run_bounds hl hh e1 e2 hb.1 hb.2]
      · cases hv
    · cases hv
  · cases hv

theorem VR_of_same {es : Nat} {xs : List AVal} {b o o' : Nat} (h : o = o') (hr : VR x es xs b o) : VR x es xs b o' := h ▸ hr

theorem ok_slV1 (hs : Sim B S0 h nc x) {t et : TypeId} {es0 : Nat} {a : Operand} {lo hi : Option Operand} {va v : AVal} {l h' : Option AVal} (hop : o.op = .slice t a lo hi none) (ha : V x va (ρc a)) (hl : VO x l (lo.map ρc)) (hh : VO x h' (hi.map ρc)) (ht : P.underlying t = some (.slice et)) (hn : szOf P et = some es0)
    (hv : slVA es0 va l h' none = some v) : OpOk P B S0 ρc o x (applyW h []) nc key v := by
  have run : ∀ ad (len cap ll hhh : Nat), ρc a = .slice ad len cap → bnd l 0 = some ll → bnd h' len = some hhh → ll ≤ hhh → hhh ≤ cap →
      (execOp ρc o).run P x.w = .ok (.value (.slice (if cap = ll then ad else ad.map (·.add (ll * es0))) (hhh - ll) (cap - ll))) x.w := by
    intro ad len cap ll hhh hp e1 e2 h1 h2
    simp only [execOp, hop, Instr.sliceAt, Sem.run_bind, run_underlying ht, Result.andThen_ok, Instr.slice, hp, Option.map_none, run_bounds hl hh e1 e2 h1 h2, szOf_run hn, Sem.run_pure]
  cases va <;> simp only [slVA] at hv <;> try cases hv
  case slc es xs =>
    split at hv
    · rename_i ll hhh e1 e2
      split at hv
      · rename_i hb
        obtain ⟨rfl, hb1, hb2⟩ := hb
        cases hv
        simp only [V] at ha
        obtain ⟨b, oo, cap, ha, hcap, hS, hr⟩ := ha
        refine pureOk hs (run _ _ _ _ _ ha e1 e2 hb1 (by omega)) ?_
        simp only [V]
        by_cases hc : cap = ll
        · refine ⟨b, oo, cap - ll, ?_, by simp; omega, .inl ?_, ?_⟩
          · simp only [hc, if_true]; congr 1; simp; omega
          · have : hhh - ll = 0 := by omega
            simp [this]
          · have : hhh - ll = 0 := by omega
            simp [this, VR]
        · refine ⟨b, oo + ll * es, cap - ll, ?_, by simp; omega, ?_, (hr.drop ll).take _⟩
          · simp only [hc, if_false, Option.map_some, add_off]; congr 1; simp; omega
          · rcases hS with rfl | hS
            · exact .inl (by simp)
            · exact .inr hS
      · cases hv
    · cases hv
  case sl k g es off len =>
    split at hv
    · rename_i ll hhh e1 e2
      split at hv
      · rename_i hb
        obtain ⟨rfl, hb1, hb2⟩ := hb
        cases hv
        simp only [V] at ha
        obtain ⟨b, oo, ad, cap, hρ, ha, hcap, had, hz, hsp⟩ := ha
        refine pureOk hs (run _ _ _ _ _ ha e1 e2 hb1 (by omega)) ?_
        simp only [V]
        by_cases hc : cap = ll
        · refine ⟨b, oo, ad, cap - ll, hρ, by simp only [hc, if_true], by omega, .inl (by omega), ?_, hsp⟩
          have : off + ll + (cap - ll) = off + cap := by omega
          rw [this]; exact hz
        · refine ⟨b, oo, ad.add (ll * es), cap - ll, hρ, by simp only [hc, if_false, Option.map_some], by omega, .inr ?_, ?_, ?_⟩
          · rw [had.resolve_left (by omega), add_off, Nat.add_mul, Nat.add_assoc]
          · have : off + ll + (cap - ll) = off + cap := by omega
            rw [this]; exact hz
          · rw [had.resolve_left (by omega), add_off]
      · cases hv
    · cases hv
  case nils =>
    split at hv
    · rename_i e1 e2
      cases hv
      simp only [V] at ha
      refine pureOk hs (run _ _ _ _ _ ha e1 e2 (Nat.le_refl _) (Nat.le_refl _)) ?_
      simp [V]
    · cases hv
  case emp =>
    split at hv
    · rename_i e1 e2
      cases hv
      simp only [V] at ha
      obtain ⟨ad, ha⟩ := ha
      refine pureOk hs (run _ _ _ _ _ ha e1 e2 (Nat.le_refl _) (Nat.le_refl _)) ?_
      simp [V]
    · cases hv

/-- with three numbers: what is left has no room at all -/
theorem run_bounds3 {lo hi : Option AVal} {ul uh : Option Value} {um : Value} {vm : AVal} {isSl : Bool} {len cap l hh m : Nat} (hl : VO x lo ul) (hh' : VO x hi uh) (hm : V x vm um) (h1 : bnd lo 0 = some l) (h2 : bnd hi len = some hh) (h3 : bnd (some vm) 0 = some m) (hsome : hi ≠ none) (hlh : l ≤ hh) (hc : hh ≤ m) (hm' : m ≤ cap) (w : World) :
    (Instr.sliceBounds isSl len cap ul uh (some um)).run P w = .ok (l, hh, m) w := by
  have low : (∃ v u, lo = some v ∧ ul = some u ∧ ∀ code, (Instr.sliceBound u hh code).run P w = .ok l w) ∨ (ul = none ∧ l = 0) := by
    cases ul with
    | none =>
      cases lo with
      | none => simp only [bnd, Option.some.injEq] at h1; exact .inr ⟨rfl, h1.symm⟩
      | some _ => exact hl.elim
    | some u =>
      cases lo with
      | none => exact hl.elim
      | some v => exact .inl ⟨v, u, rfl, rfl, fun code => run_bound hh code h1 hl hlh w⟩
  have high : ∃ u, uh = some u ∧ ∀ code, (Instr.sliceBound u m code).run P w = .ok hh w := by
    cases uh with
    | none =>
      cases hi with
      | none => exact absurd rfl hsome
      | some _ => exact hh'.elim
    | some u =>
      cases hi with
      | none => exact hh'.elim
      | some v => exact ⟨u, rfl, fun code => run_bound m code (bnd_some.trans h2) hh' hc w⟩
  have e3 : ∀ code, (Instr.sliceBound um cap code).run P w = .ok m w := fun code => run_bound cap code h3 hm hm' w
  obtain ⟨u2, rfl, e2⟩ := high
  rcases low with ⟨_, u1, _, rfl, e1⟩ | ⟨rfl, rfl⟩
  · simp only [Instr.sliceBounds, Sem.run_bind, Sem.run_pure, Result.andThen_ok]
    rw [e3]; simp only [Result.andThen_ok]; rw [e2]; simp only [Result.andThen_ok]; rw [e1]; simp only [Result.andThen_ok]
  · simp only [Instr.sliceBounds, Sem.run_bind, Sem.run_pure, Result.andThen_ok]
    rw [e3]; simp only [Result.andThen_ok]; rw [e2]; simp only [Result.andThen_ok]

theorem ok_slV3 (hs : Sim B S0 h nc x) {t et : TypeId} {es0 : Nat} {a m : Operand} {lo hi : Option Operand} {va v vm : AVal} {l h' : Option AVal} (hop : o.op = .slice t a lo hi (some m)) (ha : V x va (ρc a)) (hl : VO x l (lo.map ρc)) (hh : VO x h' (hi.map ρc)) (hm : V x vm (ρc m)) (hsome : h' ≠ none)
    (ht : P.underlying t = some (.slice et)) (hn : szOf P et = some es0) (hv : slVA es0 va l h' (some vm) = some v) : OpOk P B S0 ρc o x (applyW h []) nc key v := by
  have run : ∀ ad (len cap ll hhh mm : Nat), ρc a = .slice ad len cap → bnd l 0 = some ll → bnd h' len = some hhh → bnd (some vm) 0 = some mm → ll ≤ hhh → hhh ≤ mm → mm ≤ cap →
      (execOp ρc o).run P x.w = .ok (.value (.slice (if mm = ll then ad else ad.map (·.add (ll * es0))) (hhh - ll) (mm - ll))) x.w := by
    intro ad len cap ll hhh mm hp e1 e2 e3 h1 h2 h3
    simp only [execOp, hop, Instr.sliceAt, Sem.run_bind, run_underlying ht, Result.andThen_ok, Instr.slice, hp, Option.map_some, run_bounds3 hl hh hm e1 e2 e3 hsome h1 h2 h3, szOf_run hn, Sem.run_pure]
  cases va <;> simp only [slVA] at hv <;> try cases hv
  case slc es xs =>
    split at hv
    · rename_i ll hhh mm e1 e2 e3
      split at hv
      · rename_i hb
        obtain ⟨rfl, hb1, hb2, hb3⟩ := hb
        cases hv
        simp only [V] at ha
        obtain ⟨b, oo, cap, ha, hcap, hS, hr⟩ := ha
        refine pureOk hs (run _ _ _ _ _ _ ha e1 e2 e3 (by omega) (by omega) (by omega)) ?_
        simp only [V]
        refine ⟨⟨b, oo, none⟩, ?_⟩
        rw [if_pos (by omega)]
        congr 1 <;> omega
      · cases hv
    · cases hv
  case nils =>
    split at hv
    · rename_i e1 e2 e3
      cases hv
      simp only [V] at ha
      refine pureOk hs (run _ _ _ _ _ _ ha e1 e2 e3 (Nat.le_refl _) (Nat.le_refl _) (Nat.le_refl _)) ?_
      simp [V]
    · cases hv

theorem ok_slA (hs : Sim B S0 h nc x) {t et : TypeId} {n es0 : Nat} {a : Operand} {lo hi : Option Operand} {va v : AVal} {l h' : Option AVal} (hop : o.op = .slice t a lo hi none) (ha : V x va (ρc a)) (hl : VO x l (lo.map ρc)) (hh : VO x h' (hi.map ρc)) (ht : P.underlying t = some (.array n et)) (hn : szOf P et = some es0)
    (hv : slAA n es0 va l h' = some v) (hbig : ∀ k es, va = .ptr k 0 0 es 0 → ∀ b oo, x.ρ k 0 = some (b, oo) → oo + n * es0 ≤ bsz x.w b) : OpOk P B S0 ρc o x (applyW h []) nc key v := by
  have run : ∀ ad (ll hhh : Nat), ρc a = .pointer (some ad) → bnd l 0 = some ll → bnd h' n = some hhh → ll ≤ hhh → hhh ≤ n →
      (execOp ρc o).run P x.w = .ok (.value (.slice (some (if n = ll then ad else ad.add (ll * es0))) (hhh - ll) (n - ll))) x.w := by
    intro ad ll hhh hp e1 e2 h1 h2
    simp only [execOp, hop, Instr.sliceAt, Sem.run_bind, run_underlying ht, Result.andThen_ok, hp, Instr.sureAddr, Option.map_none, run_bounds hl hh e1 e2 h1 h2, szOf_run hn, Sem.run_pure]
  unfold slAA at hv
  split at hv
  · rename_i k es
    split at hv
    · rename_i ll hhh e1 e2
      split at hv
      · rename_i hb
        cases hv
        simp only [V] at ha
        obtain ⟨b, oo, hρ, ha⟩ := ha
        have hbig' := hbig k es rfl b oo hρ
        simp only [Nat.zero_mul, Nat.add_zero] at ha
        refine pureOk hs (run _ _ _ ha e1 e2 hb.1 hb.2) ?_
        simp only [V]
        refine ⟨b, oo, _, n - ll, hρ, rfl, by omega, ?_, ?_, ?_⟩
        · by_cases hc : n = ll
          · exact .inl (by omega)
          · refine .inr ?_
            simp only [hc, if_false, add_off]
        · have : ll + (n - ll) = n := by omega
          rw [this]; exact hbig'
        · split <;> simp [add_off]
      · cases hv
    · cases hv
  · cases hv

end
end Go.Xec
