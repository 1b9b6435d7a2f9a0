/-
  Texts that are gone through, bytes that become a text, maps: what the interpreter answers is what the machine answers.
-/
import Derived.Test.YtppehejnnjlkfaaGreatDoorXK
import Derived.Laws.BytesString
import Derived.MapKept
set_option linter.unusedVariables false
set_option linter.unusedSimpArgs false
namespace Go.Xec
open Go

section
variable {P : Program} {B : Nat} {S0 : Base} {ρc : Operand → Value} {o : Oper} {x : Ctx} {h : Heap} {nc : Nat} {key : Key} {e : XArg → AVal}

theorem ints_of_bytes {y : Ctx} : ∀ {ys : List AVal} {bs : List UInt8} {us : List Value}, bytesOf ys = some bs → VL y ys us → ∃ ns : List Int, us = ns.map (Value.int .u8) ∧ bs = ns.map fun n => UInt8.ofNat n.toNat
  | [], bs, us, h, hl => by
    simp only [bytesOf, Option.some.injEq] at h
    simp only [VL] at hl
    exact ⟨[], by simp [hl], by simp [← h]⟩
  | a :: r, bs, us, h, hl => by
    unfold bytesOf at h
    split at h
    · rename_i e; cases e
    · rename_i n r' e
      cases e
      cases h' : bytesOf r with
      | none => rw [h'] at h; cases h
      | some b' =>
        rw [h'] at h
        simp only [Option.map_some, Option.some.injEq] at h
        simp only [VL] at hl
        obtain ⟨v, us', rfl, hv, hr⟩ := hl
        have hv := V_int hv
        subst hv
        obtain ⟨ns, rfl, rfl⟩ := ints_of_bytes h' hr
        exact ⟨n :: ns, by simp, by simp [← h]⟩
    · cases h
theorem flat_bytes : ∀ {ys : List AVal} {bs : List UInt8}, bytesOf ys = some bs → ys.flatMap cellsOf = ys
  | [], _, _ => rfl
  | a :: r, bs, h => by
    unfold bytesOf at h
    split at h
    · rename_i e; cases e
    · rename_i n r' e
      cases e
      cases h' : bytesOf r with
      | none => rw [h'] at h; cases h
      | some b' => simp only [List.flatMap_cons, cellsOf, flat_bytes h', List.singleton_append]
    · cases h
theorem foldl_push (ns : List Int) : ∀ (s : ByteArray), ns.foldl (fun r n => r.push (UInt8.ofNat n.toNat)) s = ⟨s.data ++ (ns.map fun n => UInt8.ofNat n.toNat).toArray⟩ := by
  induction ns with
  | nil => intro s; simp
  | cons n ns ih =>
    intro s
    rw [List.foldl_cons, ih]
    congr 1
    simp [ByteArray.push]
theorem ok_b2s (hs : Sim B S0 h nc x) {s d u : TypeId} {a : Operand} {va v : AVal} {ws : Wr} (hop : o.op = .convert s d a) (ha : V x va (ρc a)) (hsl : P.underlying s = some (.slice u)) (hd : P.underlying d = some .string) (hu : P.underlying u = some (.int .u8))
    (hr : (b2sR va).run h = some (v, ws)) : OpOk P B S0 ρc o x (applyW h ws) nc key v := by
  have key1 : ∃ ys bs, (elemsR 1 va).run h = some ys ∧ bytesOf ys = some bs ∧ v = .str ⟨bs.toArray⟩ ∧ ws = [] ∧ ∀ s, va ≠ .str s := by
    unfold b2sR at hr
    split at hr
    · cases hr
    · rename_i hne
      rw [Rd.run_bind] at hr
      cases h1 : (elemsR 1 va).run h with
      | none => rw [h1] at hr; cases hr
      | some ys =>
        rw [h1] at hr
        simp only [Option.bind_some, Rd.run_bind, Rd.run_ofO] at hr
        cases h2 : bytesOf ys with
        | none => rw [h2] at hr; cases hr
        | some bs =>
          rw [h2] at hr
          simp only [Option.bind_some, Rd.run_ret, Option.some.injEq, Prod.mk.injEq] at hr
          exact ⟨ys, bs, rfl, h2, hr.1.symm, hr.2.symm, fun s e => hne s e⟩
  obtain ⟨ys, bs, h1, h2, rfl, rfl, hns⟩ := key1
  have fin : ∀ r : ByteArray, (Conv.bytesToString (ρc a)).run P x.w = .ok (.string r) x.w → r = ⟨bs.toArray⟩ → OpOk P B S0 ρc o x (applyW h []) nc key (.str ⟨bs.toArray⟩) := by
    intro r hr e
    subst e
    refine pureOk hs (u := .string ⟨bs.toArray⟩) ?_ (by simp [V])
    have hsome : ∃ ad l c, ρc a = .slice ad l c := by
      revert hr
      unfold Conv.bytesToString
      cases ρc a <;> simp
    obtain ⟨ad, l, c, he⟩ := hsome
    rw [he] at hr
    simp [execOp, hop, he, convert, run_underlying hsl, run_underlying hd, run_underlying hu, Result.andThen, hr]
  have rowCase : ∀ (b oo cap : Nat), ρc a = .slice (some ⟨b, oo, none⟩) ys.length cap → (∃ y : Ctx, y.w = x.w ∧ VR y 1 ys b oo) → OpOk P B S0 ρc o x (applyW h []) nc key (.str ⟨bs.toArray⟩) := by
    rintro b oo cap he ⟨y, hyw, hvr⟩
    obtain ⟨hc, _⟩ := VR_flat hvr
    rw [flat_bytes h2] at hc
    obtain ⟨us, hus, hcell⟩ := VL_of_VC hc
    obtain ⟨ns, rfl, rfl⟩ := ints_of_bytes h2 hus
    have hlen : ns.length = ys.length := by simpa using hus.length
    have hload : (loadCells ⟨b, oo, none⟩ ys.length).run P x.w = .ok (ns.map (Value.int .u8)).toArray x.w := by
      have := run_loadCells_list (P := P) (w := x.w) ⟨b, oo, none⟩ (ns.map (Value.int .u8)) (fun j v hj => by rw [add_off, ← hyw]; exact hcell j v hj)
      rw [List.length_map, hlen] at this
      exact this
    refine fin _ (by rw [he]; exact run_bytesToString _ _ _ _ _ hload) ?_
    rw [foldl_push]
    simp [ByteArray.empty, ByteArray.emptyWithCapacity]
    rfl
  cases va with
  | nils =>
    simp only [V] at ha
    simp only [elemsR, Rd.run_ret, Option.some.injEq] at h1
    subst h1
    simp only [bytesOf, Option.some.injEq] at h2
    subst h2
    refine fin ByteArray.empty ?_ rfl
    rw [ha]
    simp [Conv.bytesToString]
  | emp =>
    simp only [V] at ha
    obtain ⟨ad, ha⟩ := ha
    simp only [elemsR, Rd.run_ret, Option.some.injEq] at h1
    subst h1
    simp only [bytesOf, Option.some.injEq] at h2
    subst h2
    refine fin ByteArray.empty ?_ rfl
    rw [ha]
    have hload : (loadCells ad 0).run P x.w = .ok (([] : List Int).map (Value.int .u8)).toArray x.w := run_loadCells_list (P := P) (w := x.w) ad [] (by simp)
    exact run_bytesToString _ _ _ _ _ hload
  | slc es xs =>
    simp only [V] at ha
    obtain ⟨b, oo, cap, ha, hcap, hS, hvr⟩ := ha
    simp only [elemsR] at h1
    split at h1
    · rename_i he
      subst he
      simp only [Rd.run_ret, Option.some.injEq] at h1
      subst h1
      exact rowCase b oo cap ha ⟨x.bare, rfl, hvr⟩
    · cases h1
  | sl k g es off len =>
    simp only [V] at ha
    obtain ⟨b, oo, ad, cap, hρ, ha, hlc, had, hz, hsp⟩ := ha
    simp only [elemsR] at h1
    split at h1
    · rename_i he
      subst he
      simp only [Rd.run_get] at h1
      cases hk : h k with
      | none => rw [hk] at h1; cases h1
      | some blk =>
        rw [hk] at h1
        simp only [Rd.run_ofO] at h1
        obtain ⟨_, hl, hvr⟩ := els_ok hs hk hρ h1
        rcases had with hc0 | had
        · have : len = 0 := by omega
          subst this
          obtain rfl : ys = [] := List.length_eq_zero_iff.1 hl
          simp only [bytesOf, Option.some.injEq] at h2
          subst h2
          refine fin ByteArray.empty ?_ rfl
          rw [ha]
          have hload : (loadCells ad 0).run P x.w = .ok (([] : List Int).map (Value.int .u8)).toArray x.w := run_loadCells_list (P := P) (w := x.w) ad [] (by simp)
          exact run_bytesToString _ _ _ _ _ hload
        · subst had
          rw [← hl] at ha
          exact rowCase b (oo + off * 1) cap ha ⟨x, rfl, hvr⟩
    · cases h1
  | str s => exact absurd rfl (hns s)
  | _ => simp [elemsR, Rd.run] at h1

/-! ### what is no row -/
theorem freshObj (hs : Sim B S0 h nc x) (hk : key.2 < nc) (hfresh : ∀ g, x.ρ key g = none) {u : Value} {w' : World} {ob : Obj} {a : AObj} {v : AVal} (hr : (execOp ρc o).run P x.w = .ok (.value u) w') (hw : w'.heap = x.w.heap.push ob) (henv : SameEnv x.w w')
    (hb : ∀ y : Ctx, OO y a ob) (hv : ∀ y : Ctx, y.ρ key 0 = some (x.w.heap.size, 0) → V y v u) : OpOk P B S0 ρc o x (applyW h [(key, some (.obj a))]) nc key v := by
  obtain ⟨y, h1, h2, h3, h4, h5, h6⟩ := hs.freshO key 0 (.obj a) w' ob hk rfl (fun g p hp => by rw [hfresh] at hp; cases hp) hw henv
  refine ⟨u, y, .inl (by rw [h1]; exact hr), hv y (by rw [h2]; exact ρset_same _ _ _ _), h6 ⟨rfl, ob, h5, hb y⟩, h4, ?_⟩
  intro k g p hp
  rw [h2] at hp
  rcases ρset_inv _ _ _ _ hp with h7 | ⟨h7, _⟩
  · exact .inl ⟨g, p, h7⟩
  · exact .inr h7
theorem ok_rngS (hs : Sim B S0 h nc x) (hk : key.2 < nc) (hfresh : ∀ g, x.ρ key g = none) {t : TypeId} {a : Operand} {s : ByteArray} (hop : o.op = .range t a) (ht : P.underlying t = some .string) (ha : V x (.str s) (ρc a)) :
    OpOk P B S0 ρc o x (applyW h [(key, some (.obj (.iter s 0)))]) nc key (.ptr key 0 0 0 0) := by
  have ha := V_str ha
  refine freshObj hs hk hfresh (u := .pointer (some ⟨x.w.heap.size, 0, none⟩)) (w' := x.w.alloc (.stringIter s 0)) (ob := .stringIter s 0) ?_ rfl ⟨rfl, rfl, rfl⟩ (fun y => rfl) (fun y hρ => V_ptr0 hρ)
  simp [execOp, hop, ha, Instr.range, run_underlying ht, Result.andThen]
theorem ok_mkM (hs : Sim B S0 h nc x) (hk : key.2 < nc) (hfresh : ∀ g, x.ρ key g = none) {t : TypeId} (hop : o.op = .makeMap t none) :
    OpOk P B S0 ρc o x (applyW h [(key, some (.obj (.map [] 0)))]) nc key (.mp key) := by
  refine freshObj hs hk hfresh (u := .map (some x.w.heap.size)) (w' := x.w.alloc (.map #[] 0)) (ob := .map #[] 0) ?_ rfl ⟨rfl, rfl, rfl⟩ (fun y => ⟨#[], rfl, rfl⟩) (fun y hρ => by simp only [V]; exact ⟨_, hρ, rfl⟩)
  simp [execOp, hop, Instr.makeMap, Result.andThen]
theorem writeObj (hs : Sim B S0 h nc x) {k : Key} {a0 a1 : AObj} {b : Nat} {ob ob' : Obj} (hk : h k = some (.obj a0)) (hρ : x.ρ k 0 = some (b, 0)) (hb : x.w.heap[b]? = some ob) (ho : osz ob ≤ osz ob') {u : Value} {v : AVal} {w' : World}
    (hr : (execOp ρc o).run P x.w = .ok (.value u) w' ∨ ((execOp ρc o).run P x.w = .ok .skip w' ∧ u = undef)) (hw : w'.heap = x.w.heap.setIfInBounds b ob') (henv : SameEnv x.w w') (hb' : ∀ y, Grow x y → OO y a1 ob') (hv : ∀ y, Grow x y → V y v u) :
    OpOk P B S0 ρc o x (applyW h [(k, some (.obj a1))]) nc key v := by
  obtain ⟨y, h1, h2, h3, h4, h5, h6, h7⟩ := hs.writeO k (.obj a0) b 0 hk hρ 0 0 (.obj a1) w' ob ob' hb ho rfl (.inl ⟨rfl, rfl⟩) hw henv
  refine ⟨u, y, by rw [h1]; exact hr, hv y h5.grow, h7 ⟨rfl, ob', h6, hb' y h5.grow⟩, h5, ?_⟩
  intro k' g p hp
  rcases h4 k' g p hp with h8 | h8
  · exact .inl ⟨g, p, h8⟩
  · subst h8; exact .inl ⟨0, _, hρ⟩
theorem ok_nxtS (hs : Sim B S0 h nc x) {a : Operand} {va v : AVal} {ws : Wr} (hop : o.op = .next a true) (ha : V x va (ρc a)) (hr : (nxtSR va).run h = some (v, ws)) : OpOk P B S0 ρc o x (applyW h ws) nc key v := by
  unfold nxtSR at hr
  split at hr
  · rename_i k es
    simp only [V] at ha
    obtain ⟨b, oo, hρ, ha⟩ := ha
    simp only [Rd.run_get] at hr
    split at hr
    · rename_i s pos hk
      obtain ⟨b', o', h1, _, _, h4⟩ := hs.live k _ hk
      simp only [Blk.gen] at h1
      rw [hρ] at h1
      cases h1
      obtain ⟨rfl, ob, hb, hob⟩ := h4
      simp only [OO] at hob
      subst hob
      simp only [Nat.zero_mul, Nat.add_zero] at ha
      split at hr
      · rename_i hlt
        simp only [Rd.run_ret, Option.some.injEq, Prod.mk.injEq] at hr
        obtain ⟨rfl, rfl⟩ := hr
        refine writeObj hs hk hρ hb (ob' := .stringIter s (pos + (Utf8.decode s pos).2)) (by simp [osz]) (u := .tuple #[.bool true, .int .i64 pos, .int .i32 (Utf8.decode s pos).1]) (w' := { x.w with heap := x.w.heap.setIfInBounds b (.stringIter s (pos + (Utf8.decode s pos).2)) })
          (.inl ?_) rfl ⟨rfl, rfl, rfl⟩ (fun y _ => rfl) (fun y _ => ?_)
        · simp [execOp, hop, ha, Instr.next, getObj, setObj, Sem.run, hb, hlt, Result.andThen, goInt]
        · simp only [V, VL]
          exact ⟨_, rfl, _, _, rfl, rfl, _, _, rfl, rfl, _, _, rfl, rfl, rfl⟩
      · rename_i hlt
        simp only [Rd.run_ret, Option.some.injEq, Prod.mk.injEq] at hr
        obtain ⟨rfl, rfl⟩ := hr
        refine pureOk hs (u := .tuple #[.bool false]) ?_ ?_
        · simp [execOp, hop, ha, Instr.next, getObj, Sem.run, hb, hlt, Result.andThen]
        · simp only [V, VL]
          exact ⟨_, rfl, _, _, rfl, rfl, rfl⟩
    · cases hr
  · cases hr

/-! ### maps -/
def KeyD (kd : Nat) (d : TypeDesc) : Prop := (kd = 0 ∧ ∃ k, d = .int k) ∨ (kd = 1 ∧ d = .bool) ∨ (kd = 2 ∧ d = .string)
theorem keyTy_ok {t : TypeId} {kd : Nat} (h : keyTy P t kd = true) : (∃ d, P.underlying t = some d ∧ KeyD kd d) ∨ ∃ n fs, kd = n + 3 ∧ P.underlying t = some (.struct fs) ∧ kinds P 20 t = some (List.replicate n 0) ∧ fs.toList.length = n ∧ intFs P fs.toList 0 = true := by
  unfold keyTy at h
  split at h
  · rename_i k hu; exact .inl ⟨_, hu, .inl ⟨by simpa using h, k, rfl⟩⟩
  · rename_i hu; exact .inl ⟨_, hu, .inr (.inl ⟨by simpa using h, rfl⟩)⟩
  · rename_i hu; exact .inl ⟨_, hu, .inr (.inr ⟨by simpa using h, rfl⟩)⟩
  · rename_i fs hu
    split at h
    · rename_i n
      simp only [Bool.and_eq_true, decide_eq_true_eq] at h
      exact .inr ⟨n, fs, rfl, hu, h.1.1, h.1.2, h.2⟩
    · cases h
  · cases h
theorem run_checkKeyD {t : TypeId} {kd : Nat} {d : TypeDesc} (hu : P.underlying t = some d) (hd : KeyD kd d) (em : Bool) (v : Value) (w : World) : (Instr.checkKey em 10000 t v).run P w = .ok () w := by
  unfold Instr.checkKey
  simp only [Sem.run_bind, run_underlying hu, Result.andThen]
  rcases hd with ⟨_, k, rfl⟩ | ⟨_, rfl⟩ | ⟨_, rfl⟩ <;> simp
theorem ints_cells {y : Ctx} : ∀ {xs : List AVal} {cs : List Value}, xs.all isIntA = true → VL y xs cs → ∀ c ∈ cs, ∃ k n, c = .int k n
  | [], cs, _, h => by simp only [VL] at h; subst h; simp
  | a :: xs, cs, ha, h => by
    simp only [VL] at h
    obtain ⟨v, r, rfl, h1, h2⟩ := h
    simp only [List.all_cons, Bool.and_eq_true] at ha
    intro c hc
    rcases List.mem_cons.1 hc with rfl | hc
    · cases a <;> simp [isIntA] at ha
      exact ⟨_, _, V_int h1⟩
    · exact ints_cells ha.2 h2 c hc
theorem checkFields_ok (em : Bool) (d : Nat) (cs : Array Value) (hc : ∀ c ∈ cs.toList, ∃ k n, c = Value.int k n) (w : World) : ∀ (fs : List Field) (off : Nat), intFs P fs off = true → off + fs.length ≤ cs.size →
    (forIn fs PUnit.unit fun f _ => (if f.name ≠ "_" then (do let a ← part f.type cs f.offset; Instr.checkKey em (d + 1) f.type a; pure (ForInStep.yield PUnit.unit)) else pure (ForInStep.yield PUnit.unit) : Sem (ForInStep PUnit))).run P w = .ok PUnit.unit w
  | [], off, _, _ => by simp
  | f :: fs, off, h, hl => by
    simp only [intFs, Bool.and_eq_true, beq_iff_eq] at h
    obtain ⟨⟨h1, h2⟩, h3⟩ := h
    split at h2
    · rename_i k hu
      simp only [List.length_cons] at hl
      have hlt : off < cs.size := by omega
      obtain ⟨k', n, hv⟩ := hc cs[off] (by simp)
      have hp := part_cell (P := P) hu rfl (vs := cs) (off := off) (v := cs[off]) (Array.getElem?_eq_getElem hlt) w
      have hck : (Instr.checkKey em (d + 1) f.type cs[off]).run P w = .ok () w := by
        rw [hv]
        unfold Instr.checkKey
        simp only [Sem.run_bind, run_underlying hu, Result.andThen]
        simp
      have ih := checkFields_ok em d cs hc w fs (off + 1) h3 (by omega)
      subst h1
      by_cases hn : f.name = "_"
      · simp only [List.forIn_cons, Sem.run_bind, hn, ne_eq, not_true_eq_false, if_false, Sem.run_pure, Result.andThen_ok]
        exact ih
      · simp only [List.forIn_cons, Sem.run_bind, hn, ne_eq, not_false_eq_true, if_true, hp, hck, Sem.run_pure, Result.andThen_ok]
        exact ih
    · cases h2
theorem checkKey_ok {t : TypeId} {kd : Nat} (hkt : keyTy P t kd = true) (em : Bool) {y : Ctx} {a : AVal} {v : Value} (hk : keyOk kd a = true) (hv : V y a v) (w : World) : (Instr.checkKey em 10000 t v).run P w = .ok () w := by
  rcases keyTy_ok hkt with ⟨d, hu, hd⟩ | ⟨n, fs, rfl, hu, hki, hn, hfs⟩
  · exact run_checkKeyD hu hd em v w
  · unfold keyOk at hk
    split at hk
    · rename_i n' xs e
      have e : n = n' := by omega
      subst e
      simp only [Bool.and_eq_true, decide_eq_true_eq] at hk
      simp only [V] at hv
      obtain ⟨cs, rfl, hl⟩ := hv
      have hlen := hl.length
      rw [show (10000 : Nat) = 9999 + 1 from rfl, Instr.checkKey]
      simp only [Sem.run_bind, run_underlying hu, Result.andThen_ok]
      rw [← Array.forIn_toList]
      have := checkFields_ok (P := P) em 9998 cs.toArray (ints_cells hk.2 hl) w fs.toList 0 hfs (by have h1 := hk.1; rw [hn]; simp only [List.size_toArray]; omega)
      rw [this]
      simp only [Result.andThen_ok, Sem.run_pure]
    · cases hk
    · rename_i h1 h2
      exact absurd rfl (h1 n)
theorem keq_ok {kd : Nat} {d : TypeDesc} (hd : KeyD kd d) {y : Ctx} {a c : AVal} {u v : Value} {b : Bool} (h : keq kd a c = some b) (ha : V y a u) (hc : V y c v) : Instr.sameNow d u v = some b ∧ (b = true → u = v ∧ Instr.sameBits 10000 v u = true) := by
  unfold keq at h
  split at h
  · have ha := V_int ha
    have hc := V_int hc
    subst ha; subst hc
    split at h
    · rename_i hk
      subst hk
      cases h
      rcases hd with ⟨_, k, rfl⟩ | ⟨h0, _⟩ | ⟨h0, _⟩
      · refine ⟨by simp [Instr.sameNow], fun e => ?_⟩
        have e := eq_of_beq e
        subst e
        exact ⟨rfl, by simp [Instr.sameBits]⟩
      · cases h0
      · cases h0
    · cases h
  · have ha := V_bool ha
    have hc := V_bool hc
    subst ha; subst hc
    cases h
    rcases hd with ⟨h0, _⟩ | ⟨_, rfl⟩ | ⟨h0, _⟩
    · cases h0
    · refine ⟨by simp [Instr.sameNow], fun e => ?_⟩
      have e := eq_of_beq e
      subst e
      exact ⟨rfl, by simp [Instr.sameBits]⟩
    · cases h0
  · have ha := V_str ha
    have hc := V_str hc
    subst ha; subst hc
    cases h
    rcases hd with ⟨h0, _⟩ | ⟨h0, _⟩ | ⟨_, rfl⟩
    · cases h0
    · cases h0
    · refine ⟨by simp [Instr.sameNow], fun e => ?_⟩
      have key : ∀ s t : ByteArray, (s == t) = true → s = t := fun s t e => by
        exact (MapKept.bytes_beq s t).1 e
      have e := key _ _ e
      subst e
      exact ⟨rfl, by
        have key : ∀ s : ByteArray, (s == s) = true := fun s => by
          exact (MapKept.bytes_beq s s).2 rfl
        simp [Instr.sameBits, key]⟩
  · rename_i n xs ys
    rcases hd with ⟨e, _⟩ | ⟨e, _⟩ | ⟨e, _⟩ <;> exact absurd e (by omega)
  · cases h
theorem findA_ok {kd : Nat} {d : TypeDesc} (hd : KeyD kd d) {y : Ctx} {a : AVal} {u : Value} (ha : V y a u) : ∀ {es : List (AVal × AVal × Nat)} {l : List MapEntry} {i : Nat} {r : Option (Nat × AVal × Nat)}, EL y es l → findA kd a es i = some r →
    (r = none ∧ Instr.findNow d u l i = some none) ∨ ∃ j v n e k', r = some (i + j, v, n) ∧ l[j]? = some e ∧ V y v e.val ∧ e.born = n ∧ e.key = u ∧ Instr.sameBits 10000 e.key u = true ∧ es[j]? = some (k', v, n) ∧ Instr.findNow d u l i = some (some (i + j, e.val))
  | [], l, i, r, hl, h => by
    have hkk : keyOk kd a = true := by rcases hd with ⟨rfl, _⟩ | ⟨rfl, _⟩ | ⟨rfl, _⟩ <;> rfl
    simp only [findA, hkk, if_true, Option.some.injEq] at h
    simp only [EL] at hl
    subst hl
    exact .inl ⟨h.symm, rfl⟩
  | c :: es, l, i, r, hl, h => by
    obtain ⟨e, l', rfl, h1, h2, h3, h4⟩ := hl
    simp only [findA] at h
    cases hk : keq kd a c.1 with
    | none => rw [hk] at h; cases h
    | some b =>
      rw [hk] at h
      obtain ⟨h5, h6⟩ := keq_ok hd hk ha h1
      cases b with
      | true =>
        simp only [Option.some.injEq] at h
        obtain ⟨h7, h8⟩ := h6 rfl
        exact .inr ⟨0, c.2.1, c.2.2, e, c.1, by rw [← h]; rfl, rfl, h2, h3, h7.symm, h8, rfl, by simp [Instr.findNow, h5]⟩
      | false =>
        simp only at h
        rcases findA_ok hd ha h4 h with ⟨h7, h8⟩ | ⟨j, v, n, e', k', h7, h8, h9, h10, h11, h12, h13, h14⟩
        · exact .inl ⟨h7, by simp [Instr.findNow, h5, h8]⟩
        · exact .inr ⟨j + 1, v, n, e', k', by rw [h7]; congr 2; omega, by simpa using h8, h9, h10, h11, h12, by simpa using h13, by simp [Instr.findNow, h5, h14]; omega⟩
theorem run_findKeyD {t : TypeId} {d : TypeDesc} {k : Value} {l : List MapEntry} {r : Option (Nat × Value)} (hu : P.underlying t = some d) (h : Instr.findNow d k l 0 = some r) (w : World) : (Instr.findKey t k l).run P w = .ok r w := by
  simp [Instr.findKey, run_underlying hu, Result.andThen, h]
theorem eqInts_same {y : Ctx} : ∀ {n : Nat} {xs ys : List AVal} {cs ds : List Value}, eqCells (List.replicate n 0) xs ys = some true → VL y xs cs → VL y ys ds → cs = ds ∧ (cs.zip ds).all (fun p => Instr.sameBits 9999 p.1 p.2) = true
  | 0, [], [], cs, ds, _, h1, h2 => by
    simp only [VL] at h1 h2
    subst h1; subst h2
    exact ⟨rfl, rfl⟩
  | 0, _ :: _, _, _, _, h, _, _ => by simp [eqCells] at h
  | 0, [], _ :: _, _, _, h, _, _ => by simp [eqCells] at h
  | n + 1, [], _, _, _, h, _, _ => by simp [eqCells, List.replicate_succ] at h
  | n + 1, _ :: _, [], _, _, h, _, _ => by simp [eqCells, List.replicate_succ] at h
  | n + 1, a :: xs, b :: ys, cs, ds, h, h1, h2 => by
    simp only [VL] at h1 h2
    obtain ⟨v, r, rfl, v1, v2⟩ := h1
    obtain ⟨u, q, rfl, u1, u2⟩ := h2
    simp only [List.replicate_succ, eqCells] at h
    cases he : eq1 0 a b with
    | none => rw [he] at h; cases h
    | some p =>
      cases hf : eqCells (List.replicate n 0) xs ys with
      | none => rw [he, hf] at h; cases h
      | some p' =>
        rw [he, hf] at h
        simp only [Option.some.injEq, Bool.and_eq_true] at h
        obtain ⟨rfl, rfl⟩ := h
        obtain ⟨e1, e2⟩ := eqInts_same hf v2 u2
        unfold eq1 at he
        split at he
        · rename_i k m k' m'
          have v1 := V_int v1
          have u1 := V_int u1
          subst v1; subst u1
          split at he
          · rename_i hkk
            simp only [Option.some.injEq, beq_iff_eq] at he
            subst hkk; subst he; subst e1
            exact ⟨rfl, by simp only [List.zip_cons_cons, List.all_cons, e2, Bool.and_true]; simp [Instr.sameBits]⟩
          · cases he
        · rename_i h0; exact absurd h0 (by decide)
        · rename_i h0; exact absurd h0 (by decide)
        · cases he
theorem keyOk_keq {n : Nat} {a c : AVal} {b : Bool} (h : keq (n + 3) a c = some b) : ∃ xs ys, a = .agg xs ∧ c = .agg ys ∧ eqCells (List.replicate n 0) xs ys = some b := by
  unfold keq at h
  split at h
  · rename_i e; exact absurd e (by omega)
  · rename_i e; exact absurd e (by omega)
  · rename_i e; exact absurd e (by omega)
  · rename_i n' xs ys e
    have : n = n' := by omega
    subst this
    exact ⟨xs, ys, rfl, rfl, h⟩
  · cases h
theorem ints_of_eq : ∀ {n : Nat} {xs ys : List AVal} {b : Bool}, eqCells (List.replicate n 0) xs ys = some b → xs.length = n ∧ xs.all isIntA = true
  | 0, [], [], b, _ => ⟨rfl, rfl⟩
  | 0, _ :: _, _, _, h => by simp [eqCells] at h
  | 0, [], _ :: _, _, h => by simp [eqCells] at h
  | n + 1, [], _, _, h => by simp [eqCells, List.replicate_succ] at h
  | n + 1, _ :: _, [], _, h => by simp [eqCells, List.replicate_succ] at h
  | n + 1, a :: xs, c :: ys, b, h => by
    simp only [List.replicate_succ, eqCells] at h
    cases he : eq1 0 a c with
    | none => rw [he] at h; cases h
    | some p =>
      cases hf : eqCells (List.replicate n 0) xs ys with
      | none => rw [he, hf] at h; cases h
      | some p' =>
        obtain ⟨e1, e2⟩ := ints_of_eq hf
        refine ⟨by simp [e1], ?_⟩
        rw [List.all_cons, e2, Bool.and_true]
        unfold eq1 at he
        split at he
        · rfl
        · rename_i h0; exact absurd h0 (by decide)
        · rename_i h0; exact absurd h0 (by decide)
        · cases he
theorem findS_ok {t : TypeId} {n : Nat} {fs : Array Field} (hu : P.underlying t = some (.struct fs)) (hki : kinds P 20 t = some (List.replicate n 0)) {y : Ctx} {a : AVal} {u : Value} (ha : V y a u) (w : World) : ∀ {es : List (AVal × AVal × Nat)} {l : List MapEntry} {i : Nat} {r : Option (Nat × AVal × Nat)}, EL y es l → findA (n + 3) a es i = some r →
    keyOk (n + 3) a = true ∧ ((r = none ∧ (Instr.findAsking t u l i).run P w = .ok none w) ∨ ∃ j v m e k', r = some (i + j, v, m) ∧ l[j]? = some e ∧ V y v e.val ∧ e.born = m ∧ e.key = u ∧ Instr.sameBits 10000 e.key u = true ∧ es[j]? = some (k', v, m) ∧ (Instr.findAsking t u l i).run P w = .ok (some (i + j, e.val)) w)
  | [], l, i, r, hl, h => by
    simp only [findA] at h
    split at h
    · rename_i hk
      simp only [Option.some.injEq] at h
      simp only [EL] at hl
      subst hl
      exact ⟨hk, .inl ⟨h.symm, by simp [Instr.findAsking]⟩⟩
    · cases h
  | c :: es, l, i, r, hl, h => by
    obtain ⟨e, l', rfl, h1, h2, h3, h4⟩ := hl
    simp only [findA] at h
    cases hk : keq (n + 3) a c.1 with
    | none => rw [hk] at h; cases h
    | some b =>
      rw [hk] at h
      obtain ⟨xs, ys, rfl, e2, e3⟩ := keyOk_keq hk
      rw [e2] at h1
      obtain ⟨l1, l2⟩ := eqCells_len _ _ _ _ e3
      obtain ⟨g1, g2⟩ := ints_of_eq e3
      have hko : keyOk (n + 3) (.agg xs) = true := by simp only [keyOk, Bool.and_eq_true, decide_eq_true_eq]; exact ⟨g1, g2⟩
      have ha' := ha
      simp only [V] at ha h1
      obtain ⟨vs, rfl, hl1⟩ := ha
      obtain ⟨us, hus, hl2⟩ := h1
      have q1 : vs.length = n := by rw [hl1.length, g1]
      have q2 : us.length = n := by rw [hl2.length, l2]; simp
      have hag : aggOf P t = some true := by unfold aggOf; rw [hu]; rfl
      have hsz := kinds_struct hki hu
      rw [List.length_replicate] at hsz
      obtain ⟨va, vb, p1, p2, p3⟩ := kinds_ok 20 t _ hki y 9980 w xs ys vs.toArray us.toArray 0 b (by simp [← q1]; exact hl1) (by simp [← q2]; exact hl2) e3
      rw [part_agg hag hsz] at p1 p2
      cases p1; cases p2
      have q3 : vs.toArray.extract 0 (0 + n) = vs.toArray := by simp [← q1]
      have q4 : us.toArray.extract 0 (0 + n) = us.toArray := by simp [← q2]
      rw [q3, q4] at p3
      have heq : (Op.equal t (.agg vs.toArray) e.key).run P w = .ok b w := by rw [hus]; exact p3
      cases b with
      | true =>
        simp only [Option.some.injEq] at h
        obtain ⟨s1, s2⟩ := eqInts_same e3 hl1 hl2
        refine ⟨hko, .inr ⟨0, c.2.1, c.2.2, e, c.1, by rw [← h]; rfl, rfl, h2, h3, by rw [hus, s1], ?_, rfl, by simp [Instr.findAsking, heq, Result.andThen]⟩⟩
        rw [hus]
        subst s1
        show Instr.sameBits (9999 + 1) (.agg vs.toArray) (.agg vs.toArray) = true
        simp only [Instr.sameBits, Bool.and_eq_true, beq_self_eq_true, true_and]
        exact s2
      | false =>
        simp only at h
        obtain ⟨_, h5⟩ := findS_ok hu hki ha' w h4 h
        refine ⟨hko, ?_⟩
        rcases h5 with ⟨h7, h8⟩ | ⟨j, v, m, e', k', h7, h8, h9, h10, h11, h12, h13, h14⟩
        · exact .inl ⟨h7, by simp [Instr.findAsking, heq, h8, Result.andThen]⟩
        · exact .inr ⟨j + 1, v, m, e', k', by rw [h7]; congr 2; omega, by simpa using h8, h9, h10, h11, h12, by simpa using h13, by simp [Instr.findAsking, heq, h14, Result.andThen]; omega⟩
theorem run_findKeyS {t : TypeId} {fs : Array Field} {k : Value} (hu : P.underlying t = some (.struct fs)) (l : List MapEntry) (w : World) : (Instr.findKey t k l).run P w = (Instr.findAsking t k l).run P w := by
  cases l with
  | nil => simp [Instr.findKey, run_underlying hu, Result.andThen, Instr.findNow, Instr.findAsking]
  | cons e l => simp [Instr.findKey, run_underlying hu, Result.andThen, Instr.findNow, Instr.sameNow]
/-- Where a key stands, as the machine finds it. -/
theorem find_ok {t : TypeId} {kd : Nat} (hkt : keyTy P t kd = true) {y : Ctx} {a : AVal} {u : Value} (ha : V y a u) (w : World) {es : List (AVal × AVal × Nat)} {l : List MapEntry} {r : Option (Nat × AVal × Nat)} (hl : EL y es l) (h : findA kd a es 0 = some r) :
    keyOk kd a = true ∧ ((r = none ∧ (Instr.findKey t u l).run P w = .ok none w) ∨ ∃ j v m e k', r = some (j, v, m) ∧ l[j]? = some e ∧ V y v e.val ∧ e.born = m ∧ e.key = u ∧ Instr.sameBits 10000 e.key u = true ∧ es[j]? = some (k', v, m) ∧ (Instr.findKey t u l).run P w = .ok (some (j, e.val)) w) := by
  rcases keyTy_ok hkt with ⟨d, hu, hd⟩ | ⟨n, fs, rfl, hu, hki, hn, hfs⟩
  · refine ⟨by rcases hd with ⟨rfl, _⟩ | ⟨rfl, _⟩ | ⟨rfl, _⟩ <;> rfl, ?_⟩
    rcases findA_ok hd ha hl h with ⟨h1, h2⟩ | ⟨j, v, m, e, k', h1, h2, h3, h4, h5, h6, h7, h8⟩
    · exact .inl ⟨h1, run_findKeyD hu h2 w⟩
    · rw [Nat.zero_add] at h1 h8
      exact .inr ⟨j, v, m, e, k', h1, h2, h3, h4, h5, h6, h7, run_findKeyD hu h8 w⟩
  · obtain ⟨hko, h1⟩ := findS_ok hu hki ha w hl h
    refine ⟨hko, ?_⟩
    rw [run_findKeyS hu]
    rcases h1 with h1 | ⟨j, v, m, e, k', h1, h2, h3, h4, h5, h6, h7, h8⟩
    · exact .inl h1
    · rw [Nat.zero_add] at h1 h8
      exact .inr ⟨j, v, m, e, k', h1, h2, h3, h4, h5, h6, h7, h8⟩
theorem run_getObjM {w : World} {r : Nat} {es : Array MapEntry} {clock : Nat} (hb : w.heap[r]? = some (.map es clock)) : (getObj r).run P w = .ok (.map es clock) w := by
  simp [getObj, Sem.run, hb]
theorem run_setObjM {w : World} {r : Nat} {es : Array MapEntry} {clock : Nat} (o : Obj) (hb : w.heap[r]? = some (.map es clock)) : (setObj r o).run P w = .ok () { w with heap := w.heap.setIfInBounds r o } := by
  simp [setObj, Sem.run, hb]
theorem mapAt (hs : Sim B S0 h nc x) {k : Key} {u : Value} {es : List (AVal × AVal × Nat)} {cl : Nat} (ha : V x (.mp k) u) (hk : h k = some (.obj (.map es cl))) : ∃ b arr, x.ρ k 0 = some (b, 0) ∧ u = .map (some b) ∧ x.w.heap[b]? = some (.map arr cl) ∧ EL x es arr.toList := by
  simp only [V] at ha
  obtain ⟨b, hρ, rfl⟩ := ha
  obtain ⟨b', o', h1, _, _, h4⟩ := hs.live k _ hk
  simp only [Blk.gen] at h1
  rw [hρ] at h1
  cases h1
  obtain ⟨_, ob, hb, arr, rfl, hel⟩ := h4
  exact ⟨b, arr, hρ, rfl, hb, hel⟩
theorem ok_lkp (hs : Sim B S0 h nc x) {t kt et : TypeId} {kd : Nat} {c : Bool} {a i : Operand} {va vi zero v : AVal} {z : Value} {ws : Wr} (hop : o.op = .lookup t a i c) (ht : P.underlying t = some (.map kt et)) (hkt : keyTy P kt kd = true) (hz : zeroOf P et = some z) (hzv : chkV z zero = true)
    (ha : V x va (ρc a)) (hi : V x vi (ρc i)) (hr : (lkpR kd c zero va vi).run h = some (v, ws)) : OpOk P B S0 ρc o x (applyW h ws) nc key v := by
  unfold lkpR at hr
  split at hr
  · rename_i k
    simp only [Rd.run_get] at hr
    split at hr
    · rename_i es cl hk
      obtain ⟨b, arr, hρ, hav, hb, hel⟩ := mapAt hs ha hk
      split at hr
      · rename_i j v0 n hf
        simp only [Rd.run_ret, Option.some.injEq, Prod.mk.injEq] at hr
        obtain ⟨rfl, rfl⟩ := hr
        obtain ⟨hko, hfo⟩ := find_ok hkt hi x.w hel hf
        rcases hfo with ⟨h1, _⟩ | ⟨j', v', n', e, k', h1, h2, h3, h4, h5, _, _, h6⟩
        · cases h1
        · cases h1
          have hfk := h6
          have hck := checkKey_ok hkt arr.isEmpty hko hi x.w
          refine pureOk hs (u := if c then .tuple #[e.val, .bool true] else e.val) ?_ ?_
          · simp [execOp, hop, hav, Instr.lookup, run_underlying ht, run_getObjM hb, Result.andThen, hck, hfk]
          · cases c
            · simpa using h3
            · simp only [if_true, V, VL]
              exact ⟨_, rfl, _, _, rfl, h3, _, _, rfl, rfl, rfl⟩
      · rename_i hf
        simp only [Rd.run_ret, Option.some.injEq, Prod.mk.injEq] at hr
        obtain ⟨rfl, rfl⟩ := hr
        obtain ⟨hko, hfo⟩ := find_ok hkt hi x.w hel hf
        have hck := checkKey_ok hkt false hko hi x.w
        rcases hfo with ⟨_, h6⟩ | ⟨j', v', n', e, k', h1, _⟩
        · have hfk := h6
          have hck := checkKey_ok hkt arr.isEmpty hko hi x.w
          refine pureOk hs (u := if c then .tuple #[z, .bool false] else z) ?_ ?_
          · simp [execOp, hop, hav, Instr.lookup, run_underlying ht, run_getObjM hb, Result.andThen, hck, hfk, zero_run hz]
          · cases c
            · simpa using chkV_ok hzv
            · simp only [if_true, V, VL]
              exact ⟨_, rfl, _, _, rfl, chkV_ok hzv, _, _, rfl, rfl, rfl⟩
        · cases h1
      · cases hr
    · cases hr
  · cases hr
theorem EL_set {y : Ctx} : ∀ {es : List (AVal × AVal × Nat)} {l : List MapEntry} {j : Nat} {a : AVal × AVal × Nat} {e : MapEntry}, EL y es l → V y a.1 e.key → V y a.2.1 e.val → e.born = a.2.2 → EL y (es.set j a) (l.set j e)
  | [], l, j, a, e, h, _, _, _ => by simp only [EL] at h; subst h; simp [EL]
  | c :: es, l, j, a, e, h, h1, h2, h3 => by
    obtain ⟨e0, l', rfl, g1, g2, g3, g4⟩ := h
    cases j with
    | zero => exact ⟨e, l', rfl, h1, h2, h3, g4⟩
    | succ j => exact ⟨e0, l'.set j e, rfl, g1, g2, g3, EL_set g4 h1 h2 h3⟩
theorem EL_push {y : Ctx} : ∀ {es : List (AVal × AVal × Nat)} {l : List MapEntry} {a : AVal × AVal × Nat} {e : MapEntry}, EL y es l → V y a.1 e.key → V y a.2.1 e.val → e.born = a.2.2 → EL y (es ++ [a]) (l ++ [e])
  | [], l, a, e, h, h1, h2, h3 => by simp only [EL] at h; subst h; exact ⟨e, [], rfl, h1, h2, h3, rfl⟩
  | c :: es, l, a, e, h, h1, h2, h3 => by
    obtain ⟨e0, l', rfl, g1, g2, g3, g4⟩ := h
    exact ⟨e0, l' ++ [e], rfl, g1, g2, g3, EL_push g4 h1 h2 h3⟩
theorem modify_set {arr : Array MapEntry} {j : Nat} {e : MapEntry} (f : MapEntry → MapEntry) (h : arr.toList[j]? = some e) : (arr.modify j f).toList = arr.toList.set j (f e) := by
  have hj : j < arr.toList.length := by
    rcases Nat.lt_or_ge j arr.toList.length with h' | h'
    · exact h'
    · rw [List.getElem?_eq_none h'] at h; cases h
  have he : arr.toList[j] = e := by rw [List.getElem?_eq_getElem hj] at h; exact Option.some.inj h
  refine List.ext_getElem? fun i => ?_
  rw [Array.toList_modify, List.getElem?_modify, List.getElem?_set]
  by_cases hij : j = i
  · subst hij
    simp [List.getElem?_eq_getElem hj, he, hj]
    simpa using hj
  · simp [hij]
theorem run_stays {k k' : Value} (h : Instr.sameBits 10000 k' k = true) (w : World) : (Instr.keyThatStays k' k).run P w = .ok k w := by
  simp [Instr.keyThatStays, h]
theorem ok_mset (hs : Sim B S0 h nc x) {t kt et : TypeId} {kd : Nat} {a i c : Operand} {va vi vc v : AVal} {ws : Wr} (hop : o.op = .mapUpdate t a i c) (ht : P.underlying t = some (.map kt et)) (hkt : keyTy P kt kd = true)
    (ha : V x va (ρc a)) (hi : V x vi (ρc i)) (hc : V x vc (ρc c)) (hr : (msetR kd va vi vc).run h = some (v, ws)) : OpOk P B S0 ρc o x (applyW h ws) nc key v := by
  unfold msetR at hr
  split at hr
  · rename_i k
    simp only [Rd.run_get] at hr
    split at hr
    · rename_i es cl hk
      obtain ⟨b, arr, hρ, hav, hb, hel⟩ := mapAt hs ha hk
      split at hr
      · rename_i j v0 n hf
        simp only [Rd.run_ret, Option.some.injEq, Prod.mk.injEq] at hr
        obtain ⟨rfl, rfl⟩ := hr
        obtain ⟨hko, hfo⟩ := find_ok hkt hi x.w hel hf
        have hck := checkKey_ok hkt false hko hi x.w
        rcases hfo with ⟨h1, _⟩ | ⟨j', v', n', e, k', h1, h2, h3, h4, h5, h7, _, h6⟩
        · cases h1
        · simp only [Option.some.injEq, Prod.mk.injEq] at h1
          obtain ⟨rfl, rfl, rfl⟩ := h1
          have hfk := h6
          have hae : arr[j]? = some e := by rw [← Array.getElem?_toList]; exact h2
          have hst := run_stays (P := P) h7 x.w
          refine writeObj hs hk hρ hb (ob' := .map (arr.modify j fun e => { e with key := ρc i, val := ρc c }) cl) (by simp [osz]) (u := undef) (w' := { x.w with heap := x.w.heap.setIfInBounds b (.map (arr.modify j fun e => { e with key := ρc i, val := ρc c }) cl) })
            (.inr ⟨?_, rfl⟩) rfl ⟨rfl, rfl, rfl⟩ (fun y g => ⟨_, rfl, ?_⟩) (fun y _ => by simp [V])
          · simp [execOp, hop, hav, Instr.mapUpdate, run_underlying ht, run_getObjM hb, Result.andThen, hck, hfk, hae, hst, run_setObjM _ hb]
          · rw [modify_set _ h2]
            exact EL_set (EL_grow g _ _ hel) (V_grow g _ _ hi) (V_grow g _ _ hc) h4
      · rename_i hf
        simp only [Rd.run_ret, Option.some.injEq, Prod.mk.injEq] at hr
        obtain ⟨rfl, rfl⟩ := hr
        obtain ⟨hko, hfo⟩ := find_ok hkt hi x.w hel hf
        have hck := checkKey_ok hkt false hko hi x.w
        rcases hfo with ⟨_, h6⟩ | ⟨j', v', n', e, k', h1, _⟩
        · have hfk := h6
          refine writeObj hs hk hρ hb (ob' := .map (arr.push { key := ρc i, val := ρc c, born := cl }) (cl + 1)) (by simp [osz]) (u := undef) (w' := { x.w with heap := x.w.heap.setIfInBounds b (.map (arr.push { key := ρc i, val := ρc c, born := cl }) (cl + 1)) })
            (.inr ⟨?_, rfl⟩) rfl ⟨rfl, rfl, rfl⟩ (fun y g => ⟨_, rfl, ?_⟩) (fun y _ => by simp [V])
          · simp [execOp, hop, hav, Instr.mapUpdate, run_underlying ht, run_getObjM hb, Result.andThen, hck, hfk, run_setObjM _ hb]
          · rw [Array.toList_push]
            exact EL_push (EL_grow g _ _ hel) (V_grow g _ _ hi) (V_grow g _ _ hc) rfl
        · cases h1
      · cases hr
    · cases hr
  · cases hr
theorem EL_erase {y : Ctx} : ∀ {es : List (AVal × AVal × Nat)} {l : List MapEntry} (j : Nat), EL y es l → EL y (es.eraseIdx j) (l.eraseIdx j)
  | [], l, j, h => by simp only [EL] at h; subst h; simp [EL]
  | c :: es, l, j, h => by
    obtain ⟨e0, l', rfl, g1, g2, g3, g4⟩ := h
    cases j with
    | zero => exact g4
    | succ j => exact ⟨e0, l'.eraseIdx j, rfl, g1, g2, g3, EL_erase j g4⟩
theorem ok_mdel (hs : Sim B S0 h nc x) {t kt et : TypeId} {kd : Nat} {a i : Operand} {va vi v : AVal} {ws : Wr} {c : Call} {t2 : TypeId} (hop : o.op = .call c) (hcal : c.callee = .builtin .delete) (hts : c.argTypes.toList = [t, t2]) (has : c.args.toList = [a, i]) (ht : P.underlying t = some (.map kt et)) (hkt : keyTy P kt kd = true)
    (ha : V x va (ρc a)) (hi : V x vi (ρc i)) (hr : (mdelR kd va vi).run h = some (v, ws)) : OpOk P B S0 ρc o x (applyW h ws) nc key v := by
  have hts' : c.argTypes = #[t, t2] := Array.toList_inj.1 hts
  have has' : c.args = #[a, i] := Array.toList_inj.1 has
  unfold mdelR at hr
  split at hr
  · rename_i k
    simp only [Rd.run_get] at hr
    split at hr
    · rename_i es cl hk
      obtain ⟨b, arr, hρ, hav, hb, hel⟩ := mapAt hs ha hk
      split at hr
      · rename_i j v0 n hf
        simp only [Rd.run_ret, Option.some.injEq, Prod.mk.injEq] at hr
        obtain ⟨rfl, rfl⟩ := hr
        obtain ⟨hko, hfo⟩ := find_ok hkt hi x.w hel hf
        have hck := checkKey_ok hkt arr.isEmpty hko hi x.w
        rcases hfo with ⟨h1, _⟩ | ⟨j', v', n', e, k', h1, h2, h3, h4, h5, h7, _, h6⟩
        · cases h1
        · simp only [Option.some.injEq, Prod.mk.injEq] at h1
          obtain ⟨rfl, rfl, rfl⟩ := h1
          have hjs : j < arr.size := by
            rw [← Array.length_toList]
            exact (List.getElem?_eq_some_iff.1 h2).1
          refine writeObj hs hk hρ hb (ob' := .map (arr.eraseIdxIfInBounds j) cl) (by simp [osz]) (u := .tuple #[]) (w' := { x.w with heap := x.w.heap.setIfInBounds b (.map (arr.eraseIdxIfInBounds j) cl) })
            (.inl ?_) rfl ⟨rfl, rfl, rfl⟩ (fun y g => ⟨_, rfl, ?_⟩) (fun y _ => by simp [V, VL])
          · simp [execOp, hop, resolve, hcal, has', hts', hav, invoke, builtin, Builtin.delete_, run_underlying ht, run_getObjM hb, Result.andThen, hck, h6, run_setObjM _ hb]
          · have : (arr.eraseIdxIfInBounds j).toList = arr.toList.eraseIdx j := by
              unfold Array.eraseIdxIfInBounds
              rw [dif_pos hjs]
              simp
            rw [this]
            exact EL_erase j (EL_grow g _ _ hel)
      · rename_i hf
        simp only [Rd.run_ret, Option.some.injEq, Prod.mk.injEq] at hr
        obtain ⟨rfl, rfl⟩ := hr
        obtain ⟨hko, hfo⟩ := find_ok hkt hi x.w hel hf
        have hck := checkKey_ok hkt arr.isEmpty hko hi x.w
        rcases hfo with ⟨_, h6⟩ | ⟨j', v', n', e, k', h1, _⟩
        · refine writeObj hs hk hρ hb (ob' := .map arr cl) (by simp [osz]) (u := .tuple #[]) (w' := { x.w with heap := x.w.heap.setIfInBounds b (.map arr cl) })
            (.inl ?_) rfl ⟨rfl, rfl, rfl⟩ (fun y g => ⟨_, rfl, EL_grow g _ _ hel⟩) (fun y _ => by simp [V, VL])
          simp [execOp, hop, resolve, hcal, has', hts', hav, invoke, builtin, Builtin.delete_, run_underlying ht, run_getObjM hb, Result.andThen, hck, h6, run_setObjM _ hb]
        · cases h1
      · cases hr
    · cases hr
  · cases hr
theorem ok_ment (hs : Sim B S0 h nc x) {t kt et : TypeId} {kd : Nat} {a i : Operand} {va vi zero v : AVal} {z : Value} {ws : Wr} (hop : o.op = .mapEntry t a i) (ht : P.underlying t = some (.map kt et)) (hkt : keyTy P kt kd = true) (hz : zeroOf P et = some z) (hzv : chkV z zero = true)
    (ha : V x va (ρc a)) (hi : V x vi (ρc i)) (hr : (mentR kd zero va vi).run h = some (v, ws)) : OpOk P B S0 ρc o x (applyW h ws) nc key v := by
  unfold mentR at hr
  split at hr
  · rename_i k
    simp only [Rd.run_get] at hr
    split at hr
    · rename_i es cl hk
      obtain ⟨b, arr, hρ, hav, hb, hel⟩ := mapAt hs ha hk
      split at hr
      · rename_i j v0 n hf
        simp only [Rd.run_ret, Option.some.injEq, Prod.mk.injEq] at hr
        obtain ⟨rfl, rfl⟩ := hr
        obtain ⟨hko, hfo⟩ := find_ok hkt hi x.w hel hf
        have hck := checkKey_ok hkt false hko hi x.w
        rcases hfo with ⟨h1, _⟩ | ⟨j', v', n', e, k', h1, h2, h3, h4, h5, h7, _, h6⟩
        · cases h1
        · simp only [Option.some.injEq, Prod.mk.injEq] at h1
          obtain ⟨rfl, rfl, rfl⟩ := h1
          have hfk := h6
          have hae : arr[j]? = some e := by rw [← Array.getElem?_toList]; exact h2
          have hst := run_stays (P := P) h7 x.w
          refine writeObj hs hk hρ hb (ob' := .map (arr.modify j fun e => { e with key := ρc i }) cl) (by simp [osz]) (u := .tuple #[e.val, .int .i64 e.born]) (w' := { x.w with heap := x.w.heap.setIfInBounds b (.map (arr.modify j fun e => { e with key := ρc i }) cl) })
            (.inl ?_) rfl ⟨rfl, rfl, rfl⟩ (fun y g => ⟨_, rfl, ?_⟩) (fun y g => ?_)
          · simp [execOp, hop, hav, Instr.mapEntry, run_underlying ht, run_getObjM hb, Result.andThen, hck, hfk, hae, hst, run_setObjM _ hb, goInt]
          · rw [modify_set _ h2]
            exact EL_set (EL_grow g _ _ hel) (V_grow g _ _ hi) (V_grow g _ _ h3) h4
          · simp only [V, VL]
            exact ⟨_, rfl, _, _, rfl, V_grow g _ _ h3, _, _, rfl, by rw [h4], rfl⟩
      · rename_i hf
        simp only [Rd.run_ret, Option.some.injEq, Prod.mk.injEq] at hr
        obtain ⟨rfl, rfl⟩ := hr
        obtain ⟨hko, hfo⟩ := find_ok hkt hi x.w hel hf
        have hck := checkKey_ok hkt false hko hi x.w
        rcases hfo with ⟨_, h6⟩ | ⟨j', v', n', e, k', h1, _⟩
        · have hfk := h6
          refine writeObj hs hk hρ hb (ob' := .map (arr.push { key := ρc i, val := z, born := cl }) (cl + 1)) (by simp [osz]) (u := .tuple #[z, .int .i64 cl]) (w' := { x.w with heap := x.w.heap.setIfInBounds b (.map (arr.push { key := ρc i, val := z, born := cl }) (cl + 1)) })
            (.inl ?_) rfl ⟨rfl, rfl, rfl⟩ (fun y g => ⟨_, rfl, ?_⟩) (fun y g => ?_)
          · simp [execOp, hop, hav, Instr.mapEntry, run_underlying ht, run_getObjM hb, Result.andThen, hck, hfk, run_setObjM _ hb, zero_run hz, goInt]
          · rw [Array.toList_push]
            exact EL_push (EL_grow g _ _ hel) (V_grow g _ _ hi) (chkV_ok hzv) rfl
          · simp only [V, VL]
            exact ⟨_, rfl, _, _, rfl, chkV_ok hzv, _, _, rfl, rfl, rfl⟩
        · cases h1
      · cases hr
    · cases hr
  · cases hr
theorem born_ok {y : Ctx} {n : Int} : ∀ {es : List (AVal × AVal × Nat)} {l : List MapEntry}, EL y es l → l.findIdx? (fun e => (e.born : Int) == n) = es.findIdx? fun e => (e.2.2 : Int) == n
  | [], l, h => by simp only [EL] at h; subst h; rfl
  | c :: es, l, h => by
    obtain ⟨e, l', rfl, _, _, h3, h4⟩ := h
    rw [List.findIdx?_cons, List.findIdx?_cons, h3, born_ok h4]
theorem EL_get {y : Ctx} : ∀ {es : List (AVal × AVal × Nat)} {l : List MapEntry} {j : Nat} {a : AVal × AVal × Nat}, EL y es l → es[j]? = some a → ∃ e, l[j]? = some e ∧ V y a.1 e.key ∧ V y a.2.1 e.val ∧ e.born = a.2.2
  | [], l, j, a, h, hj => by simp at hj
  | c :: es, l, j, a, h, hj => by
    obtain ⟨e, l', rfl, h1, h2, h3, h4⟩ := h
    cases j with
    | zero => simp at hj; subst hj; exact ⟨e, rfl, h1, h2, h3⟩
    | succ j => simp at hj ⊢; exact EL_get h4 hj
theorem ok_msto (hs : Sim B S0 h nc x) {t : TypeId} {a i c : Operand} {va vi vc v : AVal} {ws : Wr} (hop : o.op = .entryStore t a i c)
    (ha : V x va (ρc a)) (hi : V x vi (ρc i)) (hc : V x vc (ρc c)) (hr : (mstoR va vi vc).run h = some (v, ws)) : OpOk P B S0 ρc o x (applyW h ws) nc key v := by
  unfold mstoR at hr
  split at hr
  · rename_i k n
    have hi := V_int hi
    simp only [Rd.run_get] at hr
    split at hr
    · rename_i es cl hk
      obtain ⟨b, arr, hρ, hav, hb, hel⟩ := mapAt hs ha hk
      split at hr
      · rename_i j hj
        split at hr
        · rename_i e0 he0
          simp only [Rd.run_ret, Option.some.injEq, Prod.mk.injEq] at hr
          obtain ⟨rfl, rfl⟩ := hr
          obtain ⟨e, h2, h3, h4, h5⟩ := EL_get hel he0
          have hfi : arr.findIdx? (fun e => (e.born : Int) == n) = some j := by
            have : arr.findIdx? (fun e => (e.born : Int) == n) = arr.toList.findIdx? (fun e => (e.born : Int) == n) := by rw [← List.findIdx?_toArray]
            rw [this, born_ok hel]; exact hj
          refine writeObj hs hk hρ hb (ob' := .map (arr.modify j fun e => { e with val := ρc c }) cl) (by simp [osz]) (u := undef) (w' := { x.w with heap := x.w.heap.setIfInBounds b (.map (arr.modify j fun e => { e with val := ρc c }) cl) })
            (.inr ⟨?_, rfl⟩) rfl ⟨rfl, rfl, rfl⟩ (fun y g => ⟨_, rfl, ?_⟩) (fun y _ => by simp [V])
          · simp [execOp, hop, hav, hi, Instr.entryStore, run_getObjM hb, Result.andThen, asInt, asIntOf, hfi, run_setObjM _ hb]
          · rw [modify_set _ h2]
            exact EL_set (EL_grow g _ _ hel) (V_grow g _ _ h3) (V_grow g _ _ hc) h5
        · cases hr
      · cases hr
    · cases hr
  · cases hr
end
end Go.Xec
