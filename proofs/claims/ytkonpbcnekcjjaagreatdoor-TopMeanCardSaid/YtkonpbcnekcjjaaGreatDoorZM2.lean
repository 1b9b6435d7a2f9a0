/-
  Laid together: part 2.
-/
import Derived.Test.YtkonpbcnekcjjaaGreatDoorZM1
set_option linter.unusedVariables false
set_option linter.unusedSimpArgs false
namespace Go.Xec
open Go
section
variable {P : Program} {B : Nat} {S0 : Base} {ρc : Operand → Value} {o : Oper} {x : Ctx} {h : Heap} {nc : Nat} {key : Key} {e : XArg → AVal}
theorem ints_of_bytes {y : Ctx} : ∀ {ys : List AVal} {bs : List UInt8} {us : List Value}, bytesOf ys = some bs → VL y ys us → ∃ ns : List Int, us = ns.map (Value.int .u8) ∧ bs = ns.map fun n => UInt8.ofNat n.toNat
  | [], bs, us, h, hl => by
    simp only [bytesOf, Option.some.injEq] at h
    simp only [VL] at hl
    exact ⟨[], by simp [hl], by simp [← h]⟩
  | a :: r, bs, us, h, hl => by
    unfold bytesOf at h
    split at h
    · rename_i e; cases e
    · rename_i n r' e
      cases e
      cases h' : bytesOf r with
      | none => rw [h'] at h; cases h
      | some b' =>
        rw [h'] at h
        simp only [Option.map_some, Option.some.injEq] at h
        simp only [VL] at hl
        obtain ⟨v, us', rfl, hv, hr⟩ := hl
        have hv := V_int hv
        subst hv
        obtain ⟨ns, rfl, rfl⟩ := ints_of_bytes h' hr
        exact ⟨n :: ns, by simp, by simp [← h]⟩
    · cases h
theorem flat_bytes : ∀ {ys : List AVal} {bs : List UInt8}, bytesOf ys = some bs → ys.flatMap cellsOf = ys
  | [], _, _ => rfl
  | a :: r, bs, h => by
    unfold bytesOf at h
    split at h
    · rename_i e; cases e
    · rename_i n r' e
      cases e
      cases h' : bytesOf r with
      | none => rw [h'] at h; cases h
      | some b' => simp only [List.flatMap_cons, cellsOf, flat_bytes h', List.singleton_append]
    · cases h
theorem foldl_push (ns : List Int) : ∀ (s : ByteArray), ns.foldl (fun r n => r.push (UInt8.ofNat n.toNat)) s = ⟨s.data ++ (ns.map fun n => UInt8.ofNat n.toNat).toArray⟩ := by
  induction ns with
  | nil => intro s; simp
  | cons n ns ih =>
    intro s
    rw [List.foldl_cons, ih]
    congr 1
    simp [ByteArray.push]
theorem ok_b2s (hs : Sim B S0 h nc x) {s d u : TypeId} {a : Operand} {va v : AVal} {ws : Wr} (hop : o.op = .convert s d a) (ha : V x va (ρc a)) (hsl : P.underlying s = some (.slice u)) (hd : P.underlying d = some .string) (hu : P.underlying u = some (.int .u8))
    (hr : (b2sR va).run h = some (v, ws)) : OpOk P B S0 ρc o x (applyW h ws) nc key v := by
  have key1 : ∃ ys bs, (elemsR 1 va).run h = some ys ∧ bytesOf ys = some bs ∧ v = .str ⟨bs.toArray⟩ ∧ ws = [] ∧ ∀ s, va ≠ .str s := by
    unfold b2sR at hr
    split at hr
    · cases hr
    · rename_i hne
      rw [Rd.run_bind] at hr
      cases h1 : (elemsR 1 va).run h with
      | none => rw [h1] at hr; cases hr
      | some ys =>
        rw [h1] at hr
        simp only [Option.bind_some, Rd.run_bind, Rd.run_ofO] at hr
        cases h2 : bytesOf ys with
        | none => rw [h2] at hr; cases hr
        | some bs =>
          rw [h2] at hr
          simp only [Option.bind_some, Rd.run_ret, Option.some.injEq, Prod.mk.injEq] at hr
          exact ⟨ys, bs, rfl, h2, hr.1.symm, hr.2.symm, fun s e => hne s e⟩
  obtain ⟨ys, bs, h1, h2, rfl, rfl, hns⟩ := key1
  have fin : ∀ r : ByteArray, (Conv.bytesToString (ρc a)).run P x.w = .ok (.string r) x.w → r = ⟨bs.toArray⟩ → OpOk P B S0 ρc o x (applyW h []) nc key (.str ⟨bs.toArray⟩) := by
    intro r hr e
    subst e
    refine pureOk hs (u := .string ⟨bs.toArray⟩) ?_ (by simp [V])
    have hsome : ∃ ad l c, ρc a = .slice ad l c := by
      revert hr
      unfold Conv.bytesToString
      cases ρc a <;> simp
    obtain ⟨ad, l, c, he⟩ := hsome
    rw [he] at hr
    simp [execOp, hop, he, convert, run_underlying hsl, run_underlying hd, run_underlying hu, Result.andThen, hr]
  have rowCase : ∀ (b oo cap : Nat), ρc a = .slice (some ⟨b, oo, none⟩) ys.length cap → (∃ y : Ctx, y.w = x.w ∧ VR y 1 ys b oo) → OpOk P B S0 ρc o x (applyW h []) nc key (.str ⟨bs.toArray⟩) := by
    rintro b oo cap he ⟨y, hyw, hvr⟩
    obtain ⟨hc, _⟩ := VR_flat hvr
    rw [flat_bytes h2] at hc
    obtain ⟨us, hus, hcell⟩ := VL_of_VC hc
    obtain ⟨ns, rfl, rfl⟩ := ints_of_bytes h2 hus
    have hlen : ns.length = ys.length := by simpa using hus.length
    have hload : (loadCells ⟨b, oo, none⟩ ys.length).run P x.w = .ok (ns.map (Value.int .u8)).toArray x.w := by
      have := run_loadCells_list (P := P) (w := x.w) ⟨b, oo, none⟩ (ns.map (Value.int .u8)) (fun j v hj => by rw [add_off, ← hyw]; exact hcell j v hj)
      rw [List.length_map, hlen] at this
      exact this
    refine fin _ (by rw [he]; exact run_bytesToString _ _ _ _ _ hload) ?_
    rw [foldl_push]
    simp [ByteArray.empty, ByteArray.emptyWithCapacity]
    rfl
  cases va with
  | nils =>
    simp only [V] at ha
    simp only [elemsR, Rd.run_ret, Option.some.injEq] at h1
    subst h1
    simp only [bytesOf, Option.some.injEq] at h2
    subst h2
    refine fin ByteArray.empty ?_ rfl
    rw [ha]
    simp [Conv.bytesToString]
  | emp =>
    simp only [V] at ha
    obtain ⟨ad, ha⟩ := ha
    simp only [elemsR, Rd.run_ret, Option.some.injEq] at h1
    subst h1
    simp only [bytesOf, Option.some.injEq] at h2
    subst h2
    refine fin ByteArray.empty ?_ rfl
    rw [ha]
    have hload : (loadCells ad 0).run P x.w = .ok (([] : List Int).map (Value.int .u8)).toArray x.w := run_loadCells_list (P := P) (w := x.w) ad [] (by simp)
    exact run_bytesToString _ _ _ _ _ hload
  | slc es xs =>
    simp only [V] at ha
    obtain ⟨b, oo, cap, ha, hcap, hS, hvr⟩ := ha
    simp only [elemsR] at h1
    split at h1
    · rename_i he
      subst he
      simp only [Rd.run_ret, Option.some.injEq] at h1
      subst h1
      exact rowCase b oo cap ha ⟨x.bare, rfl, hvr⟩
    · cases h1
  | sl k g es off len =>
    simp only [V] at ha
    obtain ⟨b, oo, ad, cap, hρ, ha, hlc, had, hz, hsp⟩ := ha
    simp only [elemsR] at h1
    split at h1
    · rename_i he
      subst he
      simp only [Rd.run_get] at h1
      cases hk : h k with
      | none => rw [hk] at h1; cases h1
      | some blk =>
        rw [hk] at h1
        simp only [Rd.run_ofO] at h1
        obtain ⟨_, hl, hvr⟩ := els_ok hs hk hρ h1
        rcases had with hc0 | had
        · have : len = 0 := by omega
          subst this
          obtain rfl : ys = [] := List.length_eq_zero_iff.1 hl
          simp only [bytesOf, Option.some.injEq] at h2
          subst h2
          refine fin ByteArray.empty ?_ rfl
          rw [ha]
          have hload : (loadCells ad 0).run P x.w = .ok (([] : List Int).map (Value.int .u8)).toArray x.w := run_loadCells_list (P := P) (w := x.w) ad [] (by simp)
          exact run_bytesToString _ _ _ _ _ hload
        · subst had
          rw [← hl] at ha
          exact rowCase b (oo + off * 1) cap ha ⟨x, rfl, hvr⟩
    · cases h1
  | str s => exact absurd rfl (hns s)
  | _ => simp [elemsR, Rd.run] at h1
theorem freshObj (hs : Sim B S0 h nc x) (hk : key.2 < nc) (hfresh : ∀ g, x.ρ key g = none) {u : Value} {w' : World} {ob : Obj} {a : AObj} {v : AVal} (hr : (execOp ρc o).run P x.w = .ok (.value u) w') (hw : w'.heap = x.w.heap.push ob) (henv : SameEnv x.w w')
    (hb : ∀ y : Ctx, OO y a ob) (hv : ∀ y : Ctx, y.ρ key 0 = some (x.w.heap.size, 0) → V y v u) : OpOk P B S0 ρc o x (applyW h [(key, some (.obj a))]) nc key v := by
  obtain ⟨y, h1, h2, h3, h4, h5, h6⟩ := hs.freshO key 0 (.obj a) w' ob hk rfl (fun g p hp => by rw [hfresh] at hp; cases hp) hw henv
  refine ⟨u, y, .inl (by rw [h1]; exact hr), hv y (by rw [h2]; exact ρset_same _ _ _ _), h6 ⟨rfl, ob, h5, hb y⟩, h4, ?_⟩
  intro k g p hp
  rw [h2] at hp
  rcases ρset_inv _ _ _ _ hp with h7 | ⟨h7, _⟩
  · exact .inl ⟨g, p, h7⟩
  · exact .inr h7
theorem ok_rngS (hs : Sim B S0 h nc x) (hk : key.2 < nc) (hfresh : ∀ g, x.ρ key g = none) {t : TypeId} {a : Operand} {s : ByteArray} (hop : o.op = .range t a) (ht : P.underlying t = some .string) (ha : V x (.str s) (ρc a)) :
    OpOk P B S0 ρc o x (applyW h [(key, some (.obj (.iter s 0)))]) nc key (.ptr key 0 0 0 0) := by
  have ha := V_str ha
  refine freshObj hs hk hfresh (u := .pointer (some ⟨x.w.heap.size, 0, none⟩)) (w' := x.w.alloc (.stringIter s 0)) (ob := .stringIter s 0) ?_ rfl ⟨rfl, rfl, rfl⟩ (fun y => rfl) (fun y hρ => V_ptr0 hρ)
  simp [execOp, hop, ha, Instr.range, run_underlying ht, Result.andThen]
theorem ok_mkM (hs : Sim B S0 h nc x) (hk : key.2 < nc) (hfresh : ∀ g, x.ρ key g = none) {t : TypeId} (hop : o.op = .makeMap t none) :
    OpOk P B S0 ρc o x (applyW h [(key, some (.obj (.map [] 0)))]) nc key (.mp key) := by
  refine freshObj hs hk hfresh (u := .map (some x.w.heap.size)) (w' := x.w.alloc (.map #[] 0)) (ob := .map #[] 0) ?_ rfl ⟨rfl, rfl, rfl⟩ (fun y => ⟨#[], rfl, rfl⟩) (fun y hρ => by simp only [V]; exact ⟨_, hρ, rfl⟩)
  simp [execOp, hop, Instr.makeMap, Result.andThen]
theorem writeObj (hs : Sim B S0 h nc x) {k : Key} {a0 a1 : AObj} {b : Nat} {ob ob' : Obj} (hk : h k = some (.obj a0)) (hρ : x.ρ k 0 = some (b, 0)) (hb : x.w.heap[b]? = some ob) (ho : osz ob ≤ osz ob') {u : Value} {v : AVal} {w' : World}
    (hr : (execOp ρc o).run P x.w = .ok (.value u) w' ∨ ((execOp ρc o).run P x.w = .ok .skip w' ∧ u = undef)) (hw : w'.heap = x.w.heap.setIfInBounds b ob') (henv : SameEnv x.w w') (hb' : ∀ y, Grow x y → OO y a1 ob') (hv : ∀ y, Grow x y → V y v u) :
    OpOk P B S0 ρc o x (applyW h [(k, some (.obj a1))]) nc key v := by
  obtain ⟨y, h1, h2, h3, h4, h5, h6, h7⟩ := hs.writeO k (.obj a0) b 0 hk hρ 0 0 (.obj a1) w' ob ob' hb ho rfl (.inl ⟨rfl, rfl⟩) hw henv
  refine ⟨u, y, by rw [h1]; exact hr, hv y h5.grow, h7 ⟨rfl, ob', h6, hb' y h5.grow⟩, h5, ?_⟩
  intro k' g p hp
  rcases h4 k' g p hp with h8 | h8
  · exact .inl ⟨g, p, h8⟩
  · subst h8; exact .inl ⟨0, _, hρ⟩
theorem ok_nxtS (hs : Sim B S0 h nc x) {a : Operand} {va v : AVal} {ws : Wr} (hop : o.op = .next a true) (ha : V x va (ρc a)) (hr : (nxtSR va).run h = some (v, ws)) : OpOk P B S0 ρc o x (applyW h ws) nc key v := by
  unfold nxtSR at hr
  split at hr
  · rename_i k es
    simp only [V] at ha
    obtain ⟨b, oo, hρ, ha⟩ := ha
    simp only [Rd.run_get] at hr
    split at hr
    · rename_i s pos hk
      obtain ⟨b', o', h1, _, _, h4⟩ := hs.live k _ hk
      simp only [Blk.gen] at h1
      rw [hρ] at h1
      cases h1
      obtain ⟨rfl, ob, hb, hob⟩ := h4
      simp only [OO] at hob
      subst hob
      simp only [Nat.zero_mul, Nat.add_zero] at ha
      split at hr
      · rename_i hlt
        simp only [Rd.run_ret, Option.some.injEq, Prod.mk.injEq] at hr
        obtain ⟨rfl, rfl⟩ := hr
        refine writeObj hs hk hρ hb (ob' := .stringIter s (pos + (Utf8.decode s pos).2)) (by simp [osz]) (u := .tuple #[.bool true, .int .i64 pos, .int .i32 (Utf8.decode s pos).1]) (w' := { x.w with heap := x.w.heap.setIfInBounds b (.stringIter s (pos + (Utf8.decode s pos).2)) })
          (.inl ?_) rfl ⟨rfl, rfl, rfl⟩ (fun y _ => rfl) (fun y _ => ?_)
        · simp [execOp, hop, ha, Instr.next, getObj, setObj, Sem.run, hb, hlt, Result.andThen, goInt]
        · simp only [V, VL]
          exact ⟨_, rfl, _, _, rfl, rfl, _, _, rfl, rfl, _, _, rfl, rfl, rfl⟩
      · rename_i hlt
        simp only [Rd.run_ret, Option.some.injEq, Prod.mk.injEq] at hr
        obtain ⟨rfl, rfl⟩ := hr
        refine pureOk hs (u := .tuple #[.bool false]) ?_ ?_
        · simp [execOp, hop, ha, Instr.next, getObj, Sem.run, hb, hlt, Result.andThen]
        · simp only [V, VL]
          exact ⟨_, rfl, _, _, rfl, rfl, rfl⟩
    · cases hr
  · cases hr
def KeyD (kd : Nat) (d : TypeDesc) : Prop := (kd = 0 ∧ ∃ k, d = .int k) ∨ (kd = 1 ∧ d = .bool) ∨ (kd = 2 ∧ d = .string)
theorem keyTy_ok {t : TypeId} {kd : Nat} (h : keyTy P t kd = true) : (∃ d, P.underlying t = some d ∧ KeyD kd d) ∨ ∃ n fs, kd = n + 3 ∧ P.underlying t = some (.struct fs) ∧ kinds P 20 t = some (List.replicate n 0) ∧ fs.toList.length = n ∧ intFs P fs.toList 0 = true := by
  unfold keyTy at h
  split at h
  · rename_i k hu; exact .inl ⟨_, hu, .inl ⟨by simpa using h, k, rfl⟩⟩
  · rename_i hu; exact .inl ⟨_, hu, .inr (.inl ⟨by simpa using h, rfl⟩)⟩
  · rename_i hu; exact .inl ⟨_, hu, .inr (.inr ⟨by simpa using h, rfl⟩)⟩
  · rename_i fs hu
    split at h
    · rename_i n
      simp only [Bool.and_eq_true, decide_eq_true_eq] at h
      exact .inr ⟨n, fs, rfl, hu, h.1.1, h.1.2, h.2⟩
    · cases h
  · cases h
theorem run_checkKeyD {t : TypeId} {kd : Nat} {d : TypeDesc} (hu : P.underlying t = some d) (hd : KeyD kd d) (em : Bool) (v : Value) (w : World) : (Instr.checkKey em 10000 t v).run P w = .ok () w := by
  unfold Instr.checkKey
  simp only [Sem.run_bind, run_underlying hu, Result.andThen]
  rcases hd with ⟨_, k, rfl⟩ | ⟨_, rfl⟩ | ⟨_, rfl⟩ <;> simp
theorem ints_cells {y : Ctx} : ∀ {xs : List AVal} {cs : List Value}, xs.all isIntA = true → VL y xs cs → ∀ c ∈ cs, ∃ k n, c = .int k n
  | [], cs, _, h => by simp only [VL] at h; subst h; simp
  | a :: xs, cs, ha, h => by
    simp only [VL] at h
    obtain ⟨v, r, rfl, h1, h2⟩ := h
    simp only [List.all_cons, Bool.and_eq_true] at ha
    intro c hc
    rcases List.mem_cons.1 hc with rfl | hc
    · cases a <;> simp [isIntA] at ha
      exact ⟨_, _, V_int h1⟩
    · exact ints_cells ha.2 h2 c hc
theorem checkFields_ok (em : Bool) (d : Nat) (cs : Array Value) (hc : ∀ c ∈ cs.toList, ∃ k n, c = Value.int k n) (w : World) : ∀ (fs : List Field) (off : Nat), intFs P fs off = true → off + fs.length ≤ cs.size →
    (forIn fs PUnit.unit fun f _ => (if f.name ≠ "_" then (do let a ← part f.type cs f.offset; Instr.checkKey em (d + 1) f.type a; pure (ForInStep.yield PUnit.unit)) else pure (ForInStep.yield PUnit.unit) : Sem (ForInStep PUnit))).run P w = .ok PUnit.unit w
  | [], off, _, _ => by simp
  | f :: fs, off, h, hl => by
    simp only [intFs, Bool.and_eq_true, beq_iff_eq] at h
    obtain ⟨⟨h1, h2⟩, h3⟩ := h
    split at h2
    · rename_i k hu
      simp only [List.length_cons] at hl
      have hlt : off < cs.size := by omega
      obtain ⟨k', n, hv⟩ := hc cs[off] (by simp)
      have hp := part_cell (P := P) hu rfl (vs := cs) (off := off) (v := cs[off]) (Array.getElem?_eq_getElem hlt) w
      have hck : (Instr.checkKey em (d + 1) f.type cs[off]).run P w = .ok () w := by
        rw [hv]
        unfold Instr.checkKey
        simp only [Sem.run_bind, run_underlying hu, Result.andThen]
        simp
      have ih := checkFields_ok em d cs hc w fs (off + 1) h3 (by omega)
      subst h1
      by_cases hn : f.name = "_"
      · simp only [List.forIn_cons, Sem.run_bind, hn, ne_eq, not_true_eq_false, if_false, Sem.run_pure, Result.andThen_ok]
        exact ih
      · simp only [List.forIn_cons, Sem.run_bind, hn, ne_eq, not_false_eq_true, if_true, hp, hck, Sem.run_pure, Result.andThen_ok]
        exact ih
    · cases h2
theorem checkKey_ok {t : TypeId} {kd : Nat} (hkt : keyTy P t kd = true) (em : Bool) {y : Ctx} {a : AVal} {v : Value} (hk : keyOk kd a = true) (hv : V y a v) (w : World) : (Instr.checkKey em 10000 t v).run P w = .ok () w := by
  rcases keyTy_ok hkt with ⟨d, hu, hd⟩ | ⟨n, fs, rfl, hu, hki, hn, hfs⟩
  · exact run_checkKeyD hu hd em v w
  · unfold keyOk at hk
    split at hk
    · rename_i n' xs e
      have e : n = n' := by omega
      subst e
      simp only [Bool.and_eq_true, decide_eq_true_eq] at hk
      simp only [V] at hv
      obtain ⟨cs, rfl, hl⟩ := hv
      have hlen := hl.length
      rw [show (10000 : Nat) = 9999 + 1 from rfl, Instr.checkKey]
      simp only [Sem.run_bind, run_underlying hu, Result.andThen_ok]
      rw [← Array.forIn_toList]
      have := checkFields_ok (P := P) em 9998 cs.toArray (ints_cells hk.2 hl) w fs.toList 0 hfs (by have h1 := hk.1; rw [hn]; simp only [List.size_toArray]; omega)
      rw [this]
      simp only [Result.andThen_ok, Sem.run_pure]
    · cases hk
    · rename_i h1 h2
      exact absurd rfl (h1 n)
theorem keq_ok {kd : Nat} {d : TypeDesc} (hd : KeyD kd d) {y : Ctx} {a c : AVal} {u v : Value} {b : Bool} (h : keq kd a c = some b) (ha : V y a u) (hc : V y c v) : Instr.sameNow d u v = some b ∧ (b = true → u = v ∧ Instr.sameBits 10000 v u = true) := by
  unfold keq at h
  split at h
  · have ha := V_int ha
    have hc := V_int hc
    subst ha; subst hc
    split at h
    · rename_i hk
      subst hk
      cases h
      rcases hd with ⟨_, k, rfl⟩ | ⟨h0, _⟩ | ⟨h0, _⟩
      · refine ⟨by simp [Instr.sameNow], fun e => ?_⟩
        have e := eq_of_beq e
        subst e
        exact ⟨rfl, by simp [Instr.sameBits]⟩
      · cases h0
      · cases h0
    · cases h
  · have ha := V_bool ha
    have hc := V_bool hc
    subst ha; subst hc
    cases h
    rcases hd with ⟨h0, _⟩ | ⟨_, rfl⟩ | ⟨h0, _⟩
    · cases h0
    · refine ⟨by simp [Instr.sameNow], fun e => ?_⟩
      have e := eq_of_beq e
      subst e
      exact ⟨rfl, by simp [Instr.sameBits]⟩
    · cases h0
  · have ha := V_str ha
    have hc := V_str hc
    subst ha; subst hc
    cases h
    rcases hd with ⟨h0, _⟩ | ⟨h0, _⟩ | ⟨_, rfl⟩
    · cases h0
    · cases h0
    · refine ⟨by simp [Instr.sameNow], fun e => ?_⟩
      have key : ∀ s t : ByteArray, (s == t) = true → s = t := fun s t e => by
        exact (MapKept.bytes_beq s t).1 e
      have e := key _ _ e
      subst e
      exact ⟨rfl, by
        have key : ∀ s : ByteArray, (s == s) = true := fun s => by
          exact (MapKept.bytes_beq s s).2 rfl
        simp [Instr.sameBits, key]⟩
  · rename_i n xs ys
    rcases hd with ⟨e, _⟩ | ⟨e, _⟩ | ⟨e, _⟩ <;> exact absurd e (by omega)
  · cases h
theorem findA_ok {kd : Nat} {d : TypeDesc} (hd : KeyD kd d) {y : Ctx} {a : AVal} {u : Value} (ha : V y a u) : ∀ {es : List (AVal × AVal × Nat)} {l : List MapEntry} {i : Nat} {r : Option (Nat × AVal × Nat)}, EL y es l → findA kd a es i = some r →
    (r = none ∧ Instr.findNow d u l i = some none) ∨ ∃ j v n e k', r = some (i + j, v, n) ∧ l[j]? = some e ∧ V y v e.val ∧ e.born = n ∧ e.key = u ∧ Instr.sameBits 10000 e.key u = true ∧ es[j]? = some (k', v, n) ∧ Instr.findNow d u l i = some (some (i + j, e.val))
  | [], l, i, r, hl, h => by
    have hkk : keyOk kd a = true := by rcases hd with ⟨rfl, _⟩ | ⟨rfl, _⟩ | ⟨rfl, _⟩ <;> rfl
    simp only [findA, hkk, if_true, Option.some.injEq] at h
    simp only [EL] at hl
    subst hl
    exact .inl ⟨h.symm, rfl⟩
  | c :: es, l, i, r, hl, h => by
    obtain ⟨e, l', rfl, h1, h2, h3, h4⟩ := hl
    simp only [findA] at h
    cases hk : keq kd a c.1 with
    | none => rw [hk] at h; cases h
    | some b =>
      rw [hk] at h
      obtain ⟨h5, h6⟩ := keq_ok hd hk ha h1
      cases b with
      | true =>
        simp only [Option.some.injEq] at h
        obtain ⟨h7, h8⟩ := h6 rfl
        exact .inr ⟨0, c.2.1, c.2.2, e, c.1, by rw [← h]; rfl, rfl, h2, h3, h7.symm, h8, rfl, by simp [Instr.findNow, h5]⟩
      | false =>
        simp only at h
        rcases findA_ok hd ha h4 h with ⟨h7, h8⟩ | ⟨j, v, n, e', k', h7, h8, h9, h10, h11, h12, h13, h14⟩
        · exact .inl ⟨h7, by simp [Instr.findNow, h5, h8]⟩
        · exact .inr ⟨j + 1, v, n, e', k', by rw [h7]; congr 2; omega, by simpa using h8, h9, h10, h11, h12, by simpa using h13, by simp [Instr.findNow, h5, h14]; omega⟩
theorem run_findKeyD {t : TypeId} {d : TypeDesc} {k : Value} {l : List MapEntry} {r : Option (Nat × Value)} (hu : P.underlying t = some d) (h : Instr.findNow d k l 0 = some r) (w : World) : (Instr.findKey t k l).run P w = .ok r w := by
  simp [Instr.findKey, run_underlying hu, Result.andThen, h]
theorem eqInts_same {y : Ctx} : ∀ {n : Nat} {xs ys : List AVal} {cs ds : List Value}, eqCells (List.replicate n 0) xs ys = some true → VL y xs cs → VL y ys ds → cs = ds ∧ (cs.zip ds).all (fun p => Instr.sameBits 9999 p.1 p.2) = true
  | 0, [], [], cs, ds, _, h1, h2 => by
    simp only [VL] at h1 h2
    subst h1; subst h2
    exact ⟨rfl, rfl⟩
  | 0, _ :: _, _, _, _, h, _, _ => by simp [eqCells] at h
  | 0, [], _ :: _, _, _, h, _, _ => by simp [eqCells] at h
  | n + 1, [], _, _, _, h, _, _ => by simp [eqCells, List.replicate_succ] at h
  | n + 1, _ :: _, [], _, _, h, _, _ => by simp [eqCells, List.replicate_succ] at h
  | n + 1, a :: xs, b :: ys, cs, ds, h, h1, h2 => by
    simp only [VL] at h1 h2
    obtain ⟨v, r, rfl, v1, v2⟩ := h1
    obtain ⟨u, q, rfl, u1, u2⟩ := h2
    simp only [List.replicate_succ, eqCells] at h
    cases he : eq1 0 a b with
    | none => rw [he] at h; cases h
    | some p =>
      cases hf : eqCells (List.replicate n 0) xs ys with
      | none => rw [he, hf] at h; cases h
      | some p' =>
        rw [he, hf] at h
        simp only [Option.some.injEq, Bool.and_eq_true] at h
        obtain ⟨rfl, rfl⟩ := h
        obtain ⟨e1, e2⟩ := eqInts_same hf v2 u2
        unfold eq1 at he
        split at he
        · rename_i k m k' m'
          have v1 := V_int v1
          have u1 := V_int u1
          subst v1; subst u1
          split at he
          · rename_i hkk
            simp only [Option.some.injEq, beq_iff_eq] at he
            subst hkk; subst he; subst e1
            exact ⟨rfl, by simp only [List.zip_cons_cons, List.all_cons, e2, Bool.and_true]; simp [Instr.sameBits]⟩
          · cases he
        · rename_i h0; exact absurd h0 (by decide)
        · rename_i h0; exact absurd h0 (by decide)
        · cases he
theorem keyOk_keq {n : Nat} {a c : AVal} {b : Bool} (h : keq (n + 3) a c = some b) : ∃ xs ys, a = .agg xs ∧ c = .agg ys ∧ eqCells (List.replicate n 0) xs ys = some b := by
  unfold keq at h
  split at h
  · rename_i e; exact absurd e (by omega)
  · rename_i e; exact absurd e (by omega)
  · rename_i e; exact absurd e (by omega)
  · rename_i n' xs ys e
    have : n = n' := by omega
    subst this
    exact ⟨xs, ys, rfl, rfl, h⟩
  · cases h
theorem ints_of_eq : ∀ {n : Nat} {xs ys : List AVal} {b : Bool}, eqCells (List.replicate n 0) xs ys = some b → xs.length = n ∧ xs.all isIntA = true
  | 0, [], [], b, _ => ⟨rfl, rfl⟩
  | 0, _ :: _, _, _, h => by simp [eqCells] at h
  | 0, [], _ :: _, _, h => by simp [eqCells] at h
  | n + 1, [], _, _, h => by simp [eqCells, List.replicate_succ] at h
  | n + 1, _ :: _, [], _, h => by simp [eqCells, List.replicate_succ] at h
  | n + 1, a :: xs, c :: ys, b, h => by
    simp only [List.replicate_succ, eqCells] at h
    cases he : eq1 0 a c with
    | none => rw [he] at h; cases h
    | some p =>
      cases hf : eqCells (List.replicate n 0) xs ys with
      | none => rw [he, hf] at h; cases h
      | some p' =>
        obtain ⟨e1, e2⟩ := ints_of_eq hf
        refine ⟨by simp [e1], ?_⟩
        rw [List.all_cons, e2, Bool.and_true]
        unfold eq1 at he
        split at he
        · rfl
        · rename_i h0; exact absurd h0 (by decide)
        · rename_i h0; exact absurd h0 (by decide)
        · cases he
theorem findS_ok {t : TypeId} {n : Nat} {fs : Array Field} (hu : P.underlying t = some (.struct fs)) (hki : kinds P 20 t = some (List.replicate n 0)) {y : Ctx} {a : AVal} {u : Value} (ha : V y a u) (w : World) : ∀ {es : List (AVal × AVal × Nat)} {l : List MapEntry} {i : Nat} {r : Option (Nat × AVal × Nat)}, EL y es l → findA (n + 3) a es i = some r →
    keyOk (n + 3) a = true ∧ ((r = none ∧ (Instr.findAsking t u l i).run P w = .ok none w) ∨ ∃ j v m e k', r = some (i + j, v, m) ∧ l[j]? = some e ∧ V y v e.val ∧ e.born = m ∧ e.key = u ∧ Instr.sameBits 10000 e.key u = true ∧ es[j]? = some (k', v, m) ∧ (Instr.findAsking t u l i).run P w = .ok (some (i + j, e.val)) w)
  | [], l, i, r, hl, h => by
    simp only [findA] at h
    split at h
    · rename_i hk
      simp only [Option.some.injEq] at h
      simp only [EL] at hl
      subst hl
      exact ⟨hk, .inl ⟨h.symm, by simp [Instr.findAsking]⟩⟩
    · cases h
  | c :: es, l, i, r, hl, h => by
    obtain ⟨e, l', rfl, h1, h2, h3, h4⟩ := hl
    simp only [findA] at h
    cases hk : keq (n + 3) a c.1 with
    | none => rw [hk] at h; cases h
    | some b =>
      rw [hk] at h
      obtain ⟨xs, ys, rfl, e2, e3⟩ := keyOk_keq hk
      rw [e2] at h1
      obtain ⟨l1, l2⟩ := eqCells_len _ _ _ _ e3
      obtain ⟨g1, g2⟩ := ints_of_eq e3
      have hko : keyOk (n + 3) (.agg xs) = true := by simp only [keyOk, Bool.and_eq_true, decide_eq_true_eq]; exact ⟨g1, g2⟩
      have ha' := ha
      simp only [V] at ha h1
      obtain ⟨vs, rfl, hl1⟩ := ha
      obtain ⟨us, hus, hl2⟩ := h1
      have q1 : vs.length = n := by rw [hl1.length, g1]
      have q2 : us.length = n := by rw [hl2.length, l2]; simp
      have hag : aggOf P t = some true := by unfold aggOf; rw [hu]; rfl
      have hsz := kinds_struct hki hu
      rw [List.length_replicate] at hsz
      obtain ⟨va, vb, p1, p2, p3⟩ := kinds_ok 20 t _ hki y 9980 w xs ys vs.toArray us.toArray 0 b (by simp [← q1]; exact hl1) (by simp [← q2]; exact hl2) e3
      rw [part_agg hag hsz] at p1 p2
      cases p1; cases p2
      have q3 : vs.toArray.extract 0 (0 + n) = vs.toArray := by simp [← q1]
      have q4 : us.toArray.extract 0 (0 + n) = us.toArray := by simp [← q2]
      rw [q3, q4] at p3
      have heq : (Op.equal t (.agg vs.toArray) e.key).run P w = .ok b w := by rw [hus]; exact p3
      cases b with
      | true =>
        simp only [Option.some.injEq] at h
        obtain ⟨s1, s2⟩ := eqInts_same e3 hl1 hl2
        refine ⟨hko, .inr ⟨0, c.2.1, c.2.2, e, c.1, by rw [← h]; rfl, rfl, h2, h3, by rw [hus, s1], ?_, rfl, by simp [Instr.findAsking, heq, Result.andThen]⟩⟩
        rw [hus]
        subst s1
        show Instr.sameBits (9999 + 1) (.agg vs.toArray) (.agg vs.toArray) = true
        simp only [Instr.sameBits, Bool.and_eq_true, beq_self_eq_true, true_and]
        exact s2
      | false =>
        simp only at h
        obtain ⟨_, h5⟩ := findS_ok hu hki ha' w h4 h
        refine ⟨hko, ?_⟩
        rcases h5 with ⟨h7, h8⟩ | ⟨j, v, m, e', k', h7, h8, h9, h10, h11, h12, h13, h14⟩
        · exact .inl ⟨h7, by simp [Instr.findAsking, heq, h8, Result.andThen]⟩
        · exact .inr ⟨j + 1, v, m, e', k', by rw [h7]; congr 2; omega, by simpa using h8, h9, h10, h11, h12, by simpa using h13, by simp [Instr.findAsking, heq, h14, Result.andThen]; omega⟩
theorem run_findKeyS {t : TypeId} {fs : Array Field} {k : Value} (hu : P.underlying t = some (.struct fs)) (l : List MapEntry) (w : World) : (Instr.findKey t k l).run P w = (Instr.findAsking t k l).run P w := by
  cases l with
  | nil => simp [Instr.findKey, run_underlying hu, Result.andThen, Instr.findNow, Instr.findAsking]
  | cons e l => simp [Instr.findKey, run_underlying hu, Result.andThen, Instr.findNow, Instr.sameNow]
theorem find_ok {t : TypeId} {kd : Nat} (hkt : keyTy P t kd = true) {y : Ctx} {a : AVal} {u : Value} (ha : V y a u) (w : World) {es : List (AVal × AVal × Nat)} {l : List MapEntry} {r : Option (Nat × AVal × Nat)} (hl : EL y es l) (h : findA kd a es 0 = some r) :
    keyOk kd a = true ∧ ((r = none ∧ (Instr.findKey t u l).run P w = .ok none w) ∨ ∃ j v m e k', r = some (j, v, m) ∧ l[j]? = some e ∧ V y v e.val ∧ e.born = m ∧ e.key = u ∧ Instr.sameBits 10000 e.key u = true ∧ es[j]? = some (k', v, m) ∧ (Instr.findKey t u l).run P w = .ok (some (j, e.val)) w) := by
  rcases keyTy_ok hkt with ⟨d, hu, hd⟩ | ⟨n, fs, rfl, hu, hki, hn, hfs⟩
  · refine ⟨by rcases hd with ⟨rfl, _⟩ | ⟨rfl, _⟩ | ⟨rfl, _⟩ <;> rfl, ?_⟩
    rcases findA_ok hd ha hl h with ⟨h1, h2⟩ | ⟨j, v, m, e, k', h1, h2, h3, h4, h5, h6, h7, h8⟩
    · exact .inl ⟨h1, run_findKeyD hu h2 w⟩
    · rw [Nat.zero_add] at h1 h8
      exact .inr ⟨j, v, m, e, k', h1, h2, h3, h4, h5, h6, h7, run_findKeyD hu h8 w⟩
  · obtain ⟨hko, h1⟩ := findS_ok hu hki ha w hl h
    refine ⟨hko, ?_⟩
    rw [run_findKeyS hu]
    rcases h1 with h1 | ⟨j, v, m, e, k', h1, h2, h3, h4, h5, h6, h7, h8⟩
    · exact .inl h1
    · rw [Nat.zero_add] at h1 h8
      exact .inr ⟨j, v, m, e, k', h1, h2, h3, h4, h5, h6, h7, h8⟩
theorem run_getObjM {w : World} {r : Nat} {es : Array MapEntry} {clock : Nat} (hb : w.heap[r]? = some (.map es clock)) : (getObj r).run P w = .ok (.map es clock) w := by
  simp [getObj, Sem.run, hb]
theorem run_setObjM {w : World} {r : Nat} {es : Array MapEntry} {clock : Nat} (o : Obj) (hb : w.heap[r]? = some (.map es clock)) : (setObj r o).run P w = .ok () { w with heap := w.heap.setIfInBounds r o } := by
  simp [setObj, Sem.run, hb]
theorem mapAt (hs : Sim B S0 h nc x) {k : Key} {u : Value} {es : List (AVal × AVal × Nat)} {cl : Nat} (ha : V x (.mp k) u) (hk : h k = some (.obj (.map es cl))) : ∃ b arr, x.ρ k 0 = some (b, 0) ∧ u = .map (some b) ∧ x.w.heap[b]? = some (.map arr cl) ∧ EL x es arr.toList := by
  simp only [V] at ha
  obtain ⟨b, hρ, rfl⟩ := ha
  obtain ⟨b', o', h1, _, _, h4⟩ := hs.live k _ hk
  simp only [Blk.gen] at h1
  rw [hρ] at h1
  cases h1
  obtain ⟨_, ob, hb, arr, rfl, hel⟩ := h4
  exact ⟨b, arr, hρ, rfl, hb, hel⟩
theorem ok_lkp (hs : Sim B S0 h nc x) {t kt et : TypeId} {kd : Nat} {c : Bool} {a i : Operand} {va vi zero v : AVal} {z : Value} {ws : Wr} (hop : o.op = .lookup t a i c) (ht : P.underlying t = some (.map kt et)) (hkt : keyTy P kt kd = true) (hz : zeroOf P et = some z) (hzv : chkV z zero = true)
    (ha : V x va (ρc a)) (hi : V x vi (ρc i)) (hr : (lkpR kd c zero va vi).run h = some (v, ws)) : OpOk P B S0 ρc o x (applyW h ws) nc key v := by
  unfold lkpR at hr
  split at hr
  · rename_i k
    simp only [Rd.run_get] at hr
    split at hr
    · rename_i es cl hk
      obtain ⟨b, arr, hρ, hav, hb, hel⟩ := mapAt hs ha hk
      split at hr
      · rename_i j v0 n hf
        simp only [Rd.run_ret, Option.some.injEq, Prod.mk.injEq] at hr
        obtain ⟨rfl, rfl⟩ := hr
        obtain ⟨hko, hfo⟩ := find_ok hkt hi x.w hel hf
        rcases hfo with ⟨h1, _⟩ | ⟨j', v', n', e, k', h1, h2, h3, h4, h5, _, _, h6⟩
        · cases h1
        · cases h1
          have hfk := h6
          have hck := checkKey_ok hkt arr.isEmpty hko hi x.w
          refine pureOk hs (u := if c then .tuple #[e.val, .bool true] else e.val) ?_ ?_
          · simp [execOp, hop, hav, Instr.lookup, run_underlying ht, run_getObjM hb, Result.andThen, hck, hfk]
          · cases c
            · simpa using h3
            · simp only [if_true, V, VL]
              exact ⟨_, rfl, _, _, rfl, h3, _, _, rfl, rfl, rfl⟩
      · rename_i hf
        simp only [Rd.run_ret, Option.some.injEq, Prod.mk.injEq] at hr
        obtain ⟨rfl, rfl⟩ := hr
        obtain ⟨hko, hfo⟩ := find_ok hkt hi x.w hel hf
        have hck := checkKey_ok hkt false hko hi x.w
        rcases hfo with ⟨_, h6⟩ | ⟨j', v', n', e, k', h1, _⟩
        · have hfk := h6
          have hck := checkKey_ok hkt arr.isEmpty hko hi x.w
          refine pureOk hs (u := if c then .tuple #[z, .bool false] else z) ?_ ?_
          · simp [execOp, hop, hav, Instr.lookup, run_underlying ht, run_getObjM hb, Result.andThen, hck, hfk, zero_run hz]
          · cases c
            · simpa using chkV_ok hzv
            · simp only [if_true, V, VL]
              exact ⟨_, rfl, _, _, rfl, chkV_ok hzv, _, _, rfl, rfl, rfl⟩
        · cases h1
      · cases hr
    · cases hr
  · cases hr
theorem EL_set {y : Ctx} : ∀ {es : List (AVal × AVal × Nat)} {l : List MapEntry} {j : Nat} {a : AVal × AVal × Nat} {e : MapEntry}, EL y es l → V y a.1 e.key → V y a.2.1 e.val → e.born = a.2.2 → EL y (es.set j a) (l.set j e)
  | [], l, j, a, e, h, _, _, _ => by simp only [EL] at h; subst h; simp [EL]
  | c :: es, l, j, a, e, h, h1, h2, h3 => by
    obtain ⟨e0, l', rfl, g1, g2, g3, g4⟩ := h
    cases j with
    | zero => exact ⟨e, l', rfl, h1, h2, h3, g4⟩
    | succ j => exact ⟨e0, l'.set j e, rfl, g1, g2, g3, EL_set g4 h1 h2 h3⟩
theorem EL_push {y : Ctx} : ∀ {es : List (AVal × AVal × Nat)} {l : List MapEntry} {a : AVal × AVal × Nat} {e : MapEntry}, EL y es l → V y a.1 e.key → V y a.2.1 e.val → e.born = a.2.2 → EL y (es ++ [a]) (l ++ [e])
  | [], l, a, e, h, h1, h2, h3 => by simp only [EL] at h; subst h; exact ⟨e, [], rfl, h1, h2, h3, rfl⟩
  | c :: es, l, a, e, h, h1, h2, h3 => by
    obtain ⟨e0, l', rfl, g1, g2, g3, g4⟩ := h
    exact ⟨e0, l' ++ [e], rfl, g1, g2, g3, EL_push g4 h1 h2 h3⟩
theorem modify_set {arr : Array MapEntry} {j : Nat} {e : MapEntry} (f : MapEntry → MapEntry) (h : arr.toList[j]? = some e) : (arr.modify j f).toList = arr.toList.set j (f e) := by
  have hj : j < arr.toList.length := by
    rcases Nat.lt_or_ge j arr.toList.length with h' | h'
    · exact h'
    · rw [List.getElem?_eq_none h'] at h; cases h
  have he : arr.toList[j] = e := by rw [List.getElem?_eq_getElem hj] at h; exact Option.some.inj h
  refine List.ext_getElem? fun i => ?_
  rw [Array.toList_modify, List.getElem?_modify, List.getElem?_set]
  by_cases hij : j = i
  · subst hij
    simp [List.getElem?_eq_getElem hj, he, hj]
    simpa using hj
  · simp [hij]
theorem run_stays {k k' : Value} (h : Instr.sameBits 10000 k' k = true) (w : World) : (Instr.keyThatStays k' k).run P w = .ok k w := by
  simp [Instr.keyThatStays, h]
theorem ok_mset (hs : Sim B S0 h nc x) {t kt et : TypeId} {kd : Nat} {a i c : Operand} {va vi vc v : AVal} {ws : Wr} (hop : o.op = .mapUpdate t a i c ∨ o.op = .insert t a i c) (ht : P.underlying t = some (.map kt et)) (hkt : keyTy P kt kd = true)
    (ha : V x va (ρc a)) (hi : V x vi (ρc i)) (hc : V x vc (ρc c)) (hr : (msetR kd va vi vc).run h = some (v, ws)) : OpOk P B S0 ρc o x (applyW h ws) nc key v := by
  unfold msetR at hr
  split at hr
  · rename_i k
    simp only [Rd.run_get] at hr
    split at hr
    · rename_i es cl hk
      obtain ⟨b, arr, hρ, hav, hb, hel⟩ := mapAt hs ha hk
      split at hr
      · rename_i j v0 n hf
        simp only [Rd.run_ret, Option.some.injEq, Prod.mk.injEq] at hr
        obtain ⟨rfl, rfl⟩ := hr
        obtain ⟨hko, hfo⟩ := find_ok hkt hi x.w hel hf
        have hck := checkKey_ok hkt false hko hi x.w
        rcases hfo with ⟨h1, _⟩ | ⟨j', v', n', e, k', h1, h2, h3, h4, h5, h7, _, h6⟩
        · cases h1
        · simp only [Option.some.injEq, Prod.mk.injEq] at h1
          obtain ⟨rfl, rfl, rfl⟩ := h1
          have hfk := h6
          have hae : arr[j]? = some e := by rw [← Array.getElem?_toList]; exact h2
          have hst := run_stays (P := P) h7 x.w
          refine writeObj hs hk hρ hb (ob' := .map (arr.modify j fun e => { e with key := ρc i, val := ρc c }) cl) (by simp [osz]) (u := undef) (w' := { x.w with heap := x.w.heap.setIfInBounds b (.map (arr.modify j fun e => { e with key := ρc i, val := ρc c }) cl) })
            (.inr ⟨?_, rfl⟩) rfl ⟨rfl, rfl, rfl⟩ (fun y g => ⟨_, rfl, ?_⟩) (fun y _ => by simp [V])
          · rcases hop with hop | hop <;> simp [execOp, hop, hav, Instr.mapUpdate, run_underlying ht, run_getObjM hb, Result.andThen, hck, hfk, hae, hst, run_setObjM _ hb]
          · rw [modify_set _ h2]
            exact EL_set (EL_grow g _ _ hel) (V_grow g _ _ hi) (V_grow g _ _ hc) h4
      · rename_i hf
        simp only [Rd.run_ret, Option.some.injEq, Prod.mk.injEq] at hr
        obtain ⟨rfl, rfl⟩ := hr
        obtain ⟨hko, hfo⟩ := find_ok hkt hi x.w hel hf
        have hck := checkKey_ok hkt false hko hi x.w
        rcases hfo with ⟨_, h6⟩ | ⟨j', v', n', e, k', h1, _⟩
        · have hfk := h6
          refine writeObj hs hk hρ hb (ob' := .map (arr.push { key := ρc i, val := ρc c, born := cl }) (cl + 1)) (by simp [osz]) (u := undef) (w' := { x.w with heap := x.w.heap.setIfInBounds b (.map (arr.push { key := ρc i, val := ρc c, born := cl }) (cl + 1)) })
            (.inr ⟨?_, rfl⟩) rfl ⟨rfl, rfl, rfl⟩ (fun y g => ⟨_, rfl, ?_⟩) (fun y _ => by simp [V])
          · rcases hop with hop | hop <;> simp [execOp, hop, hav, Instr.mapUpdate, run_underlying ht, run_getObjM hb, Result.andThen, hck, hfk, run_setObjM _ hb]
          · rw [Array.toList_push]
            exact EL_push (EL_grow g _ _ hel) (V_grow g _ _ hi) (V_grow g _ _ hc) rfl
        · cases h1
      · cases hr
    · cases hr
  · cases hr
theorem EL_erase {y : Ctx} : ∀ {es : List (AVal × AVal × Nat)} {l : List MapEntry} (j : Nat), EL y es l → EL y (es.eraseIdx j) (l.eraseIdx j)
  | [], l, j, h => by simp only [EL] at h; subst h; simp [EL]
  | c :: es, l, j, h => by
    obtain ⟨e0, l', rfl, g1, g2, g3, g4⟩ := h
    cases j with
    | zero => exact g4
    | succ j => exact ⟨e0, l'.eraseIdx j, rfl, g1, g2, g3, EL_erase j g4⟩
theorem ok_mdel (hs : Sim B S0 h nc x) {t kt et : TypeId} {kd : Nat} {a i : Operand} {va vi v : AVal} {ws : Wr} {c : Call} {t2 : TypeId} (hop : o.op = .call c) (hcal : c.callee = .builtin .delete) (hts : c.argTypes.toList = [t, t2]) (has : c.args.toList = [a, i]) (ht : P.underlying t = some (.map kt et)) (hkt : keyTy P kt kd = true)
    (ha : V x va (ρc a)) (hi : V x vi (ρc i)) (hr : (mdelR kd va vi).run h = some (v, ws)) : OpOk P B S0 ρc o x (applyW h ws) nc key v := by
  have hts' : c.argTypes = #[t, t2] := Array.toList_inj.1 hts
  have has' : c.args = #[a, i] := Array.toList_inj.1 has
  unfold mdelR at hr
  split at hr
  · rename_i k
    simp only [Rd.run_get] at hr
    split at hr
    · rename_i es cl hk
      obtain ⟨b, arr, hρ, hav, hb, hel⟩ := mapAt hs ha hk
      split at hr
      · rename_i j v0 n hf
        simp only [Rd.run_ret, Option.some.injEq, Prod.mk.injEq] at hr
        obtain ⟨rfl, rfl⟩ := hr
        obtain ⟨hko, hfo⟩ := find_ok hkt hi x.w hel hf
        have hck := checkKey_ok hkt arr.isEmpty hko hi x.w
        rcases hfo with ⟨h1, _⟩ | ⟨j', v', n', e, k', h1, h2, h3, h4, h5, h7, _, h6⟩
        · cases h1
        · simp only [Option.some.injEq, Prod.mk.injEq] at h1
          obtain ⟨rfl, rfl, rfl⟩ := h1
          have hjs : j < arr.size := by
            rw [← Array.length_toList]
            exact (List.getElem?_eq_some_iff.1 h2).1
          refine writeObj hs hk hρ hb (ob' := .map (arr.eraseIdxIfInBounds j) cl) (by simp [osz]) (u := .tuple #[]) (w' := { x.w with heap := x.w.heap.setIfInBounds b (.map (arr.eraseIdxIfInBounds j) cl) })
            (.inl ?_) rfl ⟨rfl, rfl, rfl⟩ (fun y g => ⟨_, rfl, ?_⟩) (fun y _ => by simp [V, VL])
          · simp [execOp, hop, resolve, hcal, has', hts', hav, invoke, builtin, Builtin.delete_, run_underlying ht, run_getObjM hb, Result.andThen, hck, h6, run_setObjM _ hb]
          · have : (arr.eraseIdxIfInBounds j).toList = arr.toList.eraseIdx j := by
              unfold Array.eraseIdxIfInBounds
              rw [dif_pos hjs]
              simp
            rw [this]
            exact EL_erase j (EL_grow g _ _ hel)
      · rename_i hf
        simp only [Rd.run_ret, Option.some.injEq, Prod.mk.injEq] at hr
        obtain ⟨rfl, rfl⟩ := hr
        obtain ⟨hko, hfo⟩ := find_ok hkt hi x.w hel hf
        have hck := checkKey_ok hkt arr.isEmpty hko hi x.w
        rcases hfo with ⟨_, h6⟩ | ⟨j', v', n', e, k', h1, _⟩
        · refine writeObj hs hk hρ hb (ob' := .map arr cl) (by simp [osz]) (u := .tuple #[]) (w' := { x.w with heap := x.w.heap.setIfInBounds b (.map arr cl) })
            (.inl ?_) rfl ⟨rfl, rfl, rfl⟩ (fun y g => ⟨_, rfl, EL_grow g _ _ hel⟩) (fun y _ => by simp [V, VL])
          simp [execOp, hop, resolve, hcal, has', hts', hav, invoke, builtin, Builtin.delete_, run_underlying ht, run_getObjM hb, Result.andThen, hck, h6, run_setObjM _ hb]
        · cases h1
      · cases hr
    · cases hr
  · cases hr
theorem ok_ment (hs : Sim B S0 h nc x) {t kt et : TypeId} {kd : Nat} {a i : Operand} {va vi zero v : AVal} {z : Value} {ws : Wr} (hop : o.op = .mapEntry t a i) (ht : P.underlying t = some (.map kt et)) (hkt : keyTy P kt kd = true) (hz : zeroOf P et = some z) (hzv : chkV z zero = true)
    (ha : V x va (ρc a)) (hi : V x vi (ρc i)) (hr : (mentR kd zero va vi).run h = some (v, ws)) : OpOk P B S0 ρc o x (applyW h ws) nc key v := by
  unfold mentR at hr
  split at hr
  · rename_i k
    simp only [Rd.run_get] at hr
    split at hr
    · rename_i es cl hk
      obtain ⟨b, arr, hρ, hav, hb, hel⟩ := mapAt hs ha hk
      split at hr
      · rename_i j v0 n hf
        simp only [Rd.run_ret, Option.some.injEq, Prod.mk.injEq] at hr
        obtain ⟨rfl, rfl⟩ := hr
        obtain ⟨hko, hfo⟩ := find_ok hkt hi x.w hel hf
        have hck := checkKey_ok hkt false hko hi x.w
        rcases hfo with ⟨h1, _⟩ | ⟨j', v', n', e, k', h1, h2, h3, h4, h5, h7, _, h6⟩
        · cases h1
        · simp only [Option.some.injEq, Prod.mk.injEq] at h1
          obtain ⟨rfl, rfl, rfl⟩ := h1
          have hfk := h6
          have hae : arr[j]? = some e := by rw [← Array.getElem?_toList]; exact h2
          have hst := run_stays (P := P) h7 x.w
          refine writeObj hs hk hρ hb (ob' := .map (arr.modify j fun e => { e with key := ρc i }) cl) (by simp [osz]) (u := .tuple #[e.val, .int .i64 e.born]) (w' := { x.w with heap := x.w.heap.setIfInBounds b (.map (arr.modify j fun e => { e with key := ρc i }) cl) })
            (.inl ?_) rfl ⟨rfl, rfl, rfl⟩ (fun y g => ⟨_, rfl, ?_⟩) (fun y g => ?_)
          · simp [execOp, hop, hav, Instr.mapEntry, run_underlying ht, run_getObjM hb, Result.andThen, hck, hfk, hae, hst, run_setObjM _ hb, goInt]
          · rw [modify_set _ h2]
            exact EL_set (EL_grow g _ _ hel) (V_grow g _ _ hi) (V_grow g _ _ h3) h4
          · simp only [V, VL]
            exact ⟨_, rfl, _, _, rfl, V_grow g _ _ h3, _, _, rfl, by rw [h4], rfl⟩
      · rename_i hf
        simp only [Rd.run_ret, Option.some.injEq, Prod.mk.injEq] at hr
        obtain ⟨rfl, rfl⟩ := hr
        obtain ⟨hko, hfo⟩ := find_ok hkt hi x.w hel hf
        have hck := checkKey_ok hkt false hko hi x.w
        rcases hfo with ⟨_, h6⟩ | ⟨j', v', n', e, k', h1, _⟩
        · have hfk := h6
          refine writeObj hs hk hρ hb (ob' := .map (arr.push { key := ρc i, val := z, born := cl }) (cl + 1)) (by simp [osz]) (u := .tuple #[z, .int .i64 cl]) (w' := { x.w with heap := x.w.heap.setIfInBounds b (.map (arr.push { key := ρc i, val := z, born := cl }) (cl + 1)) })
            (.inl ?_) rfl ⟨rfl, rfl, rfl⟩ (fun y g => ⟨_, rfl, ?_⟩) (fun y g => ?_)
          · simp [execOp, hop, hav, Instr.mapEntry, run_underlying ht, run_getObjM hb, Result.andThen, hck, hfk, run_setObjM _ hb, zero_run hz, goInt]
          · rw [Array.toList_push]
            exact EL_push (EL_grow g _ _ hel) (V_grow g _ _ hi) (chkV_ok hzv) rfl
          · simp only [V, VL]
            exact ⟨_, rfl, _, _, rfl, chkV_ok hzv, _, _, rfl, rfl, rfl⟩
        · cases h1
      · cases hr
    · cases hr
  · cases hr
theorem born_ok {y : Ctx} {n : Int} : ∀ {es : List (AVal × AVal × Nat)} {l : List MapEntry}, EL y es l → l.findIdx? (fun e => (e.born : Int) == n) = es.findIdx? fun e => (e.2.2 : Int) == n
  | [], l, h => by simp only [EL] at h; subst h; rfl
  | c :: es, l, h => by
    obtain ⟨e, l', rfl, _, _, h3, h4⟩ := h
    rw [List.findIdx?_cons, List.findIdx?_cons, h3, born_ok h4]
theorem EL_get {y : Ctx} : ∀ {es : List (AVal × AVal × Nat)} {l : List MapEntry} {j : Nat} {a : AVal × AVal × Nat}, EL y es l → es[j]? = some a → ∃ e, l[j]? = some e ∧ V y a.1 e.key ∧ V y a.2.1 e.val ∧ e.born = a.2.2
  | [], l, j, a, h, hj => by simp at hj
  | c :: es, l, j, a, h, hj => by
    obtain ⟨e, l', rfl, h1, h2, h3, h4⟩ := h
    cases j with
    | zero => simp at hj; subst hj; exact ⟨e, rfl, h1, h2, h3⟩
    | succ j => simp at hj ⊢; exact EL_get h4 hj
theorem ok_msto (hs : Sim B S0 h nc x) {t : TypeId} {a i c : Operand} {va vi vc v : AVal} {ws : Wr} (hop : o.op = .entryStore t a i c)
    (ha : V x va (ρc a)) (hi : V x vi (ρc i)) (hc : V x vc (ρc c)) (hr : (mstoR va vi vc).run h = some (v, ws)) : OpOk P B S0 ρc o x (applyW h ws) nc key v := by
  unfold mstoR at hr
  split at hr
  · rename_i k n
    have hi := V_int hi
    simp only [Rd.run_get] at hr
    split at hr
    · rename_i es cl hk
      obtain ⟨b, arr, hρ, hav, hb, hel⟩ := mapAt hs ha hk
      split at hr
      · rename_i j hj
        split at hr
        · rename_i e0 he0
          simp only [Rd.run_ret, Option.some.injEq, Prod.mk.injEq] at hr
          obtain ⟨rfl, rfl⟩ := hr
          obtain ⟨e, h2, h3, h4, h5⟩ := EL_get hel he0
          have hfi : arr.findIdx? (fun e => (e.born : Int) == n) = some j := by
            have : arr.findIdx? (fun e => (e.born : Int) == n) = arr.toList.findIdx? (fun e => (e.born : Int) == n) := by rw [← List.findIdx?_toArray]
            rw [this, born_ok hel]; exact hj
          refine writeObj hs hk hρ hb (ob' := .map (arr.modify j fun e => { e with val := ρc c }) cl) (by simp [osz]) (u := undef) (w' := { x.w with heap := x.w.heap.setIfInBounds b (.map (arr.modify j fun e => { e with val := ρc c }) cl) })
            (.inr ⟨?_, rfl⟩) rfl ⟨rfl, rfl, rfl⟩ (fun y g => ⟨_, rfl, ?_⟩) (fun y _ => by simp [V])
          · simp [execOp, hop, hav, hi, Instr.entryStore, run_getObjM hb, Result.andThen, asInt, asIntOf, hfi, run_setObjM _ hb]
          · rw [modify_set _ h2]
            exact EL_set (EL_grow g _ _ hel) (V_grow g _ _ h3) (V_grow g _ _ hc) h5
        · cases hr
      · cases hr
    · cases hr
  · cases hr
end
section
variable {P : Program} {B : Nat} {S0 : Base} {ρc : Operand → Value} {o : Oper} {x : Ctx} {h : Heap} {nc : Nat} {key : Key} {e : XArg → AVal}
theorem split_pure {α : Type} {h : Heap} {a : Option α} {f : α → AVal} {v : AVal} {ws : Wr} (hr : ((Rd.ofO a).bind fun b => Rd.ret (f b, ([] : Wr))).run h = some (v, ws)) : ∃ b, a = some b ∧ v = f b ∧ ws = [] := by
  rw [Rd.run_bind, Rd.run_ofO] at hr
  cases a with
  | none => cases hr
  | some b => simp only [Option.bind_some, Rd.run_ret, Option.some.injEq, Prod.mk.injEq] at hr; exact ⟨b, rfl, hr.1.symm, hr.2.symm⟩
theorem split_bool {h : Heap} {a : Option Bool} {neg : Bool} {v : AVal} {ws : Wr} (hr : ((Rd.ofO a).bind fun b => Rd.ret (AVal.bool (if neg then !b else b), ([] : Wr))).run h = some (v, ws)) : ∃ b, a = some b ∧ v = AVal.bool (if neg then !b else b) ∧ ws = [] :=
  split_pure (f := fun b => AVal.bool (if neg then !b else b)) hr
theorem ret_inv {h : Heap} {a : AVal} {b : Wr} {v : AVal} {ws : Wr} (hr : (Rd.ret (a, b)).run h = some (v, ws)) : v = a ∧ ws = b := by
  simp only [Rd.run_ret, Option.some.injEq, Prod.mk.injEq] at hr; exact ⟨hr.1.symm, hr.2.symm⟩
theorem op_ok2 {xo : XOp} {op : Op} (hcv : ∀ v, ρc (.const v) = v) (hce : ∀ a, e (.c a) = a) (ho : o.op = op) (hc : chkOp2 P op xo = true) (he : ArgsOk x ρc e) (hs : Sim B S0 h nc x) (hk : key.2 < nc) (hfresh : ∀ g, x.ρ key g = none) {v : AVal} {ws : Wr} (hr : (opR key xo e).run h = some (v, ws)) :
    OpOk P B S0 ρc o x (applyW h ws) nc key v := by
  unfold chkOp2 at hc
  split at hc
  · simp [opR, Rd.run] at hr
  · simp only [Bool.and_eq_true] at hc
    obtain ⟨h1, h2⟩ := hc
    split at h1
    · rename_i u hsl hd
      split at h1
      · rename_i hu
        exact ok_b2s hs ho (he _ _ h2) hsl hd hu hr
      · cases h1
    · cases h1
  · simp only [Bool.and_eq_true] at hc
    obtain ⟨h1, h2⟩ := hc
    split at h1
    · rename_i ht
      simp only [opR] at hr
      split at hr
      · rename_i s hx
        obtain ⟨rfl, rfl⟩ := ret_inv hr
        have := he _ _ h2
        rw [hx] at this
        exact ok_rngS hs hk hfresh ho ht this
      · cases hr
    · cases h1
  · exact ok_nxtS hs ho (he _ _ hc) hr
  · obtain ⟨rfl, rfl⟩ := ret_inv hr
    exact ok_mkM hs hk hfresh ho
  · simp only [Bool.and_eq_true] at hc
    obtain ⟨⟨⟨h1, h2⟩, h3⟩, h4⟩ := hc
    split at h1
    · rename_i kt et ht
      simp only [Bool.and_eq_true] at h1
      unfold chkZ1 at h1
      split at h1
      · rename_i z hz
        have h2 := eq_of_beq h2
        subst h2
        exact ok_lkp hs ho ht h1.1 hz h1.2 (he _ _ h3) (he _ _ h4) hr
      · cases h1.2
    · cases h1
  · simp only [Bool.and_eq_true] at hc
    obtain ⟨⟨⟨h1, h2⟩, h3⟩, h4⟩ := hc
    split at h1
    · rename_i kt et ht
      exact ok_mset hs (.inl ho) ht h1 (he _ _ h2) (he _ _ h3) (he _ _ h4) hr
    · cases h1
  · simp only [Bool.and_eq_true] at hc
    obtain ⟨⟨⟨h1, h2⟩, h3⟩, h4⟩ := hc
    split at h1
    · rename_i kt et ht
      exact ok_mset hs (.inr ho) ht h1 (he _ _ h2) (he _ _ h3) (he _ _ h4) hr
    · cases h1
  · simp only [Bool.and_eq_true] at hc
    obtain ⟨⟨h1, h3⟩, h4⟩ := hc
    split at h1
    · rename_i kt et ht
      simp only [Bool.and_eq_true] at h1
      unfold chkZ1 at h1
      split at h1
      · rename_i z hz
        exact ok_ment hs ho ht h1.1 hz h1.2 (he _ _ h3) (he _ _ h4) hr
      · cases h1.2
    · cases h1
  · simp only [Bool.and_eq_true] at hc
    exact ok_msto hs ho (he _ _ hc.1.1) (he _ _ hc.1.2) (he _ _ hc.2) hr
  · simp only [Bool.and_eq_true, beq_iff_eq] at hc
    obtain ⟨⟨⟨h1, rfl⟩, h3⟩, h4⟩ := hc
    unfold chkZ1 at h3
    split at h1
    · rename_i d hd
      split at h3
      · rename_i z hz
        obtain ⟨hv, rfl⟩ := run_pureR hr
        exact ok_tas hs ho (he _ _ h4) hd (by simpa using h1) hz h3 hv
      · cases h3
    · cases h1
  · simp only [Bool.and_eq_true] at hc
    obtain ⟨⟨h1, h3⟩, h4⟩ := hc
    unfold chkZ1 at h3
    split at h1
    · rename_i want hd
      simp only [Bool.and_eq_true] at h1
      split at h3
      · rename_i z hz
        obtain ⟨hv, rfl⟩ := run_pureR hr
        exact ok_tai hs ho (he _ _ h4) hd h1.1 h1.2 hz h3 hv
      · cases h3
    · cases h1
  · cases hc
set_option maxHeartbeats 1600000 in
theorem op_ok {xo : XOp} (hcv : ∀ v, ρc (.const v) = v) (hce : ∀ a, e (.c a) = a) (hc : chkOp P o.op xo = true) (he : ArgsOk x ρc e) (hs : Sim B S0 h nc x) (hk : key.2 < nc) (hfresh : ∀ g, x.ρ key g = none) {v : AVal} {ws : Wr} (hr : (opR key xo e).run h = some (v, ws)) :
    OpOk P B S0 ρc o x (applyW h ws) nc key v := by
  generalize ho : o.op = op at hc
  unfold chkOp at hc
  split at hc
  · obtain ⟨rfl, rfl⟩ := ret_inv hr
    exact ok_mv hs (.inl ho) (he _ _ hc)
  · obtain ⟨rfl, rfl⟩ := ret_inv hr
    exact ok_mv hs (.inr ho) (he _ _ hc)
  · simp only [Bool.and_eq_true] at hc
    simp only [opR] at hr
    split at hr
    · rename_i ht
      obtain ⟨rfl, rfl⟩ := ret_inv hr
      have hcc := he _ _ hc.1.1
      rw [ht] at hcc
      exact ok_pick hs ho hcc (he _ _ hc.1.2) (he _ _ hc.2)
    · cases hr
  ·
    split at hc
    · rename_i z hz
      obtain ⟨rfl, rfl⟩ := ret_inv hr
      exact ok_alloc hs hk hfresh ho hz hc
    · cases hc
  ·
    simp only [opR] at hr
    split at hr
    · rename_i hsc
      obtain ⟨rfl, rfl⟩ := ret_inv hr
      exact ok_box hs hk hfresh ho (he _ _ hc) hsc
    · cases hr
  ·
    simp only [opR] at hr
    split at hr
    · rename_i cs hcs
      obtain ⟨rfl, rfl⟩ := ret_inv hr
      split at hc
      · rename_i fs z ht hz
        simp only [Bool.and_eq_true] at hc
        exact ok_buildS hs ho ht hz hc.1.1 hc.1.2 (chkPartsS_ok he hc.2) hcs
      · rename_i n et z ht hz
        split at hc
        · rename_i s hsz
          simp only [Bool.and_eq_true] at hc
          exact ok_buildA hs ho ht hz hc.1 hsz (chkPartsA_ok he hc.2) hcs
        · cases hc
      · cases hc
    · cases hr
  ·
    simp only [opR] at hr
    split at hr
    · rename_i xs hxs
      obtain ⟨rfl, rfl⟩ := ret_inv hr
      split at hc
      · rename_i et ht
        simp only [Bool.and_eq_true, decide_eq_true_eq, beq_iff_eq] at hc
        obtain ⟨⟨⟨⟨h1, rfl⟩, h3⟩, h4⟩, h5⟩ := hc
        unfold chkZ at h4
        split at h4
        · rename_i z hz
          simp only [Bool.and_eq_true, decide_eq_true_eq, beq_iff_eq] at h4
          exact ok_mkslice hs hk hfresh ho ht h1 h3 hz h4.1.1 h4.1.2 h4.2 (chkPartsE_ok he h5) hxs
        · cases h4
      · cases hc
    · cases hr
  ·
    simp only [Bool.and_eq_true, decide_eq_true_eq] at hc
    simp only [opR] at hr
    rw [Rd.run_bind] at hr
    cases hl : (loadR _ _ _).run h with
    | none => rw [hl] at hr; cases hr
    | some u =>
      rw [hl, Option.bind_some] at hr
      obtain ⟨rfl, rfl⟩ := ret_inv hr
      exact ok_load hs ho (he _ _ hc.2) hc.1.1 hc.1.2 hl
  ·
    simp only [Bool.and_eq_true, decide_eq_true_eq] at hc
    exact ok_store hs ho (he _ _ hc.1.2) (he _ _ hc.2) hc.1.1 hr
  ·
    simp only [Bool.and_eq_true, decide_eq_true_eq] at hc
    obtain ⟨⟨⟨rfl, h2⟩, h3⟩, h4⟩ := hc
    obtain ⟨hv, rfl⟩ := run_pureR hr
    exact ok_bin hs ho (he _ _ h2) (he _ _ h3) h4 hv
  ·
    simp only [Bool.and_eq_true, decide_eq_true_eq] at hc
    obtain ⟨⟨⟨h1, h2⟩, h3⟩, h4⟩ := hc
    simp only [opR] at hr
    split at hr
    · rename_i ea eb
      obtain ⟨rfl, rfl⟩ := ret_inv hr
      split at h4
      · rename_i ht
        have a1 := he _ _ h2
        have a2 := he _ _ h3
        rw [ea] at a1
        rw [eb] at a2
        exact ok_eqB hs ho h1 a1 a2 ht
      · cases h4
    · cases hr
  ·
    simp only [Bool.and_eq_true, decide_eq_true_eq] at hc
    obtain ⟨⟨h1, h2⟩, h3⟩ := hc
    obtain ⟨r, hv, rfl, rfl⟩ := split_bool hr
    split at h3
    · rename_i et ht
      simp only [beq_iff_eq] at h3
      subst h3
      exact ok_eqN hs ho h1 (he _ _ h2) (hcv _) (.inl ⟨rfl, ⟨_, ht⟩, rfl⟩) hv
    · rename_i et ht
      simp only [beq_iff_eq] at h3
      subst h3
      exact ok_eqN hs ho h1 (he _ _ h2) (hcv _) (.inr (.inl ⟨rfl, ⟨_, ht⟩, rfl⟩)) hv
    · rename_i et ht
      simp only [beq_iff_eq] at h3
      subst h3
      exact ok_eqN hs ho h1 (he _ _ h2) (hcv _) (.inr (.inr ⟨rfl, ⟨_, ht⟩, rfl⟩)) hv
    · cases h3
  ·
    simp only [Bool.and_eq_true, decide_eq_true_eq, Bool.not_eq_true'] at hc
    obtain ⟨⟨⟨⟨⟨h1, h2⟩, h3⟩, h4⟩, h5⟩, h6⟩ := hc
    simp only [opR] at hr
    split at hr
    · rename_i ea eb
      obtain ⟨r, hv, rfl, rfl⟩ := split_bool hr
      split at h6
      · rename_i fs ht
        have a1 := he _ _ h2
        have a2 := he _ _ h3
        rw [ea] at a1
        rw [eb] at a2
        exact ok_eqA hs ho h1 a1 a2 ht h4 h5 hv
      · cases h6
    · cases hr
  ·
    simp only [opR] at hr
    split at hr
    · rename_i hl
      obtain ⟨rfl, rfl⟩ := ret_inv hr
      exact ok_nilChk hs ho (he _ _ hc) hl
    · cases hr
  ·
    simp only [Bool.and_eq_true, decide_eq_true_eq] at hc
    obtain ⟨rfl, h2⟩ := hc
    obtain ⟨hv, rfl⟩ := run_pureR hr
    exact ok_un hs ho (he _ _ h2) hv
  ·
    simp only [Bool.and_eq_true] at hc
    obtain ⟨⟨h1, h2⟩, h3⟩ := hc
    simp only [opR] at hr
    split at hr
    · rename_i ea
      obtain ⟨rfl, rfl⟩ := ret_inv hr
      split at h1
      · rename_i k' hd
        simp only [decide_eq_true_eq] at h1
        subst h1
        have a1 := he _ _ h3
        rw [ea] at a1
        exact ok_conv hs ho a1 hd h2
      · cases h1
    · cases hr
  ·
    simp only [Bool.and_eq_true] at hc
    obtain ⟨h1, h2⟩ := hc
    simp only [opR] at hr
    split at hr
    · rename_i ea
      obtain ⟨rfl, rfl⟩ := ret_inv hr
      split at h1
      · rename_i hs1 hd1
        have a1 := he _ _ h2
        rw [ea] at a1
        exact ok_idS hs ho a1 hd1 hs1
      · cases h1
    · cases hr
  ·
    obtain ⟨hv, rfl⟩ := run_pureR hr
    split at hc
    · rename_i fs ht
      split at hc
      · rename_i fd hf
        simp only [Bool.and_eq_true, beq_iff_eq] at hc
        obtain ⟨⟨h1, h2⟩, h3⟩ := hc
        split at h2
        · rename_i n hn
          simp only [decide_eq_true_eq] at h2
          exact ok_fa hs ho (he _ _ h3) ht hf h1 hn h2 hv
        · cases h2
      · cases hc
    · cases hc
  ·
    split at hc
    · rename_i fs ht
      split at hc
      · rename_i fd hf
        simp only [Bool.and_eq_true, beq_iff_eq, decide_eq_true_eq] at hc
        obtain ⟨⟨⟨h1, h2⟩, h3⟩, h4⟩ := hc
        simp only [opR] at hr
        split at hr
        · rename_i ea
          obtain ⟨hv, rfl⟩ := run_pureR hr
          have a1 := he _ _ h4
          rw [ea] at a1
          exact ok_fld hs ho a1 ht hf h1 h2 h3 hv
        · cases hr
      · cases hc
    · cases hc
  ·
    obtain ⟨hv, rfl⟩ := run_pureR hr
    split at hc
    · rename_i m et ht
      simp only [Bool.and_eq_true, beq_iff_eq, decide_eq_true_eq] at hc
      obtain ⟨⟨⟨rfl, h2⟩, h3⟩, h4⟩ := hc
      exact ok_iaA hs ho (he _ _ h3) (he _ _ h4) ht h2 hv
    · cases hc
  ·
    obtain ⟨hv, rfl⟩ := run_pureR hr
    split at hc
    · rename_i et ht
      simp only [Bool.and_eq_true, decide_eq_true_eq] at hc
      obtain ⟨⟨h2, h3⟩, h4⟩ := hc
      exact ok_iaS hs ho (he _ _ h3) (he _ _ h4) ht h2 hv
    · cases hc
  ·
    obtain ⟨hv, rfl⟩ := run_pureR hr
    split at hc
    · rename_i m et ht
      simp only [Bool.and_eq_true, beq_iff_eq, decide_eq_true_eq] at hc
      obtain ⟨⟨⟨⟨rfl, h2⟩, h3⟩, h4⟩, h5⟩ := hc
      exact ok_ixA hs ho (he _ _ h4) (he _ _ h5) ht h2 h3 hv
    · cases hc
  ·
    obtain ⟨hv, rfl⟩ := run_pureR hr
    split at hc
    · rename_i ht
      simp only [Bool.and_eq_true] at hc
      exact ok_ixS hs ho (he _ _ hc.1) (he _ _ hc.2) ht hv
    · cases hc
  ·
    simp only [opR] at hr
    split at hr
    · rename_i el ec
      split at hr
      · rename_i hcond
        obtain ⟨rfl, rfl⟩ := ret_inv hr
        split at hc
        · rename_i et ht
          simp only [Bool.and_eq_true, decide_eq_true_eq] at hc
          obtain ⟨⟨⟨⟨⟨h1, h2⟩, h3⟩, h4⟩, h5⟩, h6⟩ := hc
          unfold chkZ at h4
          split at h4
          · rename_i z hz
            simp only [Bool.and_eq_true, decide_eq_true_eq, beq_iff_eq] at h4
            have a1 := he _ _ h5
            have a2 := he _ _ h6
            rw [el] at a1
            rw [ec] at a2
            exact ok_mkS hs hk hfresh ho a1 a2 ht h1 h2 h3 hz h4.1.1 h4.1.2 h4.2 hcond
          · cases h4
        · cases hc
      · cases hr
    · cases hr
  ·
    obtain ⟨hv, rfl⟩ := run_pureR hr
    split at hc
    · rename_i ht
      simp only [Bool.and_eq_true] at hc
      exact ok_slS hs ho (he _ _ hc.1.1) (chkO_ok he hc.1.2) (chkO_ok he hc.2) ht hv
    · cases hc
  ·
    obtain ⟨hv, rfl⟩ := run_pureR hr
    split at hc
    · rename_i t a lo hi mx es b lo' hi' mx' _ et ht
      simp only [Bool.and_eq_true, decide_eq_true_eq] at hc
      obtain ⟨⟨⟨⟨⟨h1, h2⟩, h3⟩, h4⟩, h5⟩, h6⟩ := hc
      cases mx with
      | none =>
        cases mx' with
        | none => exact ok_slV1 hs ho (he _ _ h2) (chkO_ok he h3) (chkO_ok he h4) ht h1 hv
        | some _ => cases h5
      | some m =>
        cases mx' with
        | none => cases h5
        | some m' =>
          simp only [chkO] at h5
          cases hi with
          | none =>
            cases hi' with
            | none => simp at h6
            | some _ => cases h4
          | some u =>
            cases hi' with
            | none => cases h4
            | some u' =>
              exact ok_slV3 hs ho (he _ _ h2) (chkO_ok he h3) (chkO_ok he h4) (he _ _ h5) (by simp) ht h1 hv
    · cases hc
  ·
    simp only [opR] at hr
    split at hr
    · rename_i k es' ea
      rw [Rd.run_get] at hr
      split at hr
      · rename_i cells hkc
        split at hr
        · rename_i hle
          obtain ⟨hv, rfl⟩ := run_pureR hr
          split at hc
          · rename_i m et ht
            simp only [Bool.and_eq_true, beq_iff_eq, decide_eq_true_eq] at hc
            obtain ⟨⟨⟨⟨rfl, h2⟩, h3⟩, h4⟩, h5⟩ := hc
            have a1 := he _ _ h3
            rw [ea] at a1
            refine ok_slA hs ho a1 (chkO_ok he h4) (chkO_ok he h5) ht h2 hv ?_
            intro k2 es2 hk2 b oo hρ
            cases hk2
            obtain ⟨b', o', j1, j2, j3, j4⟩ := hs.live k _ hkc
            simp only [Blk.gen] at j1
            rw [hρ] at j1
            cases j1
            obtain ⟨rfl, c, el, hheap, hcsz, _⟩ := j4
            rw [bsz_of hheap]
            omega
          · cases hc
        · cases hr
      · cases hr
    · cases hr
  ·
    simp only [Bool.and_eq_true, beq_iff_eq] at hc
    obtain ⟨rfl, h2⟩ := hc
    simp only [opR] at hr
    split at hr
    · rename_i ea
      obtain ⟨hv, rfl⟩ := run_pureR hr
      have a1 := he _ _ h2
      rw [ea] at a1
      exact ok_ext hs ho a1 hv
    · cases hr
  ·
    simp only [Bool.and_eq_true, decide_eq_true_eq] at hc
    obtain ⟨⟨rfl, h2⟩, h3⟩ := hc
    obtain ⟨rfl, rfl⟩ := ret_inv hr
    exact ok_mkf hs ho (chkArgs_ok he h2) (chkArgs_ok he h3)
  ·
    simp only [Bool.and_eq_true, beq_iff_eq] at hc
    obtain ⟨⟨rfl, h2⟩, h3⟩ := hc
    obtain ⟨rfl, rfl⟩ := ret_inv hr
    split at h3
    · rename_i d hd
      simp only [Bool.not_eq_true'] at h3
      exact ok_mki hs ho (he _ _ h2) hd h3
    · cases h3
  ·
    rename_i c xo _
    split at hc
    · simp [opR, Rd.run] at hr
    · cases hr
    · cases hr
    · cases hr
    · cases hr
    · cases hr
    ·
      rename_i hcal
      split at hc
      · rename_i h0 h1
        simp only [Bool.and_eq_true] at hc
        obtain ⟨⟨h2, h3⟩, h4⟩ := hc
        split at h2
        · rename_i kt et ht
          exact ok_mdel hs ho hcal h0 h1 ht h2 (he _ _ h3) (he _ _ h4) hr
        · cases h2
      · cases hc
    ·
      rename_i hcal
      split at hc
      · rename_i h0 h1
        simp only [Bool.and_eq_true] at hc
        obtain ⟨h2, h3⟩ := hc
        split at h2
        · rename_i ht
          simp only [opR] at hr
          split at hr
          · rename_i ea
            obtain ⟨rfl, rfl⟩ := ret_inv hr
            have a1 := he _ _ h3
            rw [ea] at a1
            exact ok_lenS hs ho hcal h0 h1 a1 ht
          · cases hr
        · cases h2
      · cases hc
    · rename_i hcal
      split at hc
      · rename_i h0 h1
        simp only [Bool.and_eq_true] at hc
        obtain ⟨h2, h3⟩ := hc
        split at h2
        · rename_i ht
          obtain ⟨hv, rfl⟩ := run_pureR hr
          exact ok_lenV hs ho hcal h0 h1 (he _ _ h3) ht hv
        · cases h2
      · cases hc
    · rename_i hcal
      split at hc
      · rename_i h0 h1
        split at hc
        · rename_i ht
          simp only [decide_eq_true_eq] at hc
          subst hc
          obtain ⟨rfl, rfl⟩ := ret_inv hr
          rw [hce]
          exact ok_lenA hs ho hcal h0 h1 ht
        · cases hc
      · cases hc
    ·
      rename_i hcal
      split at hc
      · rename_i t0 t1 a0 a1 h0 h1 h2 h3
        simp only [Bool.and_eq_true] at hc
        obtain ⟨⟨⟨q1, q2⟩, q3⟩, q4⟩ := hc
        split at q1
        · rename_i et ht
          simp only [Bool.and_eq_true, decide_eq_true_eq] at q1
          obtain ⟨⟨⟨⟨p1, p2⟩, p3⟩, p4⟩, p5⟩ := q1
          split at p5
          · rename_i z hz
            simp only [beq_iff_eq] at p5
            cases hd2 : P.underlying t1 with
            | none => rw [hd2] at q2; cases q2
            | some d2 =>
              rw [hd2] at q2
              have hni : ∀ k, d2 ≠ .int k := by
                rintro k rfl
                cases q2
              exact ok_app hs hk hfresh ho hcal h0 h1 h2 h3 (he _ _ q3) (he _ _ q4) ht hd2 hni p1 p2 p3 p4 hz p5 hr
          · cases p5
        · cases q1
      · cases hc
    ·
      rename_i hcal
      split at hc
      · rename_i t0 a0 a1 h0 h2 h3
        simp only [Bool.and_eq_true] at hc
        obtain ⟨⟨q1, q3⟩, q4⟩ := hc
        split at q1
        · rename_i et ht
          simp only [Bool.and_eq_true, decide_eq_true_eq] at q1
          exact ok_cpy hs ho hcal h0 h2 h3 (he _ _ q3) (he _ _ q4) ht q1.1 q1.2 hr
        · cases q1
      · cases hc
    · rename_i hcal
      split at hc
      · rename_i a as0 hargs
        simp only [Bool.and_eq_true] at hc
        obtain ⟨hv, rfl⟩ := run_pureR hr
        exact ok_mnx (isMax := true) hs ho hcal hargs (he _ _ hc.1) (chkArgs_ok he hc.2) hv
      · cases hc
    · rename_i hcal
      split at hc
      · rename_i a as0 hargs
        simp only [Bool.and_eq_true] at hc
        obtain ⟨hv, rfl⟩ := run_pureR hr
        exact ok_mnx (isMax := false) hs ho hcal hargs (he _ _ hc.1) (chkArgs_ok he hc.2) hv
      · cases hc
    · cases hc
  · exact op_ok2 hcv hce ho hc he hs hk hfresh hr
end
def Gives (P : Program) (g : FuncId) (args : Array Value) (w : World) (Q : Value → World → Prop) : Prop :=
  ((callFunc g args).run P w = .ok (.enter g args) w ∧ Calls P g args w fun e w' => ∃ v, e = .returned v ∧ Q v w') ∨ ∃ v w', (callFunc g args).run P w = .ok (.value v) w' ∧ Q v w'
theorem Gives.mono {P : Program} {g : FuncId} {args : Array Value} {w : World} {Q Q' : Value → World → Prop} (h : Gives P g args w Q) (hq : ∀ v w', Q v w' → Q' v w') : Gives P g args w Q' := by
  rcases h with ⟨h1, h2⟩ | ⟨v, w', h1, h2⟩
  · exact .inl ⟨h1, h2.mono fun e w' ⟨v, hv, hq'⟩ => ⟨v, hv, hq v w' hq'⟩⟩
  · exact .inr ⟨v, w', h1, hq v w' h2⟩
def ctx0 (w : World) (S : Nat → Prop) : Ctx := ⟨w, S, ρ0⟩
def tabs : List (String × IntKind × List Int) := [("internal/strconv.uint64pow10", .u64, Lib.pow10Tab), ("math/bits.deBruijn64tab", .u8, Lib.deBruijn64tab.map Int.ofNat)]
def errs : List String := ["strconv.ErrSyntax", "strconv.ErrRange"]
def Laid (P : Program) (w : World) : Prop :=
  (∀ t ∈ tabs, P.globalNamed t.1 ≠ none → Lib.TabIs P w t.1 t.2.1 t.2.2) ∧ (∀ n ∈ errs, P.globalNamed n ≠ none → ∃ tp p, w.var? P n = some #[.iface tp p]) ∧
    (∀ g, P.globalNamed "internal/bytealg.MaxLen" = some g → ∃ m, w.cell? ⟨g, 0, none⟩ = some (.int .i64 m)) ∧
    (P.globalNamed "errors.errorType" ≠ none → ∃ u ty, (P.cutTypes.find? (·.1 == "internal/reflectlite.rtype")).map (·.2) = some u ∧ ty < P.types.size ∧ P.rowNamed ty [101, 114, 114, 111, 114] = true ∧ w.var? P "errors.errorType" = some #[.iface u (.agg #[typeHandle P ty])])
theorem cell_keep0 {w w' : World} {a : Addr} {v : Value} (h : w.cell? a = some v) (hb : ∀ b, b < w.heap.size → w'.heap[b]? = w.heap[b]?) : w'.cell? a = some v := by
  unfold World.cell? at h ⊢
  have hlt : a.block < w.heap.size := by
    rcases Nat.lt_or_ge a.block w.heap.size with h' | h'
    · exact h'
    · rw [Array.getElem?_eq_none h'] at h; cases h
  rw [hb _ hlt]
  exact h
theorem var_keep {P : Program} {w w' : World} {n : String} {cs : Array Value} (h : w.var? P n = some cs) (hb : ∀ b, b < w.heap.size → w'.heap[b]? = w.heap[b]?) : w'.var? P n = some cs := by
  unfold World.var? at h ⊢
  cases hg : P.globalNamed n with
  | none => rw [hg] at h; cases h
  | some g =>
    rw [hg] at h
    simp only [Option.bind_some] at h ⊢
    have hlt : g < w.heap.size := by
      rcases Nat.lt_or_ge g w.heap.size with h' | h'
      · exact h'
      · rw [Array.getElem?_eq_none h'] at h; cases h
    rw [hb g hlt]
    exact h
theorem Laid.keep {P : Program} {w w' : World} (h : Laid P w) (hb : ∀ b, b < w.heap.size → w'.heap[b]? = w.heap[b]?) : Laid P w' := by
  refine ⟨fun t ht hn => var_keep (h.1 t ht hn) hb, fun n hn hg => ?_, fun g hg => ?_, fun hg => ?_⟩
  · obtain ⟨tp, p, h1⟩ := h.2.1 n hn hg
    exact ⟨tp, p, var_keep h1 hb⟩
  · obtain ⟨m, hm⟩ := h.2.2.1 g hg
    exact ⟨m, cell_keep0 hm hb⟩
  · obtain ⟨u, ty, h1, h2, h3, h4⟩ := h.2.2.2 hg
    exact ⟨u, ty, h1, h2, h3, var_keep h4 hb⟩
def Sound (P : Program) (g : FuncId) (F : List AVal → Option AVal) : Prop :=
  ∀ as0 r, F as0 = some r → ∀ (w : World) (S : Nat → Prop) (vs : List Value), (∀ b, S b → b < w.heap.size) → Laid P w → VL (ctx0 w S) as0 vs →
    Gives P g vs.toArray w fun v w' => w.heap.size ≤ w'.heap.size ∧ (∀ b, b < w.heap.size → w'.heap[b]? = w.heap[b]?) ∧ SameEnv w w' ∧ V (ctx0 w' fun b => S b ∨ (w.heap.size ≤ b ∧ b < w'.heap.size)) r v
def SoundN (P : Program) (g : FuncId) (F : List AVal → Option (Option (Nat × List AVal))) : Prop :=
  ∀ as0 r, F as0 = some r → ∀ (w : World) (S : Nat → Prop) (vs : List Value), (∀ b, S b → b < w.heap.size) → Laid P w → VL (ctx0 w S) as0 vs →
    Gives P g vs.toArray w fun v w' => w.heap.size ≤ w'.heap.size ∧ (∀ b, b < w.heap.size → w'.heap[b]? = w.heap[b]?) ∧ SameEnv w w' ∧ match r with
      | none => v = .slice none 0 0
      | some (es, xs) => if es = 0 then ∃ b arr ents, entsOf 0 xs = some ents ∧ v = .map (some b) ∧ w.heap.size ≤ b ∧ b < w'.heap.size ∧ w'.heap[b]? = some (.map arr xs.length) ∧ EL (ctx0 w' fun b' => S b' ∨ (w.heap.size ≤ b' ∧ b' < w'.heap.size ∧ b' ≠ b)) ents arr.toList else ∃ b o a cap c e, v = .slice (some a) xs.length cap ∧ (cap = 0 ∨ a = ⟨b, o, none⟩) ∧ a.spot = none ∧ w.heap.size ≤ b ∧ b < w'.heap.size ∧ w'.heap[b]? = some (.cells c e (0, 0)) ∧ xs.length ≤ cap ∧ o + cap * es ≤ c.size ∧ (hasRefL xs = false → ∀ y : Ctx, y.w = w' → VR y es xs b o)
def SoundM (P : Program) (g : FuncId) (F : List (AVal × AVal × Nat) → Nat → Option (Option (Nat × List AVal))) : Prop :=
  ∀ es cl r, F es cl = some r → ∀ (x : Ctx) (b : Nat) (arr : Array MapEntry), Laid P x.w → x.w.heap[b]? = some (.map arr cl) → EL x es arr.toList →
    Gives P g #[.map (some b)] x.w fun v w' => x.w.heap.size ≤ w'.heap.size ∧ (∀ b, b < x.w.heap.size → w'.heap[b]? = x.w.heap[b]?) ∧ SameEnv x.w w' ∧ match r with
      | none => v = .slice none 0 0
      | some (es, xs) => ∃ b o a cap c e, v = .slice (some a) xs.length cap ∧ (cap = 0 ∨ a = ⟨b, o, none⟩) ∧ a.spot = none ∧ x.w.heap.size ≤ b ∧ b < w'.heap.size ∧ w'.heap[b]? = some (.cells c e (0, 0)) ∧ xs.length ≤ cap ∧ o + cap * es ≤ c.size ∧ (hasRefL xs = false → ∀ y : Ctx, y.w = w' → VR y es xs b o)
def InlOk (P : Program) (B : Nat) (S0 : Base) (inl : Inl) : Prop :=
  ∀ g as0 h nc v h' nc', inl g as0 h nc = some (v, h', nc') → ∀ (x : Ctx) (vs : List Value), Sim B S0 h nc x → VL x as0 vs →
    Gives P g vs.toArray x.w fun u w' => ∃ y, y.w = w' ∧ Sim B S0 h' nc' y ∧ V y v u ∧ Step B x y ∧ nc ≤ nc' ∧ ∀ k g p, y.ρ k g = some p → (∃ g' p', x.ρ k g' = some p') ∨ nc ≤ k.2
def SoundE (P : Program) (g : FuncId) (R : List AVal → Rd Outp) : Prop :=
  ∀ (B : Nat) (S0 : Base) (h : Heap) (nc : Nat) (x : Ctx) (key : Key) (as0 : List AVal) (us : List Value) (r : AVal) (ws : Wr), Laid P S0.w0 → Sim B S0 h nc x → VL x as0 us → (R as0).run h = some (r, ws) →
    Gives P g us.toArray x.w fun u w' => ∃ y, y.w = w' ∧ Sim B S0 (applyW h ws) nc y ∧ V y r u ∧ Step B x y ∧ ∀ k g p, y.ρ k g = some p → (∃ g' p', x.ρ k g' = some p') ∨ k = key
structure CfgOk (P : Program) (C : Cfg) : Prop where
  Γ : ∀ g F, C.Γ g = some F → Sound P g F
  xf : ∀ g x, C.xf g = some x → ∃ fn, P.funcs[g]? = some fn ∧ chkF P fn x = true
  mixed : P.follows .mixedOrders = true
  Γn : ∀ g F, C.Γn g = some F → SoundN P g F
  Γm : ∀ g F, C.Γm g = some F → SoundM P g F
  Γa : ∀ g q, C.Γa g = some q → SoundE P g q
  μ : ∀ t m g, C.μ t m = some g → ∀ v w, (Go.method (P.types.size + Made.depth) t v m).run P w = .ok (g, v) w
structure StOk (nt B : Nat) (S0 : Base) (st : St) (x : Ctx) (a : Act) : Prop where
  sim : Sim B S0 st.hp st.nc x
  sz : a.tmps.size = nt
  tm : ∀ t, V x (st.tm t) (a.tmps.getD t undef)
  dfr : a.defers = []
section
variable {P : Program} {nt B : Nat} {S0 : Base} {C : Cfg} {inl : Inl} {st st' : St} {x : Ctx} {a : Act} {key : Key}
theorem StOk.args (h : StOk nt B S0 st x a) : ArgsOk x a.eval (arg st.tm) := by
  intro o b hc
  unfold chkArg at hc
  split at hc
  · rename_i t n
    simp only [beq_iff_eq] at hc
    subst hc
    exact h.tm t
  · exact chkV_ok hc
  · simp only [beq_iff_eq] at hc
    subst hc
    simp only [arg, V, Act.eval, VL]
    exact ⟨[], [], rfl, rfl, rfl⟩
  · cases hc
theorem StOk.put {y : Ctx} {h' : Heap} {nc' : Nat} {d : Option Nat} {v : AVal} {u : Value} (h : StOk nt B S0 st x a) (hs : Sim B S0 h' nc' y) (g : Grow x y) (hv : V y v u) (hd : ∀ t, d = some t → t < nt) :
    StOk nt B S0 ⟨putO st.tm d v, h', nc'⟩ y (a.put d u) := by
  refine ⟨hs, ?_, ?_, ?_⟩
  · cases d <;> simp [Act.put, h.sz]
  · intro t
    cases d with
    | none => exact V_grow g _ _ (h.tm t)
    | some d =>
      have hlt := hd d rfl
      simp only [putO, updT, Act.put]
      by_cases e : t = d
      · subst e
        simp only [if_true]
        have : (a.tmps.setIfInBounds t u).getD t undef = u := by
          simp [Array.getD, h.sz, hlt]
        rw [this]
        exact hv
      · simp only [e, if_false]
        have : (a.tmps.setIfInBounds d u).getD t undef = a.tmps.getD t undef := by
          rw [Array.getD_eq_getD_getElem?, Array.getD_eq_getD_getElem?, Array.getElem?_setIfInBounds_ne (Ne.symm e)]
        rw [this]
        exact V_grow g _ _ (h.tm t)
  · cases d <;> simp [Act.put, h.dfr]
mutual
theorem V_noref {c c' : Ctx} : ∀ (a : AVal) (v : Value), hasRef a = false → V c a v → V c' a v
  | .undef, v, _, h => by simpa only [V] using h
  | .any, v, hr, _ => by simp [hasRef] at hr
  | .bool _, v, _, h => by simpa only [V] using h
  | .int _ _, v, _, h => by simpa only [V] using h
  | .str _, v, _, h => by simpa only [V] using h
  | .agg xs, v, hr, h => by
    simp only [hasRef] at hr
    simp only [V] at h ⊢
    obtain ⟨cs, hv, hl⟩ := h
    exact ⟨cs, hv, VL_noref xs cs hr hl⟩
  | .tup xs, v, hr, h => by
    simp only [hasRef] at hr
    simp only [V] at h ⊢
    obtain ⟨cs, hv, hl⟩ := h
    exact ⟨cs, hv, VL_noref xs cs hr hl⟩
  | .nilp, v, _, h => by simpa only [V] using h
  | .ptr .., v, hr, _ => by simp [hasRef] at hr
  | .pvo .., v, hr, _ => by simp [hasRef] at hr
  | .nils, v, _, h => by simpa only [V] using h
  | .emp, v, _, h => by simpa only [V] using h
  | .slc _ _, v, hr, _ => by simp [hasRef] at hr
  | .sl .., v, hr, _ => by simp [hasRef] at hr
  | .nili, v, _, h => by simpa only [V] using h
  | .ifc t a, v, hr, h => by
    simp only [hasRef] at hr
    simp only [V] at h ⊢
    obtain ⟨u, hv, hu⟩ := h
    exact ⟨u, hv, V_noref a u hr hu⟩
  | .nilf, v, _, h => by simpa only [V] using h
  | .fn f first cap, v, hr, h => by
    simp only [hasRef, Bool.or_eq_false_iff] at hr
    simp only [V] at h ⊢
    obtain ⟨fs, cs, hv, h1, h2⟩ := h
    exact ⟨fs, cs, hv, VL_noref first fs hr.1 h1, VL_noref cap cs hr.2 h2⟩
theorem VL_noref {c c' : Ctx} : ∀ (as0 : List AVal) (vs : List Value), hasRefL as0 = false → VL c as0 vs → VL c' as0 vs
  | [], vs, _, h => by simpa only [VL] using h
  | a :: as0, vs, hr, h => by
    simp only [hasRefL, Bool.or_eq_false_iff] at hr
    simp only [VL] at h ⊢
    obtain ⟨v, r, hv, h1, h2⟩ := h
    exact ⟨v, r, hv, V_noref a v hr.1 h1, VL_noref as0 r hr.2 h2⟩
end
theorem Sim.world {h : Heap} {nc : Nat} (hs : Sim B S0 h nc x) (w' : World) (hz : x.w.heap.size ≤ w'.heap.size) (hb : ∀ b, b < x.w.heap.size → w'.heap[b]? = x.w.heap[b]?) (henv : SameEnv x.w w') :
    ∃ y, y.w = w' ∧ y.ρ = x.ρ ∧ Sim B S0 h nc y ∧ Step B x y ∧ ∀ b, x.w.heap.size ≤ b → b < w'.heap.size → y.S b := by
  have hlt : ∀ b, x.S b → b < x.w.heap.size := by
    intro b hS
    rw [hs.S] at hS
    rcases hS with hS | ⟨_, h2, _⟩
    · have := hs.s0 _ hS; have := hs.sz; omega
    · exact h2
  have hg : Grow x { w := w', S := mkS B S0 h w' x.ρ, ρ := x.ρ } := by
    refine ⟨?_, fun b hS => hb b (hlt b hS), fun _ _ _ h => h, ?_⟩
    · intro b hS
      rw [hs.S] at hS
      rcases hS with hS | ⟨h1, h2, h3⟩
      · exact .inl hS
      · exact .inr ⟨h1, Nat.lt_of_lt_of_le h2 hz, h3⟩
    · intro b
      rcases Nat.lt_or_ge b x.w.heap.size with h1 | h1
      · rw [bsz_congr (hb b h1)]; exact Nat.le_refl _
      · rw [bsz_ge h1]; exact Nat.zero_le _
  refine ⟨{ w := w', S := mkS B S0 h w' x.ρ, ρ := x.ρ }, rfl, rfl, ?_, ⟨hg, fun b hlt => hb b (by have := hs.sz; omega), hz, henv⟩, ?_⟩
  · refine ⟨hs.s0, Nat.le_trans hs.sz hz, ?_, hs.inj, rfl, hs.dom, hs.gen, ⟨hs.inv.1, fun b hlt => (hb b (by have := hs.sz; omega)).trans (hs.inv.2.1 b hlt), hs.inv.2.2.trans henv⟩⟩
    intro k blk hk
    obtain ⟨b, oo, h1, h2, h3, h4⟩ := hs.live k blk hk
    exact ⟨b, oo, h1, h2, Nat.lt_of_lt_of_le h3 hz, BlkOk_grow hg (hb b h3) h4⟩
  · intro b h1 h2
    refine .inr ⟨Nat.le_trans hs.sz h1, h2, fun k blk oo hk hρ => ?_⟩
    obtain ⟨b', o', h3, _, h4, _⟩ := hs.live k blk hk
    have hρ' : x.ρ k blk.gen = some (b, oo) := hρ
    rw [hρ'] at h3
    cases h3
    omega
theorem callR_ok {h : Heap} {nc : Nat} {g : FuncId} {F : List AVal → Option AVal} (hF : Sound P g F) (hLd : Laid P S0.w0) (hs : Sim B S0 h nc x) {as0 : List AVal} {us : List Value} (hl : VL x as0 us) {r : AVal} {ws : Wr} (hr : (callR F as0).run h = some (r, ws)) :
    Gives P g us.toArray x.w fun u w' => ∃ y, y.w = w' ∧ Sim B S0 (applyW h ws) nc y ∧ V y r u ∧ Step B x y ∧ ∀ k g p, y.ρ k g = some p → ∃ g' p', x.ρ k g' = some p' := by
  unfold callR at hr
  rw [Rd.run_bind] at hr
  cases hln : (lendL freeze as0).run h with
  | none => rw [hln] at hr; cases hr
  | some p =>
    rw [hln, Option.bind_some] at hr
    obtain ⟨bs, ks⟩ := p
    simp only at hr
    cases hf : F bs with
    | none => rw [hf] at hr; cases hr
    | some r' =>
      rw [hf] at hr
      simp only [Rd.run_ret, Option.some.injEq, Prod.mk.injEq] at hr
      obtain ⟨rfl, rfl⟩ := hr
      have hlt : ∀ b, x.S b → b < x.w.heap.size := by
        intro b hS
        rw [hs.S] at hS
        rcases hS with hS | ⟨_, h2, _⟩
        · have := hs.s0 _ hS; have := hs.sz; omega
        · exact h2

      let lent : Nat → Prop := fun b => ∃ k ∈ ks, ∃ blk oo, h k = some blk ∧ x.ρ k blk.gen = some (b, oo)
      let y0 : Ctx := { x with S := fun b => x.S b ∨ lent b }
      have g0 : Grow x y0 := ⟨fun b hb => .inl hb, fun _ _ => rfl, fun _ _ _ hp => hp, fun _ => Nat.le_refl _⟩
      obtain ⟨_, hbs, _⟩ := lendL_VL (lend_ok (y := y0) hs g0 rfl (KS := (· ∈ ks)) (fun k hk blk b oo hb hρ => .inr ⟨k, hk, blk, oo, hb, hρ⟩) freeze) hln (fun k hk => hk)
      have hS0 : ∀ b, (x.S b ∨ lent b) → b < x.w.heap.size := by
        rintro b (hb | ⟨k, _, blk, oo, hk, hρ⟩)
        · exact hlt b hb
        · obtain ⟨b', o', h1, _, h2, _⟩ := hs.live k blk hk
          rw [hρ] at h1
          cases h1
          exact h2
      refine (hF bs r' hf x.w (fun b => x.S b ∨ lent b) us hS0 (hLd.keep fun b hb => hs.inv.2.1 b (by have := hs.inv.1; omega)) (hbs us hl)).mono ?_
      rintro u w' ⟨hz, hb, henv, hv⟩
      by_cases href : hasRef r' = true
      · rw [if_pos href]
        obtain ⟨x1, e1, e2, hs1, hst1, hK⟩ := hs.drops ks
        obtain ⟨y, f1, f2, f3, f4, f5⟩ := hs1.world w' (by rw [e1]; exact hz) (by rw [e1]; exact hb) (by rw [e1]; exact henv)
        refine ⟨y, f1, f3, ?_, hst1.trans f4, fun k g p hp => ⟨g, p, by rw [f2, e2] at hp; exact hp⟩⟩
        refine V_grow (x := ctx0 w' _) ⟨?_, ?_, (fun _ _ _ hp => by cases hp), (fun b => by rw [f1]; exact Nat.le_refl _)⟩ _ _ hv
        · rintro b ((hb1 | ⟨k, hk, blk, oo, hk1, hρ⟩) | ⟨h1, h2⟩)
          · exact f4.grow.S b (hst1.grow.S b hb1)
          · exact f4.grow.S b (hK k hk blk b oo hk1 hρ)
          · exact f5 b (by rw [e1]; exact h1) h2
        · intro b _
          rw [f1]
          rfl
      · rw [if_neg href]
        obtain ⟨y, f1, f2, f3, f4, f5⟩ := hs.world w' hz hb henv
        exact ⟨y, f1, f3, V_noref r' u (by simpa using href) hv, f4, fun k g p hp => ⟨g, p, by rw [f2] at hp; exact hp⟩⟩
theorem callNR_ok {h : Heap} {nc : Nat} {g : FuncId} {F : List AVal → Option (Option (Nat × List AVal))} (hF : SoundN P g F) (hLd : Laid P S0.w0) (hs : Sim B S0 h nc x) (hkey : key.2 < nc) (hfresh : ∀ g, x.ρ key g = none) {as0 : List AVal} {us : List Value} (hl : VL x as0 us) {r : AVal} {ws : Wr} (hr : (callNR key F as0).run h = some (r, ws)) :
    Gives P g us.toArray x.w fun u w' => ∃ y, y.w = w' ∧ Sim B S0 (applyW h ws) nc y ∧ V y r u ∧ Step B x y ∧ ∀ k g p, y.ρ k g = some p → (∃ g' p', x.ρ k g' = some p') ∨ k = key := by
  unfold callNR at hr
  rw [Rd.run_bind] at hr
  cases hln : (lendL freeze as0).run h with
  | none => rw [hln] at hr; cases hr
  | some p =>
    rw [hln, Option.bind_some] at hr
    obtain ⟨bs, ks⟩ := p
    simp only at hr
    have hlt : ∀ b, x.S b → b < x.w.heap.size := by
      intro b hS
      rw [hs.S] at hS
      rcases hS with hS | ⟨_, h2, _⟩
      · have := hs.s0 _ hS; have := hs.sz; omega
      · exact h2
    let lent : Nat → Prop := fun b => ∃ k ∈ ks, ∃ blk oo, h k = some blk ∧ x.ρ k blk.gen = some (b, oo)
    let y0 : Ctx := { x with S := fun b => x.S b ∨ lent b }
    have g0 : Grow x y0 := ⟨fun b hb => .inl hb, fun _ _ => rfl, fun _ _ _ hp => hp, fun _ => Nat.le_refl _⟩
    obtain ⟨_, hbs, _⟩ := lendL_VL (lend_ok (y := y0) hs g0 rfl (KS := (· ∈ ks)) (fun k hk blk b oo hb hρ => .inr ⟨k, hk, blk, oo, hb, hρ⟩) freeze) hln (fun k hk => hk)
    have hS0 : ∀ b, (x.S b ∨ lent b) → b < x.w.heap.size := by
      rintro b (hb | ⟨k, _, blk, oo, hk, hρ⟩)
      · exact hlt b hb
      · obtain ⟨b', o', h1, _, h2, _⟩ := hs.live k blk hk
        rw [hρ] at h1
        cases h1
        exact h2
    cases hf : F bs with
    | none => rw [hf] at hr; cases hr
    | some q =>
      rw [hf] at hr
      refine (hF bs q hf x.w (fun b => x.S b ∨ lent b) us hS0 (hLd.keep fun b hb => hs.inv.2.1 b (by have := hs.inv.1; omega)) (hbs us hl)).mono ?_
      rintro u w' ⟨hz, hb, henv, hv⟩
      cases q with
      | none =>
        simp only [Rd.run_ret, Option.some.injEq, Prod.mk.injEq] at hr
        obtain ⟨rfl, rfl⟩ := hr
        obtain ⟨y, f1, f2, f3, f4, f5⟩ := hs.world w' hz hb henv
        exact ⟨y, f1, f3, by simp only [V]; exact hv, f4, fun k g p hp => .inl ⟨g, p, by rw [f2] at hp; exact hp⟩⟩
      | some q =>
        obtain ⟨es, xs⟩ := q
        simp only at hr hv
        by_cases hes : es = 0
        · rw [if_pos hes] at hr hv
          obtain ⟨b, arr, ents, hen, rfl, hb1, hb2, hbc, hel⟩ := hv
          rw [hen] at hr
          simp only at hr
          split at hr
          · rename_i hks
            simp only [Rd.run_ret, Option.some.injEq, Prod.mk.injEq] at hr
            obtain ⟨rfl, rfl⟩ := hr
            have hks' : ks = [] := by simpa using hks
            have hp : Puts B S0 h key 0 b 0 (.obj (.map ents xs.length)) x { w := w', S := mkS B S0 (upd h key (some (.obj (.map ents xs.length)))) w' (ρset x.ρ key 0 (b, 0)), ρ := ρset x.ρ key 0 (b, 0) } := by
              refine ⟨fun k' g p => ρset_old _ _ _ _ (hfresh 0), ?_, ρset_same _ _ _ _, rfl, Nat.le_trans hs.sz hb1, hb2, .inl hb1, fun b' hb' _ => hb b' hb', hz, ?_, rfl, fun g p hp => (by rw [hfresh] at hp; cases hp), henv⟩
              · intro k' g p hq
                rcases ρset_inv _ _ _ _ hq with h1 | ⟨h1, h2⟩
                · exact .inl h1
                · exact .inr ⟨h1, Nat.le_of_eq h2⟩
              · rw [bsz_ge hb1]; exact Nat.zero_le _
            have hst := hp.step hs
            have hg : Grow (ctx0 w' fun b' => (x.S b' ∨ lent b') ∨ (x.w.heap.size ≤ b' ∧ b' < w'.heap.size ∧ b' ≠ b)) ({ w := w', S := mkS B S0 (upd h key (some (.obj (.map ents xs.length)))) w' (ρset x.ρ key 0 (b, 0)), ρ := ρset x.ρ key 0 (b, 0) } : Ctx) := by
              refine ⟨?_, fun _ _ => rfl, fun _ _ _ hp => (by cases hp), fun _ => Nat.le_refl _⟩
              rintro b' ((h1 | ⟨k1, h1, _⟩) | ⟨h1, h2, h3⟩)
              · exact hst.grow.S b' h1
              · exact absurd (hks' ▸ h1 : k1 ∈ ([] : List Key)) (by simp)
              · refine .inr ⟨Nat.le_trans hs.sz h1, h2, ?_⟩
                intro k' blk' o' hk' hρ
                by_cases e : k' = key
                · subst e
                  rw [upd_same] at hk'
                  cases hk'
                  have hρ' : ρset x.ρ k' 0 (b, 0) k' 0 = some (b', o') := hρ
                  rw [ρset_same] at hρ'
                  cases hρ'
                  exact h3 rfl
                · rw [upd_ne _ _ e] at hk'
                  obtain ⟨b2, o2, h4, _, h5, _⟩ := hs.live k' blk' hk'
                  have h6 : some (b2, o2) = some (b', o') := (hp.ρx _ _ _ h4).symm.trans hρ
                  cases h6
                  omega
            have hsim := hp.sim hs hkey ⟨rfl, .map arr xs.length, hbc, arr, rfl, EL_grow hg _ _ hel⟩
            refine ⟨_, rfl, hsim, ?_, hst, ?_⟩
            · simp only [V]
              exact ⟨b, ρset_same _ _ _ _, rfl⟩
            · intro k' g p hq
              rcases ρset_inv _ _ _ _ hq with h1 | ⟨h1, h2⟩
              · exact .inl ⟨g, p, h1⟩
              · exact .inr h1
          · cases hr
        rw [if_neg hes] at hr hv
        split at hr
        · rename_i href
          simp only [Rd.run_ret, Option.some.injEq, Prod.mk.injEq] at hr
          obtain ⟨rfl, rfl⟩ := hr
          obtain ⟨b, o, a, cap, c, e, rfl, ha, hsp, hb1, hb2, hbc, hcap, hsz, hvr⟩ := hv
          have hp : Puts B S0 h key 0 b o (.row 0 es xs) x { w := w', S := mkS B S0 (upd h key (some (.row 0 es xs))) w' (ρset x.ρ key 0 (b, o)), ρ := ρset x.ρ key 0 (b, o) } := by
            refine ⟨fun k' g p => ρset_old _ _ _ _ (hfresh 0), ?_, ρset_same _ _ _ _, rfl, Nat.le_trans hs.sz hb1, hb2, .inl hb1, fun b' hb' _ => hb b' hb', hz, ?_, rfl, fun g p hp => (by rw [hfresh] at hp; cases hp), henv⟩
            · intro k' g p hq
              rcases ρset_inv _ _ _ _ hq with h1 | ⟨h1, h2⟩
              · exact .inl h1
              · exact .inr ⟨h1, Nat.le_of_eq h2⟩
            · rw [bsz_ge hb1]; exact Nat.zero_le _
          have hst := hp.step hs
          have hsim := hp.sim hs hkey ⟨c, e, hbc, Nat.le_trans (Nat.add_le_add_left (Nat.mul_le_mul_right es hcap) o) hsz, hvr href _ rfl⟩
          refine ⟨_, rfl, hsim, ?_, hst, ?_⟩
          · simp only [V]
            refine ⟨b, o, _, cap, ρset_same _ _ _ _, rfl, hcap, (by rw [Nat.zero_mul, Nat.add_zero]; exact ha), ?_, hsp⟩
            rw [Nat.zero_add]
            simp only [Go.Xec.bsz, hbc]
            exact hsz
          · intro k g p hq
            rcases ρset_inv _ _ _ _ hq with h1 | ⟨h1, _⟩
            · exact .inl ⟨g, p, h1⟩
            · exact .inr h1
        · cases hr
theorem callMR_ok {h : Heap} {nc : Nat} {g : FuncId} {F : List (AVal × AVal × Nat) → Nat → Option (Option (Nat × List AVal))} (hF : SoundM P g F) (hLd : Laid P S0.w0) (hs : Sim B S0 h nc x) (hkey : key.2 < nc) (hfresh : ∀ g, x.ρ key g = none) {as0 : List AVal} {us : List Value} (hl : VL x as0 us) {r : AVal} {ws : Wr} (hr : (callMR key F as0).run h = some (r, ws)) :
    Gives P g us.toArray x.w fun u w' => ∃ y, y.w = w' ∧ Sim B S0 (applyW h ws) nc y ∧ V y r u ∧ Step B x y ∧ ∀ k g p, y.ρ k g = some p → (∃ g' p', x.ρ k g' = some p') ∨ k = key := by
  unfold callMR at hr
  split at hr
  · rename_i k
    simp only [Rd.run_get] at hr
    simp only [VL] at hl
    obtain ⟨u0, _, rfl, hu0, rfl⟩ := hl
    split at hr
    · rename_i es cl hk
      obtain ⟨b, arr, hρ, rfl, hb, hel⟩ := mapAt hs hu0 hk
      cases hf : F es cl with
      | none => rw [hf] at hr; cases hr
      | some q =>
        rw [hf] at hr
        refine (hF es cl q hf x b arr (hLd.keep fun b hb => hs.inv.2.1 b (by have := hs.inv.1; omega)) hb hel).mono ?_
        rintro u w' ⟨hz, hb, henv, hv⟩
        cases q with
        | none =>
          simp only [Rd.run_ret, Option.some.injEq, Prod.mk.injEq] at hr
          obtain ⟨rfl, rfl⟩ := hr
          obtain ⟨y, f1, f2, f3, f4, f5⟩ := hs.world w' hz hb henv
          exact ⟨y, f1, f3, by simp only [V]; exact hv, f4, fun k g p hp => .inl ⟨g, p, by rw [f2] at hp; exact hp⟩⟩
        | some q =>
          obtain ⟨es, xs⟩ := q
          simp only at hr
          split at hr
          · rename_i href
            simp only [Rd.run_ret, Option.some.injEq, Prod.mk.injEq] at hr
            obtain ⟨rfl, rfl⟩ := hr
            obtain ⟨b, o, a, cap, c, e, rfl, ha, hsp, hb1, hb2, hbc, hcap, hsz, hvr⟩ := hv
            have hp : Puts B S0 h key 0 b o (.row 0 es xs) x { w := w', S := mkS B S0 (upd h key (some (.row 0 es xs))) w' (ρset x.ρ key 0 (b, o)), ρ := ρset x.ρ key 0 (b, o) } := by
              refine ⟨fun k' g p => ρset_old _ _ _ _ (hfresh 0), ?_, ρset_same _ _ _ _, rfl, Nat.le_trans hs.sz hb1, hb2, .inl hb1, fun b' hb' _ => hb b' hb', hz, ?_, rfl, fun g p hp => (by rw [hfresh] at hp; cases hp), henv⟩
              · intro k' g p hq
                rcases ρset_inv _ _ _ _ hq with h1 | ⟨h1, h2⟩
                · exact .inl h1
                · exact .inr ⟨h1, Nat.le_of_eq h2⟩
              · rw [bsz_ge hb1]; exact Nat.zero_le _
            have hst := hp.step hs
            have hsim := hp.sim hs hkey ⟨c, e, hbc, Nat.le_trans (Nat.add_le_add_left (Nat.mul_le_mul_right es hcap) o) hsz, hvr href _ rfl⟩
            refine ⟨_, rfl, hsim, ?_, hst, ?_⟩
            · simp only [V]
              refine ⟨b, o, _, cap, ρset_same _ _ _ _, rfl, hcap, (by rw [Nat.zero_mul, Nat.add_zero]; exact ha), ?_, hsp⟩
              rw [Nat.zero_add]
              simp only [Go.Xec.bsz, hbc]
              exact hsz
            · intro k g p hq
              rcases ρset_inv _ _ _ _ hq with h1 | ⟨h1, _⟩
              · exact .inl ⟨g, p, h1⟩
              · exact .inr h1
          · cases hr
    · cases hr
  · cases hr
theorem yielded_of {ops : Array Oper} {j s : Nat} (hj : (ops[j]?).bind (·.dst) = some s) (hs : s < a.tmps.size) : yielded ops a.tmps j = match a.tmps.getD s undef with | .bool b => some b | _ => none := by
  unfold yielded
  rw [hj]
  simp only [Option.bind_some]
  have : a.tmps[s]? = some (a.tmps.getD s undef) := by simp [Array.getD, hs]
  rw [this]
  split
  · rename_i b hb
    simp only [Option.some.injEq] at hb
    rw [hb]
  · rename_i hne
    split
    · rename_i b hb
      exact absurd (congrArg some hb) (hne b)
    · rfl
theorem wanted_of (h : StOk nt B S0 st x a) {ops : Array Oper} {o : Oper} {xo : XOper} (hc : chkOper P nt ops o xo = true) {b : Bool} (hb : goes st.tm xo.g = some b) : Region.wanted o (yielded ops a.tmps) = b := by
  unfold chkOper at hc
  simp only [Bool.and_eq_true] at hc
  obtain ⟨⟨⟨_, _⟩, hg⟩, _⟩ := hc
  unfold Region.wanted
  split at hg
  · rename_i h1 h2
    rw [h2] at hb
    rw [h1]
    simp only [goes, Option.some.injEq] at hb
    exact hb
  · rename_i j bb s c h1 h2
    simp only [Bool.and_eq_true, decide_eq_true_eq, beq_iff_eq] at hg
    obtain ⟨⟨h3, h4⟩, rfl⟩ := hg
    rw [h2] at hb
    rw [h1]
    simp only [goes] at hb
    simp only
    rw [yielded_of (a := a) h3 (by rw [h.sz]; exact h4)]
    have htm := h.tm s
    split at hb
    · rename_i b' e
      rw [e] at htm
      rw [V_bool htm]
      simp only [Option.some.injEq] at hb ⊢
      rw [← hb]
      cases b' <;> cases bb <;> rfl
    · rename_i e
      rw [e] at htm
      simp only [V] at htm
      rw [htm]
      simp only [Option.some.injEq] at hb
      subst hb
      rfl
    · cases hb
  · cases hg
theorem run_call {o : Oper} {c : Call} {f : Operand} {fv : FuncId} {fs cs : List Value} {w : World} (ho : o.op = .call c) (hc : c.callee = .value f) (hf : a.eval f = .func (.func fv) fs.toArray cs.toArray) :
    (execOp a.eval o).run P w = (callFunc fv (fs ++ c.args.toList.map a.eval ++ cs).toArray).run P w := by
  simp only [execOp, ho, resolve, hc, hf, Deferred.ofValue, Sem.run_bind, Sem.run_pure, Result.andThen_ok, invoke]
  congr 2
  apply Array.ext'
  simp
theorem run_inv {o : Oper} {c : Call} {f : Operand} {m : String} {t : TypeId} {u : Value} {g : FuncId} {w : World} (ho : o.op = .call c) (hc : c.callee = .invoke f m) (hf : a.eval f = .iface t u) (hm : (Go.method (P.types.size + Made.depth) t u m).run P w = .ok (g, u) w) :
    (execOp a.eval o).run P w = (callFunc g (u :: c.args.toList.map a.eval).toArray).run P w := by
  have h1 : (#[Value.iface t u] ++ c.args.map a.eval).extract 1 (#[Value.iface t u] ++ c.args.map a.eval).size = c.args.map a.eval := by
    apply Array.ext'
    simp [List.take_of_length_le]
  simp only [execOp, ho, resolve, hc, hf, Sem.run_bind, Sem.run_pure, Result.andThen_ok, invoke]
  rw [show (#[Value.iface t u] ++ c.args.map a.eval)[0]? = some (Value.iface t u) by rw [Array.getElem?_append_left (by simp)]; rfl]
  simp only [h1, callMethod, Sem.run_bind, run_program, Result.andThen_ok, hm]
  congr 2
  apply Array.ext'
  simp
theorem wp_of_gives {o : Oper} {g : FuncId} {args : Array Value} {w : World} {Q : Value → World → Prop} {K : Act → World → Prop} {QQ : Exit → Act → World → Prop} (hr : (execOp a.eval o).run P w = (callFunc g args).run P w) (hg : Gives P g args w Q) (hK : ∀ v w', Q v w' → K (a.put o.dst v) w') : o.wp P a w K QQ := by
  unfold Oper.wp
  rw [hr]
  rcases hg with ⟨h1, h2⟩ | ⟨v, w', h1, h2⟩
  · rw [h1, Oper.upon_enter]
    refine h2.mono ?_
    rintro e w' ⟨v, rfl, hq⟩
    exact hK v w' hq
  · rw [h1, Oper.upon_value]
    exact hK v w' h2
theorem chkCall {op : Op} {f' : XArg} {as0 : List XArg} (h : chkOp P op (.call f' as0) = true) : ∃ c f, op = .call c ∧ c.callee = .value f ∧ chkArg f f' = true ∧ chkArgs c.args.toList as0 = true := by
  cases op <;> simp only [chkOp, chkOp2, Bool.false_eq_true] at h
  rename_i c
  cases hcal : c.callee with
  | value f =>
    rw [hcal] at h
    simp only [Bool.and_eq_true] at h
    exact ⟨c, f, rfl, hcal, h.1, h.2⟩
  | invoke r m => rw [hcal] at h; cases h
  | builtin b => rw [hcal] at h; cases b <;> simp only [Bool.false_eq_true] at h
theorem chkCallN {op : Op} {f' : XArg} {as0 : List XArg} (h : chkOp P op (.callN f' as0) = true) : ∃ c f, op = .call c ∧ c.callee = .value f ∧ chkArg f f' = true ∧ chkArgs c.args.toList as0 = true := by
  cases op <;> simp only [chkOp, chkOp2, Bool.false_eq_true] at h
  rename_i c
  cases hcal : c.callee with
  | value f =>
    rw [hcal] at h
    simp only [Bool.and_eq_true] at h
    exact ⟨c, f, rfl, hcal, h.1, h.2⟩
  | invoke r m => rw [hcal] at h; cases h
  | builtin b => rw [hcal] at h; cases b <;> simp only [Bool.false_eq_true] at h
theorem chkCallM {op : Op} {f' : XArg} {as0 : List XArg} (h : chkOp P op (.callM f' as0) = true) : ∃ c f, op = .call c ∧ c.callee = .value f ∧ chkArg f f' = true ∧ chkArgs c.args.toList as0 = true := by
  cases op <;> simp only [chkOp, chkOp2, Bool.false_eq_true] at h
  rename_i c
  cases hcal : c.callee with
  | value f =>
    rw [hcal] at h
    simp only [Bool.and_eq_true] at h
    exact ⟨c, f, rfl, hcal, h.1, h.2⟩
  | invoke r m => rw [hcal] at h; cases h
  | builtin b => rw [hcal] at h; cases b <;> simp only [Bool.false_eq_true] at h
theorem chkInv {op : Op} {m : String} {f' : XArg} {as0 : List XArg} (h : chkOp P op (.inv m f' as0) = true) : ∃ c f, op = .call c ∧ c.callee = .invoke f m ∧ chkArg f f' = true ∧ chkArgs c.args.toList as0 = true := by
  cases op <;> simp only [chkOp, chkOp2, Bool.false_eq_true] at h
  rename_i c
  cases hcal : c.callee with
  | value f => rw [hcal] at h; cases h
  | invoke r m' =>
    rw [hcal] at h
    simp only [Bool.and_eq_true, beq_iff_eq] at h
    obtain ⟨⟨rfl, h1⟩, h2⟩ := h
    exact ⟨c, r, rfl, hcal, h1, h2⟩
  | builtin b => rw [hcal] at h; cases b <;> simp only [Bool.false_eq_true] at h
theorem chkCallA {op : Op} {f' : XArg} {as0 : List XArg} (h : chkOp P op (.callA f' as0) = true) : ∃ c f, op = .call c ∧ c.callee = .value f ∧ chkArg f f' = true ∧ chkArgs c.args.toList as0 = true := by
  cases op <;> simp only [chkOp, chkOp2, Bool.false_eq_true] at h
  rename_i c
  cases hcal : c.callee with
  | value f =>
    rw [hcal] at h
    simp only [Bool.and_eq_true] at h
    exact ⟨c, f, rfl, hcal, h.1, h.2⟩
  | invoke r m => rw [hcal] at h; cases h
  | builtin b => rw [hcal] at h; cases b <;> simp only [Bool.false_eq_true] at h
theorem step_wp (ok : CfgOk P C) (hin : InlOk P B S0 inl) (hLd : Laid P S0.w0) {ops : Array Oper} {i : Nat} {o : Oper} {xo : XOper} (hi : ops[i]? = some o) (hc : chkOper P nt ops o xo = true) (hst : StOk nt B S0 st x a) (hkey : key.2 < st.nc) (hfresh : ∀ g, x.ρ key g = none)
    (hs : stepO C inl key xo st = some st') {K : Act → World → Prop} {Q : Exit → Act → World → Prop}
    (hK : ∀ a' y, StOk nt B S0 st' y a' → Step B x y → (∀ k g p, y.ρ k g = some p → (∃ g' p', x.ρ k g' = some p') ∨ k = key ∨ st.nc ≤ k.2) → st.nc ≤ st'.nc → K a' y.w) : wpOp P ops Q i K a x.w := by
  have hc' := hc
  unfold chkOper at hc'
  simp only [Bool.and_eq_true, decide_eq_true_eq] at hc'
  obtain ⟨⟨⟨hdst, hdlt⟩, _⟩, hop⟩ := hc'
  have hd : ∀ t, xo.dst = some t → t < nt := by
    intro t ht
    rw [hdst, ht] at hdlt
    simpa using hdlt
  unfold stepO progO at hs
  cases hg : goes st.tm xo.g with
  | none => rw [hg] at hs; cases hs
  | some b =>
    rw [hg] at hs
    have hw := wanted_of hst hc hg
    unfold wpOp
    rw [hi]
    simp only [hw]
    cases b with
    | false =>
      simp only [Bool.false_eq_true, if_false, runP, Rd.run_ret, Option.map_some, Option.some.injEq] at hs ⊢
      subst hs
      rw [hdst]
      exact hK _ x (hst.put hst.sim (Grow.refl x) (by simp only [V]) hd) (Step.refl B x) (fun k g p hp => .inl ⟨g, p, hp⟩) (Nat.le_refl _)
    | true =>
      simp only [if_true] at hs ⊢
      refine .inl ?_
      have hcall : ∀ c : Call, ∀ f : Operand, ∀ f' : XArg, ∀ as0 : List XArg, o.op = .call c → xo.op = .call f' as0 → c.callee = .value f → chkArg f f' = true → chkArgs c.args.toList as0 = true → o.wp P a x.w K Q := by
        intro c f f' as0 ho hx hcal hf hargs
        have hfv := hst.args f f' hf
        have hav := chkArgs_ok hst.args hargs
        rw [hx] at hs
        simp only [rdOf] at hs
        cases htg : target (arg st.tm f') (as0.map (arg st.tm)) with
        | none => rw [htg] at hs; cases hs
        | some q =>
          obtain ⟨g, vs⟩ := q
          unfold target at htg
          split at htg
          · rename_i g' first cap e1
            simp only [Option.some.injEq, Prod.mk.injEq] at htg
            obtain ⟨rfl, rfl⟩ := htg
            rw [e1] at hfv
            simp only [V] at hfv
            obtain ⟨fs, cs, hfe, hfs, hcs⟩ := hfv
            have hall : VL x (first ++ as0.map (arg st.tm) ++ cap) (fs ++ c.args.toList.map a.eval ++ cs) := (hfs.append hav).append hcs
            have hrun := run_call (P := P) (w := x.w) ho hcal hfe
            rw [e1] at hs
            simp only [target] at hs
            cases hΓ : C.Γ g' with
            | some F =>
              rw [hΓ] at hs
              simp only [runP] at hs
              cases hrr : (callR F (first ++ as0.map (arg st.tm) ++ cap)).run st.hp with
              | none => rw [hrr] at hs; cases hs
              | some rr =>
                rw [hrr] at hs
                simp only [Option.map_some, Option.some.injEq] at hs
                subst hs
                refine wp_of_gives hrun (callR_ok (ok.Γ g' F hΓ) hLd hst.sim hall hrr) ?_
                rintro v w' ⟨y, rfl, hs', hv, hstp, hρ⟩
                rw [hdst]
                exact hK _ y (hst.put hs' hstp.grow hv hd) hstp (fun k g p hp => .inl (hρ k g p hp)) (Nat.le_refl _)
            | none =>
              rw [hΓ] at hs
              simp only [runP] at hs
              cases hrr : inl g' (first ++ as0.map (arg st.tm) ++ cap) st.hp st.nc with
              | none => rw [hrr] at hs; cases hs
              | some rr =>
                obtain ⟨v, h', nc'⟩ := rr
                rw [hrr] at hs
                simp only [Option.map_some, Option.some.injEq] at hs
                subst hs
                refine wp_of_gives hrun (hin g' _ _ _ v h' nc' hrr x _ hst.sim hall) ?_
                rintro u w' ⟨y, rfl, hs', hv, hstp, hnc, hρ⟩
                rw [hdst]
                refine hK _ y (hst.put hs' hstp.grow hv hd) hstp (fun k g p hp => ?_) hnc
                rcases hρ k g p hp with h1 | h1
                · exact .inl h1
                · exact .inr (.inr h1)
          · cases htg
      have hcallN : ∀ c : Call, ∀ f : Operand, ∀ f' : XArg, ∀ as0 : List XArg, o.op = .call c → xo.op = .callN f' as0 → c.callee = .value f → chkArg f f' = true → chkArgs c.args.toList as0 = true → o.wp P a x.w K Q := by
        intro c f f' as0 ho hx hcal hf hargs
        have hfv := hst.args f f' hf
        have hav := chkArgs_ok hst.args hargs
        rw [hx] at hs
        simp only [rdOf] at hs
        cases htg : target (arg st.tm f') (as0.map (arg st.tm)) with
        | none => rw [htg] at hs; cases hs
        | some q =>
          obtain ⟨g, vs⟩ := q
          unfold target at htg
          split at htg
          · rename_i g' first cap e1
            simp only [Option.some.injEq, Prod.mk.injEq] at htg
            obtain ⟨rfl, rfl⟩ := htg
            rw [e1] at hfv
            simp only [V] at hfv
            obtain ⟨fs, cs, hfe, hfs, hcs⟩ := hfv
            have hall : VL x (first ++ as0.map (arg st.tm) ++ cap) (fs ++ c.args.toList.map a.eval ++ cs) := (hfs.append hav).append hcs
            have hrun := run_call (P := P) (w := x.w) ho hcal hfe
            rw [e1] at hs
            simp only [target] at hs
            cases hΓ : C.Γn g' with
            | some F =>
              rw [hΓ] at hs
              simp only [runP] at hs
              cases hrr : (callNR key F (first ++ as0.map (arg st.tm) ++ cap)).run st.hp with
              | none => rw [hrr] at hs; cases hs
              | some rr =>
                rw [hrr] at hs
                simp only [Option.map_some, Option.some.injEq] at hs
                subst hs
                refine wp_of_gives hrun (callNR_ok (ok.Γn g' F hΓ) hLd hst.sim hkey hfresh hall hrr) ?_
                rintro v w' ⟨y, rfl, hs', hv, hstp, hρ⟩
                rw [hdst]
                refine hK _ y (hst.put hs' hstp.grow hv hd) hstp (fun k g p hp => ?_) (Nat.le_refl _)
                rcases hρ k g p hp with h1 | h1
                · exact .inl h1
                · exact .inr (.inl h1)
            | none =>
              rw [hΓ] at hs
              cases hs
          · cases htg
      have hcallM : ∀ c : Call, ∀ f : Operand, ∀ f' : XArg, ∀ as0 : List XArg, o.op = .call c → xo.op = .callM f' as0 → c.callee = .value f → chkArg f f' = true → chkArgs c.args.toList as0 = true → o.wp P a x.w K Q := by
        intro c f f' as0 ho hx hcal hf hargs
        have hfv := hst.args f f' hf
        have hav := chkArgs_ok hst.args hargs
        rw [hx] at hs
        simp only [rdOf] at hs
        cases htg : target (arg st.tm f') (as0.map (arg st.tm)) with
        | none => rw [htg] at hs; cases hs
        | some q =>
          obtain ⟨g, vs⟩ := q
          unfold target at htg
          split at htg
          · rename_i g' first cap e1
            simp only [Option.some.injEq, Prod.mk.injEq] at htg
            obtain ⟨rfl, rfl⟩ := htg
            rw [e1] at hfv
            simp only [V] at hfv
            obtain ⟨fs, cs, hfe, hfs, hcs⟩ := hfv
            have hall : VL x (first ++ as0.map (arg st.tm) ++ cap) (fs ++ c.args.toList.map a.eval ++ cs) := (hfs.append hav).append hcs
            have hrun := run_call (P := P) (w := x.w) ho hcal hfe
            rw [e1] at hs
            simp only [target] at hs
            cases hΓ : C.Γm g' with
            | some F =>
              rw [hΓ] at hs
              simp only [runP] at hs
              cases hrr : (callMR key F (first ++ as0.map (arg st.tm) ++ cap)).run st.hp with
              | none => rw [hrr] at hs; cases hs
              | some rr =>
                rw [hrr] at hs
                simp only [Option.map_some, Option.some.injEq] at hs
                subst hs
                refine wp_of_gives hrun (callMR_ok (ok.Γm g' F hΓ) hLd hst.sim hkey hfresh hall hrr) ?_
                rintro v w' ⟨y, rfl, hs', hv, hstp, hρ⟩
                rw [hdst]
                refine hK _ y (hst.put hs' hstp.grow hv hd) hstp (fun k g p hp => ?_) (Nat.le_refl _)
                rcases hρ k g p hp with h1 | h1
                · exact .inl h1
                · exact .inr (.inl h1)
            | none =>
              rw [hΓ] at hs
              cases hs
          · cases htg
      have hcallA : ∀ c : Call, ∀ f : Operand, ∀ f' : XArg, ∀ as0 : List XArg, o.op = .call c → xo.op = .callA f' as0 → c.callee = .value f → chkArg f f' = true → chkArgs c.args.toList as0 = true → o.wp P a x.w K Q := by
        intro c f f' as0 ho hx hcal hf hargs
        have hfv := hst.args f f' hf
        have hav := chkArgs_ok hst.args hargs
        rw [hx] at hs
        simp only [rdOf] at hs
        cases htg : target (arg st.tm f') (as0.map (arg st.tm)) with
        | none => rw [htg] at hs; cases hs
        | some q =>
          obtain ⟨g, vs⟩ := q
          unfold target at htg
          split at htg
          · rename_i g' first cap e1
            simp only [Option.some.injEq, Prod.mk.injEq] at htg
            obtain ⟨rfl, rfl⟩ := htg
            rw [e1] at hfv
            simp only [V] at hfv
            obtain ⟨fs, cs, hfe, hfs, hcs⟩ := hfv
            have hall : VL x (first ++ as0.map (arg st.tm) ++ cap) (fs ++ c.args.toList.map a.eval ++ cs) := (hfs.append hav).append hcs
            have hrun := run_call (P := P) (w := x.w) ho hcal hfe
            rw [e1] at hs
            simp only [target] at hs
            cases hΓ : C.Γa g' with
            | some q =>
              rw [hΓ] at hs
              simp only [runP] at hs
              cases hrr : (q (first ++ as0.map (arg st.tm) ++ cap)).run st.hp with
              | none => rw [hrr] at hs; cases hs
              | some rr =>
                rw [hrr] at hs
                simp only [Option.map_some, Option.some.injEq] at hs
                subst hs
                refine wp_of_gives hrun (ok.Γa g' q hΓ B S0 _ _ x key _ _ _ _ hLd hst.sim hall hrr) ?_
                rintro v w' ⟨y, rfl, hs', hv, hstp, hρ⟩
                rw [hdst]
                refine hK _ y (hst.put hs' hstp.grow hv hd) hstp (fun k g p hp => ?_) (Nat.le_refl _)
                rcases hρ k g p hp with h1 | h1
                · exact .inl h1
                · exact .inr (.inl h1)
            | none =>
              rw [hΓ] at hs
              cases hs
          · cases htg
      have hinv : ∀ c : Call, ∀ f : Operand, ∀ m : String, ∀ f' : XArg, ∀ as0 : List XArg, o.op = .call c → xo.op = .inv m f' as0 → c.callee = .invoke f m → chkArg f f' = true → chkArgs c.args.toList as0 = true → o.wp P a x.w K Q := by
        intro c f m f' as0 ho hx hcal hf hargs
        have hfv := hst.args f f' hf
        have hav := chkArgs_ok hst.args hargs
        rw [hx] at hs
        simp only [rdOf] at hs
        split at hs
        · rename_i t v e1
          rw [e1] at hfv
          simp only [V] at hfv
          obtain ⟨u, hfe, hu⟩ := hfv
          cases hm : C.μ t m with
          | none => rw [hm] at hs; cases hs
          | some g' =>
            rw [hm] at hs
            simp only at hs
            have hall : VL x (v :: as0.map (arg st.tm)) (u :: c.args.toList.map a.eval) := by
              rw [VL]
              exact ⟨_, _, rfl, hu, hav⟩
            have hrun := run_inv (P := P) (w := x.w) ho hcal hfe (ok.μ t m g' hm u x.w)
            cases hΓ : C.Γ g' with
            | some F =>
              rw [hΓ] at hs
              simp only [runP] at hs
              cases hrr : (callR F (v :: as0.map (arg st.tm))).run st.hp with
              | none => rw [hrr] at hs; cases hs
              | some rr =>
                rw [hrr] at hs
                simp only [Option.map_some, Option.some.injEq] at hs
                subst hs
                refine wp_of_gives hrun (callR_ok (ok.Γ g' F hΓ) hLd hst.sim hall hrr) ?_
                rintro v w' ⟨y, rfl, hs', hv, hstp, hρ⟩
                rw [hdst]
                exact hK _ y (hst.put hs' hstp.grow hv hd) hstp (fun k g p hp => .inl (hρ k g p hp)) (Nat.le_refl _)
            | none =>
              rw [hΓ] at hs
              simp only [runP] at hs
              cases hrr : inl g' (v :: as0.map (arg st.tm)) st.hp st.nc with
              | none => rw [hrr] at hs; cases hs
              | some rr =>
                obtain ⟨v', h', nc'⟩ := rr
                rw [hrr] at hs
                simp only [Option.map_some, Option.some.injEq] at hs
                subst hs
                refine wp_of_gives hrun (hin g' _ _ _ v' h' nc' hrr x _ hst.sim hall) ?_
                rintro u w' ⟨y, rfl, hs', hv, hstp, hnc, hρ⟩
                rw [hdst]
                refine hK _ y (hst.put hs' hstp.grow hv hd) hstp (fun k g p hp => ?_) hnc
                rcases hρ k g p hp with h1 | h1
                · exact .inl h1
                · exact .inr (.inr h1)
        · cases hs
      by_cases hci : ∃ m f' as0, xo.op = .inv m f' as0
      · obtain ⟨m, f', as0, hx⟩ := hci
        rw [hx] at hop
        obtain ⟨c, f, ho, hcal, h1, h2⟩ := chkInv hop
        exact hinv c f m f' as0 ho hx hcal h1 h2
      by_cases hcn : ∃ f' as0, xo.op = .callN f' as0
      · obtain ⟨f', as0, hx⟩ := hcn
        rw [hx] at hop
        obtain ⟨c, f, ho, hcal, h1, h2⟩ := chkCallN hop
        exact hcallN c f f' as0 ho hx hcal h1 h2
      by_cases hcm : ∃ f' as0, xo.op = .callM f' as0
      · obtain ⟨f', as0, hx⟩ := hcm
        rw [hx] at hop
        obtain ⟨c, f, ho, hcal, h1, h2⟩ := chkCallM hop
        exact hcallM c f f' as0 ho hx hcal h1 h2
      by_cases hca : ∃ f' as0, xo.op = .callA f' as0
      · obtain ⟨f', as0, hx⟩ := hca
        rw [hx] at hop
        obtain ⟨c, f, ho, hcal, h1, h2⟩ := chkCallA hop
        exact hcallA c f f' as0 ho hx hcal h1 h2
      by_cases hcl : ∃ f' as0, xo.op = .call f' as0
      · obtain ⟨f', as0, hx⟩ := hcl
        rw [hx] at hop
        obtain ⟨c, f, ho, hcal, h1, h2⟩ := chkCall hop
        exact hcall c f f' as0 ho hx hcal h1 h2
      · have hrd : rdOf C key xo.op (arg st.tm) = .inl (opR key xo.op (arg st.tm)) := by
          unfold rdOf
          split
          · rename_i f as0 e
            exact absurd ⟨f, as0, e⟩ hcl
          · rename_i f as0 e
            exact absurd ⟨f, as0, e⟩ hcn
          · rename_i f as0 e
            exact absurd ⟨f, as0, e⟩ hcm
          · rename_i f as0 e
            exact absurd ⟨f, as0, e⟩ hca
          · rename_i m f as0 e
            exact absurd ⟨m, f, as0, e⟩ hci
          · rfl
        rw [hrd] at hs
        simp only [runP] at hs
        cases hrr : (opR key xo.op (arg st.tm)).run st.hp with
        | none => rw [hrr] at hs; cases hs
        | some rr =>
          obtain ⟨v, ws⟩ := rr
          rw [hrr] at hs
          simp only [Option.map_some, Option.some.injEq] at hs
          subst hs
          obtain ⟨u, y, hrun, hv, hs', hstp, hρ⟩ := op_ok (P := P) (o := o) (fun _ => rfl) (fun _ => rfl) hop hst.args hst.sim hkey hfresh hrr
          unfold Oper.wp
          rcases hrun with hrun | ⟨hrun, rfl⟩
          · rw [hrun, Oper.upon_value, hdst]
            refine hK _ y (hst.put hs' hstp.grow hv hd) hstp (fun k g p hp => ?_) (Nat.le_refl _)
            rcases hρ k g p hp with h1 | h1
            · exact .inl h1
            · exact .inr (.inl h1)
          · rw [hrun, Oper.upon_skip, hdst]
            refine hK _ y (hst.put hs' hstp.grow hv hd) hstp (fun k g p hp => ?_) (Nat.le_refl _)
            rcases hρ k g p hp with h1 | h1
            · exact .inl h1
            · exact .inr (.inl h1)
end
theorem Rd.frame {α : Type} {h h' : Heap} : ∀ (r : Rd α), (∀ k ∈ r.reads h, h' k = h k) → r.run h' = r.run h ∧ r.reads h' = r.reads h
  | .ret a, _ => ⟨rfl, rfl⟩
  | .fail, _ => ⟨rfl, rfl⟩
  | .get k f, hk => by
    simp only [Rd.reads, List.mem_cons, forall_eq_or_imp] at hk
    simp only [Rd.run, Rd.reads, hk.1]
    obtain ⟨h1, h2⟩ := Rd.frame (f (h k)) hk.2
    exact ⟨h1, by rw [h2]⟩
def RdPure (r : Rd Outp) : Prop := (∀ h h', r.run h = r.run h') ∧ (∀ h, r.reads h = []) ∧ ∀ h v ws, r.run h = some (v, ws) → ws = []
theorem pure_ret (v : AVal) : RdPure (.ret (v, [])) := ⟨fun _ _ => rfl, fun _ => rfl, fun h u ws e => by simp only [Rd.run_ret, Option.some.injEq, Prod.mk.injEq] at e; exact e.2.symm⟩
theorem pure_fail : RdPure .fail := ⟨fun _ _ => rfl, fun _ => rfl, fun h u ws e => by cases e⟩
theorem pure_ofO {α : Type} (a : Option α) (f : α → AVal) : RdPure ((Rd.ofO a).bind fun v => .ret (f v, [])) := by
  cases a with
  | none => exact pure_fail
  | some a => exact pure_ret (f a)
theorem isPure_ok {op : XOp} (hp : isPure op = true) (key : Key) (e : XArg → AVal) : RdPure (opR key op e) := by
  cases op <;> simp only [isPure, Bool.false_eq_true] at hp <;> simp only [opR] <;> first
    | exact pure_ret _
    | exact pure_fail
    | exact pure_ofO _ _
    | (split <;> first | exact pure_ret _ | exact pure_fail | exact pure_ofO _ _)
theorem rdOf_congr {C : Cfg} {key : Key} {op : XOp} {e e' : XArg → AVal} (h : ∀ b ∈ eArgs op, e b = e' b) : rdOf C key op e = rdOf C key op e' := by
  have hm : ∀ (l : List XArg), (∀ b ∈ l, e b = e' b) → l.map e = l.map e' := fun l hl => List.map_congr_left hl
  have ho : ∀ (l : Option XArg), (∀ b ∈ l.toList, e b = e' b) → l.map e = l.map e' := by
    intro l hl
    cases l with
    | none => rfl
    | some b => simp [hl b (by simp)]
  cases op <;> simp only [eArgs] at h <;> simp only [rdOf, opR]
  case build zero ps =>
    rw [show (ps.map fun p => (p.1, p.2.1, e p.2.2)) = ps.map fun p => (p.1, p.2.1, e' p.2.2) from List.map_congr_left fun p hp => by rw [h p.2.2 (List.mem_map.2 ⟨p, hp, rfl⟩)]]
  case mkslice es zero n ps =>
    rw [show (ps.map fun p => (p.1, e p.2)) = ps.map fun p => (p.1, e' p.2) from List.map_congr_left fun p hp => by rw [h p.2 (List.mem_map.2 ⟨p, hp, rfl⟩)]]
  case slS x lo hi => rw [h x (by simp), ho lo (fun b hb => h b (by simp at hb ⊢; exact .inr (.inl hb))), ho hi (fun b hb => h b (by simp at hb ⊢; exact .inr (.inr hb)))]
  case slA n es x lo hi => rw [h x (by simp), ho lo (fun b hb => h b (by simp at hb ⊢; exact .inr (.inl hb))), ho hi (fun b hb => h b (by simp at hb ⊢; exact .inr (.inr hb)))]
  case slV es x lo hi mx => rw [h x (by simp), ho lo (fun b hb => h b (by simp at hb ⊢; exact .inr (.inl hb))), ho hi (fun b hb => h b (by simp at hb ⊢; exact .inr (.inr (.inl hb)))), ho mx (fun b hb => h b (by simp at hb ⊢; exact .inr (.inr (.inr hb))))]
  case mnx isMax x xs => rw [h x (by simp), hm xs (fun b hb => h b (by simp [hb]))]
  case call f as0 => rw [h f (by simp), hm as0 (fun b hb => h b (by simp [hb]))]
  case callN f as0 => rw [h f (by simp), hm as0 (fun b hb => h b (by simp [hb]))]
  case callM f as0 => rw [h f (by simp), hm as0 (fun b hb => h b (by simp [hb]))]
  case callA f as0 => rw [h f (by simp), hm as0 (fun b hb => h b (by simp [hb]))]
  case inv m f as0 => rw [h f (by simp), hm as0 (fun b hb => h b (by simp [hb]))]
  case mkf f first cap => rw [hm first (fun b hb => h b (by simp [hb])), hm cap (fun b hb => h b (by simp [hb]))]
  all_goals simp only [List.mem_cons, List.not_mem_nil, or_false, forall_eq_or_imp, forall_eq] at h <;> simp only [h]
theorem progO_congr {C : Cfg} {key : Key} {o : XOper} {tm tm' : Nat → AVal} (h : ∀ t ∈ looks o, tm' t = tm t) : progO C key o tm' = progO C key o tm := by
  have hg : goes tm' o.g = goes tm o.g := by
    unfold goes
    cases hg : o.g with
    | none => rfl
    | some p =>
      obtain ⟨s, w⟩ := p
      simp only
      rw [h s (by simp [looks, hg])]
  have hr : rdOf C key o.op (arg tm') = rdOf C key o.op (arg tm) := by
    refine rdOf_congr (fun b hb => ?_)
    cases b with
    | c v => rfl
    | t n =>
      simp only [arg]
      refine h n ?_
      simp only [looks, List.mem_append, List.mem_filterMap]
      exact .inl ⟨.t n, hb, rfl⟩
  unfold progO
  rw [hg, hr]
def keysOf (ws : Wr) : List Key := ws.map (·.1)
theorem applyW_other : ∀ (ws : Wr) (h : Heap) (k : Key), k ∉ keysOf ws → applyW h ws k = h k
  | [], _, _, _ => rfl
  | (k', b) :: ws, h, k, hk => by
    simp only [keysOf, List.map_cons, List.mem_cons, not_or] at hk
    simp only [applyW]
    rw [applyW_other ws _ k hk.2, upd_ne _ _ hk.1]
theorem applyW_in : ∀ (ws : Wr) (h h' : Heap) (k : Key), k ∈ keysOf ws → applyW h ws k = applyW h' ws k
  | [], _, _, _, hk => by simp [keysOf] at hk
  | (k', b) :: ws, h, h', k, hk => by
    simp only [applyW]
    by_cases hin : k ∈ keysOf ws
    · exact applyW_in ws _ _ k hin
    · rw [applyW_other ws _ k hin, applyW_other ws _ k hin]
      have : k = k' := by
        simp only [keysOf, List.map_cons, List.mem_cons] at hk
        rcases hk with h1 | h1
        · exact h1
        · exact absurd h1 hin
      subst this
      rw [upd_same, upd_same]
theorem applyW_comm {ws us : Wr} (h : Heap) (hd : ∀ k, k ∈ keysOf ws → k ∉ keysOf us) : applyW (applyW h ws) us = applyW (applyW h us) ws := by
  funext k
  by_cases h1 : k ∈ keysOf ws
  · rw [applyW_other us _ k (hd k h1), applyW_in ws h (applyW h us) k h1]
  · rw [applyW_other ws (applyW h us) k h1]
    by_cases h2 : k ∈ keysOf us
    · exact applyW_in us _ _ k h2
    · rw [applyW_other us _ k h2, applyW_other us _ k h2, applyW_other ws _ k h1]
theorem disj_iff {a b : List Key} : disj a b = true ↔ ∀ k ∈ a, k ∉ b := by
  simp [disj]
def PureP (p : Rd Outp ⊕ (FuncId × List AVal)) : Prop := ∃ r, p = .inl r ∧ RdPure r
theorem runP_pure {inl : Inl} {p : Rd Outp ⊕ (FuncId × List AVal)} (hp : PureP p) {h : Heap} {nc : Nat} {v : AVal} {h' : Heap} {nc' : Nat} (hr : runP inl p h nc = some (v, h', nc')) : h' = h ∧ nc' = nc ∧ ∀ h2 nc2, runP inl p h2 nc2 = some (v, h2, nc2) := by
  obtain ⟨r, rfl, h1, h2, h3⟩ := hp
  simp only [runP] at hr ⊢
  cases e : r.run h with
  | none => rw [e] at hr; cases hr
  | some q =>
    obtain ⟨v', ws⟩ := q
    rw [e] at hr
    have := h3 h v' ws e
    subst this
    simp only [Option.map_some, Option.some.injEq, Prod.mk.injEq, applyW] at hr
    obtain ⟨rfl, rfl, rfl⟩ := hr
    refine ⟨rfl, rfl, fun h2 nc2 => ?_⟩
    rw [h1 h2 h, e]
    rfl
theorem footP_pure {p : Rd Outp ⊕ (FuncId × List AVal)} (hp : PureP p) (h k h' k' : Heap) : footP p h k = footP p h' k' := by
  obtain ⟨r, rfl, h1, h2, h3⟩ := hp
  simp only [footP, h2, h1 h h']
theorem wr_nil {ws : Wr} (h : (ws.map (·.1)).isEmpty = true) : ws = [] := by cases ws <;> simp_all
theorem commute {inl : Inl} {pj pi : Rd Outp ⊕ (FuncId × List AVal)} {h h1 h2 : Heap} {nc nc1 nc2 : Nat} {vj vi : AVal} (hind : PureP pj ∨ PureP pi ∨ apartF (footP pj h h1) (footP pi h1 h2) = true)
    (hj : runP inl pj h nc = some (vj, h1, nc1)) (hi : runP inl pi h1 nc1 = some (vi, h2, nc2)) :
    ∃ h1' nc1', runP inl pi h nc = some (vi, h1', nc1') ∧ runP inl pj h1' nc1' = some (vj, h2, nc2) ∧ footP pi h h1' = footP pi h1 h2 ∧ footP pj h1' h2 = footP pj h h1 := by
  rcases hind with hp | hp | hap
  · obtain ⟨rfl, rfl, hall⟩ := runP_pure hp hj
    exact ⟨h2, nc2, hi, hall _ _, rfl, footP_pure hp _ _ _ _⟩
  · obtain ⟨rfl, rfl, hall⟩ := runP_pure hp hi
    exact ⟨h, nc, hall _ _, hj, footP_pure hp _ _ _ _, rfl⟩
  · cases pj with
    | inr qj =>
      cases pi with
      | inr q => simp [footP, apartF] at hap
      | inl ri =>
        simp only [runP] at hi
        cases ei : ri.run h1 with
        | none => rw [ei] at hi; cases hi
        | some qi =>
          obtain ⟨vi', wi⟩ := qi
          rw [ei] at hi
          simp only [footP, ei, apartF, Bool.and_eq_true, decide_eq_true_eq] at hap
          obtain ⟨hap1, hap2⟩ := hap
          have hw := wr_nil hap1
          subst hw
          simp only [Option.map_some, Option.some.injEq, Prod.mk.injEq, applyW] at hi
          obtain ⟨rfl, rfl, rfl⟩ := hi
          have f1 := Rd.frame (h := h1) (h' := h) ri (fun k hk => (hap2 k hk).symm)
          refine ⟨h, nc, ?_, hj, ?_, rfl⟩
          · simp only [runP, f1.1, ei, Option.map_some, applyW]
          · simp only [footP, f1.1, f1.2]
    | inl rj =>
      simp only [runP] at hj
      cases ej : rj.run h with
      | none => rw [ej] at hj; cases hj
      | some qj =>
        obtain ⟨vj', wj⟩ := qj
        rw [ej] at hj
        simp only [Option.map_some, Option.some.injEq, Prod.mk.injEq] at hj
        obtain ⟨rfl, rfl, rfl⟩ := hj
        cases pi with
        | inr q =>
          simp only [footP, ej, apartF, Bool.and_eq_true, decide_eq_true_eq] at hap
          obtain ⟨hap1, hap2⟩ := hap
          have hw := wr_nil hap1
          subst hw
          simp only [applyW] at hi hap2 ⊢
          have f1 := Rd.frame (h := h) (h' := h2) rj (fun k hk => hap2 k hk)
          have hnc : runP inl (.inl rj) h2 nc2 = some (vj', h2, nc2) := by simp only [runP, f1.1, ej, Option.map_some, applyW]
          exact ⟨h2, nc2, hi, hnc, rfl, by simp only [footP, f1.1, f1.2]⟩
        | inl ri =>
          simp only [runP] at hi
          cases ei : ri.run (applyW h wj) with
          | none => rw [ei] at hi; cases hi
          | some qi =>
            obtain ⟨vi', wi⟩ := qi
            rw [ei] at hi
            simp only [Option.map_some, Option.some.injEq, Prod.mk.injEq] at hi
            obtain ⟨rfl, rfl, rfl⟩ := hi
            simp only [footP, ej, ei, apartF, Bool.and_eq_true, disj_iff, List.mem_append, not_or] at hap
            obtain ⟨hap1, hap2⟩ := hap
            have f1 := Rd.frame (h := applyW h wj) (h' := h) ri (fun k hk => by
              rw [applyW_other wj h k (fun hin => (hap1 k hin).1 hk)])
            have f2 := Rd.frame (h := h) (h' := applyW h wi) rj (fun k hk => applyW_other wi h k (fun hin => hap2 k hin hk))
            refine ⟨applyW h wi, nc, ?_, ?_, ?_, ?_⟩
            · simp only [runP, f1.1, ei, Option.map_some]
            · simp only [runP, f2.1, ej, Option.map_some]
              rw [applyW_comm h (fun k hk hk' => (hap1 k hk').2 hk)]
            · simp only [footP, f1.1, f1.2]
            · simp only [footP, f2.1, f2.2]
theorem putO_comm {tm : Nat → AVal} {d d' : Option Nat} {v v' : AVal} (h : ∀ t, d = some t → d' ≠ some t) : putO (putO tm d v) d' v' = putO (putO tm d' v') d v := by
  cases d with
  | none => rfl
  | some d =>
    cases d' with
    | none => rfl
    | some d' =>
      have hne : d ≠ d' := fun e => h d rfl (by rw [e])
      funext m
      simp only [putO, updT]
      by_cases h1 : m = d
      · subst h1
        simp [hne]
      · by_cases h2 : m = d' <;> simp [h1, h2]
        intro h3
        exact absurd (h2.trans h3) h1
theorem putO_other {tm : Nat → AVal} {d : Option Nat} {v : AVal} {t : Nat} (h : d ≠ some t) : putO tm d v t = tm t := by
  cases d with
  | none => rfl
  | some d =>
    simp only [putO, updT]
    rw [if_neg (fun e => h (by rw [e]))]
section
variable {P : Program} {nt B : Nat} {S0 : Base} {C : Cfg} {inl : Inl} {x : Ctx} {a : Act}
theorem progO_pure {key : Key} {o : XOper} {tm : Nat → AVal} {p : Rd Outp ⊕ (FuncId × List AVal)} (hp : isPure o.op = true) (h : progO C key o tm = some p) : PureP p := by
  unfold progO at h
  split at h
  · cases h
  · simp only [Option.some.injEq] at h
    subst h
    split
    · refine ⟨opR key o.op (arg tm), ?_, isPure_ok hp _ _⟩
      unfold rdOf
      split
      · rename_i e; rw [e] at hp; simp [isPure] at hp
      · rename_i e; rw [e] at hp; simp [isPure] at hp
      · rename_i e; rw [e] at hp; simp [isPure] at hp
      · rename_i e; rw [e] at hp; simp [isPure] at hp
      · rename_i e; rw [e] at hp; simp [isPure] at hp
      · rfl
    · exact ⟨_, rfl, pure_ret _⟩
def Indep (o : XOper) (f : Foot) (o' : XOper) (f' : Foot) : Prop := apartT o o' = true ∧ (isPure o.op = true ∨ isPure o'.op = true ∨ apartF f f' = true)
theorem swap_steps {kj ki : Key} {oj oi : XOper} {st st1 st2 : St} (hj : stepO C inl kj oj st = some st1) (hi : stepO C inl ki oi st1 = some st2) (hind : Indep oj (foot C kj oj st st1.hp) oi (foot C ki oi st1 st2.hp)) :
    ∃ st1', stepO C inl ki oi st = some st1' ∧ stepO C inl kj oj st1' = some st2 ∧ foot C ki oi st st1'.hp = foot C ki oi st1 st2.hp ∧ foot C kj oj st1' st2.hp = foot C kj oj st st1.hp := by
  obtain ⟨hT, hF⟩ := hind
  unfold apartT at hT
  simp only [Bool.and_eq_true] at hT
  have hd1 : ∀ t, oj.dst = some t → t ∉ looks oi ∧ oi.dst ≠ some t := by
    intro t ht
    have := hT.1
    rw [ht] at this
    simpa using this
  have hd2 : ∀ t, oi.dst = some t → t ∉ looks oj := by
    intro t ht
    have := hT.2
    rw [ht] at this
    simpa using this
  unfold stepO at hj hi
  cases ej : progO C kj oj st.tm with
  | none => rw [ej] at hj; cases hj
  | some pj =>
    rw [ej] at hj
    simp only at hj
    cases rj : runP inl pj st.hp st.nc with
    | none => rw [rj] at hj; cases hj
    | some q =>
      obtain ⟨vj, h1, nc1⟩ := q
      rw [rj] at hj
      simp only [Option.map_some, Option.some.injEq] at hj
      subst hj
      have cong : progO C ki oi (putO st.tm oj.dst vj) = progO C ki oi st.tm := progO_congr (fun t ht => putO_other (fun e => (hd1 t e).1 ht))
      simp only at hi
      cases ei : progO C ki oi (putO st.tm oj.dst vj) with
      | none => rw [ei] at hi; cases hi
      | some pi =>
        rw [ei] at hi
        simp only at hi
        cases ri : runP inl pi h1 nc1 with
        | none => rw [ri] at hi; cases hi
        | some q2 =>
          obtain ⟨vi, h2, nc2⟩ := q2
          rw [ri] at hi
          simp only [Option.map_some, Option.some.injEq] at hi
          subst hi
          have fj : foot C kj oj st h1 = footP pj st.hp h1 := by simp only [foot, ej]
          have fi : foot C ki oi ⟨putO st.tm oj.dst vj, h1, nc1⟩ h2 = footP pi h1 h2 := by simp only [foot, ei]
          have hind' : PureP pj ∨ PureP pi ∨ apartF (footP pj st.hp h1) (footP pi h1 h2) = true := by
            rcases hF with h | h | h
            · exact .inl (progO_pure h ej)
            · exact .inr (.inl (progO_pure h ei))
            · rw [fj, fi] at h; exact .inr (.inr h)
          obtain ⟨h1', nc1', r1, r2, r3, r4⟩ := commute hind' rj ri
          rw [cong] at ei
          have cong2 : progO C kj oj (putO st.tm oi.dst vi) = progO C kj oj st.tm := progO_congr (fun t ht => putO_other (fun e => hd2 t e ht))
          refine ⟨⟨putO st.tm oi.dst vi, h1', nc1'⟩, ?_, ?_, ?_, ?_⟩
          · simp only [stepO, ei, r1, Option.map_some]
          · simp only [stepO, cong2, ej, r2, Option.map_some, Option.some.injEq, St.mk.injEq, and_true]
            exact (putO_comm (fun t ht => (hd1 t ht).2)).symm
          · rw [fi]; simp only [foot, ei, r3]
          · rw [fj]; simp only [foot, cong2, ej, r4]
abbrev Zed := List (Nat × XOper × Foot)
def RunZ (C : Cfg) (inl : Inl) (fid rid c : Nat) (stF : St) : Zed → St → Prop
  | [], st => st = stF
  | (i, o, f) :: Z, st => ∃ st1, stepO C inl (site fid rid i, c) o st = some st1 ∧ foot C (site fid rid i, c) o st st1.hp = f ∧ RunZ C inl fid rid c stF Z st1
theorem front {fid rid c : Nat} {stF : St} {i : Nat} {o : XOper} {f : Foot} {Z2 : Zed} : ∀ (Z1 : Zed) (st : St), RunZ C inl fid rid c stF (Z1 ++ (i, o, f) :: Z2) st → (∀ z ∈ Z1, Indep z.2.1 z.2.2 o f) → RunZ C inl fid rid c stF ((i, o, f) :: (Z1 ++ Z2)) st
  | [], st, h, _ => h
  | (j, oj, fj) :: Z1, st, h, hind => by
    simp only [List.cons_append, RunZ] at h
    obtain ⟨st1, h1, h2, h3⟩ := h
    have ih := front Z1 st1 h3 (fun z hz => hind z (by simp [hz]))
    simp only [RunZ] at ih
    obtain ⟨st2, h4, h5, h6⟩ := ih
    have hi := hind (j, oj, fj) (by simp)
    simp only at hi
    rw [← h2, ← h5] at hi
    obtain ⟨st1', s1, s2, s3, s4⟩ := swap_steps h1 h4 hi
    simp only [List.cons_append, RunZ]
    exact ⟨st1', s1, by rw [s3, h5], st2, s2, by rw [s4, h2], h6⟩
theorem runOpsF_Z {fid rid c : Nat} : ∀ (xs : List XOper) (i : Nat) (st stF : St) (fs : List Foot), runOpsF C inl fid rid c i xs st = some (stF, fs) →
    fs.length = xs.length ∧ RunZ C inl fid rid c stF ((List.range' i xs.length).zip (xs.zip fs)) st
  | [], i, st, stF, fs, h => by
    simp only [runOpsF, Option.some.injEq, Prod.mk.injEq] at h
    obtain ⟨rfl, rfl⟩ := h
    exact ⟨rfl, by simp [RunZ]⟩
  | o :: xs, i, st, stF, fs, h => by
    simp only [runOpsF] at h
    cases h1 : stepO C inl (site fid rid i, c) o st with
    | none => rw [h1] at h; cases h
    | some st1 =>
      rw [h1] at h
      simp only [Option.bind_some] at h
      cases h2 : runOpsF C inl fid rid c (i + 1) xs st1 with
      | none => rw [h2] at h; cases h
      | some q =>
        obtain ⟨s, gs⟩ := q
        rw [h2] at h
        simp only [Option.map_some, Option.some.injEq, Prod.mk.injEq] at h
        obtain ⟨rfl, rfl⟩ := h
        obtain ⟨e1, e2⟩ := runOpsF_Z xs (i + 1) st1 s gs h2
        refine ⟨by simp [e1], ?_⟩
        simp only [List.length_cons, List.range'_succ, List.zip_cons_cons, RunZ]
        exact ⟨st1, h1, rfl, e2⟩
theorem runOps_Z {fid rid c : Nat} : ∀ (xs : List XOper) (i : Nat) (st stF : St), runOps C inl fid rid c i xs st = some stF → ∃ fs : List Foot, runOpsF C inl fid rid c i xs st = some (stF, fs)
  | [], i, st, stF, h => by
    simp only [runOps, Option.some.injEq] at h
    subst h
    exact ⟨[], rfl⟩
  | o :: xs, i, st, stF, h => by
    simp only [runOps] at h
    cases h1 : stepO C inl (site fid rid i, c) o st with
    | none => rw [h1] at h; cases h
    | some st1 =>
      rw [h1] at h
      simp only [Option.bind_some] at h
      obtain ⟨fs, hf⟩ := runOps_Z xs (i + 1) st1 stF h
      refine ⟨foot C (site fid rid i, c) o st st1.hp :: fs, ?_⟩
      simp only [runOpsF, h1, Option.bind_some, hf, Option.map_some]
theorem opers_at : ∀ {os : List Oper} {xs : List XOper} {ops : Array Oper}, chkOpers P nt ops os xs = true → os.length = xs.length ∧ ∀ (i : Nat) (x : XOper), xs[i]? = some x → ∃ o, os[i]? = some o ∧ chkOper P nt ops o x = true
  | [], [], ops, _ => ⟨rfl, by simp⟩
  | [], _ :: _, ops, h => by simp [chkOpers] at h
  | _ :: _, [], ops, h => by simp [chkOpers] at h
  | o :: os, x :: xs, ops, h => by
    simp only [chkOpers, Bool.and_eq_true] at h
    obtain ⟨h1, h2⟩ := opers_at h.2
    refine ⟨by simp [h1], ?_⟩
    intro i y hy
    cases i with
    | zero => simp at hy; subst hy; exact ⟨o, rfl, h.1⟩
    | succ i => simpa using h2 i y (by simpa using hy)
theorem site_inj {fid rid i j : Nat} (h : site fid rid i = site fid rid j) : i = j := by
  unfold site at h; omega
def UsedOk (x : Ctx) (fid rid c : Nat) (D : Nat → Prop) : Prop := ∀ k g p, x.ρ k g = some p → k.2 = c → ∃ j, D j ∧ k.1 = site fid rid j
theorem UsedOk.fresh {fid rid c : Nat} {D : Nat → Prop} (h : UsedOk x fid rid c D) {i : Nat} (hi : ¬ D i) : ∀ g, x.ρ (site fid rid i, c) g = none := by
  intro g
  cases e : x.ρ (site fid rid i, c) g with
  | none => rfl
  | some p =>
    obtain ⟨j, hj, hs⟩ := h _ _ _ e rfl
    rw [site_inj hs] at hi
    exact absurd hj hi
theorem UsedOk.step {y : Ctx} {fid rid c nc : Nat} {D D' : Nat → Prop} {i : Nat} (h : UsedOk x fid rid c D) (hc : c < nc) (hD : ∀ j, D j → D' j) (hi : D' i)
    (hy : ∀ k g p, y.ρ k g = some p → (∃ g' p', x.ρ k g' = some p') ∨ k = (site fid rid i, c) ∨ nc ≤ k.2) : UsedOk y fid rid c D' := by
  intro k g p hp hk
  rcases hy k g p hp with ⟨g', p', h1⟩ | rfl | h1
  · obtain ⟨j, hj, hs⟩ := h k g' p' h1 hk
    exact ⟨j, hD j hj, hs⟩
  · exact ⟨i, hi, rfl⟩
  · omega
def Keys (c : Nat) (x y : Ctx) : Prop := ∀ k g p, y.ρ k g = some p → (∃ g' p', x.ρ k g' = some p') ∨ c ≤ k.2
theorem Keys.refl (c : Nat) (x : Ctx) : Keys c x x := fun k g p hp => .inl ⟨g, p, hp⟩
theorem Keys.trans {c c' : Nat} {x y z : Ctx} (h : Keys c x y) (h' : Keys c' y z) (hc : c ≤ c') : Keys c x z := by
  intro k g p hp
  rcases h' k g p hp with ⟨g', p', h1⟩ | h1
  · exact h k g' p' h1
  · exact .inr (Nat.le_trans hc h1)
theorem Keys.step {y : Ctx} {fid rid c nc i : Nat} (hc : c < nc) (hy : ∀ k g p, y.ρ k g = some p → (∃ g' p', x.ρ k g' = some p') ∨ k = (site fid rid i, c) ∨ nc ≤ k.2) : Keys c x y := by
  intro k g p hp
  rcases hy k g p hp with h1 | rfl | h1
  · exact .inl h1
  · exact .inr (Nat.le_refl _)
  · exact .inr (by omega)
theorem runOps_wp (ok : CfgOk P C) (hin : InlOk P B S0 inl) (hLd : Laid P S0.w0) {ops : Array Oper} {fid rid c : Nat} {stF : St} {Q : Exit → Act → World → Prop} : ∀ (xs : List XOper) (i : Nat) (st : St) (x : Ctx) (a : Act),
    (∀ (j : Nat) (xo : XOper), xs[j]? = some xo → ∃ o, ops[i + j]? = some o ∧ chkOper P nt ops o xo = true) → runOps C inl fid rid c i xs st = some stF → StOk nt B S0 st x a → c < st.nc → UsedOk x fid rid c (· < i) →
    (∀ a' y, StOk nt B S0 stF y a' → Step B x y → st.nc ≤ stF.nc → Keys c x y → Q .normal a' y.w) → wpOps P ops Q (List.range' i xs.length) a x.w
  | [], i, st, x, a, _, hr, hst, _, _, hQ => by
    simp only [runOps, Option.some.injEq] at hr
    subst hr
    exact hQ a x hst (Step.refl B x) (Nat.le_refl _) (Keys.refl _ _)
  | xo :: xs, i, st, x, a, hops, hr, hst, hc, hu, hQ => by
    simp only [runOps] at hr
    cases h1 : stepO C inl (site fid rid i, c) xo st with
    | none => rw [h1] at hr; cases hr
    | some st1 =>
      rw [h1] at hr
      simp only [Option.bind_some] at hr
      obtain ⟨o, ho, hck⟩ := hops 0 xo rfl
      simp only [List.length_cons, List.range'_succ, wpOps_cons]
      refine step_wp ok hin hLd (key := (site fid rid i, c)) (by simpa using ho) hck hst hc (hu.fresh (by omega)) h1 ?_
      intro a' y hst' hstp hρ hnc
      refine runOps_wp ok hin hLd xs (i + 1) st1 y a' ?_ hr hst' (by omega) (hu.step hc (fun j hj => by omega) (by omega) hρ) ?_
      · intro j xo' hj
        obtain ⟨o', ho', hck'⟩ := hops (j + 1) xo' (by simpa using hj)
        exact ⟨o', by rw [← ho']; congr 1; omega, hck'⟩
      · intro a2 z hz hz2 hnc2 hk2
        exact hQ a2 z hz (hstp.trans hz2) (by omega) ((Keys.step hc hρ).trans hk2 (Nat.le_refl _))
theorem bef_ok {os : List Oper} {bef : List (List Nat)} (hb : chkBef os bef = true) {D : Nat → Prop} (hD : ∀ (j : Nat) (o : Oper), D j → os[j]? = some o → ∀ e ∈ o.after.toList, Region.binds .any e = true → D e.on) :
    ∀ (b : Nat) (o : Oper), os[b]? = some o → (∀ e ∈ o.after.toList, Region.binds .any e = true → D e.on) → ∀ a ∈ (bef[b]?.getD []), D a := by
  intro b
  induction b using Nat.strongRecOn with
  | _ b ih =>
    intro o ho hall a ha
    unfold chkBef at hb
    simp only [Bool.and_eq_true, beq_iff_eq, List.all_eq_true, List.mem_range] at hb
    obtain ⟨hlen, hb⟩ := hb
    have hlt : b < os.length := by
      rcases Nat.lt_or_ge b os.length with h1 | h1
      · exact h1
      · rw [List.getElem?_eq_none h1] at ho; cases ho
    have h1 := hb b hlt
    rw [ho] at h1
    cases hbb : bef[b]? with
    | none => rw [hbb] at ha; simp at ha
    | some l =>
      rw [hbb] at h1 ha
      simp only [Bool.and_eq_true, List.all_eq_true, Option.getD_some] at h1 ha
      have h2 := h1.2 a ha
      simp only [List.any_eq_true, Bool.and_eq_true, Bool.or_eq_true, beq_iff_eq, List.contains_iff_mem] at h2
      obtain ⟨e, he, hbind, h3⟩ := h2
      have hDe := hall e he hbind
      rcases h3 with h3 | h3
      · rw [← h3]; exact hDe
      · have h4 := h1.1 e he
        simp only [Bool.or_eq_true, Bool.not_eq_true', decide_eq_true_eq] at h4
        have hlt2 : e.on < b := by
          rcases h4 with h4 | h4
          · rw [hbind] at h4; cases h4
          · exact h4
        have : e.on < os.length := by omega
        exact ih e.on hlt2 os[e.on] (List.getElem?_eq_getElem this) (fun e' he' hb' => hD e.on _ hDe (List.getElem?_eq_getElem this) e' he' hb') a h3
end
section
variable {P : Program} {nt B : Nat} {S0 : Base} {C : Cfg} {inl : Inl} {x : Ctx} {a : Act}
def idx (Z : Zed) : List Nat := Z.map (·.1)
theorem mem_ready {ops : Array Oper} {listed : Array Bool} {i : Nat} : i ∈ Region.ready .any ops listed ↔ i < ops.size ∧ listed.getD i true = false ∧ ∃ o, ops[i]? = some o ∧ ∀ e ∈ o.after.toList, Region.binds .any e = true → listed.getD e.on false = true := by
  simp only [Region.ready, List.mem_filter, List.mem_range, Bool.and_eq_true, Bool.not_eq_true']
  constructor
  · rintro ⟨h1, h2, h3⟩
    refine ⟨h1, h2, ops[i], by simp [h1], ?_⟩
    rw [show ops[i]? = some ops[i] by simp [h1]] at h3
    simp only [Option.map_some, Option.getD_some, Array.all_eq_true', Bool.or_eq_true, Bool.not_eq_true'] at h3
    intro e he hb
    rcases h3 e (by simpa using he) with h4 | h4
    · rw [hb] at h4; cases h4
    · exact h4
  · rintro ⟨h1, h2, o, ho, h3⟩
    refine ⟨h1, h2, ?_⟩
    rw [ho]
    simp only [Option.map_some, Option.getD_some, Array.all_eq_true', Bool.or_eq_true, Bool.not_eq_true']
    intro e he
    cases hb : Region.binds .any e with
    | false => exact .inl rfl
    | true => exact .inr (h3 e (by simpa using he) hb)
structure ListedOk (ops : Array Oper) (listed : Array Bool) (Z : Zed) : Prop where
  size : listed.size = ops.size
  iff : ∀ i, i < ops.size → (listed.getD i true = false ↔ i ∈ idx Z)
  lt : ∀ i ∈ idx Z, i < ops.size
  down : ∀ (j : Nat) (o : Oper), j < ops.size → j ∉ idx Z → ops.toList[j]? = some o → ∀ e ∈ o.after.toList, Region.binds .any e = true → e.on < ops.size ∧ e.on ∉ idx Z
theorem ListedOk.false_iff {ops : Array Oper} {listed : Array Bool} {Z : Zed} (h : ListedOk ops listed Z) (i : Nat) : listed.getD i false = true ↔ i < ops.size ∧ i ∉ idx Z := by
  by_cases hi : i < ops.size
  · have hs : i < listed.size := by rw [h.size]; exact hi
    have h1 := h.iff i hi
    have e1 : listed.getD i true = listed[i] := by simp [Array.getD, hs]
    have e2 : listed.getD i false = listed[i] := by simp [Array.getD, hs]
    rw [e1] at h1
    rw [e2]
    simp only [hi, true_and]
    constructor
    · intro h2 h3
      have := h1.2 h3
      rw [h2] at this
      cases this
    · intro h2
      cases h3 : listed[i] with
      | true => rfl
      | false => exact absurd (h1.1 h3) h2
  · have hs : ¬ i < listed.size := by rw [h.size]; exact hi
    simp [Array.getD, hs, hi]
def RelZ (bef : List (List Nat)) (z z' : Nat × XOper × Foot) : Prop := z.1 ∈ (bef[z'.1]?.getD []) ∨ Indep z.2.1 z.2.2 z'.2.1 z'.2.2
theorem drawn_wp (ok : CfgOk P C) (hin : InlOk P B S0 inl) (hLd : Laid P S0.w0) {ops : Array Oper} {bef : List (List Nat)} (hb : chkBef ops.toList bef = true) {fid rid c : Nat} {stF : St} {Q : Exit → Act → World → Prop} : ∀ (n : Nat) (Z : Zed) (listed : Array Bool) (st : St) (x : Ctx) (a : Act), Z.length = n →
    RunZ C inl fid rid c stF Z st → Z.Pairwise (fun z z' => z.1 < z'.1) → Z.Pairwise (RelZ bef) → (∀ z ∈ Z, ∃ o, ops[z.1]? = some o ∧ chkOper P nt ops o z.2.1 = true) → ListedOk ops listed Z → StOk nt B S0 st x a → c < st.nc → UsedOk x fid rid c (fun j => j ∉ idx Z) →
    (∀ a' y, StOk nt B S0 stF y a' → Step B x y → st.nc ≤ stF.nc → Keys c x y → Q .normal a' y.w) → wpAny P .any ops Q n listed a x.w := by
  intro n
  induction n with
  | zero =>
    intro Z listed st x a hlen hrun _ _ _ hL hst _ _ hQ
    have : Z = [] := List.eq_nil_of_length_eq_zero hlen
    subst this
    simp only [RunZ] at hrun
    subst hrun
    refine ⟨?_, hQ a x hst (Step.refl B x) (Nat.le_refl _) (Keys.refl _ _)⟩
    apply List.eq_nil_iff_forall_not_mem.2
    intro i hi
    rw [mem_ready] at hi
    have := (hL.iff i hi.1).1 hi.2.1
    simp [idx] at this
  | succ n ih =>
    intro Z listed st x a hlen hrun hsort hrel hops hL hst hc hu hQ
    have hchk := hb
    unfold chkBef at hchk
    simp only [Bool.and_eq_true, beq_iff_eq, List.all_eq_true, List.mem_range] at hchk
    obtain ⟨hblen, hball⟩ := hchk
    have hedge : ∀ (b : Nat) (o : Oper), ops.toList[b]? = some o → ∀ e ∈ o.after.toList, Region.binds .any e = true → e.on < b := by
      intro b o ho e he hbind
      have hlt : b < ops.toList.length := by
        rcases Nat.lt_or_ge b ops.toList.length with h1 | h1
        · exact h1
        · rw [List.getElem?_eq_none h1] at ho; cases ho
      have h1 := hball b hlt
      rw [ho] at h1
      cases hbb : bef[b]? with
      | none => rw [hbb] at h1; cases h1
      | some l =>
        rw [hbb] at h1
        simp only [Bool.and_eq_true, List.all_eq_true] at h1
        have h4 := h1.1 e he
        simp only [Bool.or_eq_true, Bool.not_eq_true', decide_eq_true_eq] at h4
        rcases h4 with h4 | h4
        · rw [hbind] at h4; cases h4
        · exact h4
    refine ⟨?_, ?_⟩
    · intro hr
      exfalso
      cases Z with
      | nil => simp at hlen
      | cons z Z =>
        have hz := hL.lt z.1 (by simp [idx])
        obtain ⟨o, ho, _⟩ := hops z (by simp)
        have : z.1 ∈ Region.ready .any ops listed := by
          rw [mem_ready]
          refine ⟨hz, (hL.iff z.1 hz).2 (by simp [idx]), o, ho, ?_⟩
          intro e he hbind
          rw [hL.false_iff]
          have h1 := hedge z.1 o (by simpa using ho) e he hbind
          refine ⟨by omega, ?_⟩
          intro hm
          simp only [idx, List.map_cons, List.mem_cons, List.mem_map] at hm
          rcases hm with h2 | ⟨z', hz', h2⟩
          · omega
          · have := (List.pairwise_cons.1 hsort).1 z' hz'
            omega
        rw [hr] at this
        cases this
    · intro i hi
      rw [mem_ready] at hi
      obtain ⟨hi1, hi2, o, ho, hi3⟩ := hi
      have hiZ := (hL.iff i hi1).1 hi2
      simp only [idx, List.mem_map] at hiZ
      obtain ⟨z, hz, hzi⟩ := hiZ
      obtain ⟨Z1, Z2, rfl⟩ := List.append_of_mem hz
      obtain ⟨i', xo, f⟩ := z
      simp only at hzi
      subst hzi
      have hsplit := List.pairwise_append.1 hsort
      have hrels := List.pairwise_append.1 hrel
      have hallD : ∀ e ∈ o.after.toList, Region.binds .any e = true → e.on < ops.size ∧ e.on ∉ idx (Z1 ++ (i', xo, f) :: Z2) := by
        intro e he hbind
        exact (hL.false_iff e.on).1 (hi3 e he hbind)
      have hind : ∀ z ∈ Z1, Indep z.2.1 z.2.2 xo f := by
        intro z hz1
        rcases hrels.2.2 z hz1 (i', xo, f) (by simp) with h1 | h1
        · exfalso
          have hD := bef_ok (D := fun j => j < ops.size ∧ j ∉ idx (Z1 ++ (i', xo, f) :: Z2)) hb (fun j o' hj ho' e he hbind => hL.down j o' hj.1 hj.2 ho' e he hbind) i' o (by simpa using ho) hallD z.1 h1
          exact hD.2 (by simp only [idx, List.map_append, List.mem_append, List.mem_map]; exact .inl ⟨z, hz1, rfl⟩)
        · exact h1
      have hfr := front Z1 st hrun hind
      simp only [RunZ] at hfr
      obtain ⟨st1, h1, h2, h3⟩ := hfr
      obtain ⟨o', ho', hck⟩ := hops (i', xo, f) (by simp)
      simp only at ho'
      rw [ho] at ho'
      cases ho'
      have hnot : i' ∉ idx (Z1 ++ Z2) := by
        intro hm
        simp only [idx, List.map_append, List.mem_append, List.mem_map] at hm
        rcases hm with ⟨z, hz1, h4⟩ | ⟨z, hz2, h4⟩
        · have := hsplit.2.2 z hz1 (i', xo, f) (by simp)
          simp only at this
          omega
        · have := (List.pairwise_cons.1 hsplit.2.1).1 z hz2
          simp only at this
          omega
      have hidx : ∀ j, j ∈ idx (Z1 ++ (i', xo, f) :: Z2) ↔ j = i' ∨ j ∈ idx (Z1 ++ Z2) := by
        intro j
        simp only [idx, List.map_append, List.map_cons, List.mem_append, List.mem_cons]
        constructor
        · rintro (h4 | h4 | h4)
          · exact .inr (.inl h4)
          · exact .inl h4
          · exact .inr (.inr h4)
        · rintro (h4 | h4 | h4)
          · exact .inr (.inl h4)
          · exact .inl h4
          · exact .inr (.inr h4)
      refine step_wp ok hin hLd (key := (site fid rid i', c)) ho hck hst hc (hu.fresh (by rw [hidx]; simp)) h1 ?_
      intro a' y hst' hstp hρ hnc
      refine ih (Z1 ++ Z2) (listed.setIfInBounds i' true) st1 y a' ?_ h3 ?_ ?_ ?_ ?_ hst' (by omega) (hu.step hc (fun j hj => by rw [hidx] at hj; exact fun h4 => hj (.inr h4)) hnot hρ) ?_
      · simp at hlen ⊢; omega
      · exact List.pairwise_append.2 ⟨hsplit.1, (List.pairwise_cons.1 hsplit.2.1).2, fun z hz1 z' hz2 => hsplit.2.2 z hz1 z' (by simp [hz2])⟩
      · exact List.pairwise_append.2 ⟨hrels.1, (List.pairwise_cons.1 hrels.2.1).2, fun z hz1 z' hz2 => hrels.2.2 z hz1 z' (by simp [hz2])⟩
      · intro z hz1
        refine hops z ?_
        rcases List.mem_append.1 hz1 with h4 | h4
        · simp [h4]
        · simp [h4]
      · refine ⟨by simp [hL.size], ?_, fun j hj => hL.lt j ((hidx j).2 (.inr hj)), ?_⟩
        · intro j hj
          have hjs : j < listed.size := by rw [hL.size]; exact hj
          by_cases e : j = i'
          · subst e
            have : (listed.setIfInBounds j true).getD j true = true := by simp [Array.getD, hjs]
            rw [this]
            simp [hnot]
          · have : (listed.setIfInBounds i' true).getD j true = listed.getD j true := by
              rw [Array.getD_eq_getD_getElem?, Array.getD_eq_getD_getElem?, Array.getElem?_setIfInBounds_ne (Ne.symm e)]
            rw [this, hL.iff j hj, hidx]
            simp [e]
        · intro j o' hj hjn ho' e he hbind
          by_cases e2 : j = i'
          · subst e2
            rw [show ops.toList[j]? = some o by simpa using ho] at ho'
            cases ho'
            obtain ⟨h4, h5⟩ := hallD e he hbind
            exact ⟨h4, fun h6 => h5 ((hidx _).2 (.inr h6))⟩
          · obtain ⟨h4, h5⟩ := hL.down j o' hj (by rw [hidx]; rintro (h6 | h6); exact e2 h6; exact hjn h6) ho' e he hbind
            exact ⟨h4, fun h6 => h5 ((hidx _).2 (.inr h6))⟩
      · intro a2 z2 h4 h5 h6 h7
        exact hQ a2 z2 h4 (hstp.trans h5) (by omega) ((Keys.step hc hρ).trans h7 (Nat.le_refl _))
end
section
variable {P : Program} {nt B : Nat} {S0 : Base} {C : Cfg} {inl : Inl}
def Out.conc : Out → Exit
  | .nrm => .normal
  | .ext id => .exit id
  | .ret => .ret
def PostC (nt B : Nat) (S0 : Base) (x : Ctx) (nc : Nat) (o : Out) (stF : St) : Exit → Act → World → Prop :=
  fun e a w => e = o.conc ∧ ∃ y, y.w = w ∧ StOk nt B S0 stF y a ∧ Step B x y ∧ nc ≤ stF.nc ∧ Keys nc x y
theorem foot_look {key : Key} {o : XOper} {st : St} {h' : Heap} (h : isLook o.op = true) : ∃ r, foot C key o st h' = (.kn r, []) := by
  obtain ⟨d, g, op⟩ := o
  cases op <;> simp only [isLook] at h <;> try cases h
  simp only [foot, progO]
  cases goes st.tm g with
  | none => exact ⟨_, rfl⟩
  | some b =>
    cases b with
    | false => exact ⟨_, rfl⟩
    | true =>
      simp only [if_true, rdOf, footP, opR, Rd.run_bind]
      refine ⟨_, Prod.ext rfl ?_⟩
      rename_i agg n x
      cases (loadR agg n (arg st.tm x)).run st.hp <;> rfl
theorem feet_look {fid rid c : Nat} : ∀ (xs : List XOper) (i : Nat) (st stF : St) (fs : List Foot), runOpsF C inl fid rid c i xs st = some (stF, fs) →
    ∀ (j : Nat) (x : XOper) (f : Foot), xs[j]? = some x → fs[j]? = some f → isLook x.op = true → ∃ r, f = (.kn r, [])
  | [], i, st, stF, fs, h, j, x, f, hx, hf, hl => by simp at hx
  | o :: xs, i, st, stF, fs, h, j, x, f, hx, hf, hl => by
    simp only [runOpsF] at h
    cases h1 : stepO C inl (site fid rid i, c) o st with
    | none => rw [h1] at h; cases h
    | some st1 =>
      rw [h1] at h
      simp only [Option.bind_some] at h
      cases h2 : runOpsF C inl fid rid c (i + 1) xs st1 with
      | none => rw [h2] at h; cases h
      | some q =>
        obtain ⟨s, gs⟩ := q
        rw [h2] at h
        simp only [Option.map_some, Option.some.injEq, Prod.mk.injEq] at h
        obtain ⟨rfl, rfl⟩ := h
        cases j with
        | zero =>
          simp only [List.getElem?_cons_zero, Option.some.injEq] at hx hf
          subst hx; subst hf
          exact foot_look hl
        | succ j =>
          simp only [List.getElem?_cons_succ] at hx hf
          exact feet_look xs (i + 1) st1 s gs h2 j x f hx hf hl
theorem relz_of {xs : List XOper} {fs : List Foot} {bef : List (List Nat)} {hot : List (Nat × Nat)} (hlen : fs.length = xs.length)
    (hlook : ∀ (j : Nat) (x : XOper) (f : Foot), xs[j]? = some x → fs[j]? = some f → isLook x.op = true → ∃ r, f = (.kn r, []))
    (hd : (List.range xs.length).all (fun j => (List.range j).all fun i => (bef[j]?.getD []).contains i ||
      (match xs[i]?, xs[j]? with
       | some x, some y => apartT x y && (isPure x.op || isPure y.op || (isLook x.op && isLook y.op) || hot.contains (i, j))
       | _, _ => false)) = true) (hh : hotOk fs hot = true) : ((List.range' 0 xs.length).zip (xs.zip fs)).Pairwise (RelZ bef) := by
  rw [List.pairwise_iff_getElem]
  intro i j hi hj hij
  simp only [List.length_zip, List.length_range', hlen, Nat.min_self] at hi hj
  simp only [List.getElem_zip, List.getElem_range', Nat.zero_add, Nat.one_mul]
  simp only [List.all_eq_true, List.mem_range] at hd
  have h1 := hd j hj i hij
  simp only [Bool.or_eq_true, List.contains_iff_mem] at h1
  rcases h1 with h1 | h1
  · exact .inl h1
  · rw [List.getElem?_eq_getElem hi, List.getElem?_eq_getElem hj] at h1
    simp only [Bool.and_eq_true, Bool.or_eq_true, List.contains_iff_mem] at h1
    refine .inr ⟨h1.1, ?_⟩
    rcases h1.2 with ((h2 | h2) | h2) | h2
    · exact .inl h2
    · exact .inr (.inl h2)
    · obtain ⟨r, e1⟩ := hlook i _ _ (List.getElem?_eq_getElem hi) (List.getElem?_eq_getElem (by omega)) h2.1
      obtain ⟨r', e2⟩ := hlook j _ _ (List.getElem?_eq_getElem hj) (List.getElem?_eq_getElem (by omega)) h2.2
      rw [e1, e2]
      exact .inr (.inr rfl)
    · unfold hotOk at hh
      rw [List.all_eq_true] at hh
      have h3 := hh (i, j) h2
      simp only at h3
      rw [List.getElem?_eq_getElem (by omega), List.getElem?_eq_getElem (by omega)] at h3
      exact .inr (.inr h3)
theorem reg_wp (ok : CfgOk P C) (hin : InlOk P B S0 inl) (hLd : Laid P S0.w0) {id : Nat} {ops : Array Oper} {draw : Bool} {xs : List XOper} {d : Option XDraw} {fid : Nat} (hc : chkOpers P nt ops ops.toList xs = true) (hd : (match draw, d with
      | false, none => true
      | true, some d => chkDraw ops.toList xs d
      | _, _ => false) = true) {st stF : St} {x : Ctx} {a : Act} (hr : runReg C inl fid id xs d st = some stF) (hst : StOk nt B S0 st x a) : (Code.region id ops draw).wp P (PostC nt B S0 x st.nc .nrm stF) a x.w := by
  obtain ⟨hlen, hops⟩ := opers_at hc
  simp only [Array.length_toList] at hlen
  have hst1 : StOk nt B S0 { st with nc := st.nc + 1 } x a := ⟨hst.sim.more _ (Nat.le_succ _), hst.sz, hst.tm, hst.dfr⟩
  have hused : UsedOk x fid id st.nc (fun j => j < 0) := fun k g p hp hk => absurd hk (Nat.ne_of_lt (hst.sim.dom k g p hp))
  cases draw with
  | false =>
    cases d with
    | some d => cases hd
    | none =>
      simp only [runReg] at hr
      refine wp_region ?_
      rw [List.range_eq_range', hlen]
      refine runOps_wp ok hin hLd xs 0 _ x a ?_ hr hst1 (by simp) hused ?_
      · intro j xo hj
        obtain ⟨o, ho, hck⟩ := hops j xo hj
        exact ⟨o, by simpa using ho, hck⟩
      · intro a' y hy hstp hnc hk
        exact ⟨rfl, y, rfl, hy, hstp, by simp at hnc; omega, hk⟩
  | true =>
    cases d with
    | none => cases hd
    | some d =>
      simp only at hd
      unfold chkDraw at hd
      simp only [Bool.and_eq_true] at hd
      have hrun : ∃ fs, runOpsF C inl fid id st.nc 0 xs { st with nc := st.nc + 1 } = some (stF, fs) ∧ hotOk fs d.hot = true := by
        simp only [runReg] at hr
        split at hr
        · rename_i e
          obtain ⟨fs, hf⟩ := runOps_Z xs 0 _ _ hr
          exact ⟨fs, hf, by rw [e]; rfl⟩
        · split at hr
          · rename_i st' fs e
            split at hr
            · rename_i hh
              cases hr
              exact ⟨fs, e, hh⟩
            · cases hr
          · cases hr
      obtain ⟨fs, hf, hh⟩ := hrun
      obtain ⟨hfl, hZ⟩ := runOpsF_Z xs 0 _ _ _ hf
      have hzl : ((List.range' 0 xs.length).zip (xs.zip fs)).length = xs.length := by simp [hfl]
      have hidx : idx ((List.range' 0 xs.length).zip (xs.zip fs)) = List.range' 0 xs.length := by
        unfold idx
        rw [List.map_fst_zip]
        simp [hfl]
      have hmem : ∀ i, i ∈ List.range' 0 xs.length ↔ i < xs.length := by
        intro i; rw [← List.range_eq_range', List.mem_range]
      refine wp_region_any ok.mixed ?_
      have hst2 : StOk nt B S0 { st with nc := st.nc + 1 } (x.draw (x.w.drawn + 1)) a := ⟨hst1.sim.draw _, hst1.sz, fun t => V_grow (Step.draw B x _).grow _ _ (hst1.tm t), hst1.dfr⟩
      have hused2 : UsedOk (x.draw (x.w.drawn + 1)) fid id st.nc (fun j => j ∉ idx ((List.range' 0 xs.length).zip (xs.zip fs))) := fun k g p hp hk => absurd hk (Nat.ne_of_lt (hst.sim.dom k g p hp))
      have := drawn_wp ok hin hLd hd.1 (Q := PostC nt B S0 x st.nc .nrm stF) xs.length ((List.range' 0 xs.length).zip (xs.zip fs)) (Array.replicate ops.size false) _ _ a hzl hZ ?_ (relz_of hfl (feet_look xs 0 _ _ _ hf) hd.2 hh) ?_ ?_ hst2 (by simp) hused2 ?_
      · rw [hlen]
        have e : (Array.replicate xs.length false) = Array.replicate ops.size false := by rw [hlen]
        rw [e]
        exact this
      · rw [List.pairwise_iff_getElem]
        intro i j hi hj hij
        simp only [List.getElem_zip, List.getElem_range']
        omega
      · intro z hz
        obtain ⟨i, hi, rfl⟩ := List.getElem_of_mem hz
        simp only [hzl] at hi
        simp only [List.getElem_zip, List.getElem_range', Nat.zero_add, Nat.one_mul]
        obtain ⟨o, ho, hck⟩ := hops i xs[i] (List.getElem?_eq_getElem hi)
        exact ⟨o, by simpa using ho, hck⟩
      · refine ⟨by simp, ?_, ?_, ?_⟩
        · intro i hi
          rw [hidx, hmem]
          simp [Array.getD, hi, ← hlen]
        · intro i hi
          rw [hidx, hmem] at hi
          omega
        · intro j o hj hjn
          rw [hidx, hmem] at hjn
          omega
      · intro a' y hy hstp hnc hk
        exact ⟨rfl, y, rfl, hy, (Step.draw B x _).trans hstp, by simp at hnc; omega, hk⟩
theorem exec_wp (ok : CfgOk P C) (hin : InlOk P B S0 inl) (hLd : Laid P S0.w0) {fid : Nat} : ∀ (xc : XCode) (c : Code), chkCode P nt c xc = true → ∀ (st : St) (x : Ctx) (a : Act) (o : Out) (stF : St), execC C inl fid xc st = some (o, stF) → StOk nt B S0 st x a →
    c.wp P (PostC nt B S0 x st.nc o stF) a x.w
  | .skip, c, hc, st, x, a, o, stF, hr, hst => by
    simp only [execC, Option.some.injEq, Prod.mk.injEq] at hr
    obtain ⟨rfl, rfl⟩ := hr
    cases c <;> simp only [chkCode, Bool.false_eq_true] at hc
    · exact wp_skip ⟨rfl, x, rfl, hst, Step.refl B x, Nat.le_refl _, Keys.refl _ _⟩
    · exact wp_label ⟨rfl, x, rfl, hst, Step.refl B x, Nat.le_refl _, Keys.refl _ _⟩
  | .reg id xs d, c, hc, st, x, a, o, stF, hr, hst => by
    cases c <;> simp only [chkCode, Bool.false_eq_true] at hc
    simp only [Bool.and_eq_true, beq_iff_eq] at hc
    obtain ⟨⟨rfl, h2⟩, h3⟩ := hc
    simp only [execC] at hr
    cases hh : runReg C inl fid _ xs d st with
    | none => rw [hh] at hr; cases hr
    | some st' =>
      rw [hh] at hr
      simp only [Option.map_some, Option.some.injEq, Prod.mk.injEq] at hr
      obtain ⟨rfl, rfl⟩ := hr
      exact reg_wp ok hin hLd h2 h3 hh hst
  | .seq p q, c, hc, st, x, a, o, stF, hr, hst => by
    cases c <;> simp only [chkCode, Bool.false_eq_true] at hc
    rename_i c1 c2
    simp only [Bool.and_eq_true] at hc
    simp only [execC] at hr
    refine wp_seq ?_
    cases h1 : execC C inl fid p st with
    | none => rw [h1] at hr; cases hr
    | some r =>
      obtain ⟨o1, st1⟩ := r
      have ih := exec_wp ok hin hLd p c1 hc.1 st x a o1 st1 h1 hst
      rw [h1] at hr
      refine wp_mono ih ?_
      rintro e a' w' ⟨rfl, y, rfl, hy, hstp, hnc, hk⟩
      cases o1 with
      | nrm =>
        simp only at hr
        simp only [Out.conc, Exit.then]
        refine wp_mono (exec_wp ok hin hLd q c2 hc.2 st1 y a' o stF hr hy) ?_
        rintro e2 a2 w2 ⟨rfl, z, rfl, hz, hstp2, hnc2, hk2⟩
        exact ⟨rfl, z, rfl, hz, hstp.trans hstp2, Nat.le_trans hnc hnc2, hk.trans hk2 hnc⟩
      | ext i =>
        simp only [Option.some.injEq, Prod.mk.injEq] at hr
        obtain ⟨rfl, rfl⟩ := hr
        exact ⟨rfl, y, rfl, hy, hstp, hnc, hk⟩
      | ret =>
        simp only [Option.some.injEq, Prod.mk.injEq] at hr
        obtain ⟨rfl, rfl⟩ := hr
        exact ⟨rfl, y, rfl, hy, hstp, hnc, hk⟩
  | .cond k p q, c, hc, st, x, a, o, stF, hr, hst => by
    cases c <;> simp only [chkCode, Bool.false_eq_true] at hc
    rename_i k' c1 c2
    simp only [Bool.and_eq_true] at hc
    simp only [execC] at hr
    split at hr
    · rename_i t e
      have hk := hst.args k' k hc.1.1
      rw [e] at hk
      refine wp_cond (V_bool hk) ?_
      cases t with
      | true => simp only [if_true] at hr ⊢; exact exec_wp ok hin hLd p c1 hc.1.2 st x a o stF hr hst
      | false => simp only [Bool.false_eq_true, if_false] at hr ⊢; exact exec_wp ok hin hLd q c2 hc.2 st x a o stF hr hst
    · cases hr
  | .block id p, c, hc, st, x, a, o, stF, hr, hst => by
    cases c <;> simp only [chkCode, Bool.false_eq_true] at hc
    rename_i id' c1
    simp only [Bool.and_eq_true, beq_iff_eq] at hc
    obtain ⟨rfl, hc⟩ := hc
    simp only [execC] at hr
    refine wp_block ?_
    cases h1 : execC C inl fid p st with
    | none => rw [h1] at hr; cases hr
    | some r =>
      obtain ⟨o1, st1⟩ := r
      rw [h1] at hr
      refine wp_mono (exec_wp ok hin hLd p c1 hc st x a o1 st1 h1 hst) ?_
      rintro e a' w' ⟨rfl, y, rfl, hy, hstp, hnc, hk⟩
      cases o1 with
      | nrm =>
        simp only [Option.some.injEq, Prod.mk.injEq] at hr
        obtain ⟨rfl, rfl⟩ := hr
        exact ⟨rfl, y, rfl, hy, hstp, hnc, hk⟩
      | ext i =>
        simp only at hr
        simp only [Out.conc, Exit.inBlock]
        split at hr
        · rename_i e
          simp only [Option.some.injEq, Prod.mk.injEq] at hr
          obtain ⟨rfl, rfl⟩ := hr
          rw [if_pos e]
          exact ⟨rfl, y, rfl, hy, hstp, hnc, hk⟩
        · rename_i e
          simp only [Option.some.injEq, Prod.mk.injEq] at hr
          obtain ⟨rfl, rfl⟩ := hr
          rw [if_neg e]
          exact ⟨rfl, y, rfl, hy, hstp, hnc, hk⟩
      | ret =>
        simp only [Option.some.injEq, Prod.mk.injEq] at hr
        obtain ⟨rfl, rfl⟩ := hr
        exact ⟨rfl, y, rfl, hy, hstp, hnc, hk⟩
  | .loop p, c, hc, st, x, a, o, stF, hr, hst => by
    cases c <;> simp only [chkCode, Bool.false_eq_true] at hc
    rename_i c1
    simp only [execC] at hr
    refine wp_loop_rounds fuelL ?_
    have go : ∀ (n : Nat) (st : St) (x : Ctx) (a : Act), iterN n (fun s => execC C inl fid p s) st = some (o, stF) → StOk nt B S0 st x a → Code.rounds P c1 (PostC nt B S0 x st.nc o stF) n a x.w := by
      intro n
      induction n with
      | zero => intro st x a h _; simp [iterN] at h
      | succ n ih =>
        intro st x a h hst
        simp only [iterN] at h
        rw [rounds_succ]
        cases h1 : execC C inl fid p st with
        | none => rw [h1] at h; cases h
        | some r =>
          obtain ⟨o1, st1⟩ := r
          rw [h1] at h
          refine wp_mono (exec_wp ok hin hLd p c1 hc st x a o1 st1 h1 hst) ?_
          rintro e a' w' ⟨rfl, y, rfl, hy, hstp, hnc, hk⟩
          cases o1 with
          | nrm =>
            simp only at h
            simp only [Out.conc, Exit.then]
            have hmono : ∀ (m : Nat) (a : Act) (w : World), Code.rounds P c1 (PostC nt B S0 y st1.nc o stF) m a w → Code.rounds P c1 (PostC nt B S0 x st.nc o stF) m a w := by
              intro m
              induction m with
              | zero => intro a w h; exact h
              | succ m ihm =>
                intro a w h
                rw [rounds_succ] at h ⊢
                refine wp_mono h ?_
                intro e a w h
                have hq : ∀ e a w, PostC nt B S0 y st1.nc o stF e a w → PostC nt B S0 x st.nc o stF e a w := by
                  rintro e a w ⟨rfl, z, rfl, hz, hs2, hn2, hk2⟩
                  exact ⟨rfl, z, rfl, hz, hstp.trans hs2, Nat.le_trans hnc hn2, hk.trans hk2 hnc⟩
                cases e with
                | normal => exact ihm a w h
                | exit i => exact hq _ _ _ h
                | goto l => exact hq _ _ _ h
                | ret => exact hq _ _ _ h
                | panic ch => exact hq _ _ _ h
                | outgrown => exact hq _ _ _ h
            exact hmono n a' y.w (ih st1 y a' h hy)
          | ext i =>
            simp only [Option.some.injEq, Prod.mk.injEq] at h
            obtain ⟨rfl, rfl⟩ := h
            exact ⟨rfl, y, rfl, hy, hstp, hnc, hk⟩
          | ret =>
            simp only [Option.some.injEq, Prod.mk.injEq] at h
            obtain ⟨rfl, rfl⟩ := h
            exact ⟨rfl, y, rfl, hy, hstp, hnc, hk⟩
    exact go fuelL st x a hr hst
  | .scope p, c, hc, st, x, a, o, stF, hr, hst => by
    cases c <;> simp only [chkCode, Bool.false_eq_true] at hc
    rename_i c1
    simp only [execC] at hr
    refine wp_scope_straight (wp_mono (exec_wp ok hin hLd p c1 hc st x a o stF hr hst) ?_)
    rintro e a' w' ⟨rfl, y, rfl, hy, hstp, hnc, hk⟩
    cases o <;> exact ⟨rfl, y, rfl, hy, hstp, hnc, hk⟩
  | .exit id, c, hc, st, x, a, o, stF, hr, hst => by
    cases c <;> simp only [chkCode, Bool.false_eq_true] at hc
    simp only [beq_iff_eq] at hc
    subst hc
    simp only [execC, Option.some.injEq, Prod.mk.injEq] at hr
    obtain ⟨rfl, rfl⟩ := hr
    exact wp_exit ⟨rfl, x, rfl, hst, Step.refl B x, Nat.le_refl _, Keys.refl _ _⟩
  | .ret, c, hc, st, x, a, o, stF, hr, hst => by
    cases c <;> simp only [chkCode, Bool.false_eq_true] at hc
    simp only [execC, Option.some.injEq, Prod.mk.injEq] at hr
    obtain ⟨rfl, rfl⟩ := hr
    exact wp_ret ⟨rfl, x, rfl, hst, Step.refl B x, Nat.le_refl _, Keys.refl _ _⟩
def resM (tmps : Array Value) : ResultVar → Sem Value
  | .tmp t => pure (tmps.getD t undef)
  | .cell c t => do loadVar t (← asAddr (tmps.getD c undef))
theorem results_eq (fn : Func) (tmps : Array Value) : results fn tmps = (do let vs ← fn.results.mapM (resM tmps); pure (if h : vs.size = 1 then vs[0] else .tuple vs)) := rfl
theorem resR_ok {st : St} {x : Ctx} {a : Act} (hst : StOk nt B S0 st x a) {r : ResultVar} {xr : XRes} {v : AVal} (hc : chkRes P [r] [xr] = true) (hr : resR st xr = some v) :
    ∃ u, (resM a.tmps r).run P x.w = .ok u x.w ∧ V x v u := by
  cases r with
  | tmp t =>
    cases xr with
    | cell _ _ _ => simp [chkRes] at hc
    | tmp t' =>
      simp only [chkRes, Bool.and_true, beq_iff_eq] at hc
      subst hc
      simp only [resR, Option.some.injEq] at hr
      subst hr
      exact ⟨_, rfl, hst.tm t⟩
  | cell c t =>
    cases xr with
    | tmp _ => simp [chkRes] at hc
    | cell c' agg n =>
      simp only [chkRes, Bool.and_true, Bool.and_eq_true, beq_iff_eq, decide_eq_true_eq] at hc
      obtain ⟨⟨rfl, hagg⟩, hn⟩ := hc
      simp only [resR] at hr
      have hv := hst.tm c
      unfold loadR at hr
      split at hr
      · rename_i k g i es off e
        rw [e] at hv
        simp only [V] at hv
        obtain ⟨bb, oo, hρ, ha⟩ := hv
        rw [Rd.run_get] at hr
        cases hk : st.hp k with
        | none => rw [hk] at hr; cases hr
        | some blk =>
          rw [hk] at hr
          simp only [Rd.run_ofO] at hr
          cases hcs : blk.cs g i es with
          | none => rw [hcs] at hr; cases hr
          | some cs =>
            rw [hcs] at hr
            simp only [Option.bind_some] at hr
            obtain ⟨_, hcv⟩ := cs_ok hst.sim hk hρ hcs
            obtain ⟨u, hu, hvu⟩ := run_loadVar_ok (P := P) hagg hn hcv hr
            refine ⟨u, ?_, hvu⟩
            simp only [resM, ha, asAddr, Sem.run_bind, Sem.run_pure, Result.andThen_ok, hu]
      · rename_i cs off e
        rw [e] at hv
        simp only [V] at hv
        obtain ⟨bb, oo, ha, hS, hcv⟩ := hv
        rw [Rd.run_ofO] at hr
        obtain ⟨u, hu, hvu⟩ := run_loadVar_ok (P := P) hagg hn hcv hr
        refine ⟨u, ?_, V_grow (Grow.unbare x) _ _ hvu⟩
        have hu' : (loadVar t ⟨bb, oo + off, none⟩).run P x.w = .ok u x.w := hu
        simp only [resM, ha, asAddr, Sem.run_bind, Sem.run_pure, Result.andThen_ok, hu']
      · cases hr
theorem resL_ok {st : St} {x : Ctx} {a : Act} (hst : StOk nt B S0 st x a) : ∀ {rs : List ResultVar} {xs : List XRes} {vs : List AVal}, chkRes P rs xs = true → resL st xs = some vs →
    ∃ us, (rs.mapM (resM a.tmps)).run P x.w = .ok us x.w ∧ VL x vs us
  | [], [], vs, _, hr => by
    simp only [resL, Option.some.injEq] at hr
    subst hr
    exact ⟨[], by simp, by simp [VL]⟩
  | [], _ :: _, vs, hc, hr => by simp [chkRes] at hc
  | r :: _, [], vs, hc, hr => by cases r <;> simp [chkRes] at hc
  | r :: rs, xr :: xs, vs, hc, hr => by
    simp only [resL] at hr
    cases h1 : resR st xr with
    | none => rw [h1] at hr; cases hr
    | some v =>
      cases h2 : resL st xs with
      | none => rw [h1, h2] at hr; cases hr
      | some vs' =>
        rw [h1, h2] at hr
        simp only [Option.some.injEq] at hr
        subst hr
        have hc1 : chkRes P [r] [xr] = true ∧ chkRes P rs xs = true := by
          cases r <;> cases xr <;> simp only [chkRes, Bool.and_eq_true, Bool.and_true, Bool.false_eq_true] at hc ⊢ <;> exact hc
        obtain ⟨u, hu, hvu⟩ := resR_ok hst hc1.1 h1
        obtain ⟨us, hus, hvus⟩ := resL_ok hst hc1.2 h2
        refine ⟨u :: us, ?_, by simp only [VL]; exact ⟨u, us, rfl, hvu, hvus⟩⟩
        simp only [List.mapM_cons, Sem.run_bind, hu, Result.andThen_ok, hus, Sem.run_pure]
theorem V_one {x : Ctx} {vs : List AVal} {us : List Value} (h : VL x vs us) : V x (one vs) (if h : us.toArray.size = 1 then us.toArray[0] else .tuple us.toArray) := by
  have hl := h.length
  match vs, us, hl with
  | [], [], _ => simp only [one, V]; exact ⟨[], rfl, h⟩
  | [v], [u], _ =>
    obtain ⟨u', e, hv⟩ := VL.head h
    cases e
    simpa [one] using hv
  | v :: v' :: vs, u :: u' :: us, _ =>
    have : one (v :: v' :: vs) = .tup (v :: v' :: vs) := rfl
    rw [this, dif_neg (by simp)]
    simp only [V]
    exact ⟨_, rfl, h⟩
theorem inl_ok (ok : CfgOk P C) (hLd : Laid P S0.w0) : ∀ d, InlOk P B S0 (inlD C d) := by
  intro d
  induction d with
  | zero => intro g as0 h nc v h' nc' hr; simp [inlD] at hr
  | succ d ih =>
    intro g as0 h nc v h' nc' hr x vs hs hl
    simp only [inlD] at hr
    cases hx : C.xf g with
    | none => rw [hx] at hr; cases hr
    | some xf =>
      rw [hx] at hr
      obtain ⟨fn, hfn, hck⟩ := ok.xf g xf hx
      unfold chkF at hck
      simp only [Bool.and_eq_true, Bool.not_eq_true', beq_iff_eq, decide_eq_true_eq] at hck
      obtain ⟨⟨⟨⟨⟨hname, hnt⟩, hnp⟩, hle⟩, hres⟩, hbody⟩ := hck
      cases hb : fn.body with
      | none => rw [hb] at hbody; cases hbody
      | some c =>
        rw [hb] at hbody
        simp only [execF] at hr
        split at hr
        · rename_i hlen
          have hvl := hl.length
          have hrun : (callFunc g vs.toArray).run P x.w = .ok (.enter g vs.toArray) x.w := by
            simp only [callFunc, Sem.run_bind, run_program, Result.andThen_ok, hfn, hname, hb]
            simp
          refine .inl ⟨hrun, ?_⟩
          have hst : StOk xf.nt B S0 ⟨tm0 as0, h, nc⟩ x { tmps := vs.toArray ++ Array.replicate (fn.ntmps - vs.toArray.size) undef, defers := [] } := by
            refine ⟨hs, ?_, ?_, rfl⟩
            · simp only [Array.size_append, List.size_toArray, Array.size_replicate]
              omega
            · intro t
              simp only [tm0]
              rw [Array.getD_eq_getD_getElem?]
              by_cases ht : t < as0.length
              · obtain ⟨u, hu, hvu⟩ := hl.get (List.getElem?_eq_getElem ht)
                rw [List.getElem?_eq_getElem ht]
                rw [Array.getElem?_append_left (by simp; omega)]
                have : vs.toArray[t]? = some u := by simpa using hu
                rw [this]
                exact hvu
              · rw [List.getElem?_eq_none (by omega)]
                simp only [Option.getD_none, V]
                rw [Array.getElem?_append_right (by simp; omega)]
                rw [Array.getElem?_replicate]
                split <;> rfl
          have hend : ∀ (stF : St) (o : Out), (o = .nrm ∨ o = .ret) → execC C (inlD C d) g xf.body ⟨tm0 as0, h, nc⟩ = some (o, stF) → ((resL stF xf.res).map fun vs => (one vs, stF.hp, stF.nc)) = some (v, h', nc') →
              Calls P g vs.toArray x.w fun e w' => ∃ u, e = .returned u ∧ ∃ y, y.w = w' ∧ Sim B S0 h' nc' y ∧ V y v u ∧ Step B x y ∧ nc ≤ nc' ∧ ∀ k g p, y.ρ k g = some p → (∃ g' p', x.ρ k g' = some p') ∨ nc ≤ k.2 := by
            intro stF o ho hex hrr
            cases hrl : resL stF xf.res with
            | none => rw [hrl] at hrr; cases hrr
            | some rvs =>
              rw [hrl] at hrr
              simp only [Option.map_some, Option.some.injEq, Prod.mk.injEq] at hrr
              obtain ⟨rfl, rfl, rfl⟩ := hrr
              refine calls_of_wp hfn hb (wp_mono (exec_wp ok ih hLd xf.body c hbody _ x _ o stF hex hst) ?_)
              rintro e a' w' ⟨rfl, y, rfl, hy, hstp, hnc, hk⟩
              obtain ⟨us, hus, hvus⟩ := resL_ok (P := P) hy hres hrl
              have hres' : (results fn a'.tmps).run P y.w = .ok (if h : us.toArray.size = 1 then us.toArray[0] else .tuple us.toArray) y.w := by
                rw [results_eq, Sem.run_bind, Array.mapM_eq_mapM_toList, Sem.run_map, hus]
                simp only [Result.andThen_ok, Sem.run_pure]
              have hfin : a'.defers = [] ∧ ∃ v, (results fn a'.tmps).run P y.w = .ok v y.w ∧ ∃ u, Ending.returned v = .returned u ∧ ∃ z, z.w = y.w ∧ Sim B S0 stF.hp stF.nc z ∧ V z (one rvs) u ∧ Step B x z ∧ nc ≤ stF.nc ∧ ∀ k g p, z.ρ k g = some p → (∃ g' p', x.ρ k g' = some p') ∨ nc ≤ k.2 :=
                ⟨hy.dfr, _, hres', _, rfl, y, rfl, hy.sim, V_one hvus, hstp, hnc, hk⟩
              rcases ho with rfl | rfl
              · exact hfin
              · exact hfin
          split at hr
          · rename_i st e
            exact hend st .nrm (.inl rfl) e hr
          · rename_i st e
            exact hend st .ret (.inr rfl) e hr
          · cases hr
        · cases hr
theorem sound_of (ok : CfgOk P C) (d : Nat) {f : FuncId} {F : List AVal → Option AVal} (hF : ∀ as0 r, F as0 = some r → pureF C d f as0 = some r) : Sound P f F := by
  intro as0 r hr w S vs hS hL hl
  have h1 := hF as0 r hr
  unfold pureF at h1
  cases h2 : inlD C d f as0 (fun _ => none) 0 with
  | none => rw [h2] at h1; cases h1
  | some q =>
    obtain ⟨v, h, nc⟩ := q
    rw [h2] at h1
    simp only at h1
    cases h3 : (lend freeze v).run h with
    | none => rw [h3] at h1; cases h1
    | some p =>
      obtain ⟨r', ks⟩ := p
      rw [h3] at h1
      simp only [Option.map_some, Option.some.injEq] at h1
      subst h1
      let x : Ctx := { w := w, S := mkS w.heap.size ⟨S, w⟩ (fun _ => none) w ρ0, ρ := ρ0 }
      have g0 : Grow (ctx0 w S) x := ⟨fun b hb => .inl hb, fun _ _ => rfl, fun _ _ _ hp => hp, fun _ => Nat.le_refl _⟩
      have hs : Sim w.heap.size ⟨S, w⟩ (fun _ => none) 0 x := ⟨hS, Nat.le_refl _, (fun k blk hk => by cases hk), (fun k k' blk blk' b o o' hk => by cases hk), rfl, (fun k g p hp => by cases hp), (fun k blk g p hk => by cases hk), ⟨rfl, fun _ _ => rfl, SameEnv.refl _⟩⟩
      refine (inl_ok (S0 := ⟨S, w⟩) ok hL d f as0 (fun _ => none) 0 v h nc h2 x vs hs (VL_grow g0 _ _ hl)).mono ?_
      rintro u w' ⟨y, rfl, hs', hv, hstp, _, _⟩
      refine ⟨hstp.size, hstp.below, hstp.env, ?_⟩
      let y2 : Ctx := { y with S := fun b => S b ∨ (w.heap.size ≤ b ∧ b < y.w.heap.size) }
      have g1 : Grow y y2 := by
        refine ⟨fun b hb => ?_, fun _ _ => rfl, fun _ _ _ hp => hp, fun _ => Nat.le_refl _⟩
        rw [hs'.S] at hb
        rcases hb with hb | ⟨h4, h5, _⟩
        · exact .inl hb
        · exact .inr ⟨h4, h5⟩
      have := lend_ok (y := y2) hs' g1 rfl (KS := fun _ => True) (fun k _ blk b oo hk hρ => by
        obtain ⟨b', o', e1, e2, e3, _⟩ := hs'.live k blk hk
        rw [hρ] at e1
        cases e1
        exact .inr ⟨e2, e3⟩) freeze v r' ks h3 (fun _ _ => trivial)
      exact this.1 u hv
theorem VC_noref {c c' : Ctx} (hw : c'.w = c.w) : ∀ (xs : List AVal) (b o : Nat), hasRefL xs = false → VC c xs b o → VC c' xs b o
  | [], b, o, _, _ => by simp only [VC]
  | a :: xs, b, o, hr, h => by
    simp only [hasRefL, Bool.or_eq_false_iff] at hr
    simp only [VC] at h ⊢
    obtain ⟨⟨v, hv, h1⟩, h2⟩ := h
    exact ⟨⟨v, by rw [hw]; exact hv, V_noref a v hr.1 h1⟩, VC_noref hw xs b (o + 1) hr.2 h2⟩
theorem VE_noref {c c' : Ctx} (hw : c'.w = c.w) (es : Nat) (a : AVal) (b o : Nat) (hr : hasRef a = false) (h : VE c es a b o) : VE c' es a b o := by
  cases a with
  | agg ys =>
    simp only [VE] at h ⊢
    simp only [hasRef] at hr
    exact ⟨h.1, VC_noref hw ys b o hr h.2⟩
  | _ =>
    simp only [VE] at h ⊢
    obtain ⟨h1, v, hv, h2⟩ := h
    exact ⟨h1, v, by rw [hw]; exact hv, V_noref _ v hr h2⟩
theorem VR_noref {c c' : Ctx} (hw : c'.w = c.w) (es : Nat) : ∀ (xs : List AVal) (b o : Nat), hasRefL xs = false → VR c es xs b o → VR c' es xs b o
  | [], b, o, _, _ => by simp only [VR]
  | a :: xs, b, o, hr, h => by
    simp only [hasRefL, Bool.or_eq_false_iff] at hr
    simp only [VR] at h ⊢
    exact ⟨VE_noref hw es a b o hr.1 h.1, VR_noref hw es xs b (o + es) hr.2 h.2⟩
theorem soundN_of (ok : CfgOk P C) (d : Nat) {f : FuncId} {F : List AVal → Option (Option (Nat × List AVal))} (hF : ∀ as0 r, F as0 = some r → ∃ v h nc, inlD C d f as0 (fun _ => none) 0 = some (v, h, nc) ∧ match r with
    | none => v = .nils
    | some p => if p.1 = 0 then ∃ k ents0 vals ks, v = .mp k ∧ h k = some (.obj (.map ents0 p.2.length)) ∧ (lendL freeze (ents0.map (·.2.1))).run h = some (vals, ks) ∧ k ∉ ks ∧ (∀ e ∈ ents0, hasRef e.1 = false) ∧ entsOf 0 p.2 = some (List.zipWith (fun e u => (e.1, u, e.2.2)) ents0 vals) else
        ∃ k g, v = .sl k g p.1 0 p.2.length ∧ h k = some (.row g p.1 p.2)) : SoundN P f F := by
  intro as0 r hr w S vs hS hL hl
  obtain ⟨v, h, nc, h2, h3⟩ := hF as0 r hr
  let x : Ctx := { w := w, S := mkS w.heap.size ⟨S, w⟩ (fun _ => none) w ρ0, ρ := ρ0 }
  have g0 : Grow (ctx0 w S) x := ⟨fun b hb => .inl hb, fun _ _ => rfl, fun _ _ _ hp => hp, fun _ => Nat.le_refl _⟩
  have hs : Sim w.heap.size ⟨S, w⟩ (fun _ => none) 0 x := ⟨hS, Nat.le_refl _, (fun k blk hk => by cases hk), (fun k k' blk blk' b o o' hk => by cases hk), rfl, (fun k g p hp => by cases hp), (fun k blk g p hk => by cases hk), ⟨rfl, fun _ _ => rfl, SameEnv.refl _⟩⟩
  refine (inl_ok (S0 := ⟨S, w⟩) ok hL d f as0 (fun _ => none) 0 v h nc h2 x vs hs (VL_grow g0 _ _ hl)).mono ?_
  rintro u w' ⟨y, rfl, hs', hv, hstp, _, _⟩
  refine ⟨hstp.size, hstp.below, hstp.env, ?_⟩
  cases r with
  | none =>
    simp only at h3
    subst h3
    simpa only [V] using hv
  | some p =>
    obtain ⟨es, xs⟩ := p
    simp only at h3 ⊢
    by_cases hes : es = 0
    · rw [if_pos hes] at h3 ⊢
      obtain ⟨k, ents0, vals, ks, rfl, hk, hl1, hkk, hnr, hen⟩ := h3
      simp only [V] at hv
      obtain ⟨b, hρ, rfl⟩ := hv
      obtain ⟨b', o', h4, h5, h6, _, ob, h7, h8⟩ := hs'.live k _ hk
      have h4' : y.ρ k 0 = some (b', o') := h4
      rw [hρ] at h4'
      cases h4'
      obtain ⟨arr, rfl, hel⟩ := h8
      refine ⟨b, arr, _, hen, rfl, h5, h6, h7, ?_⟩
      have hS' : ∀ k' blk b1 o1, k' ≠ k → h k' = some blk → y.ρ k' blk.gen = some (b1, o1) → b1 ≠ b := by
        intro k' blk b1 o1 hne hk' hρ' e
        subst e
        exact hne (hs'.inj k' k blk _ b1 o1 0 hk' hk hρ' hρ)
      let y1 : Ctx := { y with S := fun b' => y.S b' ∨ S b' ∨ (w.heap.size ≤ b' ∧ b' < y.w.heap.size ∧ b' ≠ b) }
      have g1 : Grow y y1 := ⟨fun b hb => .inl hb, fun _ _ => rfl, fun _ _ _ hp => hp, fun _ => Nat.le_refl _⟩
      have hlend := lend_ok (y := y1) hs' g1 rfl (KS := fun k' => k' ≠ k) (fun k' hne blk b1 oo hk' hρ' => by
        obtain ⟨b2, o2, e1, e2, e3, _⟩ := hs'.live k' blk hk'
        rw [hρ'] at e1
        cases e1
        exact .inr (.inr ⟨e2, e3, hS' k' blk b1 oo hne hk' hρ'⟩)) freeze
      obtain ⟨_, hvl, _⟩ := lendL_VL hlend hl1 (fun k' hk' e => hkk (e ▸ hk'))
      have hvals : ∀ (es : List (AVal × AVal × Nat)) (arr : List MapEntry), EL y es arr → VL y (es.map (·.2.1)) (arr.map (·.val)) := by
        intro es
        induction es with
        | nil => intro arr h; simp only [EL] at h; subst h; simp only [List.map_nil, VL]
        | cons e es ih =>
          intro arr h
          obtain ⟨m, r, rfl, _, h2, _, h3⟩ := h
          simp only [List.map_cons, VL]
          exact ⟨_, _, rfl, h2, ih r h3⟩
      have hb := hvl _ (hvals _ _ hel)
      have gb : Grow y1.bare (ctx0 y.w fun b' => S b' ∨ (w.heap.size ≤ b' ∧ b' < y.w.heap.size ∧ b' ≠ b)) := by
        refine ⟨fun b' hb' => ?_, fun _ _ => rfl, fun _ _ _ hp => (by cases hp), fun _ => Nat.le_refl _⟩
        rcases hb' with hb' | hb'
        · rw [hs'.S] at hb'
          rcases hb' with hb' | ⟨h9, h10, h11⟩
          · exact .inl hb'
          · refine .inr ⟨h9, h10, fun e => ?_⟩
            subst e
            exact h11 k _ 0 hk hρ
        · exact hb'
      have hel2 : ∀ (es : List (AVal × AVal × Nat)) (vals : List AVal) (arr : List MapEntry), (∀ e ∈ es, hasRef e.1 = false) → EL y es arr → VL y1.bare vals (arr.map (·.val)) → EL (ctx0 y.w fun b' => S b' ∨ (w.heap.size ≤ b' ∧ b' < y.w.heap.size ∧ b' ≠ b)) (List.zipWith (fun e u => (e.1, u, e.2.2)) es vals) arr := by
        intro es
        induction es with
        | nil => intro vals arr _ h _; simp only [EL] at h; subst h; simp only [List.zipWith_nil_left, EL]
        | cons e es ih =>
          intro vals arr hn h hv
          obtain ⟨m, r, rfl, h1, h2, h3, h4⟩ := h
          cases vals with
          | nil => simp [VL] at hv
          | cons u us =>
            simp only [List.map_cons, VL, List.cons.injEq] at hv
            obtain ⟨v, r', ⟨rfl, rfl⟩, h5, h6⟩ := hv
            refine ⟨m, r, rfl, V_noref _ _ (hn e (by simp)) h1, V_grow gb _ _ h5, h3, ih us r (fun e he => hn e (by simp [he])) h4 h6⟩
      exact hel2 _ _ _ hnr hel hb
    rw [if_neg hes] at h3 ⊢
    obtain ⟨k, g, rfl, hk⟩ := h3
    simp only [V] at hv
    obtain ⟨b, o, a, cap, hρ, rfl, hcap, ha, hsz, hsp⟩ := hv
    obtain ⟨b', o', h4, h5, h6, c, e, h7, _, h8⟩ := hs'.live k _ hk
    have h4' : y.ρ k g = some (b', o') := h4
    rw [hρ] at h4'
    cases h4'
    rw [Nat.zero_mul, Nat.add_zero] at ha
    rw [Nat.zero_add] at hsz
    simp only [Go.Xec.bsz, h7] at hsz
    exact ⟨b, o, a, cap, c, e, rfl, ha, hsp, h5, h6, h7, hcap, hsz, fun href y' hy' => VR_noref hy' es xs b o href h8⟩
end
end Go.Xec
namespace Go.Xec
open Go Go.WideShapes Go.ChangeShapes Go.RowKit
inductive ATy where
  | bool
  | int (k : IntKind)
  | str
  | slice (es bytes : Nat) (e : ATy)
  | struct (fs : List ATy)
  | arr (n : Nat) (e : ATy)
mutual
def ATy.size : ATy → Nat
  | .struct fs => ATy.sizeL fs
  | .arr n e => n * ATy.size e
  | _ => 1
def ATy.sizeL : List ATy → Nat
  | [] => 0
  | t :: ts => ATy.size t + ATy.sizeL ts
end
section
variable (P : Program)
mutual
def tyOk : ATy → TypeId → Bool
  | .bool, t => match P.underlying t with
    | some .bool => true
    | _ => false
  | .int k, t => match P.underlying t with
    | some (.int k') => decide (k = k')
    | _ => false
  | .str, t => match P.underlying t with
    | some .string => true
    | _ => false
  | .slice es bytes e, t => match P.underlying t with
    | some (.slice u) => decide (P.cellsOf u = es) && decide (P.bytesOf u = bytes) && decide (ATy.size e = es) && decide (1 ≤ es) && tyOk e u
    | _ => false
  | .struct fs, t => match P.underlying t with
    | some (.struct gs) => decide (P.cellsOf t = ATy.sizeL fs) && fieldsOk fs gs.toList 0
    | _ => false
  | .arr n e, t => match P.underlying t with
    | some (.array m u) => decide (m = n) && decide (P.cellsOf u = ATy.size e) && decide (P.cellsOf t = n * ATy.size e) && tyOk e u
    | _ => false
def fieldsOk : List ATy → List Field → Nat → Bool
  | [], [], _ => true
  | a :: as0, f :: fs, off => decide (f.offset = off) && decide (P.cellsOf f.type = ATy.size a) && tyOk a f.type && fieldsOk as0 fs (off + ATy.size a)
  | _, _, _ => false
end
end
mutual
def WT : ATy → AVal → Prop
  | .bool, a => ∃ b, a = .bool b
  | .int k, a => ∃ n, a = .int k n ∧ k.min ≤ n ∧ n ≤ k.max
  | .str, a => ∃ s : ByteArray, a = .str s ∧ s.size ≤ 140737488351232
  | .slice es bytes e, a => a = .nils ∨ a = .emp ∨ ∃ xs, a = .slc es xs ∧ (∀ x ∈ xs, WT e x) ∧ xs.length * bytes ≤ 140737488351232
  | .struct fs, a => ∃ ps, a = .agg (ps.flatMap cellsOf) ∧ WTL fs ps
  | .arr n e, a => ∃ ps : List AVal, a = .agg (ps.flatMap cellsOf) ∧ ps.length = n ∧ ∀ p ∈ ps, WT e p
def WTL : List ATy → List AVal → Prop
  | [], as0 => as0 = []
  | t :: ts, as0 => ∃ a r, as0 = a :: r ∧ WT t a ∧ WTL ts r
end
def isAggTy : ATy → Bool
  | .struct _ => true
  | .arr _ _ => true
  | _ => false
theorem WT.cells {t : ATy} {a : AVal} (h : WT t a) (ht : isAggTy t = false) : cellsOf a = [a] := by
  cases t <;> simp only [WT, isAggTy] at h ht
  · obtain ⟨b, rfl⟩ := h; rfl
  · obtain ⟨n, rfl, _⟩ := h; rfl
  · obtain ⟨s, rfl, _⟩ := h; rfl
  · rcases h with rfl | rfl | ⟨xs, rfl, _⟩ <;> rfl
  · cases ht
  · cases ht
section
variable {H : Type} {enc : TypeId × Value → H} {P : Program} {w : World}
def allS (w : World) : Nat → Prop := fun b => b < w.heap.size
theorem cell_none {w : World} {a : Addr} {v : Value} (h : w.cell? a = some v) : a.spot = none := by
  unfold World.cell? at h
  split at h
  · split at h
    · cases h
    · rename_i h'
      simpa using h'
  · cases h
theorem VC_of_cells {cs : List Value} {as0 : List AVal} {b o : Nat} {x : Ctx} (hl : VL x as0 cs) (hc : ∀ i v, cs[i]? = some v → x.w.cell? ⟨b, o + i, none⟩ = some v) : VC x as0 b o := VC_of_VL hl hc
theorem cells_get {a : Addr} {n : Nat} {cs : List Value} (h : w.cells? 0 a n = some cs) : cs.length = n ∧ ∀ i v, cs[i]? = some v → w.cell? (a.add i) = some v := by
  obtain ⟨_, h1, h2⟩ := World.cells?_some h
  refine ⟨h1, fun i v hi => ?_⟩
  rcases Nat.lt_or_ge i n with h' | h'
  · rw [← h2 i h'] at hi
    exact hi
  · rw [List.getElem?_eq_none (by omega)] at hi
    cases hi
theorem weights_sub {e : TypeId} {ds : List (DataW H)} {N : Nat} (h : (DataW.weightsAll P e ds).all (· ≤ N) = true) {d : DataW H} (hd : d ∈ ds) : (d.weights P e).all (· ≤ N) = true := by
  induction ds with
  | nil => cases hd
  | cons x xs ih =>
    simp only [DataW.weightsAll, List.all_append, Bool.and_eq_true] at h
    cases hd with
    | head => exact h.1
    | tail _ hd => exact ih h.2 hd
mutual
theorem trod_wt : ∀ (ty : ATy) (t : TypeId) (n : Nat) (cs : List Value) (x : DataW H × List MemPlace), tyOk P ty t = true → DataW.trod enc P w 0 (fun _ => true) true n t cs = some x → (x.1.weights P t).all (· ≤ reachBytes) = true →
    ∃ a, WT ty a ∧ VL (ctx0 w (allS w)) (cellsOf a) cs ∧ (cellsOf a).length = ty.size
  | .bool, t, n, cs, x, hk, h, hz => by
    simp only [tyOk] at hk
    split at hk
    · rename_i hu
      obtain ⟨b, rfl, rfl⟩ := DataW.trod_bool hu h
      refine ⟨.bool b, ?_, ?_, ?_⟩
      · simp only [WT]; exact ⟨b, rfl⟩
      · simp only [cellsOf, VL, V]; exact ⟨_, _, rfl, rfl, rfl⟩
      · rfl
    · cases hk
  | .int k, t, n, cs, x, hk, h, hz => by
    simp only [tyOk] at hk
    split at hk
    · rename_i k' hu
      simp only [decide_eq_true_eq] at hk
      subst hk
      obtain ⟨b, rfl, rfl, hw⟩ := DataW.trod_int hu h
      simp only [Lit.wf, Bool.and_eq_true, decide_eq_true_eq] at hw
      refine ⟨.int k b, ?_, ?_, ?_⟩
      · simp only [WT]; exact ⟨b, rfl, hw⟩
      · simp only [cellsOf, VL, V]; exact ⟨_, _, rfl, rfl, rfl⟩
      · rfl
    · cases hk
  | .str, t, n, cs, x, hk, h, hz => by
    simp only [tyOk] at hk
    split at hk
    · rename_i hu
      obtain ⟨s, rfl, rfl, _⟩ := DataW.trod_string hu h
      simp only [DataW.weights, List.all_cons, List.all_nil, Bool.and_true, decide_eq_true_eq, Array.length_toList, reachBytes] at hz
      refine ⟨.str s, ?_, ?_, ?_⟩
      · simp only [WT]; exact ⟨s, rfl, of_decide_eq_true hz⟩
      · simp only [cellsOf, VL, V]; exact ⟨_, _, rfl, rfl, rfl⟩
      · rfl
    · cases hk
  | .slice es bytes e, t, n, cs, x, hk, h, hz => by
    simp only [tyOk] at hk
    split at hk
    · rename_i u hu
      simp only [Bool.and_eq_true, decide_eq_true_eq] at hk
      obtain ⟨⟨⟨⟨hce, hbe⟩, hse⟩, hes⟩, hke⟩ := hk
      rcases DataW.trod_slice hu h with ⟨rfl, rfl⟩ | ⟨a, len, cap, elems, rest, m, rfl, rfl, rfl, _, hlc, hcm, hlen, hel, hsp, _⟩
      · refine ⟨.nils, ?_, ?_, rfl⟩
        · simp only [WT, true_or]
        · simp only [cellsOf, VL, V]; exact ⟨_, _, rfl, rfl, rfl⟩
      · obtain ⟨hrl, hrest⟩ := hsp rfl
        simp only [DataW.weights, hu, List.all_cons, Bool.and_eq_true, decide_eq_true_eq, List.length_map, List.all_append] at hz
        obtain ⟨hz0, hz1, hz2⟩ := hz
        rcases Nat.eq_zero_or_pos cap with h0 | h0
        · subst h0
          obtain rfl : len = 0 := by omega
          refine ⟨.emp, ?_, ?_, rfl⟩
          · simp only [WT, true_or, or_true]
          · simp only [cellsOf, VL, V]; exact ⟨_, _, rfl, ⟨a, rfl⟩, rfl⟩
        ·
          have hfirst : ∃ cs0, w.cells? 0 a (P.cellsOf u) = some cs0 := by
            rcases Nat.eq_zero_or_pos len with h1 | h1
            · subst h1
              have h2 := hrest 0 (by omega)
              simp only [Nat.add_zero, Nat.zero_mul] at h2
              have h3 : (rest[0]?).isSome := by rw [List.getElem?_eq_getElem (by omega)]; rfl
              rw [← h2] at h3
              cases h4 : w.cells? 0 (a.add 0) (P.cellsOf u) with
              | none => rw [h4] at h3; cases h3
              | some cs0 => exact ⟨cs0, by simpa [Addr.add] using h4⟩
            · have h2 := hel 0 h1
              simp only [Nat.zero_mul] at h2
              have h3 : (elems[0]?).isSome := by rw [List.getElem?_eq_getElem (by omega)]; rfl
              rw [← h2] at h3
              cases h4 : w.cells? 0 (a.add 0) (P.cellsOf u) with
              | none => rw [h4] at h3; cases h3
              | some cs0 => exact ⟨cs0, by simpa [Addr.add] using h4⟩
          obtain ⟨cs0, hcs0⟩ := hfirst
          obtain ⟨hl0, hg0⟩ := cells_get hcs0
          have hspot : a.spot = none := by
            have : ∃ v, cs0[0]? = some v := ⟨_, List.getElem?_eq_getElem (by omega)⟩
            obtain ⟨v, hv⟩ := this
            have := hg0 0 v hv
            exact cell_none (by simpa [Addr.add] using this)
          have hblk : a.block < w.heap.size := World.cells?_block hcs0 (by omega)

          have key : ∀ i, i < len → ∃ y : AVal, WT e y ∧ VE (ctx0 w (allS w)) es y a.block (a.off + i * es) := by
            intro i hi
            have h2 := hel i hi
            have h3 : elems[i]? = some (elems[i]'(by omega)) := List.getElem?_eq_getElem (by omega)
            rw [h3] at h2
            cases h4 : w.cells? 0 (a.add (i * P.cellsOf u)) (P.cellsOf u) with
            | none => rw [h4] at h2; cases h2
            | some cs1 =>
              rw [h4] at h2
              simp only [Option.bind_some] at h2
              obtain ⟨y, hy, hvy, hsy⟩ := trod_wt e u m cs1 _ hke h2 (weights_sub hz1 (List.mem_map_of_mem (List.getElem_mem (by omega))))
              refine ⟨y, hy, VE_of_cells (by omega) ?_⟩
              obtain ⟨_, hg1⟩ := cells_get h4
              refine VC_of_cells hvy fun j v hj => ?_
              have := hg1 j v hj
              show w.cell? _ = _
              have e1 : (a.add (i * P.cellsOf u)).add j = ⟨a.block, a.off + i * es + j, none⟩ := by
                obtain ⟨ab, ao, asp⟩ := a
                simp only at hspot
                subst hspot
                simp only [Addr.add]
                split <;> split <;> simp_all <;> omega
              rw [e1] at this
              exact this
          have hlist : ∀ k, k ≤ len → ∃ ys : List AVal, ys.length = k ∧ (∀ y ∈ ys, WT e y) ∧ VR (ctx0 w (allS w)) es ys a.block a.off := by
            intro k
            induction k with
            | zero => exact fun _ => ⟨[], rfl, (fun _ h => by cases h), by simp only [VR]⟩
            | succ k ih =>
              intro hk'
              obtain ⟨ys, h1, h2, h3⟩ := ih (by omega)
              obtain ⟨y, h4, h5⟩ := key k (by omega)
              refine ⟨ys ++ [y], by simp [h1], ?_, VR.append h3 ?_⟩
              · intro z hz'
                rcases List.mem_append.1 hz' with h | h
                · exact h2 z h
                · simp at h; subst h; exact h4
              · simp only [VR]
                rw [h1]
                exact ⟨h5, trivial⟩
          obtain ⟨ys, h1, h2, h3⟩ := hlist len (Nat.le_refl _)
          refine ⟨.slc es ys, ?_, ?_, rfl⟩
          · simp only [WT]
            refine .inr (.inr ⟨ys, rfl, h2, ?_⟩)
            rw [h1, ← hbe]
            have : len * P.bytesOf u ≤ (elems.length + rest.length) * P.bytesOf u := Nat.mul_le_mul_right _ (by omega)
            simp only [reachBytes] at hz0
            omega
          · simp only [cellsOf, VL, V]
            refine ⟨_, _, rfl, ⟨a.block, a.off, cap, ?_, by omega, .inr hblk, h3⟩, rfl⟩
            obtain ⟨ab, ao, asp⟩ := a
            simp only at hspot
            subst hspot
            rw [h1]
    · cases hk
  | .struct fs, t, n, cs, x, hk, h, hz => by
    simp only [tyOk] at hk
    split at hk
    · rename_i gs hu
      simp only [Bool.and_eq_true, decide_eq_true_eq] at hk
      obtain ⟨xs, m, rfl, rfl, hcl, hxl, hget⟩ := DataW.trod_struct hu h
      simp only [DataW.weights, hu] at hz
      obtain ⟨ps, hp1, hp2, hp3⟩ := fields_wt fs gs.toList 0 m cs (xs.map (·.1)) hk.2 (by rw [hcl, hk.1]; omega)
        (by simp [hxl]) (fun i f hf => by
          have := hget i f (by simpa using hf)
          cases hx : xs[i]? with
          | none =>
            have h1 := List.getElem?_eq_none_iff.1 hx
            have h2 : i < gs.toList.length := by
              rcases Nat.lt_or_ge i gs.toList.length with h' | h'
              · exact h'
              · rw [List.getElem?_eq_none h'] at hf; cases hf
            simp at h2
            omega
          | some y => exact ⟨y, by rw [this, hx], by rw [List.getElem?_map, hx]; rfl⟩)
        (by simpa using hz)
      refine ⟨.agg (ps.flatMap cellsOf), ?_, ?_, ?_⟩
      · simp only [WT]; exact ⟨ps, rfl, hp1⟩
      · simp only [cellsOf]
        have : cs = (cs.drop 0).take (ATy.sizeL fs) := by rw [List.drop_zero, List.take_of_length_le (by omega)]
        rw [this]
        exact hp2
      · simp only [cellsOf, ATy.size]
        exact hp3
    · cases hk
  | .arr k e, t, n, cs, x, hk, h, hz => by
    simp only [tyOk] at hk
    split at hk
    · rename_i mm u hu
      simp only [Bool.and_eq_true, decide_eq_true_eq] at hk
      obtain ⟨⟨⟨rfl, hce⟩, hct⟩, hke⟩ := hk
      obtain ⟨xs, m, rfl, rfl, hcl, hxl, hget⟩ := DataW.trod_array hu h
      simp only [DataW.weights, hu] at hz
      have hlist : ∀ j, j ≤ mm → ∃ ys : List AVal, ys.length = j ∧ (∀ y ∈ ys, WT e y) ∧ VL (ctx0 w (allS w)) (ys.flatMap cellsOf) (cs.take (j * ATy.size e)) ∧ (ys.flatMap cellsOf).length = j * ATy.size e := by
        intro j
        induction j with
        | zero => exact fun _ => ⟨[], rfl, (fun _ h => by cases h), by simp [VL], by simp⟩
        | succ j ih =>
          intro hj
          obtain ⟨ys, h1, h2, h3, h3'⟩ := ih (by omega)
          have hg := hget j (by omega)
          rw [List.getElem?_eq_getElem (by omega)] at hg
          obtain ⟨y, hy, hvy, hsy⟩ := trod_wt e u m _ _ hke hg (weights_sub hz (List.mem_map_of_mem (List.getElem_mem (by omega))))
          refine ⟨ys ++ [y], by simp [h1], ?_, ?_, ?_⟩
          · intro z hz'
            rcases List.mem_append.1 hz' with h | h
            · exact h2 z h
            · simp at h; subst h; exact hy
          · have e1 : cs.take ((j + 1) * ATy.size e) = cs.take (j * ATy.size e) ++ (cs.drop (j * ATy.size e)).take (ATy.size e) := by
              rw [Nat.succ_mul, List.take_add]
            rw [e1, List.flatMap_append]
            refine VL.append h3 ?_
            rw [hce] at hvy
            simpa using hvy
          · simp [h3', hsy, Nat.succ_mul]
      obtain ⟨ys, h1, h2, h3, h4⟩ := hlist mm (Nat.le_refl _)
      refine ⟨.agg (ys.flatMap cellsOf), ?_, ?_, ?_⟩
      · simp only [WT]; exact ⟨ys, rfl, h1, h2⟩
      · simp only [cellsOf]
        rw [List.take_of_length_le (by omega)] at h3
        exact h3
      · simp only [cellsOf, ATy.size]
        exact h4
    · cases hk
theorem fields_wt : ∀ (fs : List ATy) (gs : List Field) (off m : Nat) (cs : List Value) (ds : List (DataW H)), fieldsOk P fs gs off = true → off + ATy.sizeL fs ≤ cs.length → ds.length = gs.length →
    (∀ (i : Nat) (f : Field), gs[i]? = some f → ∃ y, DataW.trod enc P w 0 (fun _ => true) true m f.type ((cs.drop f.offset).take (P.cellsOf f.type)) = some y ∧ ds[i]? = some y.1) →
    (DataW.weightsEach P (gs.map (·.type)) ds).all (· ≤ reachBytes) = true →
    ∃ ps, WTL fs ps ∧ VL (ctx0 w (allS w)) (ps.flatMap cellsOf) ((cs.drop off).take (ATy.sizeL fs)) ∧ (ps.flatMap cellsOf).length = ATy.sizeL fs
  | [], gs, off, m, cs, ds, hk, hl, hd, hget, hz => ⟨[], by simp only [WTL], by simp [ATy.sizeL, VL], by simp [ATy.sizeL]⟩
  | a :: as0, [], off, m, cs, ds, hk, hl, hd, hget, hz => by simp [fieldsOk] at hk
  | a :: as0, f :: gs, off, m, cs, ds, hk, hl, hd, hget, hz => by
    simp only [fieldsOk, Bool.and_eq_true, decide_eq_true_eq] at hk
    obtain ⟨⟨⟨rfl, hc⟩, hk1⟩, hk2⟩ := hk
    simp only [ATy.sizeL] at hl
    obtain ⟨y, hy1, hy2⟩ := hget 0 f rfl
    cases ds with
    | nil => simp at hd
    | cons d ds =>
      simp at hy2
      subst hy2
      simp only [List.map_cons, DataW.weightsEach, List.all_append, Bool.and_eq_true] at hz
      obtain ⟨p, hp1, hp2, hp3⟩ := trod_wt a f.type m _ y hk1 hy1 hz.1
      obtain ⟨ps, hq1, hq2, hq3⟩ := fields_wt as0 gs (f.offset + ATy.size a) m cs ds hk2 (by omega) (by simpa using hd) (fun i g hg => by
        obtain ⟨z, hz1, hz2⟩ := hget (i + 1) g (by simpa using hg)
        exact ⟨z, hz1, by simpa using hz2⟩) hz.2
      refine ⟨p :: ps, ?_, ?_, ?_⟩
      · simp only [WTL]; exact ⟨p, ps, rfl, hp1, hq1⟩
      · simp only [ATy.sizeL, List.flatMap_cons]
        rw [List.take_add, List.drop_drop]
        rw [hc] at hp2
        exact VL.append hp2 hq2
      · simp [ATy.sizeL, hp3, hq3]
end
theorem arg_wt {ty : ATy} {t : TypeId} {v : Value} {d : DataW H} {ps : List MemPlace} {base : Nat} {r : Reach} (hk : tyOk P ty t = true) (hv : Value.okWide P w r base t v) (h : DataW.Trod enc P w 0 (fun _ => true) true t v d ps)
    (hz : (d.weights P t).all (· ≤ reachBytes) = true) : ∃ a, WT ty a ∧ V (ctx0 w (allS w)) a v := by
  obtain ⟨n, h⟩ := h
  obtain ⟨a, h1, h2, h3⟩ := trod_wt ty t n _ _ hk h hz
  refine ⟨a, h1, ?_⟩
  have hsc : isAggTy ty = false → v.cells.toList = [v] → V (ctx0 w (allS w)) a v := by
    intro e1 e2
    rw [h1.cells e1, e2] at h2
    simp only [VL, List.cons.injEq] at h2
    obtain ⟨v', r, ⟨rfl, _⟩, h, _⟩ := h2
    exact h
  have hag : ∀ cs, v = .agg cs → ∀ xs, a = .agg xs → V (ctx0 w (allS w)) a v := by
    rintro cs rfl xs rfl
    simp only [V]
    exact ⟨cs.toList, by simp, by simpa [cellsOf, Value.cells] using h2⟩
  cases ty with
  | bool =>
    simp only [tyOk] at hk
    split at hk
    · rename_i hu
      obtain ⟨b, rfl⟩ := okWide_bool hu hv
      exact hsc rfl rfl
    · cases hk
  | int k =>
    simp only [tyOk] at hk
    split at hk
    · rename_i k' hu
      obtain ⟨b, rfl⟩ := okWide_int hu hv
      exact hsc rfl rfl
    · cases hk
  | str =>
    simp only [tyOk] at hk
    split at hk
    · rename_i hu
      obtain ⟨b, rfl⟩ := okWide_string hu hv
      exact hsc rfl rfl
    · cases hk
  | slice es bytes e =>
    simp only [tyOk] at hk
    split at hk
    · rename_i u hu
      obtain ⟨b, l, c, rfl⟩ := okWide_slice hu hv
      exact hsc rfl rfl
    · cases hk
  | struct fs =>
    simp only [tyOk] at hk
    split at hk
    · rename_i gs hu
      obtain ⟨cs, rfl, _⟩ := okWide_struct hu hv
      simp only [WT] at h1
      obtain ⟨ps, rfl, _⟩ := h1
      exact hag _ rfl _ rfl
    · cases hk
  | arr k e =>
    simp only [tyOk] at hk
    split at hk
    · rename_i m u hu
      simp only [Value.okWide, hu] at hv
      obtain ⟨cs, rfl, _⟩ := hv
      simp only [WT] at h1
      obtain ⟨ps, rfl, _⟩ := h1
      exact hag _ rfl _ rfl
    · cases hk
def tysOk (P : Program) : List ATy → List TypeId → Bool
  | [], [] => true
  | a :: as0, t :: ts => tyOk P a t && tysOk P as0 ts
  | _, _ => false
theorem args_wt : ∀ {tys : List ATy} {ts : List TypeId} {vs : List Value} {ds : List (DataW H)} {ps : List MemPlace} {base : Nat}, tysOk P tys ts = true →
    (∀ (j : Nat) t v, ts[j]? = some t → vs[j]? = some v → Value.okWide P w .any base t v) → DataW.TrodAll enc P w 0 (fun _ => true) true ts vs ds ps →
    (DataW.weightsEach P ts ds).all (· ≤ reachBytes) = true → ∃ as0, WTL tys as0 ∧ VL (ctx0 w (allS w)) as0 vs
  | [], [], vs, ds, ps, base, hk, hv, h, hz => by
    obtain ⟨rfl, _, _⟩ := trodAll_nil h
    exact ⟨[], by simp only [WTL], by simp only [VL]⟩
  | [], _ :: _, vs, ds, ps, base, hk, hv, h, hz => by simp [tysOk] at hk
  | _ :: _, [], vs, ds, ps, base, hk, hv, h, hz => by simp [tysOk] at hk
  | ty :: tys, t :: ts, vs, ds, ps, base, hk, hv, h, hz => by
    simp only [tysOk, Bool.and_eq_true] at hk
    obtain ⟨v, vs', d, ds', p, q, rfl, rfl, rfl, h1, h2⟩ := trodAll_cons h
    simp only [DataW.weightsEach, List.all_append, Bool.and_eq_true] at hz
    obtain ⟨a, ha, hva⟩ := arg_wt hk.1 (hv 0 t v rfl rfl) h1 hz.1
    obtain ⟨as0, has, hvas⟩ := args_wt hk.2 (fun j t v ht hv' => hv (j + 1) t v (by simpa using ht) (by simpa using hv')) h2 hz.2
    refine ⟨a :: as0, ?_, ?_⟩
    · simp only [WTL]; exact ⟨a, as0, rfl, ha, has⟩
    · simp only [VL]; exact ⟨v, vs', rfl, hva, hvas⟩
theorem trodAll_below (hl : laidOutB P = true) : ∀ {ts : List TypeId} (hr : ts.all (fun t => P.readableRec t && decide (t < P.types.size)) = true) {W W' : World} {vs : List Value} {ds : List (DataW H)} {ps : List MemPlace},
    DataW.TrodAll enc P W 0 (fun _ => true) true ts vs ds ps → Below W.heap.size W W' → DataW.TrodAll enc P W' 0 (fun b => decide (b < W.heap.size)) true ts vs ds ps
  | [], hr, W, W', vs, ds, ps, h, hb => by
    obtain ⟨rfl, rfl, rfl⟩ := trodAll_nil h
    exact trodAll_mk0
  | t :: ts, hr, W, W', vs, ds, ps, h, hb => by
    simp only [List.all_cons, Bool.and_eq_true, decide_eq_true_eq] at hr
    obtain ⟨v, vs', d, ds', p, q, rfl, rfl, rfl, h1, h2⟩ := trodAll_cons h
    refine trodAll_cons_mk (Below.trod hl hr.1.1 hr.1.2 h1 hb ?_) (trodAll_below hl hr.2 h2 hb)
    obtain ⟨m, hm⟩ := h1
    exact fun x hx => DataW.trod_lt m _ _ _ hm x hx
end
theorem returns_of_laid_shaped {H : Type} {enc : TypeId × Value → H} {a : Assume} {C : Checked} {os : Os} {f : FuncId} {fn : Func} {s : ChangeSpec} {conds : List PathCond} {apart fresh handsOn again : Bool} {X : World → Array Value → Prop}
    (hX : ∀ (w w' : World) (args : Array Value), w.heap = w'.heap → X w args → X w' args)
    (own : ownKnob C.prog.godebug = none) (started : os.Started) (noInit : C.prog.inits.idxOf? f = none) (hfn : C.prog.funcs[f]? = some fn)
    (witness : ∃ (w : World) (tape : Tape) (i : Input), w.os = os ∧ (w.forCall tape i).Shaped C.prog ∧ i.vars = [] ∧ Input.okWide C.prog (w.forCall tape i) .any w.heap.size f i ∧
      ((s.pre enc C.prog fn conds apart (w.forCall tape i).memory i.args ∧ X (w.forCall tape i).memory i.args) ∧ sizedMet enc C.prog fn (OpenSpec.ofChange s) apart (w.forCall tape i).memory i.args) ∧ a.holds C.prog (lone (Frame.enter C.prog f i.args .normal) [] (w.forCall tape i)))
    (contract : ∀ (W : World) (base : Nat) (args : Array Value) (ds gs : List (DataW H)) (before : List MemPlace),
      (∀ (j : Nat) t v, fn.params[j]? = some t → args[j]? = some v → Value.okWide C.prog W .any base t v) →
      DataW.Whole enc C.prog fn.params.toList s.vars apart W args.toList ds gs before →
      conds.all (PathCond.test C.prog ⟨fn.params.toList, ds, s.plain.varTypes C.prog, gs⟩) = true →
      (DataW.weightsEach C.prog (fn.params.toList ++ s.plain.varTypes C.prog) (ds ++ gs)).all (· ≤ reachBytes) = true → X W args → W.ShapedOpen C.prog →
      a.holds C.prog (lone (Frame.enter C.prog f args .normal) [] W) →
      Calls C.prog f args W fun e W' => ∃ v, e = .returned v ∧ s.post enc C.prog fn apart fresh handsOn again W args v W') :
    ReturnsInHanded a C os f .any (fun w args => (s.pre enc C.prog fn conds apart w args ∧ X w args) ∧ sizedMet enc C.prog fn (OpenSpec.ofChange s) apart w args) (s.post enc C.prog fn apart fresh handsOn again) := by
  refine returnsInHanded_of_calls own started noInit witness ?_
  intro w tape i _ hsh _ hok hpre hholds
  obtain ⟨_, _, _, fn', hfn', _, _, _, _, hval⟩ := hok
  have e : fn' = fn := Option.some.inj (hfn'.symm.trans hfn)
  subst e
  obtain ⟨⟨⟨ds, gs, before, hw, hc⟩, hx⟩, hz⟩ := hpre
  have hw' := DataW.Whole.of_heap (w' := w.forCall tape i) (by rfl) hw
  refine (contract (w.forCall tape i) w.heap.size i.args ds gs before hval hw' hc (hz.weights hw) (hX _ _ _ (by rfl) hx) hsh hholds).mono fun e W' ⟨v, he, hp⟩ => ?_
  subst he
  exact ChangeSpec.post_blind hp
theorem law_post {H : Type} {enc : TypeId × Value → H} {C : Cfg} {P : Program} {f : FuncId} {fn : Func} {x : XFunc} {s : ChangeSpec} {d : Nat} {tys : List ATy} {tb : TypeId} (ok : CfgOk P C) (hx : C.xf f = some x) (hfn : P.funcs[f]? = some fn)
    (hvars : s.vars = []) (hres : fn.resultTypes = #[tb]) (htb : P.underlying tb = some .bool) (hspec : ∀ ds : List (DataW H), ds.length = fn.params.size → (s.fn H ds).results = [.lit (.bool true)] ∧ (s.fn H ds).args = ds ∧ (s.fn H ds).vars = [])
    (hlaid : laidOutB P = true) (hr : fn.params.toList.all (fun t => P.readableRec t && decide (t < P.types.size)) = true) (hty : tysOk P tys fn.params.toList = true)
    (hlaw : ∀ as0, WTL tys as0 → pureF C d f as0 = some (.bool true))
    {W : World} {base : Nat} {args : Array Value} {ds gs : List (DataW H)} {before : List MemPlace} (hLd : Laid P W)
    (hval : ∀ (j : Nat) t v, fn.params[j]? = some t → args[j]? = some v → Value.okWide P W .any base t v)
    (hW : DataW.Whole enc P fn.params.toList s.vars false W args.toList ds gs before)
    (hsz : (DataW.weightsEach P (fn.params.toList ++ s.plain.varTypes P) (ds ++ gs)).all (· ≤ reachBytes) = true) :
    Calls P f args W fun e W' => ∃ v, e = .returned v ∧ s.post enc P fn false true false false W args v W' := by
  have hW' := hW
  obtain ⟨p, q, hA, hV, rfl, hfz, hnd⟩ := hW
  rw [hvars] at hV
  obtain ⟨rfl, rfl⟩ := trodVars_none hV
  have hlen : ∀ {ts : List TypeId} {vs : List Value} {ds : List (DataW H)} {ps : List MemPlace}, DataW.TrodAll enc P W 0 (fun _ => true) true ts vs ds ps → ds.length = ts.length := by
    intro ts
    induction ts with
    | nil => intro vs ds ps h; obtain ⟨_, rfl, _⟩ := trodAll_nil h; rfl
    | cons t ts ih => intro vs ds ps h; obtain ⟨v, vs', d, ds', p, q, rfl, rfl, rfl, h1, h2⟩ := trodAll_cons h; simp [ih h2]
  have hwe : (DataW.weightsEach P fn.params.toList ds).all (· ≤ reachBytes) = true := by
    have e : ∀ (ts : List TypeId) (ds : List (DataW H)) (us : List TypeId), ds.length = ts.length → DataW.weightsEach P (ts ++ us) ds = DataW.weightsEach P ts ds := by
      intro ts
      induction ts with
      | nil => intro ds us h; cases ds with
        | nil => cases us <;> simp [DataW.weightsEach]
        | cons => simp at h
      | cons t ts ih => intro ds us h; cases ds with
        | nil => simp at h
        | cons d ds => simp only [List.cons_append, DataW.weightsEach]; rw [ih ds us (by simpa using h)]
    rw [List.append_nil, e _ _ _ (hlen hA)] at hsz
    exact hsz
  obtain ⟨as0, has, hvas⟩ := args_wt hty (fun j t v ht hv => hval j t v (by simpa using ht) (by simpa using hv)) hA hwe
  have hp := hlaw as0 has
  classical
  have hs : Sound P f (fun bs => if bs = as0 then some (.bool true) else none) := sound_of ok d fun bs r h => by
    split at h
    · rename_i e; subst e; cases h; exact hp
    · cases h
  have hg := hs as0 (.bool true) (by simp) W (allS W) args.toList (fun _ h => h) hLd hvas
  have hcalls : Calls P f args W fun e w' => ∃ v, e = .returned v ∧ (W.heap.size ≤ w'.heap.size ∧ (∀ b, b < W.heap.size → w'.heap[b]? = W.heap[b]?) ∧ SameEnv W w' ∧ V (ctx0 w' fun b => allS W b ∨ (W.heap.size ≤ b ∧ b < w'.heap.size)) (.bool true) v) := by
    rcases hg with ⟨_, h⟩ | ⟨v, w', h1, _⟩
    · exact h
    · exfalso
      obtain ⟨fn', hfn', hck⟩ := ok.xf f x hx
      unfold chkF at hck
      simp only [Bool.and_eq_true, Bool.not_eq_true', beq_iff_eq, decide_eq_true_eq] at hck
      obtain ⟨⟨⟨⟨⟨hname, hnt⟩, hnp⟩, hle⟩, hres⟩, hbody⟩ := hck
      cases hb : fn'.body with
      | none => rw [hb] at hbody; cases hbody
      | some c =>
        have hrun : (callFunc f args.toList.toArray).run P W = .ok (.enter f args.toList.toArray) W := by
          simp only [callFunc, Sem.run_bind, run_program, Result.andThen_ok, hfn', hname, hb]
          simp
        rw [hrun] at h1
        cases h1
  refine hcalls.mono fun e W' ⟨v, he, hsize, hbel, henv, hv⟩ => ?_
  have hv' := V_bool hv
  subst hv'
  have bel : Below W.heap.size W W' := ⟨henv.1, henv.2.1, henv.2.2, hsize, hbel⟩
  obtain ⟨e1, e2, e3⟩ := hspec ds (by rw [hlen hA]; simp)
  refine ⟨.bool true, he, ds, [], _, [], p, [], hW', ?_, ?_, ?_, bel.frame _, fun h => by cases h⟩
  · rw [List.append_nil, e1, hres]
    exact trodAll_mk1 (shut_bool htb _)
  · rw [List.append_nil, e2]
    exact trodAll_below hlaid hr hA bel
  · rw [List.append_nil, e3, hvars]
    rfl
end Go.Xec
universe u
namespace Go.Xec
open Go
abbrev Un {α : Sort u} (_ : α) : Type := Unit
def Bd {α : Type} (o : Option α) (K : α → Prop) (_ : Un K := ()) : Prop := ∃ v, o = some v ∧ K v
theorem Bd_some {α : Type} (v : α) (K : α → Prop) : Bd (some v) K = K v := propext ⟨(fun ⟨_, h, k⟩ => by cases h; exact k), fun k => ⟨v, rfl, k⟩⟩
theorem Bd_none {α : Type} (K : α → Prop) : Bd none K = False := propext ⟨(fun ⟨_, h, k⟩ => by cases h), False.elim⟩
theorem Bd_bind {α β : Type} (o : Option α) (f : α → Option β) (K : β → Prop) : Bd (o.bind f) K = Bd o fun v => Bd (f v) K := by
  cases o
  · simp only [Option.bind_none, Bd_none]
  · simp only [Option.bind_some, Bd_some]
theorem Bd_map {α β : Type} (o : Option α) (f : α → β) (K : β → Prop) : Bd (o.map f) K = Bd o fun v => K (f v) := by
  cases o
  · simp only [Option.map_none, Bd_none]
  · simp only [Option.map_some, Bd_some]
theorem Bd.mono {α : Type} {o : Option α} {K K' : α → Prop} (h : Bd o K) (hk : ∀ v, K v → K' v) : Bd o K' := by
  obtain ⟨v, e, k⟩ := h; exact ⟨v, e, hk v k⟩
theorem Bd_ext {α : Type} {o : Option α} {K K' : α → Prop} (h : ∀ v, K v = K' v) : Bd o K = Bd o K' := by
  obtain rfl : K = K' := funext h
  rfl
def Cd (v : AVal) (A B : Unit → Prop) (_ : Un A := ()) (_ : Un B := ()) : Prop := match v with
  | .bool b => if b then A () else B ()
  | _ => False
theorem Cd_true (A B : Unit → Prop) : Cd (.bool true) A B = A () := by simp [Cd]
theorem Cd_false (A B : Unit → Prop) : Cd (.bool false) A B = B () := by simp [Cd]
theorem Cd_split {b : Bool} {A B : Unit → Prop} (hA : b = true → A ()) (hB : b = false → B ()) : Cd (.bool b) A B := by
  cases b
  · rw [Cd_false]; exact hB rfl
  · rw [Cd_true]; exact hA rfl
def Gd (v : AVal) (w : Bool) (A B : Unit → Prop) (_ : Un A := ()) (_ : Un B := ()) : Prop := match v with
  | .bool b => if b = w then A () else B ()
  | .undef => B ()
  | _ => False
theorem Gd_tt (A B : Unit → Prop) : Gd (.bool true) true A B = A () := by simp [Gd]
theorem Gd_tf (A B : Unit → Prop) : Gd (.bool true) false A B = B () := by simp [Gd]
theorem Gd_ft (A B : Unit → Prop) : Gd (.bool false) true A B = B () := by simp [Gd]
theorem Gd_ff (A B : Unit → Prop) : Gd (.bool false) false A B = A () := by simp [Gd]
theorem Gd_undef (w : Bool) (A B : Unit → Prop) : Gd .undef w A B = B () := by simp [Gd]
theorem Gd_split {b w : Bool} {A B : Unit → Prop} (hA : b = w → A ()) (hB : b = !w → B ()) : Gd (.bool b) w A B := by
  cases b <;> cases w <;> simp_all [Gd]
section
variable (C : Cfg) (inl : Inl) (fid rid c : Nat)
def Ro (i : Nat) (ops : List XOper) (st : St) (K : St → Prop) : Prop := Bd (runOps C inl fid rid c i ops st) K
def RoF (i : Nat) (ops : List XOper) (st : St) (K : St → List Foot → Prop) : Prop := Bd (runOpsF C inl fid rid c i ops st) fun r => K r.1 r.2
def opV (key : Key) (op : XOp) (tm : Nat → AVal) (hp : Heap) (nc : Nat) : Option (AVal × Heap × Nat) := runP inl (rdOf C key op (arg tm)) hp nc
variable {C inl fid rid c}
theorem Ro_nil (i : Nat) (st : St) (K : St → Prop) : Ro C inl fid rid c i [] st K = K st := by simp [Ro, runOps, Bd_some]
theorem stepO_none (key : Key) (d : Option Nat) (op : XOp) (tm : Nat → AVal) (hp : Heap) (nc : Nat) :
    stepO C inl key ⟨d, none, op⟩ ⟨tm, hp, nc⟩ = (opV C inl key op tm hp nc).map fun r => ⟨putO tm d r.1, r.2.1, r.2.2⟩ := by
  simp [stepO, progO, goes, opV]
theorem Ro_cons (i : Nat) (d : Option Nat) (op : XOp) (os : List XOper) (tm : Nat → AVal) (hp : Heap) (nc : Nat) (K : St → Prop) :
    Ro C inl fid rid c i (⟨d, none, op⟩ :: os) ⟨tm, hp, nc⟩ K = Bd (opV C inl (site fid rid i, c) op tm hp nc) fun r => Ro C inl fid rid c (i + 1) os ⟨putO tm d r.1, r.2.1, r.2.2⟩ K := by
  unfold Ro
  rw [runOps, stepO_none, Bd_bind, Bd_map]
theorem stepO_some (key : Key) (d : Option Nat) (s : Nat) (w : Bool) (op : XOp) (tm : Nat → AVal) (hp : Heap) (nc : Nat) (K : St → Prop) :
    Bd (stepO C inl key ⟨d, some (s, w), op⟩ ⟨tm, hp, nc⟩) K =
      Gd (tm s) w (fun _ => Bd (opV C inl key op tm hp nc) fun r => K ⟨putO tm d r.1, r.2.1, r.2.2⟩) (fun _ => K ⟨putO tm d .undef, hp, nc⟩) := by
  simp only [stepO, progO, goes, Gd]
  cases e : tm s <;> simp [Bd_none, Bd_map, Bd_some, opV, runP, Rd.run, applyW]
  rename_i b
  cases b <;> cases w <;> simp [Bd_map, Bd_some, runP, Rd.run, applyW, opV]
theorem Ro_consG (i : Nat) (d : Option Nat) (s : Nat) (w : Bool) (op : XOp) (os : List XOper) (tm : Nat → AVal) (hp : Heap) (nc : Nat) (K : St → Prop) :
    Ro C inl fid rid c i (⟨d, some (s, w), op⟩ :: os) ⟨tm, hp, nc⟩ K =
      Gd (tm s) w (fun _ => Bd (opV C inl (site fid rid i, c) op tm hp nc) fun r => Ro C inl fid rid c (i + 1) os ⟨putO tm d r.1, r.2.1, r.2.2⟩ K) (fun _ => Ro C inl fid rid c (i + 1) os ⟨putO tm d .undef, hp, nc⟩ K) := by
  unfold Ro
  rw [runOps, Bd_bind, stepO_some]
theorem RoF_nil (i : Nat) (st : St) (K : St → List Foot → Prop) : RoF C inl fid rid c i [] st K = K st [] := by simp [RoF, runOpsF, Bd_some]
theorem RoF_eq (i : Nat) (o : XOper) (os : List XOper) (st : St) (K : St → List Foot → Prop) :
    RoF C inl fid rid c i (o :: os) st K = Bd (stepO C inl (site fid rid i, c) o st) fun st' => RoF C inl fid rid c (i + 1) os st' fun s fs => K s (foot C (site fid rid i, c) o st st'.hp :: fs) := by
  unfold RoF
  rw [runOpsF, Bd_bind]
  refine Bd_ext fun v => ?_
  rw [Bd_map]
theorem RoF_cons (i : Nat) (d : Option Nat) (op : XOp) (os : List XOper) (tm : Nat → AVal) (hp : Heap) (nc : Nat) (K : St → List Foot → Prop) :
    RoF C inl fid rid c i (⟨d, none, op⟩ :: os) ⟨tm, hp, nc⟩ K = Bd (opV C inl (site fid rid i, c) op tm hp nc) fun r => RoF C inl fid rid c (i + 1) os ⟨putO tm d r.1, r.2.1, r.2.2⟩ fun s fs => K s (footP (rdOf C (site fid rid i, c) op (arg tm)) hp r.2.1 :: fs) := by
  rw [RoF_eq, stepO_none, Bd_map]
  rfl
theorem RoF_consG (i : Nat) (d : Option Nat) (s : Nat) (w : Bool) (op : XOp) (os : List XOper) (tm : Nat → AVal) (hp : Heap) (nc : Nat) (K : St → List Foot → Prop) :
    RoF C inl fid rid c i (⟨d, some (s, w), op⟩ :: os) ⟨tm, hp, nc⟩ K =
      Gd (tm s) w (fun _ => Bd (opV C inl (site fid rid i, c) op tm hp nc) fun r => RoF C inl fid rid c (i + 1) os ⟨putO tm d r.1, r.2.1, r.2.2⟩ fun s fs => K s (footP (rdOf C (site fid rid i, c) op (arg tm)) hp r.2.1 :: fs))
        (fun _ => RoF C inl fid rid c (i + 1) os ⟨putO tm d .undef, hp, nc⟩ fun s fs => K s ((.kn [], []) :: fs)) := by
  rw [RoF_eq, stepO_some]
  unfold Gd
  cases e : tm s with
  | bool b =>
    have e1 : ∀ h', foot C (site fid rid i, c) ⟨d, some (s, w), op⟩ ⟨tm, hp, nc⟩ h' = if b = w then footP (rdOf C (site fid rid i, c) op (arg tm)) hp h' else (.kn [], []) := by
      intro h'
      simp only [foot, progO, goes, e]
      cases b <;> cases w <;> rfl
    cases b <;> cases w <;> simp at e1 ⊢ <;> exact iff_of_eq (Bd_ext fun r => by rw [e1])
  | undef =>
    have e1 : ∀ h', foot C (site fid rid i, c) ⟨d, some (s, w), op⟩ ⟨tm, hp, nc⟩ h' = (.kn [], []) := by
      intro h'
      simp only [foot, progO, goes, e]
      rfl
    simp only [e1]
  | _ => rfl
def Ev (fid : Nat) (x : XCode) (st : St) (Q : Out → St → Prop) : Prop := Bd (execC C inl fid x st) fun r => Q r.1 r.2
def EvN (fid : Nat) (n : Nat) (x : XCode) (st : St) (Q : Out → St → Prop) : Prop := Bd (iterN n (fun s => execC C inl fid x s) st) fun r => Q r.1 r.2
end
section
variable {C : Cfg} {inl : Inl} {fid : Nat}
theorem Ev_skip (st : St) (Q : Out → St → Prop) : Ev (C := C) (inl := inl) fid .skip st Q = Q .nrm st := by simp [Ev, execC, Bd_some]
theorem Ev_ret (st : St) (Q : Out → St → Prop) : Ev (C := C) (inl := inl) fid .ret st Q = Q .ret st := by simp [Ev, execC, Bd_some]
theorem Ev_exit (i : Nat) (st : St) (Q : Out → St → Prop) : Ev (C := C) (inl := inl) fid (.exit i) st Q = Q (.ext i) st := by simp [Ev, execC, Bd_some]
def Nx (o : Out) (A : Unit → Prop) (B : Unit → Prop) (_ : Un A := ()) (_ : Un B := ()) : Prop := match o with
  | .nrm => A ()
  | _ => B ()
theorem Nx_nrm (A B : Unit → Prop) : Nx .nrm A B = A () := rfl
theorem Nx_ext (i : Nat) (A B : Unit → Prop) : Nx (.ext i) A B = B () := rfl
theorem Nx_ret (A B : Unit → Prop) : Nx .ret A B = B () := rfl
theorem Ev_seq (a b : XCode) (st : St) (Q : Out → St → Prop) : Ev (C := C) (inl := inl) fid (.seq a b) st Q = Ev (C := C) (inl := inl) fid a st fun o s => Nx o (fun _ => Ev (C := C) (inl := inl) fid b s Q) (fun _ => Q o s) := by
  unfold Ev
  rw [execC]
  cases execC C inl fid a st with
  | none => simp [Bd_none]
  | some r =>
    obtain ⟨o, s⟩ := r
    cases o <;> simp [Bd_some, Nx]
theorem Ev_cond (x : XArg) (a b : XCode) (st : St) (Q : Out → St → Prop) : Ev (C := C) (inl := inl) fid (.cond x a b) st Q = Cd (arg st.tm x) (fun _ => Ev (C := C) (inl := inl) fid a st Q) (fun _ => Ev (C := C) (inl := inl) fid b st Q) := by
  unfold Ev Cd
  rw [execC]
  cases arg st.tm x <;> simp [Bd_none]
  rename_i t
  cases t <;> simp
def Bx (o : Out) (i : Nat) (A : Unit → Prop) (B : Unit → Prop) (_ : Un A := ()) (_ : Un B := ()) : Prop := if o = .ext i then A () else B ()
theorem Bx_nrm (i : Nat) (A B : Unit → Prop) : Bx .nrm i A B = B () := by simp [Bx]
theorem Bx_ret (i : Nat) (A B : Unit → Prop) : Bx .ret i A B = B () := by simp [Bx]
theorem Bx_ext (i j : Nat) (A B : Unit → Prop) : Bx (.ext j) i A B = if j = i then A () else B () := by simp [Bx]
theorem Ev_block (i : Nat) (a : XCode) (st : St) (Q : Out → St → Prop) : Ev (C := C) (inl := inl) fid (.block i a) st Q = Ev (C := C) (inl := inl) fid a st fun o s => Bx o i (fun _ => Q .nrm s) (fun _ => Q o s) := by
  unfold Ev
  rw [execC]
  cases execC C inl fid a st with
  | none => simp [Bd_none]
  | some r =>
    obtain ⟨o, s⟩ := r
    cases o with
    | nrm => simp [Bd_some, Bx]
    | ret => simp [Bd_some, Bx]
    | ext j =>
      by_cases h : j = i
      · subst h; simp [Bd_some, Bx]
      · simp [Bd_some, Bx, h]
theorem Ev_scope (a : XCode) (st : St) (Q : Out → St → Prop) : Ev (C := C) (inl := inl) fid (.scope a) st Q = Ev (C := C) (inl := inl) fid a st Q := rfl
theorem Ev_loop (a : XCode) (st : St) (Q : Out → St → Prop) : Ev (C := C) (inl := inl) fid (.loop a) st Q = EvN (C := C) (inl := inl) fid 4611686018427387904 a st Q := by
  unfold Ev EvN
  rw [execC]
  rfl
theorem EvN_step (n : Nat) (a : XCode) (st : St) (Q : Out → St → Prop) : EvN (C := C) (inl := inl) fid (n + 1) a st Q = Ev (C := C) (inl := inl) fid a st fun o s => Nx o (fun _ => EvN (C := C) (inl := inl) fid n a s Q) (fun _ => Q o s) := by
  unfold Ev EvN
  rw [iterN]
  cases execC C inl fid a st with
  | none => simp [Bd_none]
  | some r =>
    obtain ⟨o, s⟩ := r
    cases o <;> simp [Bd_some, Nx]
theorem Ev.mono {a : XCode} {st : St} {Q Q' : Out → St → Prop} (h : Ev (C := C) (inl := inl) fid a st Q) (hq : ∀ o s, Q o s → Q' o s) : Ev (C := C) (inl := inl) fid a st Q' := Bd.mono h fun r => hq r.1 r.2
theorem EvN_inv {a : XCode} {Q : Out → St → Prop} (I : Nat → St → Prop)
    (hstep : ∀ n st, I n st → Ev (C := C) (inl := inl) fid a st fun o s => Nx o (fun _ => ∃ m, m < n ∧ I m s) (fun _ => Q o s)) :
    ∀ (n N : Nat) (st : St), I n st → n < N → EvN (C := C) (inl := inl) fid N a st Q := by
  intro n
  induction n using Nat.strongRecOn with
  | ind n ih =>
    intro N st hI hN
    cases N with
    | zero => omega
    | succ N =>
      rw [EvN_step]
      refine (hstep n st hI).mono fun o s h => ?_
      cases o with
      | nrm =>
        obtain ⟨m, hm, hI'⟩ := h
        exact ih m hm N s hI' (by omega)
      | ext i => exact h
      | ret => exact h
theorem Ev_loop_inv {a : XCode} {Q : Out → St → Prop} (I : Nat → St → Prop) {n : Nat} {st : St}
    (h0 : I n st) (hn : n < 4611686018427387904)
    (hstep : ∀ n st, I n st → Ev (C := C) (inl := inl) fid a st fun o s => Nx o (fun _ => ∃ m, m < n ∧ I m s) (fun _ => Q o s)) :
    Ev (C := C) (inl := inl) fid (.loop a) st Q := by
  rw [Ev_loop]
  exact EvN_inv I hstep n _ st h0 hn
theorem Ev_reg0 (id : Nat) (ops : List XOper) (tm : Nat → AVal) (hp : Heap) (nc : Nat) (Q : Out → St → Prop) :
    Ev (C := C) (inl := inl) fid (.reg id ops none) ⟨tm, hp, nc⟩ Q = Ro C inl fid id nc 0 ops ⟨tm, hp, nc + 1⟩ fun s => Q .nrm s := by
  unfold Ev Ro
  rw [execC, Bd_map]
  rfl
theorem Ev_reg1 (id : Nat) (ops : List XOper) (tm : Nat → AVal) (hp : Heap) (nc : Nat) (Q : Out → St → Prop) :
    Ev (C := C) (inl := inl) fid (.reg id ops (some ⟨[]⟩)) ⟨tm, hp, nc⟩ Q = Ro C inl fid id nc 0 ops ⟨tm, hp, nc + 1⟩ fun s => Q .nrm s := by
  unfold Ev Ro
  rw [execC, Bd_map]
  rfl
def Hk (b : Bool) (Q : Unit → Prop) (_ : Un Q := ()) : Prop := b = true ∧ Q ()
theorem Hk_true (Q : Unit → Prop) : Hk true Q = Q () := by simp [Hk]
theorem Ev_reg2 (id : Nat) (ops : List XOper) (p : Nat × Nat) (ps : List (Nat × Nat)) (tm : Nat → AVal) (hp : Heap) (nc : Nat) (Q : Out → St → Prop) :
    Ev (C := C) (inl := inl) fid (.reg id ops (some ⟨p :: ps⟩)) ⟨tm, hp, nc⟩ Q = RoF C inl fid id nc 0 ops ⟨tm, hp, nc + 1⟩ fun s fs => Hk (hotOk fs (p :: ps)) fun _ => Q .nrm s := by
  unfold Ev RoF
  rw [execC, Bd_map]
  simp only [runReg]
  cases h : runOpsF C inl fid id nc 0 ops ⟨tm, hp, nc + 1⟩ with
  | none => simp [Bd_none]
  | some r =>
    obtain ⟨s, fs⟩ := r
    simp only [Bd_some]
    by_cases hh : hotOk fs (p :: ps) = true
    · simp [hh, Bd_some, Hk]
    · simp [hh, Bd_none, Hk]
end
section
variable {C : Cfg} {inl : Inl} {key : Key} {tm : Nat → AVal} {hp : Heap} {nc : Nat}
def ldA (agg : Bool) (n : Nat) (x : AVal) (hp : Heap) : Option AVal := (loadR agg n x).run hp
def stA (n : Nat) (x y : AVal) (hp : Heap) : Option Heap := ((storeR n x y).run hp).map fun r => applyW hp r.2
theorem stA_undef (n : Nat) (x y : AVal) (hp : Heap) : ((storeR n x y).run hp).map (fun r => (r.1, applyW hp r.2, nc)) = (stA n x y hp).map fun h => (.undef, h, nc) := by
  have key : ∀ r, (storeR n x y).run hp = some r → r.1 = .undef := by
    intro r h
    unfold storeR at h
    split at h
    · split at h
      · simp only [Rd.run] at h
        split at h
        · split at h
          · cases h; rfl
          · cases h
        · split at h
          · split at h
            · split at h
              · cases h; rfl
              · cases h
            · cases h
          · cases h
        · cases h
        · cases h
      · cases h
    · cases h
  unfold stA
  cases h : (storeR n x y).run hp with
  | none => rfl
  | some r => simp [key r h]
theorem op_mv (x : XArg) : opV C inl key (.mv x) tm hp nc = some (arg tm x, hp, nc) := rfl
def pickA (c a b : AVal) : Option AVal := match c with
  | .bool t => some (if t then a else b)
  | _ => none
theorem pickA_true (a b : AVal) : pickA (.bool true) a b = some a := rfl
theorem pickA_false (a b : AVal) : pickA (.bool false) a b = some b := rfl
theorem op_pick (x y z : XArg) : opV C inl key (.pick x y z) tm hp nc = (pickA (arg tm x) (arg tm y) (arg tm z)).map fun v => (v, hp, nc) := by
  simp only [opV, rdOf, opR, runP, pickA]
  cases arg tm x <;> rfl
theorem op_alloc (cells : List AVal) : opV C inl key (.alloc cells) tm hp nc = some (.ptr key 0 0 0 0, upd hp key (some (.var cells)), nc) := rfl
theorem op_box (x : XArg) : opV C inl key (.box x) tm hp nc = if (cellsOf (arg tm x)).all isSc = true then some (.ptr key 0 0 0 0, upd hp key (some (.var (cellsOf (arg tm x)))), nc) else none := by
  simp only [opV, rdOf, opR, runP]; split <;> rfl
theorem op_build (zero : List AVal) (parts : List (Nat × Nat × XArg)) : opV C inl key (.build zero parts) tm hp nc = (fillA zero (parts.map fun p => (p.1, p.2.1, arg tm p.2.2))).map fun cs => (.agg cs, hp, nc) := by
  simp only [opV, rdOf, opR, runP]; split <;> simp_all [Rd.run, applyW]
theorem op_mkslice (es n : Nat) (zero : AVal) (parts : List (Nat × XArg)) : opV C inl key (.mkslice es zero n parts) tm hp nc =
    (fillE es (List.replicate n zero) (parts.map fun p => (p.1, arg tm p.2))).map fun xs => (.sl key 0 es 0 n, upd hp key (some (.row 0 es xs)), nc) := by
  simp only [opV, rdOf, opR, runP]; split <;> simp_all [Rd.run, applyW]
theorem op_load (agg : Bool) (n : Nat) (x : XArg) : opV C inl key (.load agg n x) tm hp nc = (ldA agg n (arg tm x) hp).map fun v => (v, hp, nc) := by
  simp only [opV, rdOf, opR, runP, Rd.run_bind, ldA]
  cases (loadR agg n (arg tm x)).run hp <;> rfl
theorem op_store (n : Nat) (x y : XArg) : opV C inl key (.store n x y) tm hp nc = (stA n (arg tm x) (arg tm y) hp).map fun h => (.undef, h, nc) := by
  rw [← stA_undef]; rfl
theorem op_ofO {op : XOp} {o : Option AVal} (h : rdOf C key op (arg tm) = .inl ((Rd.ofO o).bind fun v => .ret (v, []))) : opV C inl key op tm hp nc = o.map fun v => (v, hp, nc) := by
  rw [opV, h]; cases o <;> rfl
theorem op_bin (op : BinOp) (x y : XArg) : opV C inl key (.bin op x y) tm hp nc = (binA op (arg tm x) (arg tm y)).map fun v => (v, hp, nc) := op_ofO rfl
def eqBA (neg : Bool) (x y : AVal) : Option AVal := match x, y with
  | .bool a, .bool b => some (.bool (if neg then !(a == b) else a == b))
  | _, _ => none
theorem op_eqB (neg : Bool) (x y : XArg) : opV C inl key (.eqB neg x y) tm hp nc = (eqBA neg (arg tm x) (arg tm y)).map fun v => (v, hp, nc) := by
  simp only [opV, rdOf, opR, runP, eqBA]; split <;> simp_all [Rd.run, applyW]
theorem op_eqN (neg : Bool) (kd : Nat) (x : XArg) : opV C inl key (.eqN neg kd x) tm hp nc = (nilA kd (arg tm x)).map fun b => (.bool (if neg then !b else b), hp, nc) := by
  simp only [opV, rdOf, opR, runP]; cases nilA kd (arg tm x) <;> rfl
def eqAA (neg : Bool) (ks : List Nat) (x y : AVal) : Option AVal := match x, y with
  | .agg xs, .agg ys => (eqCells ks xs ys).map fun b => .bool (if neg then !b else b)
  | _, _ => none
theorem op_eqA (neg : Bool) (ks : List Nat) (x y : XArg) : opV C inl key (.eqA neg ks x y) tm hp nc = (eqAA neg ks (arg tm x) (arg tm y)).map fun v => (v, hp, nc) := by
  simp only [opV, rdOf, opR, runP, eqAA]
  cases arg tm x <;> try rfl
  cases arg tm y <;> try rfl
  rename_i xs ys
  simp only
  cases eqCells ks xs ys <;> rfl
theorem op_un (op : UnOp) (x : XArg) : opV C inl key (.un op x) tm hp nc = (unA op (arg tm x)).map fun v => (v, hp, nc) := op_ofO rfl
def convA (k : IntKind) (x : AVal) : Option AVal := match x with
  | .int _ n => some (.int k (k.wrap n))
  | _ => none
theorem op_conv (k : IntKind) (x : XArg) : opV C inl key (.conv k x) tm hp nc = (convA k (arg tm x)).map fun v => (v, hp, nc) := by
  simp only [opV, rdOf, opR, runP, convA]; cases arg tm x <;> rfl
theorem op_fa (off : Nat) (x : XArg) : opV C inl key (.fa off x) tm hp nc = (faA off (arg tm x)).map fun v => (v, hp, nc) := op_ofO rfl
def fldA (agg : Bool) (n off : Nat) (x : AVal) : Option AVal := match x with
  | .agg cs => takeV agg n off cs
  | _ => none
theorem op_fld (agg : Bool) (n off : Nat) (x : XArg) : opV C inl key (.fld agg n off x) tm hp nc = (fldA agg n off (arg tm x)).map fun v => (v, hp, nc) := by
  simp only [opV, rdOf, opR, runP, fldA]
  cases arg tm x <;> try rfl
  rename_i cs
  simp only
  cases takeV agg n off cs <;> rfl
theorem op_iaA (n es : Nat) (x i : XArg) : opV C inl key (.iaA n es x i) tm hp nc = (iaAA n es (arg tm x) (arg tm i)).map fun v => (v, hp, nc) := op_ofO rfl
theorem op_iaS (es : Nat) (x i : XArg) : opV C inl key (.iaS es x i) tm hp nc = (iaSA es (arg tm x) (arg tm i)).map fun v => (v, hp, nc) := op_ofO rfl
theorem op_ixA (agg : Bool) (n es : Nat) (x i : XArg) : opV C inl key (.ixA agg n es x i) tm hp nc = (ixAA agg n es (arg tm x) (arg tm i)).map fun v => (v, hp, nc) := op_ofO rfl
theorem op_ixS (x i : XArg) : opV C inl key (.ixS x i) tm hp nc = (ixSA (arg tm x) (arg tm i)).map fun v => (v, hp, nc) := op_ofO rfl
def mkSA (es bytes : Nat) (l c : AVal) : Option Nat := match l, c with
  | .int _ l, .int _ c => if 0 ≤ l ∧ l ≤ c ∧ bytes * c ≤ 281474976710656 then some l.toNat else none
  | _, _ => none
theorem op_slV (es : Nat) (x : XArg) (lo hi mx : Option XArg) : opV C inl key (.slV es x lo hi mx) tm hp nc = (slVA es (arg tm x) (lo.map (arg tm)) (hi.map (arg tm)) (mx.map (arg tm))).map fun v => (v, hp, nc) := op_ofO rfl
theorem op_lenV (x : XArg) : opV C inl key (.lenV x) tm hp nc = (lenVA (arg tm x)).map fun v => (v, hp, nc) := op_ofO rfl
theorem op_mnx (m : Bool) (x : XArg) (xs : List XArg) : opV C inl key (.mnx m x xs) tm hp nc = (mnxA m (arg tm x) (xs.map (arg tm))).map fun v => (v, hp, nc) := op_ofO rfl
def extA (x : AVal) (i : Nat) : Option AVal := match x with
  | .tup xs => xs[i]?
  | _ => none
theorem op_ext (x : XArg) (i : Nat) : opV C inl key (.ext x i) tm hp nc = (extA (arg tm x) i).map fun v => (v, hp, nc) := by
  simp only [opV, rdOf, opR, runP, extA]
  cases arg tm x <;> try rfl
  rename_i xs
  simp only
  cases xs[i]? <;> rfl
theorem op_mkf (f : Fn) (a b : List XArg) : opV C inl key (.mkf f a b) tm hp nc = some (.fn f (a.map (arg tm)) (b.map (arg tm)), hp, nc) := rfl
theorem op_mki (t : TypeId) (x : XArg) : opV C inl key (.mki t x) tm hp nc = some (.ifc t (arg tm x), hp, nc) := rfl
def appA (es bytes : Nat) (key : Key) (x y : AVal) (hp : Heap) : Option (AVal × Heap) := ((appR es bytes key x y).run hp).map fun r => (r.1, applyW hp r.2)
theorem op_app (es bytes : Nat) (x y : XArg) : opV C inl key (.app es bytes x y) tm hp nc = (appA es bytes key (arg tm x) (arg tm y) hp).map fun r => (r.1, r.2, nc) := by
  simp only [opV, rdOf, opR, runP, appA]
  cases (appR es bytes key (arg tm x) (arg tm y)).run hp <;> rfl
def b2sA (x : AVal) (hp : Heap) : Option AVal := match x with
  | .str _ => none
  | x => ((elemsR 1 x).run hp).bind fun ys => (bytesOf ys).map fun s => .str ⟨s.toArray⟩
def rngSA (x : AVal) : Option ByteArray := match x with
  | .str s => some s
  | _ => none
theorem op_mkM : opV C inl key .mkM tm hp nc = some (.mp key, upd hp key (some (.obj (.map [] 0))), nc) := rfl
def callX (C : Cfg) (inl : Inl) (f : AVal) (xs : List AVal) (hp : Heap) (nc : Nat) : Option (AVal × Heap × Nat) :=
  match target f xs with
  | some (g, vs) => runP inl (match C.Γ g with | some F => .inl (callR F vs) | none => .inr (g, vs)) hp nc
  | none => none
theorem op_call (f : XArg) (xs : List XArg) : opV C inl key (.call f xs) tm hp nc = callX C inl (arg tm f) (xs.map (arg tm)) hp nc := by
  simp only [opV, rdOf, callX]
  cases target (arg tm f) (xs.map (arg tm)) with
  | none => rfl
  | some p =>
    obtain ⟨g, vs⟩ := p
    simp only
    cases C.Γ g <;> rfl
def invX (C : Cfg) (inl : Inl) (m : String) (x : AVal) (xs : List AVal) (hp : Heap) (nc : Nat) : Option (AVal × Heap × Nat) :=
  match x with
  | .ifc t v => match C.μ t m with
    | some g => callX C inl (.fn (.func g) [] []) (v :: xs) hp nc
    | none => none
  | _ => none
theorem op_inv (m : String) (x : XArg) (xs : List XArg) : opV C inl key (.inv m x xs) tm hp nc = invX C inl m (arg tm x) (xs.map (arg tm)) hp nc := by
  simp only [opV, rdOf, invX]
  cases arg tm x <;> try rfl
  rename_i t v
  simp only
  cases C.μ t m with
  | none => rfl
  | some g =>
    simp only [callX, target, List.nil_append, List.append_nil]
    cases C.Γ g <;> rfl
theorem invX_ifc {m : String} {t : TypeId} {g : FuncId} {v : AVal} {xs : List AVal} (hm : C.μ t m = some g) : invX C inl m (.ifc t v) xs hp nc = callX C inl (.fn (.func g) [] []) (v :: xs) hp nc := by
  simp only [invX, hm]
theorem tasA_ifc (t t' : TypeId) (z v : AVal) : tasA t z (.ifc t' v) = some (if t' = t then .tup [v, .bool true] else .tup [z, .bool false]) := rfl
theorem tasA_nili (t : TypeId) (z : AVal) : tasA t z .nili = some (.tup [z, .bool false]) := rfl
theorem taiA_ifc (ys ns : List TypeId) (t : TypeId) (v : AVal) : taiA ys ns (.ifc t v) = if ys.contains t = true then some (.tup [.ifc t v, .bool true]) else if ns.contains t = true then some (.tup [.nili, .bool false]) else none := rfl
theorem taiA_nili (ys ns : List TypeId) : taiA ys ns .nili = some (.tup [.nili, .bool false]) := rfl
theorem call_known {g : FuncId} {F : List AVal → Option AVal} {xs : List AVal} {r : AVal} (hg : C.Γ g = some F) (hl : (lendL freeze xs).run hp = some (xs, [])) (hr : F xs = some r) :
    callX C inl (.fn (.func g) [] []) xs hp nc = some (r, hp, nc) := by
  simp only [callX, target, List.nil_append, List.append_nil, hg, runP, callR, Rd.run_bind, hl, Option.bind_some, hr, Rd.run, List.map_nil, ite_self, Option.map_some, applyW]
theorem call_inl {g : FuncId} {xs fs cs : List AVal} (hg : C.Γ g = none) : callX C inl (.fn (.func g) fs cs) xs hp nc = inl g (fs ++ xs ++ cs) hp nc := by
  simp only [callX, target, hg, runP]
theorem arg_t (n : Nat) : arg tm (.t n) = tm n := rfl
theorem arg_c (v : AVal) : arg tm (.c v) = v := rfl
theorem putO_some (d : Nat) (v : AVal) : putO tm (some d) v = updT tm d v := rfl
theorem putO_none (v : AVal) : putO tm none v = tm := rfl
theorem updT_eq (d : Nat) (v : AVal) (m : Nat) : updT tm d v m = if m = d then v else tm m := rfl
theorem upd_eq (h : Heap) (k : Key) (b : Option Blk) (k' : Key) : upd h k b k' = if k' = k then b else h k' := rfl
theorem ldA_ptr (agg : Bool) (n : Nat) (k : Key) (g i es off : Nat) : ldA agg n (.ptr k g i es off) hp = (hp k).bind fun b => (b.cs g i es).bind (takeV agg n off) := by
  simp only [ldA, loadR, Rd.run]
  cases hp k with
  | none => rfl
  | some b => simp [Rd.run_ofO]
theorem ldA_pvo (agg : Bool) (n : Nat) (cs : List AVal) (off : Nat) : ldA agg n (.pvo cs off) hp = takeV agg n off cs := by
  simp [ldA, loadR, Rd.run_ofO]
theorem cs_var0 (cells : List AVal) (es : Nat) : (Blk.var cells).cs 0 0 es = some cells := by simp [Blk.cs]
theorem takeV_agg (n off : Nat) (cs : List AVal) : takeV true n off cs = if off + n ≤ cs.length then some (.agg ((cs.drop off).take n)) else none := rfl
theorem takeV_one (n off : Nat) (cs : List AVal) : takeV false n off cs = cs[off]? := rfl
end
def Fin (o : Out) (A : Unit → Prop) (_ : Un A := ()) : Prop := match o with
  | .ext _ => False
  | _ => A ()
theorem Fin_nrm (A : Unit → Prop) : Fin .nrm A = A () := rfl
theorem Fin_ret (A : Unit → Prop) : Fin .ret A = A () := rfl
def Ends (v : AVal) (hp : Heap) (r : AVal) : Prop := ((lend freeze v).run hp).map (·.1) = some r
theorem resL_nil (st : St) : resL st [] = some [] := rfl
theorem resL_tmp (tm : Nat → AVal) (hp : Heap) (nc t : Nat) (rs : List XRes) : resL ⟨tm, hp, nc⟩ (.tmp t :: rs) = (resL ⟨tm, hp, nc⟩ rs).map fun vs => tm t :: vs := by
  simp only [resL, resR]
  cases resL ⟨tm, hp, nc⟩ rs <;> rfl
theorem resL_cell (tm : Nat → AVal) (hp : Heap) (nc a n : Nat) (g : Bool) (rs : List XRes) : resL ⟨tm, hp, nc⟩ (.cell a g n :: rs) = (ldA g n (tm a) hp).bind fun v => (resL ⟨tm, hp, nc⟩ rs).map fun vs => v :: vs := by
  simp only [resL, resR, ldA]
  cases (loadR g n (tm a)).run hp with
  | none => rfl
  | some v => cases resL ⟨tm, hp, nc⟩ rs <;> rfl
theorem one_one (v : AVal) : one [v] = v := rfl
theorem one_two (v u : AVal) (vs : List AVal) : one (v :: u :: vs) = .tup (v :: u :: vs) := rfl
theorem one_nil : one [] = .tup [] := rfl
theorem pureF_of {C : Cfg} {d : Nat} {f : FuncId} {x : XFunc} {xs : List AVal} {r : AVal} (hx : C.xf f = some x) (hl : xs.length = x.np)
    (h : Ev (C := C) (inl := inlD C d) f x.body ⟨tm0 xs, fun _ => none, 0⟩ fun o st => Fin o fun _ => Bd (resL st x.res) fun vs => Ends (one vs) st.hp r) :
    pureF C (d + 1) f xs = some r := by
  obtain ⟨⟨o, st⟩, h1, h2⟩ := h
  unfold pureF
  simp only [inlD, hx, execF, hl, if_true, h1]
  cases o with
  | nrm => obtain ⟨vs, h3, h4⟩ := h2; simp only [h3, Option.map_some]; exact h4
  | ret => obtain ⟨vs, h3, h4⟩ := h2; simp only [h3, Option.map_some]; exact h4
  | ext i => exact h2.elim
theorem inl_of {C : Cfg} {d : Nat} {f : FuncId} {x : XFunc} {xs : List AVal} {hp : Heap} {nc : Nat} {K : AVal × Heap × Nat → Prop} (hx : C.xf f = some x) (hl : xs.length = x.np)
    (h : Ev (C := C) (inl := inlD C d) f x.body ⟨tm0 xs, hp, nc⟩ fun o st => Fin o fun _ => Bd (resL st x.res) fun vs => K (one vs, st.hp, st.nc)) :
    Bd (inlD C (d + 1) f xs hp nc) K := by
  obtain ⟨⟨o, st⟩, h1, h2⟩ := h
  have h3 : ∃ vs, resL st x.res = some vs ∧ K (one vs, st.hp, st.nc) := by
    cases o with
    | nrm => exact h2
    | ret => exact h2
    | ext i => exact h2.elim
  obtain ⟨vs, h3, h4⟩ := h3
  refine ⟨(one vs, st.hp, st.nc), ?_, h4⟩
  simp only [inlD, hx, execF, hl, if_true, h1]
  cases o with
  | nrm => simp only [h3, Option.map_some]
  | ret => simp only [h3, Option.map_some]
  | ext i => exact h2.elim
attribute [irreducible] Bd Cd Gd Nx Bx Fin Hk Ro RoF Ev EvN
end Go.Xec
namespace Go.Xec
open Go
def F_add64 : List AVal → Option AVal
  | [.int .u64 x, .int .u64 y, .int .u64 c] => if 0 ≤ x ∧ 0 ≤ y ∧ 0 ≤ c ∧ c ≤ 1 then some (.tup [.int .u64 ((x + y + c) % 18446744073709551616), .int .u64 ((x + y + c) / 18446744073709551616)]) else none
  | _ => none
def F_sub64 : List AVal → Option AVal
  | [.int .u64 x, .int .u64 y, .int .u64 c] => if 0 ≤ x ∧ 0 ≤ y ∧ y < 18446744073709551616 ∧ 0 ≤ c ∧ c ≤ 1 then some (.tup [.int .u64 ((x - y - c) % 18446744073709551616), .int .u64 (if x < y + c then 1 else 0)]) else none
  | _ => none
theorem F_add64_eq {x y c : Int} (h1 : 0 ≤ x) (h2 : 0 ≤ y) (h3 : 0 ≤ c) (h4 : c ≤ 1) : F_add64 [.int .u64 x, .int .u64 y, .int .u64 c] = some (.tup [.int .u64 ((x + y + c) % 18446744073709551616), .int .u64 ((x + y + c) / 18446744073709551616)]) := by
  simp [F_add64, h1, h2, h3, h4]
theorem F_sub64_eq {x y c : Int} (h1 : 0 ≤ x) (h2 : 0 ≤ y) (h3 : y < 18446744073709551616) (h4 : 0 ≤ c) (h5 : c ≤ 1) : F_sub64 [.int .u64 x, .int .u64 y, .int .u64 c] = some (.tup [.int .u64 ((x - y - c) % 18446744073709551616), .int .u64 (if x < y + c then 1 else 0)]) := by
  simp [F_sub64, h1, h2, h3, h4, h5]
theorem VL_3 {x : Ctx} {a b c : AVal} {vs : List Value} (h : VL x [a, b, c] vs) : ∃ u v w, vs = [u, v, w] ∧ V x a u ∧ V x b v ∧ V x c w := by
  simp only [VL] at h
  obtain ⟨u, _, rfl, hu, v, _, rfl, hv, w, _, rfl, hw, rfl⟩ := h
  exact ⟨u, v, w, rfl, hu, hv, hw⟩
theorem sound_add64 {P : Program} {f : FuncId} {fn : Func} (hf : P.funcs[f]? = some fn) (hname : (fn.name == "runtime.NumGoroutine") = false) (hb : fn.body.isNone = true) (hn : Extern.findNext fn = none) (he : Extern.find fn = some add64Entry) :
    Sound P f F_add64 := by
  intro xs r hr w S vs hS _ hl
  unfold F_add64 at hr
  split at hr
  · rename_i x y c
    split at hr
    · rename_i hc
      cases hr
      obtain ⟨h1, h2, h3, h4⟩ := hc
      obtain ⟨u1, u2, u3, rfl, e1, e2, e3⟩ := VL_3 hl
      rw [V_int e1, V_int e2, V_int e3]
      obtain ⟨x, rfl⟩ := Int.eq_ofNat_of_zero_le h1
      obtain ⟨y, rfl⟩ := Int.eq_ofNat_of_zero_le h2
      obtain ⟨c, rfl⟩ := Int.eq_ofNat_of_zero_le h3
      refine .inr ⟨.tuple #[.int .u64 (((x + y + c : Nat) : Int) % 18446744073709551616), .int .u64 (((x + y + c : Nat) : Int) / 18446744073709551616)], w, ?_, Nat.le_refl _, fun _ _ => rfl, SameEnv.refl _, ?_⟩
      · rw [run_callFunc_extern hf hname hb hn he, run_add64 x y c (by omega) (by omega) (by omega) (by omega)]
        simp only [Result.andThen]
        congr 5 <;> omega
      · simp only [V, VL]
        refine ⟨_, rfl, _, _, rfl, ?_, _, _, rfl, ?_, rfl⟩ <;> congr 1
    · cases hr
  · cases hr
theorem sound_sub64 {P : Program} {f : FuncId} {fn : Func} (hf : P.funcs[f]? = some fn) (hname : (fn.name == "runtime.NumGoroutine") = false) (hb : fn.body.isNone = true) (hn : Extern.findNext fn = none)
    (he : ∀ x y c : Nat, c ≤ 1 → ∀ w : World, (Extern.find fn).map (fun e => (e #[.int .u64 x, .int .u64 y, .int .u64 c]).run P w) =
      some (.ok (.tuple #[.int .u64 (((x + 18446744073709551616 - y - c) % 18446744073709551616 : Nat) : Int), .int .u64 ((if x < y + c then 1 else 0 : Nat) : Int)]) w)) :
    Sound P f F_sub64 := by
  intro xs r hr w S vs hS _ hl
  unfold F_sub64 at hr
  split at hr
  · rename_i x y c
    split at hr
    · rename_i hc
      cases hr
      obtain ⟨h1, h2, h2', h3, h4⟩ := hc
      obtain ⟨u1, u2, u3, rfl, e1, e2, e3⟩ := VL_3 hl
      rw [V_int e1, V_int e2, V_int e3]
      obtain ⟨x, rfl⟩ := Int.eq_ofNat_of_zero_le h1
      obtain ⟨y, rfl⟩ := Int.eq_ofNat_of_zero_le h2
      obtain ⟨c, rfl⟩ := Int.eq_ofNat_of_zero_le h3
      have h5 := he x y c (by omega) w
      cases h6 : Extern.find fn with
      | none => rw [h6] at h5; cases h5
      | some e =>
      rw [h6] at h5
      simp only [Option.map_some, Option.some.injEq] at h5
      refine .inr ⟨.tuple #[.int .u64 ((((x + 18446744073709551616 - y - c) % 18446744073709551616 : Nat)) : Int), .int .u64 ((if x < y + c then 1 else 0 : Nat) : Int)], w, ?_, Nat.le_refl _, fun _ _ => rfl, SameEnv.refl _, ?_⟩
      · rw [run_callFunc_extern hf hname hb hn h6, h5]
        rfl
      · simp only [V, VL]
        refine ⟨_, rfl, _, _, rfl, ?_, _, _, rfl, ?_, rfl⟩
        · congr 1; omega
        · congr 1; split <;> split <;> omega
    · cases hr
  · cases hr
end Go.Xec
