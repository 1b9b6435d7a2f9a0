/-
  What a loop does not write it leaves; loops over rows; functions that are known by what the interpreter itself answers.
-/
import Derived.Test.YtppehejnnjlkfaaGreatDoorXW
set_option linter.unusedVariables false
set_option linter.unusedSimpArgs false
namespace Go.Xec
open Go

/-- Is a place among those that are written? -/
def wrO (os : List XOper) (t : Nat) : Bool := match os with
  | [] => false
  | o :: os => (match o.dst with | some d => d == t | none => false) || wrO os t
def wrC : XCode → Nat → Bool
  | .skip, _ => false
  | .reg _ ops _, t => wrO ops t
  | .seq a b, t => wrC a t || wrC b t
  | .cond _ a b, t => wrC a t || wrC b t
  | .block _ c, t => wrC c t
  | .loop c, t => wrC c t
  | .exit _, _ => false
  | .ret, _ => false
  | .bad, _ => false

theorem stepO_tm {C : Cfg} {inl : Inl} {key : Key} {o : XOper} {st st' : St} (h : stepO C inl key o st = some st') {t : Nat} (ht : o.dst ≠ some t) : st'.tm t = st.tm t := by
  unfold stepO at h
  cases hp : progO C key o st.tm with
  | none => rw [hp] at h; cases h
  | some p =>
    rw [hp] at h
    simp only at h
    cases hr : runP inl p st.hp st.nc with
    | none => rw [hr] at h; cases h
    | some r =>
      rw [hr] at h
      simp only [Option.map_some, Option.some.injEq] at h
      subst h
      simp only [putO]
      cases hd : o.dst with
      | none => rfl
      | some d =>
        simp only [updT]
        split
        · rename_i e; subst e; exact absurd hd ht
        · rfl
theorem wrO_cons {o : XOper} {os : List XOper} {t : Nat} (h : wrO (o :: os) t = false) : o.dst ≠ some t ∧ wrO os t = false := by
  simp only [wrO, Bool.or_eq_false_iff] at h
  refine ⟨fun e => ?_, h.2⟩
  rw [e] at h
  simp at h
theorem runOps_tm {C : Cfg} {inl : Inl} {fid rid c : Nat} {t : Nat} : ∀ {os : List XOper} {i : Nat} {st st' : St}, wrO os t = false → runOps C inl fid rid c i os st = some st' → st'.tm t = st.tm t
  | [], i, st, st', _, h => by simp only [runOps, Option.some.injEq] at h; subst h; rfl
  | o :: os, i, st, st', hw, h => by
    obtain ⟨h1, h2⟩ := wrO_cons hw
    simp only [runOps] at h
    cases hs : stepO C inl (site fid rid i, c) o st with
    | none => rw [hs] at h; cases h
    | some s =>
      rw [hs] at h
      exact (runOps_tm h2 h).trans (stepO_tm hs h1)
theorem runOpsF_tm {C : Cfg} {inl : Inl} {fid rid c : Nat} {t : Nat} : ∀ {os : List XOper} {i : Nat} {st st' : St} {fs : List Foot}, wrO os t = false → runOpsF C inl fid rid c i os st = some (st', fs) → st'.tm t = st.tm t
  | [], i, st, st', fs, _, h => by simp only [runOpsF, Option.some.injEq, Prod.mk.injEq] at h; rw [← h.1]
  | o :: os, i, st, st', fs, hw, h => by
    obtain ⟨h1, h2⟩ := wrO_cons hw
    simp only [runOpsF] at h
    cases hs : stepO C inl (site fid rid i, c) o st with
    | none => rw [hs] at h; cases h
    | some s =>
      rw [hs] at h
      simp only [Option.bind_some] at h
      cases hq : runOpsF C inl fid rid c (i + 1) os s with
      | none => rw [hq] at h; cases h
      | some q =>
        rw [hq] at h
        simp only [Option.map_some, Option.some.injEq, Prod.mk.injEq] at h
        obtain ⟨q1, q2⟩ := q
        rw [← h.1]
        exact (runOpsF_tm h2 hq).trans (stepO_tm hs h1)
theorem runReg_tm {C : Cfg} {inl : Inl} {fid rid : Nat} {ops : List XOper} {d : Option XDraw} {st st' : St} {t : Nat} (hw : wrO ops t = false) (h : runReg C inl fid rid ops d st = some st') : st'.tm t = st.tm t := by
  unfold runReg at h
  split at h
  · exact (runOps_tm (st := { st with nc := st.nc + 1 }) hw h)
  · split at h
    · exact (runOps_tm (st := { st with nc := st.nc + 1 }) hw h)
    · split at h
      · rename_i hq
        split at h
        · cases h
          exact (runOpsF_tm (st := { st with nc := st.nc + 1 }) hw hq)
        · cases h
      · cases h
theorem iterN_tm {f : St → Res} {t : Nat} (hf : ∀ {s o s'}, f s = some (o, s') → s'.tm t = s.tm t) : ∀ {n : Nat} {st : St} {o : Out} {st' : St}, iterN n f st = some (o, st') → st'.tm t = st.tm t
  | 0, st, o, st', h => by simp [iterN] at h
  | n + 1, st, o, st', h => by
    rw [iterN] at h
    cases hs : f st with
    | none => rw [hs] at h; cases h
    | some r =>
      obtain ⟨o1, s1⟩ := r
      rw [hs] at h
      cases o1 with
      | nrm => exact (iterN_tm hf h).trans (hf hs)
      | ext i => simp only [Option.some.injEq, Prod.mk.injEq] at h; rw [← h.2]; exact hf hs
      | ret => simp only [Option.some.injEq, Prod.mk.injEq] at h; rw [← h.2]; exact hf hs
theorem execC_tm {C : Cfg} {inl : Inl} {fid : Nat} {t : Nat} : ∀ {a : XCode} {st : St} {o : Out} {st' : St}, wrC a t = false → execC C inl fid a st = some (o, st') → st'.tm t = st.tm t
  | .skip, st, o, st', _, h => by simp only [execC, Option.some.injEq, Prod.mk.injEq] at h; rw [← h.2]
  | .exit _, st, o, st', _, h => by simp only [execC, Option.some.injEq, Prod.mk.injEq] at h; rw [← h.2]
  | .ret, st, o, st', _, h => by simp only [execC, Option.some.injEq, Prod.mk.injEq] at h; rw [← h.2]
  | .bad, st, o, st', _, h => by simp [execC] at h
  | .reg id ops d, st, o, st', hw, h => by
    simp only [execC] at h
    cases hr : runReg C inl fid id ops d st with
    | none => rw [hr] at h; cases h
    | some s =>
      rw [hr] at h
      simp only [Option.map_some, Option.some.injEq, Prod.mk.injEq] at h
      rw [← h.2]
      exact runReg_tm hw hr
  | .seq a b, st, o, st', hw, h => by
    simp only [wrC, Bool.or_eq_false_iff] at hw
    simp only [execC] at h
    cases ha : execC C inl fid a st with
    | none => rw [ha] at h; cases h
    | some r =>
      obtain ⟨o1, s1⟩ := r
      rw [ha] at h
      cases o1 with
      | nrm => exact (execC_tm hw.2 h).trans (execC_tm hw.1 ha)
      | ext i => simp only [Option.some.injEq, Prod.mk.injEq] at h; rw [← h.2]; exact execC_tm hw.1 ha
      | ret => simp only [Option.some.injEq, Prod.mk.injEq] at h; rw [← h.2]; exact execC_tm hw.1 ha
  | .cond c a b, st, o, st', hw, h => by
    simp only [wrC, Bool.or_eq_false_iff] at hw
    simp only [execC] at h
    split at h
    · split at h
      · exact execC_tm hw.1 h
      · exact execC_tm hw.2 h
    · cases h
  | .block id a, st, o, st', hw, h => by
    simp only [wrC] at hw
    simp only [execC] at h
    split at h
    · rename_i ha
      split at h
      · simp only [Option.some.injEq, Prod.mk.injEq] at h; rw [← h.2]; exact execC_tm hw ha
      · simp only [Option.some.injEq, Prod.mk.injEq] at h; rw [← h.2]; exact execC_tm hw ha
    · exact execC_tm hw h
  | .loop a, st, o, st', hw, h => by
    simp only [wrC] at hw
    simp only [execC] at h
    exact iterN_tm (fun hs => execC_tm hw hs) h

section
variable {C : Cfg} {inl : Inl} {fid : Nat}
theorem Ev.and_tm {a : XCode} {st : St} {Q : Out → St → Prop} (h : Ev (C := C) (inl := inl) fid a st Q) : Ev (C := C) (inl := inl) fid a st fun o s => Q o s ∧ ∀ t, wrC a t = false → s.tm t = st.tm t := by
  unfold Ev Bd at h ⊢
  obtain ⟨r, h1, h2⟩ := h
  exact ⟨r, h1, h2, fun t ht => execC_tm ht h1⟩
/-- A loop; what it does not write is as it was. -/
theorem Ev_loopW {a : XCode} {Q : Out → St → Prop} {tm0 : Nat → AVal} {hp0 : Heap} {nc0 : Nat} (I : Nat → (Nat → AVal) → Heap → Nat → Prop) {n : Nat}
    (h0 : I n tm0 hp0 nc0) (hn : n < 4611686018427387904)
    (hstep : ∀ n tm hp nc, (∀ t, wrC a t = false → tm t = tm0 t) → I n tm hp nc → Ev (C := C) (inl := inl) fid a ⟨tm, hp, nc⟩ fun o s => Nx o (fun _ => ∃ m, m < n ∧ I m s.tm s.hp s.nc) (fun _ => Q o s)) :
    Ev (C := C) (inl := inl) fid (.loop a) ⟨tm0, hp0, nc0⟩ Q := by
  refine Ev_loop_inv (I := fun n st => (∀ t, wrC a t = false → st.tm t = tm0 t) ∧ I n st.tm st.hp st.nc) ⟨fun t _ => rfl, h0⟩ hn ?_
  rintro n ⟨tm, hp, nc⟩ ⟨hc, hI⟩
  refine (hstep n tm hp nc hc hI).and_tm.mono fun o s h => ?_
  obtain ⟨h, h'⟩ := h
  cases o with
  | nrm =>
    rw [Nx_nrm] at h ⊢
    obtain ⟨m, hm, hI'⟩ := h
    exact ⟨m, hm, fun t ht => (h' t ht).trans (hc t ht), hI'⟩
  | ext i => rw [Nx_ext] at h ⊢; exact h
  | ret => rw [Nx_ret] at h ⊢; exact h
/-- A loop whose rounds are counted up in a place, to a length. -/
theorem Ev_range {a : XCode} {Q : Out → St → Prop} {tm0 : Nat → AVal} {hp0 : Heap} {nc0 : Nat} (ti len : Nat) (J : Nat → (Nat → AVal) → Heap → Nat → Prop)
    (hn : len < 4611686018427387904) (hi : tm0 ti = .int .i64 0) (h0 : J 0 tm0 hp0 nc0)
    (hstep : ∀ i tm hp nc, i ≤ len → (∀ t, wrC a t = false → tm t = tm0 t) → tm ti = .int .i64 i → J i tm hp nc →
      Ev (C := C) (inl := inl) fid a ⟨tm, hp, nc⟩ fun o s => Nx o (fun _ => i < len ∧ s.tm ti = .int .i64 (i + 1 : Nat) ∧ J (i + 1) s.tm s.hp s.nc) (fun _ => Q o s)) :
    Ev (C := C) (inl := inl) fid (.loop a) ⟨tm0, hp0, nc0⟩ Q := by
  refine Ev_loopW (I := fun n tm hp nc => ∃ i, i ≤ len ∧ n = len - i ∧ tm ti = .int .i64 (i : Nat) ∧ J i tm hp nc) (n := len) ⟨0, by omega, by omega, hi, h0⟩ hn ?_
  rintro n tm hp nc hc ⟨i, hi, rfl, ht, hJ⟩
  refine (hstep i tm hp nc hi hc ht hJ).mono fun o s h => ?_
  cases o with
  | nrm =>
    rw [Nx_nrm] at h ⊢
    obtain ⟨h1, h2, h3⟩ := h
    exact ⟨len - (i + 1), by omega, i + 1, by omega, rfl, h2, h3⟩
  | ext i => rw [Nx_ext] at h ⊢; exact h
  | ret => rw [Nx_ret] at h ⊢; exact h
/-- A loop over a row that leaves memory as it was. -/
theorem Ev_rangeH {a : XCode} {Q : Out → St → Prop} {tm0 : Nat → AVal} {hp0 : Heap} {nc0 : Nat} (ti len : Nat) (J : Nat → (Nat → AVal) → Prop)
    (hn : len < 4611686018427387904) (hi : tm0 ti = .int .i64 0) (h0 : J 0 tm0)
    (hstep : ∀ i tm nc, i ≤ len → (∀ t, wrC a t = false → tm t = tm0 t) → tm ti = .int .i64 i → J i tm →
      Ev (C := C) (inl := inl) fid a ⟨tm, hp0, nc⟩ fun o s => Nx o (fun _ => i < len ∧ s.tm ti = .int .i64 (i + 1 : Nat) ∧ s.hp = hp0 ∧ J (i + 1) s.tm) (fun _ => Q o s)) :
    Ev (C := C) (inl := inl) fid (.loop a) ⟨tm0, hp0, nc0⟩ Q := by
  refine Ev_range (J := fun i tm hp nc => hp = hp0 ∧ J i tm) ti len hn hi ⟨rfl, h0⟩ ?_
  rintro i tm hp nc hi hc ht ⟨rfl, hJ⟩
  exact hstep i tm nc hi hc ht hJ
end

/-- A function, as the interpreter answers it. -/
theorem sound_self {P : Program} {C : Cfg} (ok : CfgOk P C) (d : Nat) (f : FuncId) : Sound P f (pureF C d f) := sound_of ok d fun _ _ h => h

theorem liveA_ptr (k : Key) (g i es off : Nat) : liveA (.ptr k g i es off) = true := rfl
theorem liveA_pvo (cs : List AVal) (off : Nat) : liveA (.pvo cs off) = true := rfl
theorem liveA_fn (f : FuncId) (a b : List AVal) : liveA (.fn (.func f) a b) = true := rfl
theorem liveA_ifc (t : TypeId) (v : AVal) : liveA (.ifc t v) = true := rfl
theorem mnx_max {k : IntKind} {a b : Int} : mnxA true (.int k a) [.int k b] = some (.int k (max a b)) := by
  simp only [mnxA, if_true]
  congr 2
  split <;> omega
theorem all_ints (k : IntKind) (l : List Int) : ((l.map (AVal.int k)).all fun e => (cellsOf e).all isSc) = true := by simp [cellsOf, isSc]
attribute [go_sem] all_ints liveA_ptr liveA_pvo liveA_fn liveA_ifc
/-! ### texts that are gone through, bytes, maps -/
section
variable {hp : Heap}
theorem rngSA_str (s : ByteArray) : rngSA (.str s) = some s := rfl
def nxtB (k : Key) (b : Blk) (hp : Heap) : Option (AVal × Heap) := match b with
  | .obj (.iter s pos) => if pos < s.size then some (.tup [.bool true, .int .i64 pos, .int .i32 (Utf8.decode s pos).1], upd hp k (some (.obj (.iter s (pos + (Utf8.decode s pos).2))))) else some (.tup [.bool false], hp)
  | _ => none
theorem nxtB_iter (k : Key) (s : ByteArray) (pos : Nat) : nxtB k (.obj (.iter s pos)) hp = if pos < s.size then some (.tup [.bool true, .int .i64 pos, .int .i32 (Utf8.decode s pos).1], upd hp k (some (.obj (.iter s (pos + (Utf8.decode s pos).2))))) else some (.tup [.bool false], hp) := rfl
theorem nxtSA_ptr (k : Key) (es : Nat) : nxtSA (.ptr k 0 0 es 0) hp = (hp k).bind fun b => nxtB k b hp := by
  simp only [nxtSA, nxtSR, Rd.run]
  cases hp k with
  | none => rfl
  | some b =>
    cases b with
    | var => rfl
    | row => rfl
    | obj a =>
      cases a with
      | map => rfl
      | iter s pos =>
        simp only [Option.bind_some, nxtB]
        split <;> rfl
theorem bytesOf_nil : bytesOf [] = some [] := rfl
theorem bytesOf_cons (n : Int) (r : List AVal) : bytesOf (.int .u8 n :: r) = (bytesOf r).map (UInt8.ofNat n.toNat :: ·) := rfl
theorem b2sA_sl (k : Key) (g es off len : Nat) : b2sA (.sl k g es off len) hp = (elemsA 1 (.sl k g es off len) hp).bind fun ys => (bytesOf ys).map fun s => .str ⟨s.toArray⟩ := rfl
theorem b2sA_slc (es : Nat) (xs : List AVal) : b2sA (.slc es xs) hp = (elemsA 1 (.slc es xs) hp).bind fun ys => (bytesOf ys).map fun s => .str ⟨s.toArray⟩ := rfl
/-- A map, in memory. -/
def mapB (b : Blk) : Option (List (AVal × AVal × Nat) × Nat) := match b with
  | .obj (.map es cl) => some (es, cl)
  | _ => none
theorem mapB_map (es : List (AVal × AVal × Nat)) (cl : Nat) : mapB (.obj (.map es cl)) = some (es, cl) := rfl
theorem lkpA_mp (kd : Nat) (c : Bool) (z : AVal) (k : Key) (i : AVal) : lkpA kd c z (.mp k) i hp = (hp k).bind fun b => (mapB b).bind fun m => (findA kd i m.1 0).bind fun r => match r with
    | some (_, v, _) => some (if c then .tup [v, .bool true] else v, hp)
    | none => some (if c then .tup [z, .bool false] else z, hp) := by
  simp only [lkpA, lkpR, Rd.run]
  cases hp k with
  | none => rfl
  | some b =>
    cases b with
    | var => rfl
    | row => rfl
    | obj a =>
      cases a with
      | iter => rfl
      | map es cl =>
        simp only [Option.bind_some, mapB]
        cases findA kd i es 0 with
        | none => rfl
        | some r =>
          cases r with
          | none => rfl
          | some q => obtain ⟨j, v, n⟩ := q; rfl
theorem msetA_mp (kd : Nat) (k : Key) (i v : AVal) : msetA kd (.mp k) i v hp = (hp k).bind fun b => (mapB b).bind fun m => (findA kd i m.1 0).bind fun r => match r with
    | some (j, _, n) => some (.undef, upd hp k (some (.obj (.map (m.1.set j (i, v, n)) m.2))))
    | none => some (.undef, upd hp k (some (.obj (.map (m.1 ++ [(i, v, m.2)]) (m.2 + 1))))) := by
  simp only [msetA, msetR, Rd.run]
  cases hp k with
  | none => rfl
  | some b =>
    cases b with
    | var => rfl
    | row => rfl
    | obj a =>
      cases a with
      | iter => rfl
      | map es cl =>
        simp only [Option.bind_some, mapB]
        cases findA kd i es 0 with
        | none => rfl
        | some r =>
          cases r with
          | none => rfl
          | some q => obtain ⟨j, v, n⟩ := q; rfl
theorem mdelA_mp (kd : Nat) (k : Key) (i : AVal) : mdelA kd (.mp k) i hp = (hp k).bind fun b => (mapB b).bind fun m => (findA kd i m.1 0).bind fun r => match r with
    | some (j, _, _) => some (.tup [], upd hp k (some (.obj (.map (m.1.eraseIdx j) m.2))))
    | none => some (.tup [], upd hp k (some (.obj (.map m.1 m.2)))) := by
  simp only [mdelA, mdelR, Rd.run]
  cases hp k with
  | none => rfl
  | some b =>
    cases b with
    | var => rfl
    | row => rfl
    | obj a =>
      cases a with
      | iter => rfl
      | map es cl =>
        simp only [Option.bind_some, mapB]
        cases findA kd i es 0 with
        | none => rfl
        | some r =>
          cases r with
          | none => rfl
          | some q => obtain ⟨j, v, n⟩ := q; rfl
theorem mentA_mp (kd : Nat) (z : AVal) (k : Key) (i : AVal) : mentA kd z (.mp k) i hp = (hp k).bind fun b => (mapB b).bind fun m => (findA kd i m.1 0).bind fun r => match r with
    | some (j, v, n) => some (.tup [v, .int .i64 n], upd hp k (some (.obj (.map (m.1.set j (i, v, n)) m.2))))
    | none => some (.tup [z, .int .i64 m.2], upd hp k (some (.obj (.map (m.1 ++ [(i, z, m.2)]) (m.2 + 1))))) := by
  simp only [mentA, mentR, Rd.run]
  cases hp k with
  | none => rfl
  | some b =>
    cases b with
    | var => rfl
    | row => rfl
    | obj a =>
      cases a with
      | iter => rfl
      | map es cl =>
        simp only [Option.bind_some, mapB]
        cases findA kd i es 0 with
        | none => rfl
        | some r =>
          cases r with
          | none => rfl
          | some q => obtain ⟨j, v, n⟩ := q; rfl
theorem mstoA_mp (k : Key) (n : Int) (v : AVal) : mstoA (.mp k) (.int .i64 n) v hp = (hp k).bind fun b => (mapB b).bind fun m => (bornA n m.1).bind fun j => (m.1[j]?).bind fun e => some (.undef, upd hp k (some (.obj (.map (m.1.set j (e.1, v, e.2.2)) m.2)))) := by
  simp only [mstoA, mstoR, Rd.run]
  cases hp k with
  | none => rfl
  | some b =>
    cases b with
    | var => rfl
    | row => rfl
    | obj a =>
      cases a with
      | iter => rfl
      | map es cl =>
        simp only [Option.bind_some, mapB]
        cases bornA n es with
        | none => rfl
        | some j =>
          simp only [Option.bind_some]
          cases es[j]? <;> rfl
end
def callMX {C : Cfg} (F : List (AVal × AVal × Nat) → Nat → Option (Option (Nat × List AVal))) (key : Key) (xs : List AVal) (hp : Heap) (nc : Nat) : Option (AVal × Heap × Nat) := ((callMR key F xs).run hp).map fun r => (r.1, applyW hp r.2, nc)
theorem op_callM {C : Cfg} {inl : Inl} {key : Key} {tm : Nat → AVal} {hp : Heap} {nc : Nat} {g : FuncId} {F : List (AVal × AVal × Nat) → Nat → Option (Option (Nat × List AVal))} {xs : List XArg} (hg : C.Γm g = some F) :
    opV C inl key (.callM (.c (.fn (.func g) [] [])) xs) tm hp nc = callMX (C := C) F key (xs.map (arg tm)) hp nc := by
  simp only [opV, rdOf, arg, target, List.nil_append, List.append_nil, hg, runP, callMX]
theorem callMX_mp {C : Cfg} (F : List (AVal × AVal × Nat) → Nat → Option (Option (Nat × List AVal))) (key : Key) (k : Key) (hp : Heap) (nc : Nat) : callMX (C := C) F key [.mp k] hp nc = (hp k).bind fun b => (mapB b).bind fun m => nres key (F m.1 m.2) hp nc := by
  simp only [callMX, callMR, Rd.run]
  cases hp k with
  | none => rfl
  | some b =>
    cases b with
    | var => rfl
    | row => rfl
    | obj a =>
      cases a with
      | iter => rfl
      | map es cl =>
        simp only [Option.bind_some, mapB]
        cases F es cl with
        | none => rfl
        | some r =>
          cases r with
          | none => rfl
          | some q =>
            simp only [nres]
            split <;> rfl
attribute [go_sem] callMX_mp
def callAX (q : TypeId × TypeId × Nat) (xs : List AVal) (hp : Heap) (nc : Nat) : Option (AVal × Heap × Nat) := ((callAR q.1 q.2.1 q.2.2 xs).run hp).map fun r => (r.1, applyW hp r.2, nc)
theorem op_callA {C : Cfg} {inl : Inl} {key : Key} {tm : Nat → AVal} {hp : Heap} {nc : Nat} {g : FuncId} {q : TypeId × TypeId × Nat} {xs : List XArg} (hg : C.Γa g = some q) :
    opV C inl key (.callA (.c (.fn (.func g) [] [])) xs) tm hp nc = callAX q (xs.map (arg tm)) hp nc := by
  simp only [opV, rdOf, arg, target, List.nil_append, List.append_nil, hg, runP, callAX]
theorem callAX_nil (q : TypeId × TypeId × Nat) (v : AVal) (hp : Heap) (nc : Nat) : callAX q [.nili, v] hp nc = some (.bool false, hp, nc) := rfl
theorem callAX_hit {t tp n : Nat} {cs cells : List AVal} {k : Key} {hp : Heap} (nc : Nat) (hk : hp k = some (.var cells)) (h1 : cells.length = n) (h2 : cs.length = n) (h3 : cs.all isSc = true) :
    callAX (t, tp, n) [.ifc t (.agg cs), .ifc tp (.ptr k 0 0 0 0)] hp nc = some (.bool true, upd hp k (some (.var cs)), nc) := by
  unfold callAX callAR
  simp only [h2, h3, and_self, if_true, Rd.run, hk, h1, Option.map_some, applyW]
attribute [go_sem] callAX_nil
attribute [go_sem] rngSA_str nxtB_iter nxtSA_ptr bytesOf_nil bytesOf_cons b2sA_sl b2sA_slc mapB_map lkpA_mp msetA_mp mentA_mp mstoA_mp mdelA_mp

/-! ### slices that are built -/
/-- A slice that holds xs: none yet, or a row of its own that was made at one of some places. -/
def Own (ss : List Nat) (es : Nat) (hp : Heap) (v : AVal) (xs : List AVal) : Prop :=
  (v = .nils ∧ xs = []) ∨ ∃ s c g, s ∈ ss ∧ v = .sl (s, c) g es 0 xs.length ∧ hp (s, c) = some (.row g es xs)
theorem Own.nils (ss : List Nat) (es : Nat) (hp : Heap) : Own ss es hp .nils [] := .inl ⟨rfl, rfl⟩
theorem Own.sl {ss : List Nat} {es : Nat} {hp : Heap} {s c g n : Nat} {xs : List AVal} (hs : s ∈ ss) (hn : n = xs.length) (h : hp (s, c) = some (.row g es xs)) : Own ss es hp (.sl (s, c) g es 0 n) xs :=
  .inr ⟨s, c, g, hs, by rw [hn], h⟩
theorem Own.keep {ss : List Nat} {es : Nat} {hp hp' : Heap} {v : AVal} {xs : List AVal} (h : Own ss es hp v xs) (hk : ∀ k, k.1 ∈ ss → hp' k = hp k) : Own ss es hp' v xs := by
  rcases h with h | ⟨s, c, g, hs, h1, h2⟩
  · exact .inl h
  · exact .inr ⟨s, c, g, hs, h1, (hk _ hs).trans h2⟩
theorem Own.len {ss : List Nat} {es : Nat} {hp : Heap} {v : AVal} {xs : List AVal} (h : Own ss es hp v xs) : lenVA v = some (.int .i64 xs.length) := by
  rcases h with ⟨rfl, rfl⟩ | ⟨s, c, g, hs, rfl, h2⟩ <;> rfl
theorem Own.elems {ss : List Nat} {es : Nat} {hp : Heap} {v : AVal} {xs : List AVal} (h : Own ss es hp v xs) : elemsA es v hp = some xs := by
  rcases h with ⟨rfl, rfl⟩ | ⟨s, c, g, hs, rfl, h2⟩
  · rfl
  · rw [elemsA_sl, h2]; simp only [Option.bind_some, els_row, Nat.zero_add, Nat.le_refl, if_true, List.drop_zero, List.take_length]
theorem Own.sc {ss : List Nat} {es : Nat} {hp : Heap} {v : AVal} {xs : List AVal} (h : Own ss es hp v xs) : isSc v = true := by
  rcases h with ⟨rfl, rfl⟩ | ⟨s, c, g, hs, rfl, h2⟩ <;> rfl
theorem Own.cells {ss : List Nat} {es : Nat} {hp : Heap} {v : AVal} {xs : List AVal} (h : Own ss es hp v xs) : cellsOf v = [v] := by
  rcases h with ⟨rfl, rfl⟩ | ⟨s, c, g, hs, rfl, h2⟩ <;> rfl
/-- What is built, behind an append of values. -/
theorem Own.app {ss : List Nat} {es bytes : Nat} {key : Key} {hp : Heap} {v y : AVal} {xs ys : List AVal} (h : Own ss es hp v xs) (hk : key.1 ∈ ss) (he : elemsA es y hp = some ys) (hl : plainL freeze ys = true)
    (hsc : (ys.all fun e => (cellsOf e).all isSc) = true) (hb : (xs.length + ys.length) * bytes ≤ 140737488355328) :
    ∃ v' hp', appA es bytes key v y hp = some (v', hp') ∧ Own ss es hp' v' (xs ++ ys) ∧ ∀ k, k.1 ∉ ss → hp' k = hp k := by
  rcases h with ⟨rfl, rfl⟩ | ⟨s, c, g, hs, rfl, h2⟩
  · rw [appA_nils, he, Option.bind_some, lendA_plain hl, Option.bind_some]
    simp only [List.map_nil, List.nil_append, applyW]
    cases ys with
    | nil => exact ⟨.nils, hp, by simp, Own.nils _ _ _, fun _ _ => rfl⟩
    | cons y0 ys0 =>
      rw [if_neg (by simp), if_pos (by simpa using hb)]
      refine ⟨_, _, rfl, Own.sl (s := key.1) (c := key.2) hk rfl (upd_same _ _ _), fun k hk' => upd_ne _ _ (fun e => hk' (e ▸ hk))⟩
  · rw [appA_sl, he, Option.bind_some, lendA_plain hl, Option.bind_some]
    rw [if_pos (by simp), h2, Option.bind_some, grown_row, if_pos ⟨by simp, hb, hsc⟩]
    simp only [List.map_nil, List.nil_append, applyW, List.drop_zero]
    refine ⟨_, _, rfl, Own.sl hs (by simp) (upd_same _ _ _), fun k hk' => upd_ne _ _ (fun e => hk' (e ▸ hs))⟩
theorem Own.appAll {ss : List Nat} {es bytes s0 : Nat} {hp : Heap} {v y : AVal} {xs ys : List AVal} (h : Own ss es hp v xs) (hk : s0 ∈ ss) (he : elemsA es y hp = some ys) (hl : plainL freeze ys = true)
    (hsc : (ys.all fun e => (cellsOf e).all isSc) = true) (hb : (xs.length + ys.length) * bytes ≤ 140737488355328) :
    ∃ (V : Nat → AVal) (H : Nat → Heap), (∀ c, appA es bytes (s0, c) v y hp = some (V c, H c)) ∧ ∀ c, Own ss es (H c) (V c) (xs ++ ys) ∧ ∀ k, k.1 ∉ ss → H c k = hp k := by
  have := fun c => h.app (bytes := bytes) (key := (s0, c)) hk he hl hsc hb
  refine ⟨fun c => (this c).choose, fun c => (this c).choose_spec.choose, fun c => (this c).choose_spec.choose_spec.1, fun c => (this c).choose_spec.choose_spec.2⟩
/-- One value more, by way of a row of its own. -/
theorem Own.push {ss : List Nat} {es bytes s0 s1 : Nat} {hp : Heap} {v z : AVal} {xs : List AVal} (h : Own ss es hp v xs) (hk : s0 ∈ ss) (hn : s1 ∉ ss) (hl : plain freeze z = true)
    (hsc : (cellsOf z).all isSc = true) (hb : (xs.length + 1) * bytes ≤ 140737488355328) :
    ∃ (V : Nat → Nat → AVal) (H : Nat → Nat → Heap), (∀ c c', appA es bytes (s0, c) v (.sl (s1, c') 0 es 0 1) (upd hp (s1, c') (some (.row 0 es [z]))) = some (V c c', H c c')) ∧
      ∀ c c', Own ss es (H c c') (V c c') (xs ++ [z]) ∧ ∀ k, k.1 ∉ ss → k.1 ≠ s1 → H c c' k = hp k := by
  have := fun c c' => (h.keep (hp' := upd hp (s1, c') (some (.row 0 es [z]))) fun k hk' => upd_ne _ _ (by rintro rfl; exact hn hk')).app (bytes := bytes) (key := (s0, c)) (y := .sl (s1, c') 0 es 0 1) (ys := [z]) hk
    (by rw [elemsA_sl, upd_same]; simp [els_row]) (by rw [plainL_cons, hl, plainL_nil]; rfl) (by simp [hsc]) hb
  refine ⟨fun c c' => (this c c').choose, fun c c' => (this c c').choose_spec.choose, fun c c' => (this c c').choose_spec.choose_spec.1, fun c c' => ⟨(this c c').choose_spec.choose_spec.2.1, fun k h1 h2 => ?_⟩⟩
  exact ((this c c').choose_spec.choose_spec.2.2 k h1).trans (upd_ne _ _ (by rintro rfl; exact h2 rfl))
/-- What is built, as it is answered. -/
def sliceOf (es : Nat) (v : AVal) (xs : List AVal) : AVal := match v with
  | .nils => .nils
  | _ => .slc es xs
theorem Own.lend {ss : List Nat} {es : Nat} {hp : Heap} {v : AVal} {xs : List AVal} (h : Own ss es hp v xs) (d : Nat) (hl : plainL d xs = true) : lendV (d + 1) v hp = some (sliceOf es v xs) := by
  rcases h with ⟨rfl, rfl⟩ | ⟨s, c, g, hs, rfl, h2⟩
  · exact lendV_plain (plain_nils _)
  · rw [lendV_sl, h2]
    simp only [Option.bind_some, els_row, Nat.zero_add, Nat.le_refl, if_true, List.drop_zero, List.take_length, lendVL_plain hl, Option.map_some]
    rfl
/-- A row that is none, if it is empty. -/
def rowN (es : Nat) (xs : List AVal) : AVal := match xs with
  | [] => .nils
  | _ => .slc es xs
theorem Own.lendN {ss : List Nat} {es : Nat} {hp : Heap} {v : AVal} {xs : List AVal} (h : Own ss es hp v xs) (h0 : xs = [] → v = .nils) (d : Nat) (hl : plainL d xs = true) {hp' : Heap} (hk : ∀ k, k.1 ∈ ss → hp' k = hp k) : lendV (d + 1) v hp' = some (rowN es xs) := by
  rw [(h.keep hk).lend d hl]
  cases xs with
  | nil => rw [h0 rfl]; rfl
  | cons x l =>
    rcases h with ⟨rfl, h⟩ | ⟨s, c, g, hs, rfl, h2⟩
    · simp at h
    · rfl
theorem Own.lendXs {ss : List Nat} {es : Nat} {hp : Heap} {v : AVal} {xs : List AVal} (h : Own ss es hp v xs) (h0 : xs = [] → v = .nils) (d : Nat) (hl : plainL d xs = true) :
    ∃ ks, (∀ k ∈ ks, k.1 ∈ ss) ∧ ∀ hp', (∀ k, k.1 ∈ ss → hp' k = hp k) → Xec.lendX (d + 1) v hp' = some (rowN es xs, ks) := by
  rcases h with ⟨rfl, rfl⟩ | ⟨s, c, g, hs, rfl, h2⟩
  · exact ⟨[], by simp, fun hp' _ => lendX_plain (plain_nils _)⟩
  · refine ⟨[(s, c)], by simpa using hs, fun hp' hk => ?_⟩
    rw [lendX_sl, hk _ hs, h2]
    simp only [Option.bind_some, els_row, Nat.zero_add, Nat.le_refl, if_true, List.drop_zero, List.take_length, lendXL_plain hl, Option.map_some]
    cases xs with
    | nil => cases h0 rfl
    | cons x l => rfl
theorem dropK_ne {ss : List Nat} {ks : List Key} (hk : ∀ k ∈ ks, k.1 ∈ ss) {k : Key} (h : k.1 ∉ ss) (v : AVal) (hp : Heap) : dropK v ks hp k = hp k := by
  unfold dropK
  split
  · rw [applyW_none, if_neg (fun hm => h (hk k hm))]
  · rfl
theorem rowN_rw (l : List Int) : Rw (rowN 1 (i64s l)) l := by
  cases l with
  | nil => exact Rw.nils
  | cons => exact Rw.slc _
theorem Own.lendX {ss : List Nat} {es : Nat} {hp : Heap} {v : AVal} {xs : List AVal} (h : Own ss es hp v xs) (d : Nat) (hl : plainL d xs = true) : ∃ ks, lendX (d + 1) v hp = some (sliceOf es v xs, ks) ∧ ∀ k ∈ ks, k.1 ∈ ss := by
  rcases h with ⟨rfl, rfl⟩ | ⟨s, c, g, hs, rfl, h2⟩
  · exact ⟨[], lendX_plain (plain_nils _), by simp⟩
  · refine ⟨[(s, c)], ?_, by simpa using hs⟩
    rw [lendX_sl, h2]
    simp only [Option.bind_some, els_row, Nat.zero_add, Nat.le_refl, if_true, List.drop_zero, List.take_length, lendXL_plain hl, Option.map_some]
    rfl
theorem Rw.of_own {ss : List Nat} {hp : Heap} {v : AVal} {l : List Int} (h : Own ss 1 hp v (i64s l)) : Rw (sliceOf 1 v (i64s l)) l := by
  rcases h with ⟨rfl, h⟩ | ⟨s, c, g, hs, rfl, h2⟩
  · have : l = [] := by simpa using h
    subst this; exact Rw.nils
  · exact Rw.slc l

theorem turn_k (k : Int) (n : Nat) : ∃ m : Nat, m ≤ n ∧ -((n : Int) + 1) < k.tmod ((n : Int) + 1) ∧ k.tmod ((n : Int) + 1) < (n : Int) + 1 ∧ (k.tmod ((n : Int) + 1) + (n : Int) + 1).tmod ((n : Int) + 1) = (m : Int) := by
  have hp : (0 : Int) < (n : Int) + 1 := by omega
  have h1 := Int.lt_tmod_of_pos k hp
  have h2 := Int.tmod_lt_of_pos k hp
  have h3 : 0 ≤ k.tmod ((n : Int) + 1) + (n : Int) + 1 := by omega
  have h4 := Int.tmod_nonneg ((n : Int) + 1) h3
  have h5 := Int.tmod_lt_of_pos (k.tmod ((n : Int) + 1) + (n : Int) + 1) hp
  refine ⟨((k.tmod ((n : Int) + 1) + (n : Int) + 1).tmod ((n : Int) + 1)).toNat, by omega, h1, h2, by omega⟩

/-! ### rows that come in -/
theorem wt_ints {b : Nat} {a : AVal} (h : WT (.slice 1 b (.int .i64)) a) : ∃ l, Rw a l ∧ l.length * b ≤ 140737488351232 ∧ ∀ x ∈ l, IntKind.i64.min ≤ x ∧ x ≤ IntKind.i64.max := by
  simp only [WT] at h
  rcases h with rfl | rfl | ⟨xs, rfl, h1, h2⟩
  · exact ⟨[], Rw.nils, by simp, by simp⟩
  · exact ⟨[], .inr (.inl ⟨rfl, rfl⟩), by simp, by simp⟩
  · have : ∃ l : List Int, xs = i64s l ∧ ∀ x ∈ l, IntKind.i64.min ≤ x ∧ x ≤ IntKind.i64.max := by
      clear h2
      induction xs with
      | nil => exact ⟨[], rfl, by simp⟩
      | cons x xs ih =>
        obtain ⟨n, rfl, hn⟩ := h1 x (by simp)
        obtain ⟨l, rfl, hl⟩ := ih fun y hy => h1 y (by simp [hy])
        refine ⟨n :: l, rfl, ?_⟩
        intro y hy
        rcases List.mem_cons.1 hy with rfl | hy
        · exact hn
        · exact hl y hy
    obtain ⟨l, rfl, hl⟩ := this
    exact ⟨l, Rw.slc l, by simpa using h2, hl⟩
/-- The first of a row. -/
theorem Rw.cut {a : AVal} {l : List Int} (h : Rw a l) (n : Nat) : Rw (rwTake (min l.length n) a) (l.take n) := by
  have := h.take (min l.length n)
  rwa [show l.take (min l.length n) = l.take n by rw [List.take_eq_take_iff]; omega] at this
theorem mnx_min2 (n m : Nat) : mnxA false (.int .i64 n) [.int .i64 m] = some (.int .i64 ((min n m : Nat) : Int)) := by
  simp only [mnxA, Bool.false_eq_true, if_false]
  congr 2
  split <;> omega
end Go.Xec
