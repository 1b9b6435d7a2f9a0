/-
  Laid together: part 3.
-/
import Derived.Test.YtkonpbcnekcjjaaGreatDoorZT2
set_option linter.unusedVariables false
set_option linter.unusedSimpArgs false
namespace Go.Xec
open Go
def wrO (os : List XOper) (t : Nat) : Bool := match os with
  | [] => false
  | o :: os => (match o.dst with | some d => d == t | none => false) || wrO os t
def wrC : XCode → Nat → Bool
  | .skip, _ => false
  | .reg _ ops _, t => wrO ops t
  | .seq a b, t => wrC a t || wrC b t
  | .cond _ a b, t => wrC a t || wrC b t
  | .block _ c, t => wrC c t
  | .scope c, t => wrC c t
  | .loop c, t => wrC c t
  | .exit _, _ => false
  | .ret, _ => false
  | .bad, _ => false
theorem stepO_tm {C : Cfg} {inl : Inl} {key : Key} {o : XOper} {st st' : St} (h : stepO C inl key o st = some st') {t : Nat} (ht : o.dst ≠ some t) : st'.tm t = st.tm t := by
  unfold stepO at h
  cases hp : progO C key o st.tm with
  | none => rw [hp] at h; cases h
  | some p =>
    rw [hp] at h
    simp only at h
    cases hr : runP inl p st.hp st.nc with
    | none => rw [hr] at h; cases h
    | some r =>
      rw [hr] at h
      simp only [Option.map_some, Option.some.injEq] at h
      subst h
      simp only [putO]
      cases hd : o.dst with
      | none => rfl
      | some d =>
        simp only [updT]
        split
        · rename_i e; subst e; exact absurd hd ht
        · rfl
theorem wrO_cons {o : XOper} {os : List XOper} {t : Nat} (h : wrO (o :: os) t = false) : o.dst ≠ some t ∧ wrO os t = false := by
  simp only [wrO, Bool.or_eq_false_iff] at h
  refine ⟨fun e => ?_, h.2⟩
  rw [e] at h
  simp at h
theorem runOps_tm {C : Cfg} {inl : Inl} {fid rid c : Nat} {t : Nat} : ∀ {os : List XOper} {i : Nat} {st st' : St}, wrO os t = false → runOps C inl fid rid c i os st = some st' → st'.tm t = st.tm t
  | [], i, st, st', _, h => by simp only [runOps, Option.some.injEq] at h; subst h; rfl
  | o :: os, i, st, st', hw, h => by
    obtain ⟨h1, h2⟩ := wrO_cons hw
    simp only [runOps] at h
    cases hs : stepO C inl (site fid rid i, c) o st with
    | none => rw [hs] at h; cases h
    | some s =>
      rw [hs] at h
      exact (runOps_tm h2 h).trans (stepO_tm hs h1)
theorem runOpsF_tm {C : Cfg} {inl : Inl} {fid rid c : Nat} {t : Nat} : ∀ {os : List XOper} {i : Nat} {st st' : St} {fs : List Foot}, wrO os t = false → runOpsF C inl fid rid c i os st = some (st', fs) → st'.tm t = st.tm t
  | [], i, st, st', fs, _, h => by simp only [runOpsF, Option.some.injEq, Prod.mk.injEq] at h; rw [← h.1]
  | o :: os, i, st, st', fs, hw, h => by
    obtain ⟨h1, h2⟩ := wrO_cons hw
    simp only [runOpsF] at h
    cases hs : stepO C inl (site fid rid i, c) o st with
    | none => rw [hs] at h; cases h
    | some s =>
      rw [hs] at h
      simp only [Option.bind_some] at h
      cases hq : runOpsF C inl fid rid c (i + 1) os s with
      | none => rw [hq] at h; cases h
      | some q =>
        rw [hq] at h
        simp only [Option.map_some, Option.some.injEq, Prod.mk.injEq] at h
        obtain ⟨q1, q2⟩ := q
        rw [← h.1]
        exact (runOpsF_tm h2 hq).trans (stepO_tm hs h1)
theorem runReg_tm {C : Cfg} {inl : Inl} {fid rid : Nat} {ops : List XOper} {d : Option XDraw} {st st' : St} {t : Nat} (hw : wrO ops t = false) (h : runReg C inl fid rid ops d st = some st') : st'.tm t = st.tm t := by
  unfold runReg at h
  split at h
  · exact (runOps_tm (st := { st with nc := st.nc + 1 }) hw h)
  · split at h
    · exact (runOps_tm (st := { st with nc := st.nc + 1 }) hw h)
    · split at h
      · rename_i hq
        split at h
        · cases h
          exact (runOpsF_tm (st := { st with nc := st.nc + 1 }) hw hq)
        · cases h
      · cases h
theorem iterN_tm {f : St → Res} {t : Nat} (hf : ∀ {s o s'}, f s = some (o, s') → s'.tm t = s.tm t) : ∀ {n : Nat} {st : St} {o : Out} {st' : St}, iterN n f st = some (o, st') → st'.tm t = st.tm t
  | 0, st, o, st', h => by simp [iterN] at h
  | n + 1, st, o, st', h => by
    rw [iterN] at h
    cases hs : f st with
    | none => rw [hs] at h; cases h
    | some r =>
      obtain ⟨o1, s1⟩ := r
      rw [hs] at h
      cases o1 with
      | nrm => exact (iterN_tm hf h).trans (hf hs)
      | ext i => simp only [Option.some.injEq, Prod.mk.injEq] at h; rw [← h.2]; exact hf hs
      | ret => simp only [Option.some.injEq, Prod.mk.injEq] at h; rw [← h.2]; exact hf hs
theorem execC_tm {C : Cfg} {inl : Inl} {fid : Nat} {t : Nat} : ∀ {a : XCode} {st : St} {o : Out} {st' : St}, wrC a t = false → execC C inl fid a st = some (o, st') → st'.tm t = st.tm t
  | .skip, st, o, st', _, h => by simp only [execC, Option.some.injEq, Prod.mk.injEq] at h; rw [← h.2]
  | .exit _, st, o, st', _, h => by simp only [execC, Option.some.injEq, Prod.mk.injEq] at h; rw [← h.2]
  | .ret, st, o, st', _, h => by simp only [execC, Option.some.injEq, Prod.mk.injEq] at h; rw [← h.2]
  | .bad, st, o, st', _, h => by simp [execC] at h
  | .reg id ops d, st, o, st', hw, h => by
    simp only [execC] at h
    cases hr : runReg C inl fid id ops d st with
    | none => rw [hr] at h; cases h
    | some s =>
      rw [hr] at h
      simp only [Option.map_some, Option.some.injEq, Prod.mk.injEq] at h
      rw [← h.2]
      exact runReg_tm hw hr
  | .seq a b, st, o, st', hw, h => by
    simp only [wrC, Bool.or_eq_false_iff] at hw
    simp only [execC] at h
    cases ha : execC C inl fid a st with
    | none => rw [ha] at h; cases h
    | some r =>
      obtain ⟨o1, s1⟩ := r
      rw [ha] at h
      cases o1 with
      | nrm => exact (execC_tm hw.2 h).trans (execC_tm hw.1 ha)
      | ext i => simp only [Option.some.injEq, Prod.mk.injEq] at h; rw [← h.2]; exact execC_tm hw.1 ha
      | ret => simp only [Option.some.injEq, Prod.mk.injEq] at h; rw [← h.2]; exact execC_tm hw.1 ha
  | .cond c a b, st, o, st', hw, h => by
    simp only [wrC, Bool.or_eq_false_iff] at hw
    simp only [execC] at h
    split at h
    · split at h
      · exact execC_tm hw.1 h
      · exact execC_tm hw.2 h
    · cases h
  | .block id a, st, o, st', hw, h => by
    simp only [wrC] at hw
    simp only [execC] at h
    split at h
    · rename_i ha
      split at h
      · simp only [Option.some.injEq, Prod.mk.injEq] at h; rw [← h.2]; exact execC_tm hw ha
      · simp only [Option.some.injEq, Prod.mk.injEq] at h; rw [← h.2]; exact execC_tm hw ha
    · exact execC_tm hw h
  | .scope a, st, o, st', hw, h => by
    simp only [wrC] at hw
    simp only [execC] at h
    exact execC_tm hw h
  | .loop a, st, o, st', hw, h => by
    simp only [wrC] at hw
    simp only [execC] at h
    exact iterN_tm (fun hs => execC_tm hw hs) h
section
variable {C : Cfg} {inl : Inl} {fid : Nat}
theorem Ev.and_tm {a : XCode} {st : St} {Q : Out → St → Prop} (h : Ev (C := C) (inl := inl) fid a st Q) : Ev (C := C) (inl := inl) fid a st fun o s => Q o s ∧ ∀ t, wrC a t = false → s.tm t = st.tm t := by
  unfold Ev Bd at h ⊢
  obtain ⟨r, h1, h2⟩ := h
  exact ⟨r, h1, h2, fun t ht => execC_tm ht h1⟩
theorem Ev_loopW {a : XCode} {Q : Out → St → Prop} {tm0 : Nat → AVal} {hp0 : Heap} {nc0 : Nat} (I : Nat → (Nat → AVal) → Heap → Nat → Prop) {n : Nat}
    (h0 : I n tm0 hp0 nc0) (hn : n < 4611686018427387904)
    (hstep : ∀ n tm hp nc, (∀ t, wrC a t = false → tm t = tm0 t) → I n tm hp nc → Ev (C := C) (inl := inl) fid a ⟨tm, hp, nc⟩ fun o s => Nx o (fun _ => ∃ m, m < n ∧ I m s.tm s.hp s.nc) (fun _ => Q o s)) :
    Ev (C := C) (inl := inl) fid (.loop a) ⟨tm0, hp0, nc0⟩ Q := by
  refine Ev_loop_inv (I := fun n st => (∀ t, wrC a t = false → st.tm t = tm0 t) ∧ I n st.tm st.hp st.nc) ⟨fun t _ => rfl, h0⟩ hn ?_
  rintro n ⟨tm, hp, nc⟩ ⟨hc, hI⟩
  refine (hstep n tm hp nc hc hI).and_tm.mono fun o s h => ?_
  obtain ⟨h, h'⟩ := h
  cases o with
  | nrm =>
    rw [Nx_nrm] at h ⊢
    obtain ⟨m, hm, hI'⟩ := h
    exact ⟨m, hm, fun t ht => (h' t ht).trans (hc t ht), hI'⟩
  | ext i => rw [Nx_ext] at h ⊢; exact h
  | ret => rw [Nx_ret] at h ⊢; exact h
theorem Ev_range {a : XCode} {Q : Out → St → Prop} {tm0 : Nat → AVal} {hp0 : Heap} {nc0 : Nat} (ti len : Nat) (J : Nat → (Nat → AVal) → Heap → Nat → Prop)
    (hn : len < 4611686018427387904) (hi : tm0 ti = .int .i64 0) (h0 : J 0 tm0 hp0 nc0)
    (hstep : ∀ i tm hp nc, i ≤ len → (∀ t, wrC a t = false → tm t = tm0 t) → tm ti = .int .i64 i → J i tm hp nc →
      Ev (C := C) (inl := inl) fid a ⟨tm, hp, nc⟩ fun o s => Nx o (fun _ => i < len ∧ s.tm ti = .int .i64 (i + 1 : Nat) ∧ J (i + 1) s.tm s.hp s.nc) (fun _ => Q o s)) :
    Ev (C := C) (inl := inl) fid (.loop a) ⟨tm0, hp0, nc0⟩ Q := by
  refine Ev_loopW (I := fun n tm hp nc => ∃ i, i ≤ len ∧ n = len - i ∧ tm ti = .int .i64 (i : Nat) ∧ J i tm hp nc) (n := len) ⟨0, by omega, by omega, hi, h0⟩ hn ?_
  rintro n tm hp nc hc ⟨i, hi, rfl, ht, hJ⟩
  refine (hstep i tm hp nc hi hc ht hJ).mono fun o s h => ?_
  cases o with
  | nrm =>
    rw [Nx_nrm] at h ⊢
    obtain ⟨h1, h2, h3⟩ := h
    exact ⟨len - (i + 1), by omega, i + 1, by omega, rfl, h2, h3⟩
  | ext i => rw [Nx_ext] at h ⊢; exact h
  | ret => rw [Nx_ret] at h ⊢; exact h
end
theorem sound_self {P : Program} {C : Cfg} (ok : CfgOk P C) (d : Nat) (f : FuncId) : Sound P f (pureF C d f) := sound_of ok d fun _ _ h => h
theorem liveA_ptr (k : Key) (g i es off : Nat) : liveA (.ptr k g i es off) = true := rfl
theorem liveA_pvo (cs : List AVal) (off : Nat) : liveA (.pvo cs off) = true := rfl
theorem liveA_fn (f : FuncId) (a b : List AVal) : liveA (.fn (.func f) a b) = true := rfl
theorem liveA_ifc (t : TypeId) (v : AVal) : liveA (.ifc t v) = true := rfl
theorem mnx_max {k : IntKind} {a b : Int} : mnxA true (.int k a) [.int k b] = some (.int k (max a b)) := by
  simp only [mnxA, if_true]
  congr 2
  split <;> omega
attribute [go_sem] liveA_ptr liveA_pvo liveA_fn liveA_ifc
section
variable {hp : Heap}
theorem rngSA_str (s : ByteArray) : rngSA (.str s) = some s := rfl
def nxtB (k : Key) (b : Blk) (hp : Heap) : Option (AVal × Heap) := match b with
  | .obj (.iter s pos) => if pos < s.size then some (.tup [.bool true, .int .i64 pos, .int .i32 (Utf8.decode s pos).1], upd hp k (some (.obj (.iter s (pos + (Utf8.decode s pos).2))))) else some (.tup [.bool false], hp)
  | _ => none
theorem nxtB_iter (k : Key) (s : ByteArray) (pos : Nat) : nxtB k (.obj (.iter s pos)) hp = if pos < s.size then some (.tup [.bool true, .int .i64 pos, .int .i32 (Utf8.decode s pos).1], upd hp k (some (.obj (.iter s (pos + (Utf8.decode s pos).2))))) else some (.tup [.bool false], hp) := rfl
theorem bytesOf_nil : bytesOf [] = some [] := rfl
theorem bytesOf_cons (n : Int) (r : List AVal) : bytesOf (.int .u8 n :: r) = (bytesOf r).map (UInt8.ofNat n.toNat :: ·) := rfl
theorem b2sA_sl (k : Key) (g es off len : Nat) : b2sA (.sl k g es off len) hp = (elemsA 1 (.sl k g es off len) hp).bind fun ys => (bytesOf ys).map fun s => .str ⟨s.toArray⟩ := rfl
theorem b2sA_slc (es : Nat) (xs : List AVal) : b2sA (.slc es xs) hp = (elemsA 1 (.slc es xs) hp).bind fun ys => (bytesOf ys).map fun s => .str ⟨s.toArray⟩ := rfl
def mapB (b : Blk) : Option (List (AVal × AVal × Nat) × Nat) := match b with
  | .obj (.map es cl) => some (es, cl)
  | _ => none
theorem mapB_map (es : List (AVal × AVal × Nat)) (cl : Nat) : mapB (.obj (.map es cl)) = some (es, cl) := rfl
end
def callAX (q : List AVal → Rd Outp) (xs : List AVal) (hp : Heap) (nc : Nat) : Option (AVal × Heap × Nat) := ((q xs).run hp).map fun r => (r.1, applyW hp r.2, nc)
theorem callAX_nil (t tp n : Nat) (v : AVal) (hp : Heap) (nc : Nat) : callAX (callAR t tp n) [.nili, v] hp nc = some (.bool false, hp, nc) := rfl
attribute [go_sem] callAX_nil
attribute [go_sem] rngSA_str nxtB_iter bytesOf_nil bytesOf_cons b2sA_sl b2sA_slc mapB_map
def Own (ss : List Nat) (es : Nat) (hp : Heap) (v : AVal) (xs : List AVal) : Prop :=
  (v = .nils ∧ xs = []) ∨ ∃ s c g, s ∈ ss ∧ v = .sl (s, c) g es 0 xs.length ∧ hp (s, c) = some (.row g es xs)
theorem Own.nils (ss : List Nat) (es : Nat) (hp : Heap) : Own ss es hp .nils [] := .inl ⟨rfl, rfl⟩
theorem Own.sl {ss : List Nat} {es : Nat} {hp : Heap} {s c g n : Nat} {xs : List AVal} (hs : s ∈ ss) (hn : n = xs.length) (h : hp (s, c) = some (.row g es xs)) : Own ss es hp (.sl (s, c) g es 0 n) xs :=
  .inr ⟨s, c, g, hs, by rw [hn], h⟩
theorem Own.keep {ss : List Nat} {es : Nat} {hp hp' : Heap} {v : AVal} {xs : List AVal} (h : Own ss es hp v xs) (hk : ∀ k, k.1 ∈ ss → hp' k = hp k) : Own ss es hp' v xs := by
  rcases h with h | ⟨s, c, g, hs, h1, h2⟩
  · exact .inl h
  · exact .inr ⟨s, c, g, hs, h1, (hk _ hs).trans h2⟩
theorem Own.app {ss : List Nat} {es bytes : Nat} {key : Key} {hp : Heap} {v y : AVal} {xs ys : List AVal} (h : Own ss es hp v xs) (hk : key.1 ∈ ss) (he : elemsA es y hp = some ys) (hl : plainL freeze ys = true)
    (hsc : (ys.all fun e => (cellsOf e).all isSc) = true) (hb : (xs.length + ys.length) * bytes ≤ 140737488355328) :
    ∃ v' hp', appA es bytes key v y hp = some (v', hp') ∧ Own ss es hp' v' (xs ++ ys) ∧ ∀ k, k.1 ∉ ss → hp' k = hp k := by
  rcases h with ⟨rfl, rfl⟩ | ⟨s, c, g, hs, rfl, h2⟩
  · rw [appA_nils, he, Option.bind_some, lendA_plain hl, Option.bind_some]
    simp only [List.map_nil, List.nil_append, applyW]
    cases ys with
    | nil => exact ⟨.nils, hp, by simp, Own.nils _ _ _, fun _ _ => rfl⟩
    | cons y0 ys0 =>
      rw [if_neg (by simp), if_pos (by simpa using hb)]
      refine ⟨_, _, rfl, Own.sl (s := key.1) (c := key.2) hk rfl (upd_same _ _ _), fun k hk' => upd_ne _ _ (fun e => hk' (e ▸ hk))⟩
  · rw [appA_sl, he, Option.bind_some, lendA_plain hl, Option.bind_some]
    rw [if_pos (by simp), h2, Option.bind_some, grown_row, if_pos ⟨by simp, hb, hsc⟩]
    simp only [List.map_nil, List.nil_append, applyW, List.drop_zero]
    refine ⟨_, _, rfl, Own.sl hs (by simp) (upd_same _ _ _), fun k hk' => upd_ne _ _ (fun e => hk' (e ▸ hs))⟩
theorem Own.push {ss : List Nat} {es bytes s0 s1 : Nat} {hp : Heap} {v z : AVal} {xs : List AVal} (h : Own ss es hp v xs) (hk : s0 ∈ ss) (hn : s1 ∉ ss) (hl : plain freeze z = true)
    (hsc : (cellsOf z).all isSc = true) (hb : (xs.length + 1) * bytes ≤ 140737488355328) :
    ∃ (V : Nat → Nat → AVal) (H : Nat → Nat → Heap), (∀ c c', appA es bytes (s0, c) v (.sl (s1, c') 0 es 0 1) (upd hp (s1, c') (some (.row 0 es [z]))) = some (V c c', H c c')) ∧
      ∀ c c', Own ss es (H c c') (V c c') (xs ++ [z]) ∧ ∀ k, k.1 ∉ ss → k.1 ≠ s1 → H c c' k = hp k := by
  have := fun c c' => (h.keep (hp' := upd hp (s1, c') (some (.row 0 es [z]))) fun k hk' => upd_ne _ _ (by rintro rfl; exact hn hk')).app (bytes := bytes) (key := (s0, c)) (y := .sl (s1, c') 0 es 0 1) (ys := [z]) hk
    (by rw [elemsA_sl, upd_same]; simp [els_row]) (by rw [plainL_cons, hl, plainL_nil]; rfl) (by simp [hsc]) hb
  refine ⟨fun c c' => (this c c').choose, fun c c' => (this c c').choose_spec.choose, fun c c' => (this c c').choose_spec.choose_spec.1, fun c c' => ⟨(this c c').choose_spec.choose_spec.2.1, fun k h1 h2 => ?_⟩⟩
  exact ((this c c').choose_spec.choose_spec.2.2 k h1).trans (upd_ne _ _ (by rintro rfl; exact h2 rfl))
def sliceOf (es : Nat) (v : AVal) (xs : List AVal) : AVal := match v with
  | .nils => .nils
  | _ => .slc es xs
theorem Own.lend {ss : List Nat} {es : Nat} {hp : Heap} {v : AVal} {xs : List AVal} (h : Own ss es hp v xs) (d : Nat) (hl : plainL d xs = true) : lendV (d + 1) v hp = some (sliceOf es v xs) := by
  rcases h with ⟨rfl, rfl⟩ | ⟨s, c, g, hs, rfl, h2⟩
  · exact lendV_plain (plain_nils _)
  · rw [lendV_sl, h2]
    simp only [Option.bind_some, els_row, Nat.zero_add, Nat.le_refl, if_true, List.drop_zero, List.take_length, lendVL_plain hl, Option.map_some]
    rfl
def rowN (es : Nat) (xs : List AVal) : AVal := match xs with
  | [] => .nils
  | _ => .slc es xs
theorem Own.lendN {ss : List Nat} {es : Nat} {hp : Heap} {v : AVal} {xs : List AVal} (h : Own ss es hp v xs) (h0 : xs = [] → v = .nils) (d : Nat) (hl : plainL d xs = true) {hp' : Heap} (hk : ∀ k, k.1 ∈ ss → hp' k = hp k) : lendV (d + 1) v hp' = some (rowN es xs) := by
  rw [(h.keep hk).lend d hl]
  cases xs with
  | nil => rw [h0 rfl]; rfl
  | cons x l =>
    rcases h with ⟨rfl, h⟩ | ⟨s, c, g, hs, rfl, h2⟩
    · simp at h
    · rfl
theorem rowN_rw (l : List Int) : Rw (rowN 1 (i64s l)) l := by
  cases l with
  | nil => exact Rw.nils
  | cons => exact Rw.slc _
theorem wt_ints {b : Nat} {a : AVal} (h : WT (.slice 1 b (.int .i64)) a) : ∃ l, Rw a l ∧ l.length * b ≤ 140737488351232 ∧ ∀ x ∈ l, IntKind.i64.min ≤ x ∧ x ≤ IntKind.i64.max := by
  simp only [WT] at h
  rcases h with rfl | rfl | ⟨xs, rfl, h1, h2⟩
  · exact ⟨[], Rw.nils, by simp, by simp⟩
  · exact ⟨[], .inr (.inl ⟨rfl, rfl⟩), by simp, by simp⟩
  · have : ∃ l : List Int, xs = i64s l ∧ ∀ x ∈ l, IntKind.i64.min ≤ x ∧ x ≤ IntKind.i64.max := by
      clear h2
      induction xs with
      | nil => exact ⟨[], rfl, by simp⟩
      | cons x xs ih =>
        obtain ⟨n, rfl, hn⟩ := h1 x (by simp)
        obtain ⟨l, rfl, hl⟩ := ih fun y hy => h1 y (by simp [hy])
        refine ⟨n :: l, rfl, ?_⟩
        intro y hy
        rcases List.mem_cons.1 hy with rfl | hy
        · exact hn
        · exact hl y hy
    obtain ⟨l, rfl, hl⟩ := this
    exact ⟨l, Rw.slc l, by simpa using h2, hl⟩
end Go.Xec
namespace Go.Xec
open Go Go.RowKit Go.Sort
def bs (l : List UInt8) : ByteArray := ⟨l.toArray⟩
abbrev sv (l : List UInt8) : AVal := .str (bs l)
theorem bs_mk (l : List UInt8) : (ByteArray.mk l.toArray) = bs l := rfl
theorem bs_size (l : List UInt8) : (bs l).size = l.length := by simp [bs, ByteArray.size]
theorem bs_of (s : ByteArray) : s = bs s.data.toList := by
  cases s; simp [bs]
theorem bs_append (l m : List UInt8) : bs l ++ bs m = bs (l ++ m) := by
  have : (bs l ++ bs m).data = (bs l).data ++ (bs m).data := ByteArray.data_append
  rw [bs_of (bs l ++ bs m), this]
  simp [bs]
section
variable (l m : List UInt8)
end
theorem str_len (l : List UInt8) : (match sv l with | .str s => some (.int .i64 s.size) | _ => none : Option AVal) = some (.int .i64 (l.length : Int)) := by
  simp only [bs_size]
def Rg (es : Nat) {α : Type} (enc : α → AVal) (a : AVal) (l : List α) : Prop := (a = .nils ∧ l = []) ∨ (a = .emp ∧ l = []) ∨ a = .slc es (l.map enc)
section
variable {es : Nat} {α : Type} {enc : α → AVal} {a : AVal} {l : List α} {hp : Heap}
theorem Rg.slc (l : List α) : Rg es enc (.slc es (l.map enc)) l := .inr (.inr rfl)
theorem Rg.elems (h : Rg es enc a l) : elemsA es a hp = some (l.map enc) := by
  rcases h with ⟨rfl, rfl⟩ | ⟨rfl, rfl⟩ | rfl
  · rfl
  · rfl
  · exact elemsA_slc es _
end
theorem plainL_map {α : Type} {enc : α → AVal} (d : Nat) (h : ∀ x, Xec.plain d (enc x) = true) : ∀ (l : List α), plainL d (l.map enc) = true
  | [] => plainL_nil d
  | x :: l => by rw [List.map_cons, plainL_cons, h x, plainL_map d h l]; rfl
theorem all_map {α : Type} {enc : α → AVal} (h : ∀ x, (cellsOf (enc x)).all isSc = true) (l : List α) : ((l.map enc).all fun e => (cellsOf e).all isSc) = true := by
  rw [List.all_map, List.all_eq_true]
  exact fun x _ => h x
theorem take_next {α : Type} {l : List α} {i : Nat} (hi : i < l.length) : l.take (i + 1) = l.take i ++ [l[i]] := by
  rw [List.take_add_one, List.getElem?_eq_getElem hi]; rfl
theorem sound_calls {P : Program} {f : FuncId} {fn : Func} {F : List AVal → Option AVal} (hf : P.funcs[f]? = some fn) (hname : (fn.name == "runtime.NumGoroutine") = false) (hb : fn.body.isSome = true)
    (h : ∀ as0 r, F as0 = some r → ∀ (w : World) (S : Nat → Prop) (vs : List Value), (∀ b, S b → b < w.heap.size) → Laid P w → VL (ctx0 w S) as0 vs →
      Calls P f vs.toArray w fun e w' => ∃ v, e = .returned v ∧ w.heap.size ≤ w'.heap.size ∧ (∀ b, b < w.heap.size → w'.heap[b]? = w.heap[b]?) ∧ SameEnv w w' ∧ V (ctx0 w' fun b => S b ∨ (w.heap.size ≤ b ∧ b < w'.heap.size)) r v) : Sound P f F := by
  intro as0 r hr w S vs hS hL hl
  refine .inl ⟨?_, h as0 r hr w S vs hS hL hl⟩
  cases hbb : fn.body with
  | none => rw [hbb] at hb; cases hb
  | some c =>
    simp only [callFunc, Sem.run_bind, run_program, Result.andThen_ok, hf, hname, hbb]
    simp
theorem env_below {w w' : World} (h : Below w.heap.size w w') : w.heap.size ≤ w'.heap.size ∧ (∀ b, b < w.heap.size → w'.heap[b]? = w.heap[b]?) ∧ SameEnv w w' :=
  ⟨h.size, h.block, h.os, h.tape, h.output⟩
theorem env_grow (w : World) (k : Nat) (os : Array Obj) : w.heap.size ≤ (grow (w.drewN k) os).heap.size ∧ (∀ b, b < w.heap.size → (grow (w.drewN k) os).heap[b]? = w.heap[b]?) ∧ SameEnv w (grow (w.drewN k) os) := by
  refine ⟨by simp [grow, World.drewN], fun b hb => ?_, rfl, rfl, rfl⟩
  simp only [grow, World.drewN]
  rw [Array.getElem?_append_left hb]
theorem env_bytes (w : World) (e : TypeId) (s : ByteArray) : w.heap.size ≤ (Lib.bytesWorld w e s).heap.size ∧ (∀ b, b < w.heap.size → (Lib.bytesWorld w e s).heap[b]? = w.heap[b]?) ∧ SameEnv w (Lib.bytesWorld w e s) := by
  unfold Lib.bytesWorld World.freeze
  have e : (w.drew.alloc (.cells (Lib.bytesCells w e s) e)).heap = w.heap.push (.cells (Lib.bytesCells w e s) e (0, 0)) := rfl
  rw [if_neg (by decide)]
  refine ⟨by simp only [Array.size_modify, e, Array.size_push]; omega, fun b hb => ?_, rfl, rfl, rfl⟩
  simp only [e]
  rw [Array.getElem?_modify, if_neg (by omega), Array.getElem?_push, if_neg (by omega)]
def F_itoa : List AVal → Option AVal
  | [.int .i64 n] => if -9223372036854775808 ≤ n ∧ n ≤ 9223372036854775807 then some (sv (Lib.itoa n)) else none
  | _ => none
theorem VL_1 {x : Ctx} {a : AVal} {vs : List Value} (h : VL x [a] vs) : ∃ u, vs = [u] ∧ V x a u := by
  simp only [VL] at h
  obtain ⟨u, _, rfl, hu, rfl⟩ := h
  exact ⟨u, rfl, hu⟩
theorem VL_2 {x : Ctx} {a b : AVal} {vs : List Value} (h : VL x [a, b] vs) : ∃ u v, vs = [u, v] ∧ V x a u ∧ V x b v := by
  simp only [VL] at h
  obtain ⟨u, _, rfl, hu, v, _, rfl, hv, rfl⟩ := h
  exact ⟨u, v, rfl, hu, hv⟩
def F_index : List AVal → Option AVal
  | [.str s, .int .u8 c] => some (.int .i64 (Lib.indexByte s.data.toList c.toNat.toUInt8))
  | _ => none
def F_atoi (te : TypeId) : List AVal → Option AVal
  | [.str s] => if s.size ≤ 281474976710656 then match Lib.atoiAll s.data.toList with
    | .ok v => some (.tup [.int .i64 v, .nili])
    | .range => some (.tup [.int .i64 (Lib.atoiSat s.data.toList), .ifc te .any])
    | _ => some (.tup [.int .i64 0, .ifc te .any]) else none
  | _ => none
attribute [go_sem] bs_mk bs_size
end Go.Xec
namespace Go.Proofs.YtkonpbcnekcjjaaGreatDoor
open Go Go.Xec
abbrev x3r0 : List XOper := [
  ⟨(some 4), none, .mv (.c (.bool false))⟩]
abbrev x3r1 : List XOper := [
  ⟨(some 14), none, .mv (.t 0)⟩,
  ⟨(some 15), none, .call (.c (.fn (.func 6) [] [])) [(.t 14), (.c (.int .i64 100))]⟩,
  ⟨(some 0), none, .mv (.t 15)⟩]
abbrev x3r2 : List XOper := [
  ⟨(some 17), none, .mv (.t 0)⟩,
  ⟨(some 18), none, .call (.c (.fn (.func 7) [] [])) [(.t 17)]⟩,
  ⟨(some 16), none, .mv (.t 18)⟩,
  ⟨(some 19), none, .ext (.t 16) 0⟩,
  ⟨(some 20), none, .ext (.t 16) 1⟩,
  ⟨(some 5), none, .alloc [(.int .i64 0), (.int .i64 0), (.int .u64 0), (.int .u64 0), (.int .i64 0), (.int .i64 0)]⟩,
  ⟨none, none, .store 6 (.t 5) (.t 19)⟩,
  ⟨(some 6), none, .mv (.t 20)⟩]
abbrev x3r3 : List XOper := [
  ⟨(some 21), none, .mv (.t 6)⟩,
  ⟨(some 22), none, .bin .neq (.t 21) (.c (.int .i64 0))⟩,
  ⟨(some 23), none, .mv (.t 22)⟩,
  ⟨(some 24), (some (23, false)), .call (.c (.fn (.func 8) [] [])) []⟩,
  ⟨(some 25), (some (23, false)), .un .not (.t 24)⟩,
  ⟨(some 26), none, .pick (.t 23) (.c (.bool true)) (.t 25)⟩]
abbrev x3r4 : List XOper := [
  ⟨(some 4), none, .mv (.c (.bool false))⟩]
abbrev x3r5 : List XOper := [
  ⟨(some 27), none, .build [(.int .u64 0), (.int .u64 0)] []⟩,
  ⟨(some 7), none, .alloc [(.int .u64 0), (.int .u64 0)]⟩,
  ⟨none, none, .store 2 (.t 7) (.t 27)⟩]
abbrev x3r6 : List XOper := [
  ⟨(some 28), none, .mv (.t 0)⟩,
  ⟨(some 29), none, .lenV (.t 28)⟩,
  ⟨(some 30), none, .mv (.c (.int .i64 0))⟩]
abbrev x3r7 : List XOper := [
  ⟨(some 31), none, .bin .lss (.t 30) (.t 29)⟩]
abbrev x3r8 : List XOper := [
  ⟨(some 32), none, .mv (.t 30)⟩,
  ⟨(some 8), none, .mv (.t 32)⟩]
abbrev x3r9 : List XOper := [
  ⟨(some 33), none, .mv (.t 0)⟩,
  ⟨(some 34), none, .mv (.t 8)⟩,
  ⟨(some 35), none, .mv (.t 1)⟩,
  ⟨(some 36), none, .bin .rem (.t 35) (.c (.int .i64 100))⟩,
  ⟨(some 37), none, .bin .add (.t 36) (.c (.int .i64 100))⟩,
  ⟨(some 38), none, .bin .rem (.t 37) (.c (.int .i64 100))⟩,
  ⟨(some 39), none, .bin .add (.t 34) (.t 38)⟩,
  ⟨(some 40), none, .mv (.t 0)⟩,
  ⟨(some 41), none, .lenV (.t 40)⟩,
  ⟨(some 42), none, .bin .rem (.t 39) (.t 41)⟩,
  ⟨(some 43), none, .iaS 1 (.t 33) (.t 42)⟩,
  ⟨(some 44), none, .load false 1 (.t 43)⟩,
  ⟨(some 9), none, .mv (.t 44)⟩]
abbrev x3r10 : List XOper := [
  ⟨(some 46), none, .mv (.t 9)⟩,
  ⟨(some 47), none, .mv (.t 9)⟩,
  ⟨(some 48), none, .un .neg (.t 47)⟩,
  ⟨(some 49), none, .mnx true (.t 46) [(.t 48)]⟩,
  ⟨(some 50), none, .conv .u64 (.t 49)⟩,
  ⟨(some 51), none, .build [(.int .u64 0), (.int .u64 0)] [(1, 1, (.t 50))]⟩,
  ⟨(some 52), none, .mv (.t 9)⟩,
  ⟨(some 53), none, .mv (.t 9)⟩,
  ⟨(some 54), none, .un .neg (.t 53)⟩,
  ⟨(some 55), none, .mnx true (.t 52) [(.t 54)]⟩,
  ⟨(some 56), none, .conv .u64 (.t 55)⟩,
  ⟨(some 57), none, .build [(.int .u64 0), (.int .u64 0)] [(1, 1, (.t 56))]⟩,
  ⟨(some 58), none, .call (.c (.fn (.func 9) [] [])) [(.t 51), (.t 57)]⟩,
  ⟨(some 45), none, .mv (.t 58)⟩,
  ⟨(some 59), none, .ext (.t 45) 0⟩,
  ⟨(some 60), none, .ext (.t 45) 1⟩,
  ⟨(some 10), none, .alloc [(.int .u64 0), (.int .u64 0)]⟩,
  ⟨none, none, .store 2 (.t 10) (.t 59)⟩,
  ⟨(some 11), none, .mv (.t 60)⟩]
abbrev x3r11 : List XOper := [
  ⟨(some 62), none, .load true 2 (.t 7)⟩,
  ⟨(some 63), none, .load true 2 (.t 10)⟩,
  ⟨(some 64), none, .call (.c (.fn (.func 10) [] [])) [(.t 62), (.t 63)]⟩,
  ⟨(some 61), none, .mv (.t 64)⟩,
  ⟨(some 65), none, .ext (.t 61) 0⟩,
  ⟨(some 66), none, .ext (.t 61) 1⟩,
  ⟨(some 12), none, .alloc [(.int .u64 0), (.int .u64 0)]⟩,
  ⟨none, none, .store 2 (.t 12) (.t 65)⟩,
  ⟨(some 13), none, .mv (.t 66)⟩]
abbrev x3r12 : List XOper := [
  ⟨(some 67), none, .mv (.t 11)⟩,
  ⟨(some 68), none, .mv (.t 67)⟩,
  ⟨(some 69), (some (68, false)), .mv (.t 13)⟩,
  ⟨(some 70), none, .pick (.t 68) (.c (.bool true)) (.t 69)⟩]
abbrev x3r13 : List XOper := [
  ⟨(some 4), none, .mv (.c (.bool false))⟩]
abbrev x3r14 : List XOper := [
  ⟨(some 71), none, .load true 2 (.t 12)⟩,
  ⟨none, none, .store 2 (.t 7) (.t 71)⟩]
abbrev x3r15 : List XOper := [
  ⟨(some 72), none, .bin .add (.t 30) (.c (.int .i64 1))⟩,
  ⟨(some 30), none, .mv (.t 72)⟩]
abbrev x3l7 : XCode :=
  (.seq (.reg 7 x3r7 none)
  (.seq (.cond (.t 31)
    .skip
    (.exit 0))
  (.seq (.block 1
    (.seq (.reg 8 x3r8 none)
    (.seq (.reg 9 x3r9 none)
    (.seq (.reg 10 x3r10 none)
    (.seq (.reg 11 x3r11 none)
    (.seq (.seq (.reg 12 x3r12 none)
    (.cond (.t 70)
      (.seq (.reg 13 x3r13 none)
      .ret)
      .skip))
    (.reg 14 x3r14 none)))))))
  (.reg 15 x3r15 none))))
abbrev x3r16 : List XOper := [
  ⟨(some 73), none, .load true 2 (.t 7)⟩,
  ⟨(some 74), none, .fa 2 (.t 5)⟩,
  ⟨(some 75), none, .load true 2 (.t 74)⟩,
  ⟨(some 76), none, .eqA false [0, 0] (.t 73) (.t 75)⟩,
  ⟨(some 4), none, .mv (.t 76)⟩]
abbrev x3b : XCode :=
  (.seq (.reg 0 x3r0 none)
  (.seq (.reg 1 x3r1 none)
  (.seq (.reg 2 x3r2 none)
  (.seq (.seq (.reg 3 x3r3 none)
  (.cond (.t 26)
    (.seq (.reg 4 x3r4 none)
    .ret)
    .skip))
  (.seq (.reg 5 x3r5 none)
  (.seq (.seq (.reg 6 x3r6 none)
  (.block 0
    (.loop x3l7)))
  (.seq (.reg 16 x3r16 none)
  .ret)))))))
def x3 : XFunc := ⟨77, 2, [.tmp 4], x3b⟩
theorem x3_ok : chkF Tryz.prog Tryz.f3 x3 = true := by kernel_rfl
theorem x3_eq : x3.body = x3b ∧ x3.res = [.tmp 4] ∧ x3.np = 2 := ⟨rfl, rfl, rfl⟩
abbrev x6r0 : List XOper := [
  ⟨(some 4), none, .mv (.c .nils)⟩]
abbrev x6r1 : List XOper := [
  ⟨(some 5), none, .mv (.c .nils)⟩]
abbrev x6r2 : List XOper := [
  ⟨(some 8), none, .mv (.t 0)⟩,
  ⟨(some 9), none, .mv (.t 0)⟩,
  ⟨(some 10), none, .lenV (.t 9)⟩,
  ⟨(some 11), none, .mv (.t 1)⟩,
  ⟨(some 12), none, .mnx false (.t 10) [(.t 11)]⟩,
  ⟨(some 13), none, .slV 1 (.t 8) none (some (.t 12)) none⟩,
  ⟨(some 14), none, .lenV (.t 13)⟩,
  ⟨(some 15), none, .mv (.c (.int .i64 0))⟩]
abbrev x6r3 : List XOper := [
  ⟨(some 16), none, .bin .lss (.t 15) (.t 14)⟩]
abbrev x6r4 : List XOper := [
  ⟨(some 17), none, .iaS 1 (.t 13) (.t 15)⟩,
  ⟨(some 18), none, .load false 1 (.t 17)⟩,
  ⟨(some 7), none, .mv (.t 18)⟩]
abbrev x6r5 : List XOper := [
  ⟨(some 19), none, .mv (.t 5)⟩,
  ⟨(some 20), none, .mv (.t 7)⟩,
  ⟨(some 21), none, .mnx true (.t 20) [(.c (.int .i64 (-100000)))]⟩,
  ⟨(some 22), none, .mnx false (.t 21) [(.c (.int .i64 100000))]⟩,
  ⟨(some 23), none, .mkslice 1 (.int .i64 0) 1 [(0, (.t 22))]⟩,
  ⟨(some 24), none, .app 1 8 (.t 19) (.t 23)⟩,
  ⟨(some 5), none, .mv (.t 24)⟩]
abbrev x6r6 : List XOper := [
  ⟨(some 25), none, .bin .add (.t 15) (.c (.int .i64 1))⟩,
  ⟨(some 15), none, .mv (.t 25)⟩]
abbrev x6l3 : XCode :=
  (.seq (.reg 3 x6r3 none)
  (.seq (.cond (.t 16)
    .skip
    (.exit 0))
  (.seq (.block 1
    (.seq (.reg 4 x6r4 none)
    (.reg 5 x6r5 none)))
  (.reg 6 x6r6 none))))
abbrev x6r7 : List XOper := [
  ⟨(some 26), none, .mv (.t 5)⟩,
  ⟨(some 4), none, .mv (.t 26)⟩]
abbrev x6b : XCode :=
  (.seq (.reg 0 x6r0 none)
  (.seq (.reg 1 x6r1 none)
  (.seq (.seq (.reg 2 x6r2 none)
  (.block 0
    (.loop x6l3)))
  (.seq (.reg 7 x6r7 none)
  .ret))))
def x6 : XFunc := ⟨27, 2, [.tmp 4], x6b⟩
theorem x6_ok : chkF Tryz.prog Tryz.f6 x6 = true := by kernel_rfl
theorem x6_eq : x6.body = x6b ∧ x6.res = [.tmp 4] ∧ x6.np = 2 := ⟨rfl, rfl, rfl⟩
abbrev x7r0 : List XOper := [
  ⟨(some 2), none, .alloc [(.int .i64 0), (.int .i64 0), (.int .u64 0), (.int .u64 0), (.int .i64 0), (.int .i64 0)]⟩,
  ⟨(some 3), none, .mv (.c (.int .i64 0))⟩]
abbrev x7r1 : List XOper := [
  ⟨(some 4), none, .alloc [(.int .i64 0), (.int .i64 0), (.int .u64 0), (.int .u64 0), (.int .i64 0), (.int .i64 0)]⟩]
abbrev x7r2 : List XOper := [
  ⟨(some 7), none, .mv (.t 0)⟩,
  ⟨(some 8), none, .lenV (.t 7)⟩,
  ⟨(some 9), none, .mv (.c (.int .i64 0))⟩]
abbrev x7r3 : List XOper := [
  ⟨(some 10), none, .bin .lss (.t 9) (.t 8)⟩]
abbrev x7r4 : List XOper := [
  ⟨(some 11), none, .iaS 1 (.t 7) (.t 9)⟩,
  ⟨(some 12), none, .load false 1 (.t 11)⟩,
  ⟨(some 6), none, .mv (.t 12)⟩]
abbrev x7r5 : List XOper := [
  ⟨(some 13), none, .mv (.t 6)⟩,
  ⟨(some 14), none, .call (.c (.fn (.func 20) [] [])) [(.t 13)]⟩,
  ⟨(some 15), none, .un .not (.t 14)⟩]
abbrev x7r6 : List XOper := [
  ⟨(some 16), none, .build [(.int .i64 0), (.int .i64 0), (.int .u64 0), (.int .u64 0), (.int .i64 0), (.int .i64 0)] []⟩,
  ⟨none, none, .store 6 (.t 2) (.t 16)⟩,
  ⟨(some 3), none, .mv (.c (.int .i64 3))⟩]
abbrev x7r7 : List XOper := [
  ⟨(some 17), none, .load true 6 (.t 4)⟩,
  ⟨(some 18), none, .mv (.t 6)⟩,
  ⟨(some 19), none, .call (.c (.fn (.func 22) [] [])) [(.t 18)]⟩,
  ⟨(some 20), none, .call (.c (.fn (.func 21) [] [])) [(.t 17), (.t 19)]⟩,
  ⟨none, none, .store 6 (.t 4) (.t 20)⟩]
abbrev x7r8 : List XOper := [
  ⟨(some 21), none, .bin .add (.t 9) (.c (.int .i64 1))⟩,
  ⟨(some 9), none, .mv (.t 21)⟩]
abbrev x7l3 : XCode :=
  (.seq (.reg 3 x7r3 none)
  (.seq (.cond (.t 10)
    .skip
    (.exit 0))
  (.seq (.block 1
    (.seq (.reg 4 x7r4 none)
    (.seq (.seq (.reg 5 x7r5 none)
    (.cond (.t 15)
      (.seq (.reg 6 x7r6 none)
      .ret)
      .skip))
    (.reg 7 x7r7 (some ⟨[(0, 2)]⟩)))))
  (.reg 8 x7r8 none))))
abbrev x7r9 : List XOper := [
  ⟨(some 22), none, .load true 6 (.t 4)⟩,
  ⟨none, none, .store 6 (.t 2) (.t 22)⟩,
  ⟨(some 3), none, .mv (.c (.int .i64 0))⟩]
abbrev x7b : XCode :=
  (.seq (.reg 0 x7r0 none)
  (.seq (.reg 1 x7r1 none)
  (.seq (.seq (.reg 2 x7r2 none)
  (.block 0
    (.loop x7l3)))
  (.seq (.reg 9 x7r9 none)
  .ret))))
def x7 : XFunc := ⟨23, 1, [.cell 2 true 6, .tmp 3], x7b⟩
theorem x7_ok : chkF Tryz.prog Tryz.f7 x7 = true := by kernel_rfl
theorem x7_eq : x7.body = x7b ∧ x7.res = [.cell 2 true 6, .tmp 3] ∧ x7.np = 1 := ⟨rfl, rfl, rfl⟩
abbrev x9r0 : List XOper := [
  ⟨(some 2), none, .box (.t 0)⟩,
  ⟨(some 3), none, .box (.t 1)⟩,
  ⟨(some 4), none, .alloc [(.int .u64 0), (.int .u64 0)]⟩,
  ⟨(some 5), none, .mv (.c (.bool false))⟩]
abbrev x9r1 : List XOper := [
  ⟨(some 12), none, .fa 1 (.t 2)⟩,
  ⟨(some 13), none, .load false 1 (.t 12)⟩,
  ⟨(some 14), none, .fa 1 (.t 3)⟩,
  ⟨(some 15), none, .load false 1 (.t 14)⟩,
  ⟨(some 16), none, .call (.c (.fn (.func 24) [] [])) [(.t 13), (.t 15)]⟩,
  ⟨(some 6), none, .alloc [(.int .u64 0), (.int .u64 0)]⟩,
  ⟨none, none, .store 2 (.t 6) (.t 16)⟩]
abbrev x9r2 : List XOper := [
  ⟨(some 17), none, .fa 0 (.t 2)⟩,
  ⟨(some 18), none, .load false 1 (.t 17)⟩,
  ⟨(some 19), none, .bin .gtr (.t 18) (.c (.int .u64 0))⟩,
  ⟨(some 20), none, .mv (.t 19)⟩,
  ⟨(some 21), (some (20, true)), .fa 0 (.t 3)⟩,
  ⟨(some 22), (some (20, true)), .load false 1 (.t 21)⟩,
  ⟨(some 23), (some (20, true)), .bin .gtr (.t 22) (.c (.int .u64 0))⟩,
  ⟨(some 24), none, .pick (.t 20) (.t 23) (.c (.bool false))⟩,
  ⟨(some 7), none, .mv (.t 24)⟩]
abbrev x9r3 : List XOper := [
  ⟨(some 25), none, .fa 0 (.t 2)⟩,
  ⟨(some 26), none, .load false 1 (.t 25)⟩,
  ⟨(some 27), none, .fa 1 (.t 3)⟩,
  ⟨(some 28), none, .load false 1 (.t 27)⟩,
  ⟨(some 29), none, .call (.c (.fn (.func 24) [] [])) [(.t 26), (.t 28)]⟩,
  ⟨(some 30), none, .fa 1 (.t 2)⟩,
  ⟨(some 31), none, .load false 1 (.t 30)⟩,
  ⟨(some 32), none, .fa 0 (.t 3)⟩,
  ⟨(some 33), none, .load false 1 (.t 32)⟩,
  ⟨(some 34), none, .call (.c (.fn (.func 24) [] [])) [(.t 31), (.t 33)]⟩,
  ⟨(some 35), none, .build [(.int .u64 0), (.int .u64 0), (.int .u64 0), (.int .u64 0)] [(0, 2, (.t 29)), (2, 2, (.t 34))]⟩,
  ⟨(some 36), none, .mv (.c (.int .i64 0))⟩]
abbrev x9r4 : List XOper := [
  ⟨(some 37), none, .bin .lss (.t 36) (.c (.int .i64 2))⟩]
abbrev x9r5 : List XOper := [
  ⟨(some 38), none, .ixA true 2 2 (.t 35) (.t 36)⟩,
  ⟨(some 9), none, .alloc [(.int .u64 0), (.int .u64 0)]⟩,
  ⟨none, none, .store 2 (.t 9) (.t 38)⟩]
abbrev x9r6 : List XOper := [
  ⟨(some 40), none, .fa 0 (.t 6)⟩,
  ⟨(some 41), none, .load false 1 (.t 40)⟩,
  ⟨(some 42), none, .fa 1 (.t 9)⟩,
  ⟨(some 43), none, .load false 1 (.t 42)⟩,
  ⟨(some 44), none, .call (.c (.fn (.func 25) [] [])) [(.t 41), (.t 43), (.c (.int .u64 0))]⟩,
  ⟨(some 39), none, .mv (.t 44)⟩,
  ⟨(some 45), none, .ext (.t 39) 0⟩,
  ⟨(some 46), none, .ext (.t 39) 1⟩,
  ⟨(some 10), none, .mv (.t 45)⟩,
  ⟨(some 11), none, .mv (.t 46)⟩]
abbrev x9r7 : List XOper := [
  ⟨(some 47), none, .mv (.t 10)⟩,
  ⟨(some 48), none, .mv (.t 7)⟩,
  ⟨(some 49), none, .mv (.t 48)⟩,
  ⟨(some 50), (some (49, false)), .mv (.t 11)⟩,
  ⟨(some 51), (some (49, false)), .bin .gtr (.t 50) (.c (.int .u64 0))⟩,
  ⟨(some 52), none, .pick (.t 49) (.c (.bool true)) (.t 51)⟩,
  ⟨(some 53), none, .mv (.t 52)⟩,
  ⟨(some 54), (some (53, false)), .fa 0 (.t 9)⟩,
  ⟨(some 55), (some (53, false)), .load false 1 (.t 54)⟩,
  ⟨(some 56), (some (53, false)), .bin .gtr (.t 55) (.c (.int .u64 0))⟩,
  ⟨(some 57), none, .pick (.t 53) (.c (.bool true)) (.t 56)⟩,
  ⟨(some 58), none, .fa 0 (.t 6)⟩,
  ⟨none, none, .store 1 (.t 58) (.t 47)⟩,
  ⟨(some 7), none, .mv (.t 57)⟩]
abbrev x9r8 : List XOper := [
  ⟨(some 59), none, .bin .add (.t 36) (.c (.int .i64 1))⟩,
  ⟨(some 36), none, .mv (.t 59)⟩]
abbrev x9l4 : XCode :=
  (.seq (.reg 4 x9r4 none)
  (.seq (.cond (.t 37)
    .skip
    (.exit 0))
  (.seq (.block 1
    (.seq (.reg 5 x9r5 none)
    (.seq (.reg 6 x9r6 none)
    (.reg 7 x9r7 (some ⟨[(8, 12)]⟩)))))
  (.reg 8 x9r8 none))))
abbrev x9r9 : List XOper := [
  ⟨(some 60), none, .load true 2 (.t 6)⟩,
  ⟨(some 61), none, .mv (.t 7)⟩,
  ⟨none, none, .store 2 (.t 4) (.t 60)⟩,
  ⟨(some 5), none, .mv (.t 61)⟩]
abbrev x9b : XCode :=
  (.seq (.reg 0 x9r0 none)
  (.seq (.reg 1 x9r1 none)
  (.seq (.reg 2 x9r2 none)
  (.seq (.seq (.reg 3 x9r3 (some ⟨[(4, 6), (4, 8)]⟩))
  (.block 0
    (.loop x9l4)))
  (.seq (.reg 9 x9r9 none)
  .ret)))))
def x9 : XFunc := ⟨62, 2, [.cell 4 true 2, .tmp 5], x9b⟩
theorem x9_ok : chkF Tryz.prog Tryz.f9 x9 = true := by kernel_rfl
theorem x9_eq : x9.body = x9b ∧ x9.res = [.cell 4 true 2, .tmp 5] ∧ x9.np = 2 := ⟨rfl, rfl, rfl⟩
abbrev x10r0 : List XOper := [
  ⟨(some 2), none, .box (.t 0)⟩,
  ⟨(some 3), none, .box (.t 1)⟩,
  ⟨(some 4), none, .alloc [(.int .u64 0), (.int .u64 0)]⟩,
  ⟨(some 5), none, .mv (.c (.bool false))⟩]
abbrev x10r1 : List XOper := [
  ⟨(some 11), none, .load true 2 (.t 2)⟩,
  ⟨(some 12), none, .call (.c (.fn (.func 26) [] [])) [(.t 11)]⟩,
  ⟨(some 13), none, .load true 2 (.t 3)⟩,
  ⟨(some 14), none, .call (.c (.fn (.func 26) [] [])) [(.t 13)]⟩,
  ⟨(some 6), none, .alloc [(.int .u64 0), (.int .u64 0)]⟩,
  ⟨(some 7), none, .alloc [(.int .u64 0), (.int .u64 0)]⟩,
  ⟨none, none, .store 2 (.t 6) (.t 12)⟩,
  ⟨none, none, .store 2 (.t 7) (.t 14)⟩]
abbrev x10r2 : List XOper := [
  ⟨(some 8), none, .alloc [(.int .u64 0), (.int .u64 0)]⟩]
abbrev x10r3 : List XOper := [
  ⟨(some 9), none, .mv (.c (.int .u64 0))⟩]
abbrev x10r4 : List XOper := [
  ⟨(some 15), none, .mv (.c (.int .i64 0))⟩]
abbrev x10r5 : List XOper := [
  ⟨(some 16), none, .bin .lss (.t 15) (.c (.int .i64 2))⟩]
abbrev x10r6 : List XOper := [
  ⟨(some 17), none, .mv (.t 15)⟩,
  ⟨(some 10), none, .mv (.t 17)⟩]
abbrev x10r7 : List XOper := [
  ⟨(some 19), none, .mv (.t 10)⟩,
  ⟨(some 20), none, .mv (.t 10)⟩,
  ⟨(some 21), none, .iaA 2 1 (.t 6) (.t 20)⟩,
  ⟨(some 22), none, .load false 1 (.t 21)⟩,
  ⟨(some 23), none, .mv (.t 10)⟩,
  ⟨(some 24), none, .iaA 2 1 (.t 7) (.t 23)⟩,
  ⟨(some 25), none, .load false 1 (.t 24)⟩,
  ⟨(some 26), none, .mv (.t 9)⟩,
  ⟨(some 27), none, .call (.c (.fn (.func 25) [] [])) [(.t 22), (.t 25), (.t 26)]⟩,
  ⟨(some 18), none, .mv (.t 27)⟩,
  ⟨(some 28), none, .ext (.t 18) 0⟩,
  ⟨(some 29), none, .ext (.t 18) 1⟩,
  ⟨(some 30), none, .iaA 2 1 (.t 8) (.t 19)⟩,
  ⟨none, none, .store 1 (.t 30) (.t 28)⟩,
  ⟨(some 9), none, .mv (.t 29)⟩]
abbrev x10r8 : List XOper := [
  ⟨(some 31), none, .bin .add (.t 15) (.c (.int .i64 1))⟩,
  ⟨(some 15), none, .mv (.t 31)⟩]
abbrev x10l5 : XCode :=
  (.seq (.reg 5 x10r5 none)
  (.seq (.cond (.t 16)
    .skip
    (.exit 0))
  (.seq (.block 1
    (.seq (.reg 6 x10r6 none)
    (.reg 7 x10r7 (some ⟨[]⟩))))
  (.reg 8 x10r8 none))))
abbrev x10r9 : List XOper := [
  ⟨(some 32), none, .iaA 2 1 (.t 8) (.c (.int .i64 1))⟩,
  ⟨(some 33), none, .load false 1 (.t 32)⟩,
  ⟨(some 34), none, .iaA 2 1 (.t 8) (.c (.int .i64 0))⟩,
  ⟨(some 35), none, .load false 1 (.t 34)⟩,
  ⟨(some 36), none, .build [(.int .u64 0), (.int .u64 0)] [(0, 1, (.t 33)), (1, 1, (.t 35))]⟩,
  ⟨(some 37), none, .mv (.t 9)⟩,
  ⟨(some 38), none, .bin .gtr (.t 37) (.c (.int .u64 0))⟩,
  ⟨none, none, .store 2 (.t 4) (.t 36)⟩,
  ⟨(some 5), none, .mv (.t 38)⟩]
abbrev x10b : XCode :=
  (.seq (.reg 0 x10r0 none)
  (.seq (.reg 1 x10r1 (some ⟨[(1, 2), (0, 4), (1, 4), (2, 4), (3, 4), (0, 5), (1, 5), (2, 5), (3, 5), (4, 5)]⟩))
  (.seq (.reg 2 x10r2 none)
  (.seq (.reg 3 x10r3 none)
  (.seq (.seq (.reg 4 x10r4 none)
  (.block 0
    (.loop x10l5)))
  (.seq (.reg 9 x10r9 none)
  .ret))))))
def x10 : XFunc := ⟨39, 2, [.cell 4 true 2, .tmp 5], x10b⟩
theorem x10_ok : chkF Tryz.prog Tryz.f10 x10 = true := by kernel_rfl
theorem x10_eq : x10.body = x10b ∧ x10.res = [.cell 4 true 2, .tmp 5] ∧ x10.np = 2 := ⟨rfl, rfl, rfl⟩
abbrev x20r0 : List XOper := [
  ⟨(some 2), none, .mv (.c (.bool false))⟩]
abbrev x20r1 : List XOper := [
  ⟨(some 3), none, .mv (.t 0)⟩,
  ⟨(some 4), none, .bin .geq (.t 3) (.c (.int .i64 (-1000000)))⟩,
  ⟨(some 5), none, .mv (.t 4)⟩,
  ⟨(some 6), (some (5, true)), .mv (.t 0)⟩,
  ⟨(some 7), (some (5, true)), .bin .leq (.t 6) (.c (.int .i64 1000000))⟩,
  ⟨(some 8), none, .pick (.t 5) (.t 7) (.c (.bool false))⟩,
  ⟨(some 2), none, .mv (.t 8)⟩]
abbrev x20b : XCode :=
  (.seq (.reg 0 x20r0 none)
  (.seq (.reg 1 x20r1 none)
  .ret))
def x20 : XFunc := ⟨9, 1, [.tmp 2], x20b⟩
theorem x20_ok : chkF Tryz.prog Tryz.f20 x20 = true := by kernel_rfl
theorem x20_eq : x20.body = x20b ∧ x20.res = [.tmp 2] ∧ x20.np = 1 := ⟨rfl, rfl, rfl⟩
abbrev x21r0 : List XOper := [
  ⟨(some 2), none, .box (.t 0)⟩,
  ⟨(some 3), none, .box (.t 1)⟩,
  ⟨(some 4), none, .alloc [(.int .i64 0), (.int .i64 0), (.int .u64 0), (.int .u64 0), (.int .i64 0), (.int .i64 0)]⟩]
abbrev x21r1 : List XOper := [
  ⟨(some 8), none, .fa 0 (.t 2)⟩,
  ⟨(some 9), none, .load false 1 (.t 8)⟩,
  ⟨(some 10), none, .bin .eql (.t 9) (.c (.int .i64 0))⟩,
  ⟨(some 7), none, .mv (.t 10)⟩]
abbrev x21r2 : List XOper := [
  ⟨(some 11), none, .load true 6 (.t 3)⟩,
  ⟨none, none, .store 6 (.t 4) (.t 11)⟩]
abbrev x21r3 : List XOper := [
  ⟨(some 13), none, .fa 0 (.t 3)⟩,
  ⟨(some 14), none, .load false 1 (.t 13)⟩,
  ⟨(some 15), none, .bin .eql (.t 14) (.c (.int .i64 0))⟩,
  ⟨(some 12), none, .mv (.t 15)⟩]
abbrev x21r4 : List XOper := [
  ⟨(some 16), none, .load true 6 (.t 2)⟩,
  ⟨none, none, .store 6 (.t 4) (.t 16)⟩]
abbrev x21r5 : List XOper := [
  ⟨(some 18), none, .fa 2 (.t 2)⟩,
  ⟨(some 19), none, .load true 2 (.t 18)⟩,
  ⟨(some 20), none, .fa 2 (.t 3)⟩,
  ⟨(some 21), none, .load true 2 (.t 20)⟩,
  ⟨(some 22), none, .call (.c (.fn (.func 10) [] [])) [(.t 19), (.t 21)]⟩,
  ⟨(some 17), none, .mv (.t 22)⟩,
  ⟨(some 23), none, .ext (.t 17) 0⟩,
  ⟨(some 24), none, .ext (.t 17) 1⟩,
  ⟨(some 5), none, .alloc [(.int .u64 0), (.int .u64 0)]⟩,
  ⟨none, none, .store 2 (.t 5) (.t 23)⟩,
  ⟨(some 6), none, .mv (.t 24)⟩]
abbrev x21r6 : List XOper := [
  ⟨(some 25), none, .fa 0 (.t 2)⟩,
  ⟨(some 26), none, .load false 1 (.t 25)⟩,
  ⟨(some 27), none, .fa 0 (.t 3)⟩,
  ⟨(some 28), none, .load false 1 (.t 27)⟩,
  ⟨(some 29), none, .bin .add (.t 26) (.t 28)⟩,
  ⟨(some 30), none, .fa 1 (.t 2)⟩,
  ⟨(some 31), none, .load false 1 (.t 30)⟩,
  ⟨(some 32), none, .fa 1 (.t 3)⟩,
  ⟨(some 33), none, .load false 1 (.t 32)⟩,
  ⟨(some 34), none, .bin .add (.t 31) (.t 33)⟩,
  ⟨(some 35), none, .load true 2 (.t 5)⟩,
  ⟨(some 36), none, .fa 4 (.t 2)⟩,
  ⟨(some 37), none, .load false 1 (.t 36)⟩,
  ⟨(some 38), none, .fa 4 (.t 3)⟩,
  ⟨(some 39), none, .load false 1 (.t 38)⟩,
  ⟨(some 40), none, .mnx false (.t 37) [(.t 39)]⟩,
  ⟨(some 41), none, .fa 5 (.t 2)⟩,
  ⟨(some 42), none, .load false 1 (.t 41)⟩,
  ⟨(some 43), none, .fa 5 (.t 3)⟩,
  ⟨(some 44), none, .load false 1 (.t 43)⟩,
  ⟨(some 45), none, .mnx true (.t 42) [(.t 44)]⟩,
  ⟨(some 46), none, .build [(.int .i64 0), (.int .i64 0), (.int .u64 0), (.int .u64 0), (.int .i64 0), (.int .i64 0)] [(0, 1, (.t 29)), (1, 1, (.t 34)), (2, 2, (.t 35)), (4, 1, (.t 40)), (5, 1, (.t 45))]⟩,
  ⟨none, none, .store 6 (.t 4) (.t 46)⟩]
abbrev x21b : XCode :=
  (.seq (.reg 0 x21r0 none)
  (.seq (.block 0
    (.seq (.reg 1 x21r1 none)
    (.cond (.t 7)
      (.seq (.reg 2 x21r2 none)
      .ret)
      (.seq (.reg 3 x21r3 none)
      (.cond (.t 12)
        (.seq (.reg 4 x21r4 none)
        .ret)
        .skip)))))
  (.seq (.reg 5 x21r5 none)
  (.seq (.reg 6 x21r6 none)
  .ret))))
def x21 : XFunc := ⟨47, 2, [.cell 4 true 6], x21b⟩
theorem x21_ok : chkF Tryz.prog Tryz.f21 x21 = true := by kernel_rfl
theorem x21_eq : x21.body = x21b ∧ x21.res = [.cell 4 true 6] ∧ x21.np = 2 := ⟨rfl, rfl, rfl⟩
abbrev x22r0 : List XOper := [
  ⟨(some 2), none, .alloc [(.int .i64 0), (.int .i64 0), (.int .u64 0), (.int .u64 0), (.int .i64 0), (.int .i64 0)]⟩]
abbrev x22r1 : List XOper := [
  ⟨(some 3), none, .mv (.t 0)⟩,
  ⟨(some 4), none, .mv (.t 0)⟩,
  ⟨(some 5), none, .call (.c (.fn (.func 48) [] [])) [(.t 4)]⟩,
  ⟨(some 6), none, .mv (.t 0)⟩,
  ⟨(some 7), none, .call (.c (.fn (.func 48) [] [])) [(.t 6)]⟩,
  ⟨(some 8), none, .call (.c (.fn (.func 24) [] [])) [(.t 5), (.t 7)]⟩,
  ⟨(some 9), none, .mv (.t 0)⟩,
  ⟨(some 10), none, .mv (.t 0)⟩,
  ⟨(some 11), none, .build [(.int .i64 0), (.int .i64 0), (.int .u64 0), (.int .u64 0), (.int .i64 0), (.int .i64 0)] [(0, 1, (.c (.int .i64 1))), (1, 1, (.t 3)), (2, 2, (.t 8)), (4, 1, (.t 9)), (5, 1, (.t 10))]⟩,
  ⟨none, none, .store 6 (.t 2) (.t 11)⟩]
abbrev x22b : XCode :=
  (.seq (.reg 0 x22r0 none)
  (.seq (.reg 1 x22r1 none)
  .ret))
def x22 : XFunc := ⟨12, 1, [.cell 2 true 6], x22b⟩
theorem x22_ok : chkF Tryz.prog Tryz.f22 x22 = true := by kernel_rfl
theorem x22_eq : x22.body = x22b ∧ x22.res = [.cell 2 true 6] ∧ x22.np = 1 := ⟨rfl, rfl, rfl⟩
abbrev x24r0 : List XOper := [
  ⟨(some 4), none, .alloc [(.int .u64 0), (.int .u64 0)]⟩]
abbrev x24r1 : List XOper := [
  ⟨(some 8), none, .mv (.t 0)⟩,
  ⟨(some 9), none, .mv (.t 1)⟩,
  ⟨(some 10), none, .call (.c (.fn (.func 52) [] [])) [(.t 8), (.t 9)]⟩,
  ⟨(some 7), none, .mv (.t 10)⟩,
  ⟨(some 11), none, .ext (.t 7) 0⟩,
  ⟨(some 12), none, .ext (.t 7) 1⟩,
  ⟨(some 5), none, .mv (.t 11)⟩,
  ⟨(some 6), none, .mv (.t 12)⟩]
abbrev x24r2 : List XOper := [
  ⟨(some 13), none, .mv (.t 5)⟩,
  ⟨(some 14), none, .mv (.t 6)⟩,
  ⟨(some 15), none, .build [(.int .u64 0), (.int .u64 0)] [(0, 1, (.t 13)), (1, 1, (.t 14))]⟩,
  ⟨none, none, .store 2 (.t 4) (.t 15)⟩]
abbrev x24b : XCode :=
  (.seq (.reg 0 x24r0 none)
  (.seq (.reg 1 x24r1 none)
  (.seq (.reg 2 x24r2 none)
  .ret)))
def x24 : XFunc := ⟨16, 2, [.cell 4 true 2], x24b⟩
theorem x24_ok : chkF Tryz.prog Tryz.f24 x24 = true := by kernel_rfl
theorem x24_eq : x24.body = x24b ∧ x24.res = [.cell 4 true 2] ∧ x24.np = 2 := ⟨rfl, rfl, rfl⟩
abbrev x26r0 : List XOper := [
  ⟨(some 1), none, .box (.t 0)⟩,
  ⟨(some 2), none, .alloc [(.int .u64 0), (.int .u64 0)]⟩]
abbrev x26r1 : List XOper := [
  ⟨(some 3), none, .fa 1 (.t 1)⟩,
  ⟨(some 4), none, .load false 1 (.t 3)⟩,
  ⟨(some 5), none, .fa 0 (.t 1)⟩,
  ⟨(some 6), none, .load false 1 (.t 5)⟩,
  ⟨(some 7), none, .build [(.int .u64 0), (.int .u64 0)] [(0, 1, (.t 4)), (1, 1, (.t 6))]⟩,
  ⟨none, none, .store 2 (.t 2) (.t 7)⟩]
abbrev x26b : XCode :=
  (.seq (.reg 0 x26r0 none)
  (.seq (.reg 1 x26r1 none)
  .ret))
def x26 : XFunc := ⟨8, 1, [.cell 2 true 2], x26b⟩
theorem x26_ok : chkF Tryz.prog Tryz.f26 x26 = true := by kernel_rfl
theorem x26_eq : x26.body = x26b ∧ x26.res = [.cell 2 true 2] ∧ x26.np = 1 := ⟨rfl, rfl, rfl⟩
abbrev x48r0 : List XOper := [
  ⟨(some 2), none, .mv (.c (.int .u64 0))⟩]
abbrev x48r1 : List XOper := [
  ⟨(some 3), none, .mv (.t 0)⟩,
  ⟨(some 4), none, .mv (.t 0)⟩,
  ⟨(some 5), none, .un .neg (.t 4)⟩,
  ⟨(some 6), none, .mnx true (.t 3) [(.t 5)]⟩,
  ⟨(some 7), none, .conv .u64 (.t 6)⟩,
  ⟨(some 2), none, .mv (.t 7)⟩]
abbrev x48b : XCode :=
  (.seq (.reg 0 x48r0 none)
  (.seq (.reg 1 x48r1 none)
  .ret))
def x48 : XFunc := ⟨8, 1, [.tmp 2], x48b⟩
theorem x48_ok : chkF Tryz.prog Tryz.f48 x48 = true := by kernel_rfl
theorem x48_eq : x48.body = x48b ∧ x48.res = [.tmp 2] ∧ x48.np = 1 := ⟨rfl, rfl, rfl⟩
abbrev x52r0 : List XOper := [
  ⟨(some 4), none, .mv (.c (.int .u64 0))⟩,
  ⟨(some 5), none, .mv (.c (.int .u64 0))⟩]
abbrev x52r1 : List XOper := [
  ⟨(some 14), none, .mv (.t 0)⟩,
  ⟨(some 15), none, .bin .and (.t 14) (.c (.int .u64 4294967295))⟩,
  ⟨(some 6), none, .mv (.t 15)⟩]
abbrev x52r2 : List XOper := [
  ⟨(some 16), none, .mv (.t 0)⟩,
  ⟨(some 17), none, .bin .shr (.t 16) (.c (.int .u64 32))⟩,
  ⟨(some 7), none, .mv (.t 17)⟩]
abbrev x52r3 : List XOper := [
  ⟨(some 18), none, .mv (.t 1)⟩,
  ⟨(some 19), none, .bin .and (.t 18) (.c (.int .u64 4294967295))⟩,
  ⟨(some 8), none, .mv (.t 19)⟩]
abbrev x52r4 : List XOper := [
  ⟨(some 20), none, .mv (.t 1)⟩,
  ⟨(some 21), none, .bin .shr (.t 20) (.c (.int .u64 32))⟩,
  ⟨(some 9), none, .mv (.t 21)⟩]
abbrev x52r5 : List XOper := [
  ⟨(some 22), none, .mv (.t 6)⟩,
  ⟨(some 23), none, .mv (.t 8)⟩,
  ⟨(some 24), none, .bin .mul (.t 22) (.t 23)⟩,
  ⟨(some 10), none, .mv (.t 24)⟩]
abbrev x52r6 : List XOper := [
  ⟨(some 25), none, .mv (.t 7)⟩,
  ⟨(some 26), none, .mv (.t 8)⟩,
  ⟨(some 27), none, .bin .mul (.t 25) (.t 26)⟩,
  ⟨(some 28), none, .mv (.t 10)⟩,
  ⟨(some 29), none, .bin .shr (.t 28) (.c (.int .u64 32))⟩,
  ⟨(some 30), none, .bin .add (.t 27) (.t 29)⟩,
  ⟨(some 11), none, .mv (.t 30)⟩]
abbrev x52r7 : List XOper := [
  ⟨(some 31), none, .mv (.t 11)⟩,
  ⟨(some 32), none, .bin .and (.t 31) (.c (.int .u64 4294967295))⟩,
  ⟨(some 12), none, .mv (.t 32)⟩]
abbrev x52r8 : List XOper := [
  ⟨(some 33), none, .mv (.t 11)⟩,
  ⟨(some 34), none, .bin .shr (.t 33) (.c (.int .u64 32))⟩,
  ⟨(some 13), none, .mv (.t 34)⟩]
abbrev x52r9 : List XOper := [
  ⟨(some 35), none, .mv (.t 12)⟩,
  ⟨(some 36), none, .mv (.t 6)⟩,
  ⟨(some 37), none, .mv (.t 9)⟩,
  ⟨(some 38), none, .bin .mul (.t 36) (.t 37)⟩,
  ⟨(some 39), none, .bin .add (.t 35) (.t 38)⟩,
  ⟨(some 12), none, .mv (.t 39)⟩]
abbrev x52r10 : List XOper := [
  ⟨(some 40), none, .mv (.t 7)⟩,
  ⟨(some 41), none, .mv (.t 9)⟩,
  ⟨(some 42), none, .bin .mul (.t 40) (.t 41)⟩,
  ⟨(some 43), none, .mv (.t 13)⟩,
  ⟨(some 44), none, .bin .add (.t 42) (.t 43)⟩,
  ⟨(some 45), none, .mv (.t 12)⟩,
  ⟨(some 46), none, .bin .shr (.t 45) (.c (.int .u64 32))⟩,
  ⟨(some 47), none, .bin .add (.t 44) (.t 46)⟩,
  ⟨(some 4), none, .mv (.t 47)⟩]
abbrev x52r11 : List XOper := [
  ⟨(some 48), none, .mv (.t 0)⟩,
  ⟨(some 49), none, .mv (.t 1)⟩,
  ⟨(some 50), none, .bin .mul (.t 48) (.t 49)⟩,
  ⟨(some 5), none, .mv (.t 50)⟩]
abbrev x52b : XCode :=
  (.seq (.reg 0 x52r0 none)
  (.seq (.reg 1 x52r1 none)
  (.seq (.reg 2 x52r2 none)
  (.seq (.reg 3 x52r3 none)
  (.seq (.reg 4 x52r4 none)
  (.seq (.reg 5 x52r5 none)
  (.seq (.reg 6 x52r6 none)
  (.seq (.reg 7 x52r7 none)
  (.seq (.reg 8 x52r8 none)
  (.seq (.reg 9 x52r9 none)
  (.seq (.reg 10 x52r10 none)
  (.seq (.reg 11 x52r11 none)
  .ret))))))))))))
def x52 : XFunc := ⟨51, 2, [.tmp 4, .tmp 5], x52b⟩
theorem x52_ok : chkF Tryz.prog Tryz.f52 x52 = true := by kernel_rfl
theorem x52_eq : x52.body = x52b ∧ x52.res = [.tmp 4, .tmp 5] ∧ x52.np = 2 := ⟨rfl, rfl, rfl⟩
abbrev x55r0 : List XOper := [
  ⟨(some 2), none, .box (.t 0)⟩,
  ⟨(some 3), none, .box (.t 1)⟩,
  ⟨(some 4), none, .mv (.c (.bool false))⟩]
abbrev x55r1 : List XOper := [
  ⟨(some 5), none, .fa 0 (.t 2)⟩,
  ⟨(some 6), none, .load false 1 (.t 5)⟩,
  ⟨(some 7), none, .fa 0 (.t 3)⟩,
  ⟨(some 8), none, .load false 1 (.t 7)⟩,
  ⟨(some 9), none, .bin .lss (.t 6) (.t 8)⟩,
  ⟨(some 10), none, .mv (.t 9)⟩,
  ⟨(some 11), (some (10, false)), .fa 0 (.t 2)⟩,
  ⟨(some 12), (some (10, false)), .load false 1 (.t 11)⟩,
  ⟨(some 13), (some (10, false)), .fa 0 (.t 3)⟩,
  ⟨(some 14), (some (10, false)), .load false 1 (.t 13)⟩,
  ⟨(some 15), (some (10, false)), .bin .eql (.t 12) (.t 14)⟩,
  ⟨(some 16), (some (10, false)), .mv (.t 15)⟩,
  ⟨(some 17), (some (16, true)), .fa 1 (.t 2)⟩,
  ⟨(some 18), (some (16, true)), .load false 1 (.t 17)⟩,
  ⟨(some 19), (some (16, true)), .fa 1 (.t 3)⟩,
  ⟨(some 20), (some (16, true)), .load false 1 (.t 19)⟩,
  ⟨(some 21), (some (16, true)), .bin .lss (.t 18) (.t 20)⟩,
  ⟨(some 22), (some (10, false)), .pick (.t 16) (.t 21) (.c (.bool false))⟩,
  ⟨(some 23), none, .pick (.t 10) (.c (.bool true)) (.t 22)⟩,
  ⟨(some 4), none, .mv (.t 23)⟩]
abbrev x55b : XCode :=
  (.seq (.reg 0 x55r0 none)
  (.seq (.reg 1 x55r1 none)
  .ret))
def x55 : XFunc := ⟨24, 2, [.tmp 4], x55b⟩
theorem x55_ok : chkF Tryz.prog Tryz.f55 x55 = true := by kernel_rfl
theorem x55_eq : x55.body = x55b ∧ x55.res = [.tmp 4] ∧ x55.np = 2 := ⟨rfl, rfl, rfl⟩
abbrev x58r0 : List XOper := [
  ⟨(some 2), none, .box (.t 0)⟩,
  ⟨(some 3), none, .box (.t 1)⟩,
  ⟨(some 4), none, .alloc [(.int .u64 0), (.int .u64 0)]⟩,
  ⟨(some 5), none, .alloc [(.int .u64 0), (.int .u64 0)]⟩,
  ⟨(some 6), none, .mv (.c (.int .i64 0))⟩]
abbrev x58r1 : List XOper := [
  ⟨(some 14), none, .load true 2 (.t 3)⟩,
  ⟨(some 15), none, .build [(.int .u64 0), (.int .u64 0)] []⟩,
  ⟨(some 16), none, .eqA false [0, 0] (.t 14) (.t 15)⟩]
abbrev x58r2 : List XOper := [
  ⟨(some 17), none, .build [(.int .u64 0), (.int .u64 0)] []⟩,
  ⟨(some 18), none, .build [(.int .u64 0), (.int .u64 0)] []⟩,
  ⟨none, none, .store 2 (.t 4) (.t 17)⟩,
  ⟨none, none, .store 2 (.t 5) (.t 18)⟩,
  ⟨(some 6), none, .mv (.c (.int .i64 4))⟩]
abbrev x58r3 : List XOper := [
  ⟨(some 19), none, .fa 0 (.t 3)⟩,
  ⟨(some 20), none, .load false 1 (.t 19)⟩,
  ⟨(some 21), none, .bin .eql (.t 20) (.c (.int .u64 0))⟩]
abbrev x58r4 : List XOper := [
  ⟨(some 23), none, .fa 0 (.t 2)⟩,
  ⟨(some 24), none, .load false 1 (.t 23)⟩,
  ⟨(some 25), none, .fa 1 (.t 3)⟩,
  ⟨(some 26), none, .load false 1 (.t 25)⟩,
  ⟨(some 27), none, .call (.c (.fn (.func 81) [] [])) [(.c (.int .u64 0)), (.t 24), (.t 26)]⟩,
  ⟨(some 22), none, .mv (.t 27)⟩,
  ⟨(some 28), none, .ext (.t 22) 0⟩,
  ⟨(some 29), none, .ext (.t 22) 1⟩,
  ⟨(some 7), none, .mv (.t 28)⟩,
  ⟨(some 8), none, .mv (.t 29)⟩]
abbrev x58r5 : List XOper := [
  ⟨(some 31), none, .mv (.t 8)⟩,
  ⟨(some 32), none, .fa 1 (.t 2)⟩,
  ⟨(some 33), none, .load false 1 (.t 32)⟩,
  ⟨(some 34), none, .fa 1 (.t 3)⟩,
  ⟨(some 35), none, .load false 1 (.t 34)⟩,
  ⟨(some 36), none, .call (.c (.fn (.func 81) [] [])) [(.t 31), (.t 33), (.t 35)]⟩,
  ⟨(some 30), none, .mv (.t 36)⟩,
  ⟨(some 37), none, .ext (.t 30) 0⟩,
  ⟨(some 38), none, .ext (.t 30) 1⟩,
  ⟨(some 9), none, .mv (.t 37)⟩,
  ⟨(some 10), none, .mv (.t 38)⟩]
abbrev x58r6 : List XOper := [
  ⟨(some 39), none, .mv (.t 7)⟩,
  ⟨(some 40), none, .mv (.t 9)⟩,
  ⟨(some 41), none, .build [(.int .u64 0), (.int .u64 0)] [(0, 1, (.t 39)), (1, 1, (.t 40))]⟩,
  ⟨(some 42), none, .mv (.t 10)⟩,
  ⟨(some 43), none, .build [(.int .u64 0), (.int .u64 0)] [(1, 1, (.t 42))]⟩,
  ⟨none, none, .store 2 (.t 4) (.t 41)⟩,
  ⟨none, none, .store 2 (.t 5) (.t 43)⟩,
  ⟨(some 6), none, .mv (.c (.int .i64 0))⟩]
abbrev x58r7 : List XOper := [
  ⟨(some 44), none, .build [(.int .u64 0), (.int .u64 0)] []⟩,
  ⟨(some 11), none, .alloc [(.int .u64 0), (.int .u64 0)]⟩,
  ⟨none, none, .store 2 (.t 11) (.t 44)⟩]
abbrev x58r8 : List XOper := [
  ⟨(some 45), none, .fa 0 (.t 3)⟩,
  ⟨(some 46), none, .load false 1 (.t 45)⟩,
  ⟨(some 47), none, .call (.c (.fn (.func 82) [] [])) [(.t 46)]⟩,
  ⟨(some 12), none, .mv (.t 47)⟩]
abbrev x58r9 : List XOper := [
  ⟨(some 48), none, .mv (.t 12)⟩,
  ⟨(some 49), none, .bin .geq (.t 48) (.c (.int .i64 0))⟩]
abbrev x58r11 : List XOper := [
  ⟨(some 52), none, .load true 2 (.t 3)⟩,
  ⟨(some 53), none, .mv (.t 12)⟩,
  ⟨(some 54), none, .call (.c (.fn (.func 83) [] [])) [(.t 52), (.t 53)]⟩,
  ⟨(some 13), none, .alloc [(.int .u64 0), (.int .u64 0)]⟩,
  ⟨none, none, .store 2 (.t 13) (.t 54)⟩]
abbrev x58r12 : List XOper := [
  ⟨(some 55), none, .load true 2 (.t 2)⟩,
  ⟨(some 56), none, .load true 2 (.t 13)⟩,
  ⟨(some 57), none, .call (.c (.fn (.func 55) [] [])) [(.t 55), (.t 56)]⟩]
abbrev x58r13 : List XOper := [
  ⟨(some 59), none, .load true 2 (.t 2)⟩,
  ⟨(some 60), none, .load true 2 (.t 13)⟩,
  ⟨(some 61), none, .call (.c (.fn (.func 80) [] [])) [(.t 59), (.t 60)]⟩,
  ⟨(some 58), none, .mv (.t 61)⟩,
  ⟨(some 62), none, .ext (.t 58) 0⟩,
  ⟨(some 63), none, .ext (.t 58) 1⟩,
  ⟨none, none, .store 2 (.t 2) (.t 62)⟩]
abbrev x58r14 : List XOper := [
  ⟨(some 64), none, .fa 1 (.t 11)⟩,
  ⟨(some 65), none, .load false 1 (.t 64)⟩,
  ⟨(some 66), none, .mv (.t 12)⟩,
  ⟨(some 67), none, .bin .shl (.c (.int .u64 1)) (.t 66)⟩,
  ⟨(some 68), none, .bin .or (.t 65) (.t 67)⟩,
  ⟨(some 69), none, .fa 1 (.t 11)⟩,
  ⟨none, none, .store 1 (.t 69) (.t 68)⟩]
abbrev x58r10 : List XOper := [
  ⟨(some 50), none, .mv (.t 12)⟩,
  ⟨(some 51), none, .bin .sub (.t 50) (.c (.int .i64 1))⟩,
  ⟨(some 12), none, .mv (.t 51)⟩]
abbrev x58l9 : XCode :=
  (.seq (.seq (.reg 9 x58r9 none)
  (.cond (.t 49)
    .skip
    (.exit 0)))
  (.seq (.block 1
    (.seq (.reg 11 x58r11 none)
    (.seq (.seq (.reg 12 x58r12 none)
    (.cond (.t 57)
      (.exit 1)
      .skip))
    (.seq (.reg 13 x58r13 none)
    (.reg 14 x58r14 (some ⟨[]⟩))))))
  (.reg 10 x58r10 none)))
abbrev x58r15 : List XOper := [
  ⟨(some 70), none, .load true 2 (.t 11)⟩,
  ⟨(some 71), none, .load true 2 (.t 2)⟩,
  ⟨none, none, .store 2 (.t 4) (.t 70)⟩,
  ⟨none, none, .store 2 (.t 5) (.t 71)⟩,
  ⟨(some 6), none, .mv (.c (.int .i64 0))⟩]
abbrev x58b : XCode :=
  (.seq (.reg 0 x58r0 none)
  (.seq (.seq (.reg 1 x58r1 none)
  (.cond (.t 16)
    (.seq (.reg 2 x58r2 none)
    .ret)
    .skip))
  (.seq (.seq (.reg 3 x58r3 none)
  (.cond (.t 21)
    (.seq (.reg 4 x58r4 none)
    (.seq (.reg 5 x58r5 none)
    (.seq (.reg 6 x58r6 none)
    .ret)))
    .skip))
  (.seq (.reg 7 x58r7 none)
  (.seq (.seq (.reg 8 x58r8 none)
  (.block 0
    (.loop x58l9)))
  (.seq (.reg 15 x58r15 (some ⟨[(1, 2)]⟩))
  .ret))))))
def x58 : XFunc := ⟨72, 2, [.cell 4 true 2, .cell 5 true 2, .tmp 6], x58b⟩
theorem x58_ok : chkF Tryz.prog Tryz.f58 x58 = true := by kernel_rfl
theorem x58_eq : x58.body = x58b ∧ x58.res = [.cell 4 true 2, .cell 5 true 2, .tmp 6] ∧ x58.np = 2 := ⟨rfl, rfl, rfl⟩
abbrev x80r0 : List XOper := [
  ⟨(some 2), none, .box (.t 0)⟩,
  ⟨(some 3), none, .box (.t 1)⟩,
  ⟨(some 4), none, .alloc [(.int .u64 0), (.int .u64 0)]⟩,
  ⟨(some 5), none, .mv (.c (.bool false))⟩]
abbrev x80r1 : List XOper := [
  ⟨(some 11), none, .load true 2 (.t 2)⟩,
  ⟨(some 12), none, .call (.c (.fn (.func 26) [] [])) [(.t 11)]⟩,
  ⟨(some 13), none, .load true 2 (.t 3)⟩,
  ⟨(some 14), none, .call (.c (.fn (.func 26) [] [])) [(.t 13)]⟩,
  ⟨(some 6), none, .alloc [(.int .u64 0), (.int .u64 0)]⟩,
  ⟨(some 7), none, .alloc [(.int .u64 0), (.int .u64 0)]⟩,
  ⟨none, none, .store 2 (.t 6) (.t 12)⟩,
  ⟨none, none, .store 2 (.t 7) (.t 14)⟩]
abbrev x80r2 : List XOper := [
  ⟨(some 8), none, .alloc [(.int .u64 0), (.int .u64 0)]⟩]
abbrev x80r3 : List XOper := [
  ⟨(some 9), none, .mv (.c (.int .u64 0))⟩]
abbrev x80r4 : List XOper := [
  ⟨(some 15), none, .mv (.c (.int .i64 0))⟩]
abbrev x80r5 : List XOper := [
  ⟨(some 16), none, .bin .lss (.t 15) (.c (.int .i64 2))⟩]
abbrev x80r6 : List XOper := [
  ⟨(some 17), none, .mv (.t 15)⟩,
  ⟨(some 10), none, .mv (.t 17)⟩]
abbrev x80r7 : List XOper := [
  ⟨(some 19), none, .mv (.t 10)⟩,
  ⟨(some 20), none, .mv (.t 10)⟩,
  ⟨(some 21), none, .iaA 2 1 (.t 6) (.t 20)⟩,
  ⟨(some 22), none, .load false 1 (.t 21)⟩,
  ⟨(some 23), none, .mv (.t 10)⟩,
  ⟨(some 24), none, .iaA 2 1 (.t 7) (.t 23)⟩,
  ⟨(some 25), none, .load false 1 (.t 24)⟩,
  ⟨(some 26), none, .mv (.t 9)⟩,
  ⟨(some 27), none, .call (.c (.fn (.func 114) [] [])) [(.t 22), (.t 25), (.t 26)]⟩,
  ⟨(some 18), none, .mv (.t 27)⟩,
  ⟨(some 28), none, .ext (.t 18) 0⟩,
  ⟨(some 29), none, .ext (.t 18) 1⟩,
  ⟨(some 30), none, .iaA 2 1 (.t 8) (.t 19)⟩,
  ⟨none, none, .store 1 (.t 30) (.t 28)⟩,
  ⟨(some 9), none, .mv (.t 29)⟩]
abbrev x80r8 : List XOper := [
  ⟨(some 31), none, .bin .add (.t 15) (.c (.int .i64 1))⟩,
  ⟨(some 15), none, .mv (.t 31)⟩]
abbrev x80l5 : XCode :=
  (.seq (.reg 5 x80r5 none)
  (.seq (.cond (.t 16)
    .skip
    (.exit 0))
  (.seq (.block 1
    (.seq (.reg 6 x80r6 none)
    (.reg 7 x80r7 (some ⟨[]⟩))))
  (.reg 8 x80r8 none))))
abbrev x80r9 : List XOper := [
  ⟨(some 32), none, .iaA 2 1 (.t 8) (.c (.int .i64 1))⟩,
  ⟨(some 33), none, .load false 1 (.t 32)⟩,
  ⟨(some 34), none, .iaA 2 1 (.t 8) (.c (.int .i64 0))⟩,
  ⟨(some 35), none, .load false 1 (.t 34)⟩,
  ⟨(some 36), none, .build [(.int .u64 0), (.int .u64 0)] [(0, 1, (.t 33)), (1, 1, (.t 35))]⟩,
  ⟨(some 37), none, .mv (.t 9)⟩,
  ⟨(some 38), none, .bin .gtr (.t 37) (.c (.int .u64 0))⟩,
  ⟨none, none, .store 2 (.t 4) (.t 36)⟩,
  ⟨(some 5), none, .mv (.t 38)⟩]
abbrev x80b : XCode :=
  (.seq (.reg 0 x80r0 none)
  (.seq (.reg 1 x80r1 (some ⟨[(1, 2), (0, 4), (1, 4), (2, 4), (3, 4), (0, 5), (1, 5), (2, 5), (3, 5), (4, 5)]⟩))
  (.seq (.reg 2 x80r2 none)
  (.seq (.reg 3 x80r3 none)
  (.seq (.seq (.reg 4 x80r4 none)
  (.block 0
    (.loop x80l5)))
  (.seq (.reg 9 x80r9 none)
  .ret))))))
def x80 : XFunc := ⟨39, 2, [.cell 4 true 2, .tmp 5], x80b⟩
theorem x80_ok : chkF Tryz.prog Tryz.f80 x80 = true := by kernel_rfl
theorem x80_eq : x80.body = x80b ∧ x80.res = [.cell 4 true 2, .tmp 5] ∧ x80.np = 2 := ⟨rfl, rfl, rfl⟩
abbrev x81r0 : List XOper := [
  ⟨(some 6), none, .mv (.c (.int .u64 0))⟩,
  ⟨(some 7), none, .mv (.c (.int .u64 0))⟩]
abbrev x81r1 : List XOper := [
  ⟨(some 19), none, .mv (.t 2)⟩,
  ⟨(some 20), none, .bin .eql (.t 19) (.c (.int .u64 0))⟩]
abbrev x81r2 : List XOper := [
  ⟨(some 21), none, .bad⟩,
  ⟨none, none, .bad⟩]
abbrev x81r3 : List XOper := [
  ⟨(some 22), none, .mv (.t 2)⟩,
  ⟨(some 23), none, .mv (.t 0)⟩,
  ⟨(some 24), none, .bin .leq (.t 22) (.t 23)⟩]
abbrev x81r4 : List XOper := [
  ⟨(some 25), none, .bad⟩,
  ⟨none, none, .bad⟩]
abbrev x81r5 : List XOper := [
  ⟨(some 26), none, .mv (.t 0)⟩,
  ⟨(some 27), none, .bin .eql (.t 26) (.c (.int .u64 0))⟩]
abbrev x81r6 : List XOper := [
  ⟨(some 28), none, .mv (.t 1)⟩,
  ⟨(some 29), none, .mv (.t 2)⟩,
  ⟨(some 30), none, .bin .quo (.t 28) (.t 29)⟩,
  ⟨(some 31), none, .mv (.t 1)⟩,
  ⟨(some 32), none, .mv (.t 2)⟩,
  ⟨(some 33), none, .bin .rem (.t 31) (.t 32)⟩,
  ⟨(some 6), none, .mv (.t 30)⟩,
  ⟨(some 7), none, .mv (.t 33)⟩]
abbrev x81r7 : List XOper := [
  ⟨(some 34), none, .mv (.t 2)⟩,
  ⟨(some 35), none, .call (.c (.fn (.func 82) [] [])) [(.t 34)]⟩,
  ⟨(some 36), none, .conv .u64 (.t 35)⟩,
  ⟨(some 8), none, .mv (.t 36)⟩]
abbrev x81r8 : List XOper := [
  ⟨(some 37), none, .mv (.t 2)⟩,
  ⟨(some 38), none, .mv (.t 8)⟩,
  ⟨(some 39), none, .bin .shl (.t 37) (.t 38)⟩,
  ⟨(some 2), none, .mv (.t 39)⟩]
abbrev x81r9 : List XOper := [
  ⟨(some 40), none, .mv (.t 2)⟩,
  ⟨(some 41), none, .bin .shr (.t 40) (.c (.int .u64 32))⟩,
  ⟨(some 9), none, .mv (.t 41)⟩]
abbrev x81r10 : List XOper := [
  ⟨(some 42), none, .mv (.t 2)⟩,
  ⟨(some 43), none, .bin .and (.t 42) (.c (.int .u64 4294967295))⟩,
  ⟨(some 10), none, .mv (.t 43)⟩]
abbrev x81r11 : List XOper := [
  ⟨(some 44), none, .mv (.t 0)⟩,
  ⟨(some 45), none, .mv (.t 8)⟩,
  ⟨(some 46), none, .bin .shl (.t 44) (.t 45)⟩,
  ⟨(some 47), none, .mv (.t 1)⟩,
  ⟨(some 48), none, .mv (.t 8)⟩,
  ⟨(some 49), none, .bin .sub (.c (.int .u64 64)) (.t 48)⟩,
  ⟨(some 50), none, .bin .shr (.t 47) (.t 49)⟩,
  ⟨(some 51), none, .bin .or (.t 46) (.t 50)⟩,
  ⟨(some 11), none, .mv (.t 51)⟩]
abbrev x81r12 : List XOper := [
  ⟨(some 52), none, .mv (.t 1)⟩,
  ⟨(some 53), none, .mv (.t 8)⟩,
  ⟨(some 54), none, .bin .shl (.t 52) (.t 53)⟩,
  ⟨(some 12), none, .mv (.t 54)⟩]
abbrev x81r13 : List XOper := [
  ⟨(some 55), none, .mv (.t 12)⟩,
  ⟨(some 56), none, .bin .shr (.t 55) (.c (.int .u64 32))⟩,
  ⟨(some 13), none, .mv (.t 56)⟩]
abbrev x81r14 : List XOper := [
  ⟨(some 57), none, .mv (.t 12)⟩,
  ⟨(some 58), none, .bin .and (.t 57) (.c (.int .u64 4294967295))⟩,
  ⟨(some 14), none, .mv (.t 58)⟩]
abbrev x81r15 : List XOper := [
  ⟨(some 59), none, .mv (.t 11)⟩,
  ⟨(some 60), none, .mv (.t 9)⟩,
  ⟨(some 61), none, .bin .quo (.t 59) (.t 60)⟩,
  ⟨(some 15), none, .mv (.t 61)⟩]
abbrev x81r16 : List XOper := [
  ⟨(some 62), none, .mv (.t 11)⟩,
  ⟨(some 63), none, .mv (.t 15)⟩,
  ⟨(some 64), none, .mv (.t 9)⟩,
  ⟨(some 65), none, .bin .mul (.t 63) (.t 64)⟩,
  ⟨(some 66), none, .bin .sub (.t 62) (.t 65)⟩,
  ⟨(some 16), none, .mv (.t 66)⟩]
abbrev x81r17 : List XOper := [
  ⟨(some 67), none, .mv (.t 15)⟩,
  ⟨(some 68), none, .bin .geq (.t 67) (.c (.int .u64 4294967296))⟩,
  ⟨(some 69), none, .mv (.t 68)⟩,
  ⟨(some 70), (some (69, false)), .mv (.t 15)⟩,
  ⟨(some 71), (some (69, false)), .mv (.t 10)⟩,
  ⟨(some 72), (some (69, false)), .bin .mul (.t 70) (.t 71)⟩,
  ⟨(some 73), (some (69, false)), .mv (.t 16)⟩,
  ⟨(some 74), (some (69, false)), .bin .mul (.c (.int .u64 4294967296)) (.t 73)⟩,
  ⟨(some 75), (some (69, false)), .mv (.t 13)⟩,
  ⟨(some 76), (some (69, false)), .bin .add (.t 74) (.t 75)⟩,
  ⟨(some 77), (some (69, false)), .bin .gtr (.t 72) (.t 76)⟩,
  ⟨(some 78), none, .pick (.t 69) (.c (.bool true)) (.t 77)⟩]
abbrev x81r18 : List XOper := [
  ⟨(some 79), none, .mv (.t 15)⟩,
  ⟨(some 80), none, .bin .sub (.t 79) (.c (.int .u64 1))⟩,
  ⟨(some 15), none, .mv (.t 80)⟩]
abbrev x81r19 : List XOper := [
  ⟨(some 81), none, .mv (.t 16)⟩,
  ⟨(some 82), none, .mv (.t 9)⟩,
  ⟨(some 83), none, .bin .add (.t 81) (.t 82)⟩,
  ⟨(some 16), none, .mv (.t 83)⟩]
abbrev x81r20 : List XOper := [
  ⟨(some 84), none, .mv (.t 16)⟩,
  ⟨(some 85), none, .bin .geq (.t 84) (.c (.int .u64 4294967296))⟩]
abbrev x81l17 : XCode :=
  (.seq (.seq (.reg 17 x81r17 none)
  (.cond (.t 78)
    .skip
    (.exit 0)))
  (.block 1
    (.seq (.reg 18 x81r18 none)
    (.seq (.reg 19 x81r19 none)
    (.seq (.reg 20 x81r20 none)
    (.cond (.t 85)
      (.exit 0)
      .skip))))))
abbrev x81r21 : List XOper := [
  ⟨(some 86), none, .mv (.t 11)⟩,
  ⟨(some 87), none, .bin .mul (.t 86) (.c (.int .u64 4294967296))⟩,
  ⟨(some 88), none, .mv (.t 13)⟩,
  ⟨(some 89), none, .bin .add (.t 87) (.t 88)⟩,
  ⟨(some 90), none, .mv (.t 15)⟩,
  ⟨(some 91), none, .mv (.t 2)⟩,
  ⟨(some 92), none, .bin .mul (.t 90) (.t 91)⟩,
  ⟨(some 93), none, .bin .sub (.t 89) (.t 92)⟩,
  ⟨(some 17), none, .mv (.t 93)⟩]
abbrev x81r22 : List XOper := [
  ⟨(some 94), none, .mv (.t 17)⟩,
  ⟨(some 95), none, .mv (.t 9)⟩,
  ⟨(some 96), none, .bin .quo (.t 94) (.t 95)⟩,
  ⟨(some 18), none, .mv (.t 96)⟩]
abbrev x81r23 : List XOper := [
  ⟨(some 97), none, .mv (.t 17)⟩,
  ⟨(some 98), none, .mv (.t 18)⟩,
  ⟨(some 99), none, .mv (.t 9)⟩,
  ⟨(some 100), none, .bin .mul (.t 98) (.t 99)⟩,
  ⟨(some 101), none, .bin .sub (.t 97) (.t 100)⟩,
  ⟨(some 16), none, .mv (.t 101)⟩]
abbrev x81r24 : List XOper := [
  ⟨(some 102), none, .mv (.t 18)⟩,
  ⟨(some 103), none, .bin .geq (.t 102) (.c (.int .u64 4294967296))⟩,
  ⟨(some 104), none, .mv (.t 103)⟩,
  ⟨(some 105), (some (104, false)), .mv (.t 18)⟩,
  ⟨(some 106), (some (104, false)), .mv (.t 10)⟩,
  ⟨(some 107), (some (104, false)), .bin .mul (.t 105) (.t 106)⟩,
  ⟨(some 108), (some (104, false)), .mv (.t 16)⟩,
  ⟨(some 109), (some (104, false)), .bin .mul (.c (.int .u64 4294967296)) (.t 108)⟩,
  ⟨(some 110), (some (104, false)), .mv (.t 14)⟩,
  ⟨(some 111), (some (104, false)), .bin .add (.t 109) (.t 110)⟩,
  ⟨(some 112), (some (104, false)), .bin .gtr (.t 107) (.t 111)⟩,
  ⟨(some 113), none, .pick (.t 104) (.c (.bool true)) (.t 112)⟩]
abbrev x81r25 : List XOper := [
  ⟨(some 114), none, .mv (.t 18)⟩,
  ⟨(some 115), none, .bin .sub (.t 114) (.c (.int .u64 1))⟩,
  ⟨(some 18), none, .mv (.t 115)⟩]
abbrev x81r26 : List XOper := [
  ⟨(some 116), none, .mv (.t 16)⟩,
  ⟨(some 117), none, .mv (.t 9)⟩,
  ⟨(some 118), none, .bin .add (.t 116) (.t 117)⟩,
  ⟨(some 16), none, .mv (.t 118)⟩]
abbrev x81r27 : List XOper := [
  ⟨(some 119), none, .mv (.t 16)⟩,
  ⟨(some 120), none, .bin .geq (.t 119) (.c (.int .u64 4294967296))⟩]
abbrev x81l25 : XCode :=
  (.seq (.seq (.reg 24 x81r24 none)
  (.cond (.t 113)
    .skip
    (.exit 2)))
  (.block 3
    (.seq (.reg 25 x81r25 none)
    (.seq (.reg 26 x81r26 none)
    (.seq (.reg 27 x81r27 none)
    (.cond (.t 120)
      (.exit 2)
      .skip))))))
abbrev x81r28 : List XOper := [
  ⟨(some 121), none, .mv (.t 15)⟩,
  ⟨(some 122), none, .bin .mul (.t 121) (.c (.int .u64 4294967296))⟩,
  ⟨(some 123), none, .mv (.t 18)⟩,
  ⟨(some 124), none, .bin .add (.t 122) (.t 123)⟩,
  ⟨(some 125), none, .mv (.t 17)⟩,
  ⟨(some 126), none, .bin .mul (.t 125) (.c (.int .u64 4294967296))⟩,
  ⟨(some 127), none, .mv (.t 14)⟩,
  ⟨(some 128), none, .bin .add (.t 126) (.t 127)⟩,
  ⟨(some 129), none, .mv (.t 18)⟩,
  ⟨(some 130), none, .mv (.t 2)⟩,
  ⟨(some 131), none, .bin .mul (.t 129) (.t 130)⟩,
  ⟨(some 132), none, .bin .sub (.t 128) (.t 131)⟩,
  ⟨(some 133), none, .mv (.t 8)⟩,
  ⟨(some 134), none, .bin .shr (.t 132) (.t 133)⟩,
  ⟨(some 6), none, .mv (.t 124)⟩,
  ⟨(some 7), none, .mv (.t 134)⟩]
abbrev x81b : XCode :=
  (.seq (.reg 0 x81r0 none)
  (.seq (.seq (.reg 1 x81r1 none)
  (.cond (.t 20)
    (.reg 2 x81r2 none)
    .skip))
  (.seq (.seq (.reg 3 x81r3 none)
  (.cond (.t 24)
    (.reg 4 x81r4 none)
    .skip))
  (.seq (.seq (.reg 5 x81r5 none)
  (.cond (.t 27)
    (.seq (.reg 6 x81r6 (some ⟨[]⟩))
    .ret)
    .skip))
  (.seq (.reg 7 x81r7 none)
  (.seq (.reg 8 x81r8 none)
  (.seq (.reg 9 x81r9 none)
  (.seq (.reg 10 x81r10 none)
  (.seq (.reg 11 x81r11 none)
  (.seq (.reg 12 x81r12 none)
  (.seq (.reg 13 x81r13 none)
  (.seq (.reg 14 x81r14 none)
  (.seq (.reg 15 x81r15 none)
  (.seq (.reg 16 x81r16 none)
  (.seq (.block 0
    (.loop x81l17))
  (.seq (.reg 21 x81r21 none)
  (.seq (.reg 22 x81r22 none)
  (.seq (.reg 23 x81r23 none)
  (.seq (.block 2
    (.loop x81l25))
  (.seq (.reg 28 x81r28 none)
  .ret))))))))))))))))))))
def x81 : XFunc := ⟨135, 3, [.tmp 6, .tmp 7], x81b⟩
theorem x81_ok : chkF Tryz.prog Tryz.f81 x81 = true := by kernel_rfl
theorem x81_eq : x81.body = x81b ∧ x81.res = [.tmp 6, .tmp 7] ∧ x81.np = 3 := ⟨rfl, rfl, rfl⟩
abbrev x88r0 : List XOper := [
  ⟨(some 2), none, .mv (.c (.bool false))⟩]
abbrev x88r1 : List XOper := [
  ⟨(some 3), none, .mv (.t 0)⟩,
  ⟨(some 4), none, .bin .geq (.t 3) (.c (.int .i64 0))⟩,
  ⟨(some 5), none, .mv (.t 4)⟩,
  ⟨(some 6), (some (5, true)), .mv (.t 0)⟩,
  ⟨(some 7), (some (5, true)), .bin .lss (.t 6) (.c (.int .i64 7))⟩,
  ⟨(some 8), none, .pick (.t 5) (.t 7) (.c (.bool false))⟩,
  ⟨(some 2), none, .mv (.t 8)⟩]
abbrev x88b : XCode :=
  (.seq (.reg 0 x88r0 none)
  (.seq (.reg 1 x88r1 none)
  .ret))
def x88 : XFunc := ⟨9, 1, [.tmp 2], x88b⟩
theorem x88_ok : chkF Tryz.prog Tryz.f88 x88 = true := by kernel_rfl
theorem x88_eq : x88.body = x88b ∧ x88.res = [.tmp 2] ∧ x88.np = 1 := ⟨rfl, rfl, rfl⟩
abbrev x89r0 : List XOper := [
  ⟨(some 2), none, .mv (.c (.bool false))⟩]
abbrev x89r1 : List XOper := [
  ⟨(some 3), none, .mv (.t 0)⟩,
  ⟨(some 4), none, .bin .geq (.t 3) (.c (.int .i64 2))⟩,
  ⟨(some 5), none, .mv (.t 4)⟩,
  ⟨(some 6), (some (5, true)), .mv (.t 0)⟩,
  ⟨(some 7), (some (5, true)), .bin .leq (.t 6) (.c (.int .i64 10))⟩,
  ⟨(some 8), none, .pick (.t 5) (.t 7) (.c (.bool false))⟩,
  ⟨(some 2), none, .mv (.t 8)⟩]
abbrev x89b : XCode :=
  (.seq (.reg 0 x89r0 none)
  (.seq (.reg 1 x89r1 none)
  .ret))
def x89 : XFunc := ⟨9, 1, [.tmp 2], x89b⟩
theorem x89_ok : chkF Tryz.prog Tryz.f89 x89 = true := by kernel_rfl
theorem x89_eq : x89.body = x89b ∧ x89.res = [.tmp 2] ∧ x89.np = 1 := ⟨rfl, rfl, rfl⟩
abbrev x91r0 : List XOper := [
  ⟨(some 0), none, .alloc [.nilf, .nilf, .nilf]⟩]
abbrev x91r1 : List XOper := [
  ⟨(some 1), none, .build [.nilf, .nilf, .nilf] [(0, 1, (.c (.fn (.func 118) [] []))), (1, 1, (.c (.fn (.func 119) [] []))), (2, 1, (.c (.fn (.func 120) [] [])))]⟩,
  ⟨none, none, .store 3 (.t 0) (.t 1)⟩]
abbrev x91b : XCode :=
  (.seq (.reg 0 x91r0 none)
  (.seq (.reg 1 x91r1 none)
  .ret))
def x91 : XFunc := ⟨2, 0, [.cell 0 true 3], x91b⟩
theorem x91_ok : chkF Tryz.prog Tryz.f91 x91 = true := by kernel_rfl
theorem x91_eq : x91.body = x91b ∧ x91.res = [.cell 0 true 3] ∧ x91.np = 0 := ⟨rfl, rfl, rfl⟩
abbrev x93r0 : List XOper := [
  ⟨(some 5), none, .mv (.c (.int .i64 0))⟩]
abbrev x93r1 : List XOper := [
  ⟨(some 7), none, .load false 1 (.t 0)⟩,
  ⟨(some 8), none, .call (.c (.fn (.func 94) [] [])) [(.t 7)]⟩,
  ⟨(some 9), none, .build [(.int .u64 0), (.int .u64 0)] [(1, 1, (.t 8))]⟩,
  ⟨(some 10), none, .load false 1 (.t 1)⟩,
  ⟨(some 11), none, .bin .lss (.t 10) (.c (.int .i64 0))⟩,
  ⟨(some 12), none, .load false 1 (.t 2)⟩,
  ⟨(some 13), none, .bin .lss (.t 12) (.c (.int .i64 0))⟩,
  ⟨(some 14), none, .eqB true (.t 11) (.t 13)⟩,
  ⟨(some 15), none, .load false 1 (.t 0)⟩,
  ⟨(some 16), none, .bin .lss (.t 15) (.c (.int .i64 0))⟩,
  ⟨(some 17), none, .eqB true (.t 14) (.t 16)⟩,
  ⟨(some 18), none, .build [(.int .u64 0), (.int .u64 0), (.int .u64 0), (.int .u64 0), (.int .u64 0), (.int .u64 0), (.bool false)] [(4, 2, (.t 9)), (6, 1, (.t 17))]⟩,
  ⟨(some 6), none, .alloc [(.int .u64 0), (.int .u64 0), (.int .u64 0), (.int .u64 0), (.int .u64 0), (.int .u64 0), (.bool false)]⟩,
  ⟨none, none, .store 7 (.t 6) (.t 18)⟩]
abbrev x93r2 : List XOper := [
  ⟨(some 20), none, .load false 1 (.t 1)⟩,
  ⟨(some 21), none, .call (.c (.fn (.func 94) [] [])) [(.t 20)]⟩,
  ⟨(some 22), none, .load false 1 (.t 2)⟩,
  ⟨(some 23), none, .call (.c (.fn (.func 94) [] [])) [(.t 22)]⟩,
  ⟨(some 24), none, .call (.c (.fn (.func 24) [] [])) [(.t 21), (.t 23)]⟩,
  ⟨(some 25), none, .fa 4 (.t 6)⟩,
  ⟨(some 26), none, .load true 2 (.t 25)⟩,
  ⟨(some 27), none, .call (.c (.fn (.func 58) [] [])) [(.t 24), (.t 26)]⟩,
  ⟨(some 19), none, .mv (.t 27)⟩,
  ⟨(some 28), none, .ext (.t 19) 0⟩,
  ⟨(some 29), none, .ext (.t 19) 1⟩,
  ⟨(some 30), none, .ext (.t 19) 2⟩,
  ⟨(some 31), none, .fa 0 (.t 6)⟩,
  ⟨none, none, .store 2 (.t 31) (.t 28)⟩,
  ⟨(some 32), none, .fa 2 (.t 6)⟩,
  ⟨none, none, .store 2 (.t 32) (.t 29)⟩]
abbrev x93r3 : List XOper := [
  ⟨(some 33), none, .load false 1 (.t 1)⟩,
  ⟨(some 34), none, .bin .eql (.t 33) (.c (.int .i64 0))⟩,
  ⟨(some 35), none, .mv (.t 34)⟩,
  ⟨(some 36), (some (35, false)), .load false 1 (.t 2)⟩,
  ⟨(some 37), (some (35, false)), .bin .eql (.t 36) (.c (.int .i64 0))⟩,
  ⟨(some 38), none, .pick (.t 35) (.c (.bool true)) (.t 37)⟩]
abbrev x93r4 : List XOper := [
  ⟨(some 5), none, .mv (.c (.int .i64 0))⟩]
abbrev x93r5 : List XOper := [
  ⟨(some 39), none, .load false 1 (.t 4)⟩,
  ⟨(some 40), none, .iaA 3 1 (.t 3) (.t 39)⟩,
  ⟨(some 41), none, .load false 1 (.t 40)⟩,
  ⟨(some 42), none, .load true 7 (.t 6)⟩,
  ⟨(some 43), none, .call (.t 41) [(.t 42)]⟩]
abbrev x93r6 : List XOper := [
  ⟨(some 45), none, .fa 0 (.t 6)⟩,
  ⟨(some 46), none, .load true 2 (.t 45)⟩,
  ⟨(some 47), none, .build [(.int .u64 0), (.int .u64 0)] [(1, 1, (.c (.int .u64 1)))]⟩,
  ⟨(some 48), none, .call (.c (.fn (.func 10) [] [])) [(.t 46), (.t 47)]⟩,
  ⟨(some 44), none, .mv (.t 48)⟩,
  ⟨(some 49), none, .ext (.t 44) 0⟩,
  ⟨(some 50), none, .ext (.t 44) 1⟩,
  ⟨(some 51), none, .fa 0 (.t 6)⟩,
  ⟨none, none, .store 2 (.t 51) (.t 49)⟩]
abbrev x93r7 : List XOper := [
  ⟨(some 52), none, .fa 0 (.t 6)⟩,
  ⟨(some 53), none, .load true 2 (.t 52)⟩,
  ⟨(some 54), none, .fa 6 (.t 6)⟩,
  ⟨(some 55), none, .load false 1 (.t 54)⟩,
  ⟨(some 56), none, .call (.c (.fn (.func 95) [] [])) [(.t 53), (.t 55)]⟩,
  ⟨(some 5), none, .mv (.t 56)⟩]
abbrev x93b : XCode :=
  (.seq (.reg 0 x93r0 none)
  (.seq (.reg 1 x93r1 (some ⟨[(1, 3), (1, 5), (1, 8), (0, 12), (1, 12), (3, 12), (5, 12), (8, 12)]⟩))
  (.seq (.reg 2 x93r2 (some ⟨[(1, 2), (1, 6), (3, 6), (4, 6)]⟩))
  (.seq (.seq (.reg 3 x93r3 none)
  (.cond (.t 38)
    (.seq (.reg 4 x93r4 none)
    .ret)
    .skip))
  (.seq (.seq (.reg 5 x93r5 (some ⟨[]⟩))
  (.cond (.t 43)
    (.reg 6 x93r6 none)
    .skip))
  (.seq (.reg 7 x93r7 none)
  .ret))))))
def x93 : XFunc := ⟨57, 5, [.tmp 5], x93b⟩
theorem x93_ok : chkF Tryz.prog Tryz.f93 x93 = true := by kernel_rfl
theorem x93_eq : x93.body = x93b ∧ x93.res = [.tmp 5] ∧ x93.np = 5 := ⟨rfl, rfl, rfl⟩
abbrev x94r0 : List XOper := [
  ⟨(some 2), none, .mv (.c (.int .u64 0))⟩]
abbrev x94r1 : List XOper := [
  ⟨(some 3), none, .mv (.t 0)⟩,
  ⟨(some 4), none, .bin .lss (.t 3) (.c (.int .i64 0))⟩]
abbrev x94r2 : List XOper := [
  ⟨(some 5), none, .mv (.t 0)⟩,
  ⟨(some 6), none, .conv .u64 (.t 5)⟩,
  ⟨(some 7), none, .un .neg (.t 6)⟩,
  ⟨(some 2), none, .mv (.t 7)⟩]
abbrev x94r3 : List XOper := [
  ⟨(some 8), none, .mv (.t 0)⟩,
  ⟨(some 9), none, .conv .u64 (.t 8)⟩,
  ⟨(some 2), none, .mv (.t 9)⟩]
abbrev x94b : XCode :=
  (.seq (.reg 0 x94r0 none)
  (.seq (.seq (.reg 1 x94r1 none)
  (.cond (.t 4)
    (.seq (.reg 2 x94r2 none)
    .ret)
    .skip))
  (.seq (.reg 3 x94r3 none)
  .ret)))
def x94 : XFunc := ⟨10, 1, [.tmp 2], x94b⟩
theorem x94_ok : chkF Tryz.prog Tryz.f94 x94 = true := by kernel_rfl
theorem x94_eq : x94.body = x94b ∧ x94.res = [.tmp 2] ∧ x94.np = 1 := ⟨rfl, rfl, rfl⟩
abbrev x95r0 : List XOper := [
  ⟨(some 2), none, .box (.t 0)⟩,
  ⟨(some 4), none, .mv (.c (.int .i64 0))⟩]
abbrev x95r1 : List XOper := [
  ⟨(some 5), none, .fa 0 (.t 2)⟩,
  ⟨(some 6), none, .load false 1 (.t 5)⟩,
  ⟨(some 7), none, .bin .gtr (.t 6) (.c (.int .u64 0))⟩,
  ⟨(some 8), none, .mv (.t 7)⟩,
  ⟨(some 9), (some (8, false)), .fa 1 (.t 2)⟩,
  ⟨(some 10), (some (8, false)), .load false 1 (.t 9)⟩,
  ⟨(some 11), (some (8, false)), .bin .gtr (.t 10) (.c (.int .u64 9223372036854775808))⟩,
  ⟨(some 12), none, .pick (.t 8) (.c (.bool true)) (.t 11)⟩,
  ⟨(some 13), none, .mv (.t 12)⟩,
  ⟨(some 14), (some (13, false)), .fa 1 (.t 2)⟩,
  ⟨(some 15), (some (13, false)), .load false 1 (.t 14)⟩,
  ⟨(some 16), (some (13, false)), .bin .gtr (.t 15) (.c (.int .u64 9223372036854775807))⟩,
  ⟨(some 17), (some (13, false)), .mv (.t 16)⟩,
  ⟨(some 18), (some (17, true)), .mv (.t 1)⟩,
  ⟨(some 19), (some (17, true)), .un .not (.t 18)⟩,
  ⟨(some 20), (some (13, false)), .pick (.t 17) (.t 19) (.c (.bool false))⟩,
  ⟨(some 21), none, .pick (.t 13) (.c (.bool true)) (.t 20)⟩]
abbrev x95r2 : List XOper := [
  ⟨(some 22), none, .build [] []⟩,
  ⟨(some 23), none, .mki 235 (.t 22)⟩,
  ⟨none, none, .bad⟩]
abbrev x95r3 : List XOper := [
  ⟨(some 24), none, .mv (.t 1)⟩]
abbrev x95r4 : List XOper := [
  ⟨(some 25), none, .fa 1 (.t 2)⟩,
  ⟨(some 26), none, .load false 1 (.t 25)⟩,
  ⟨(some 27), none, .un .neg (.t 26)⟩,
  ⟨(some 28), none, .conv .i64 (.t 27)⟩,
  ⟨(some 4), none, .mv (.t 28)⟩]
abbrev x95r5 : List XOper := [
  ⟨(some 29), none, .fa 1 (.t 2)⟩,
  ⟨(some 30), none, .load false 1 (.t 29)⟩,
  ⟨(some 31), none, .conv .i64 (.t 30)⟩,
  ⟨(some 4), none, .mv (.t 31)⟩]
abbrev x95b : XCode :=
  (.seq (.reg 0 x95r0 none)
  (.seq (.seq (.reg 1 x95r1 none)
  (.cond (.t 21)
    (.reg 2 x95r2 none)
    .skip))
  (.seq (.seq (.reg 3 x95r3 none)
  (.cond (.t 24)
    (.seq (.reg 4 x95r4 none)
    .ret)
    .skip))
  (.seq (.reg 5 x95r5 none)
  .ret))))
def x95 : XFunc := ⟨32, 2, [.tmp 4], x95b⟩
theorem x95_ok : chkF Tryz.prog Tryz.f95 x95 = true := by kernel_rfl
theorem x95_eq : x95.body = x95b ∧ x95.res = [.tmp 4] ∧ x95.np = 2 := ⟨rfl, rfl, rfl⟩
abbrev x118r0 : List XOper := [
  ⟨(some 1), none, .box (.t 0)⟩,
  ⟨(some 2), none, .mv (.c (.bool false))⟩]
abbrev x118r1 : List XOper := [
  ⟨(some 3), none, .fa 6 (.t 1)⟩,
  ⟨(some 4), none, .load false 1 (.t 3)⟩,
  ⟨(some 5), none, .mv (.t 4)⟩,
  ⟨(some 6), (some (5, true)), .fa 2 (.t 1)⟩,
  ⟨(some 7), (some (5, true)), .load true 2 (.t 6)⟩,
  ⟨(some 8), (some (5, true)), .build [(.int .u64 0), (.int .u64 0)] []⟩,
  ⟨(some 9), (some (5, true)), .eqA true [0, 0] (.t 7) (.t 8)⟩,
  ⟨(some 10), none, .pick (.t 5) (.t 9) (.c (.bool false))⟩,
  ⟨(some 2), none, .mv (.t 10)⟩]
abbrev x118b : XCode :=
  (.seq (.reg 0 x118r0 none)
  (.seq (.reg 1 x118r1 none)
  .ret))
def x118 : XFunc := ⟨11, 1, [.tmp 2], x118b⟩
theorem x118_ok : chkF Tryz.prog Tryz.f118 x118 = true := by kernel_rfl
theorem x118_eq : x118.body = x118b ∧ x118.res = [.tmp 2] ∧ x118.np = 1 := ⟨rfl, rfl, rfl⟩
abbrev x119r0 : List XOper := [
  ⟨(some 1), none, .box (.t 0)⟩,
  ⟨(some 2), none, .mv (.c (.bool false))⟩]
abbrev x119r1 : List XOper := [
  ⟨(some 3), none, .fa 6 (.t 1)⟩,
  ⟨(some 4), none, .load false 1 (.t 3)⟩,
  ⟨(some 5), none, .un .not (.t 4)⟩,
  ⟨(some 6), none, .mv (.t 5)⟩,
  ⟨(some 7), (some (6, true)), .fa 2 (.t 1)⟩,
  ⟨(some 8), (some (6, true)), .load true 2 (.t 7)⟩,
  ⟨(some 9), (some (6, true)), .build [(.int .u64 0), (.int .u64 0)] []⟩,
  ⟨(some 10), (some (6, true)), .eqA true [0, 0] (.t 8) (.t 9)⟩,
  ⟨(some 11), none, .pick (.t 6) (.t 10) (.c (.bool false))⟩,
  ⟨(some 2), none, .mv (.t 11)⟩]
abbrev x119b : XCode :=
  (.seq (.reg 0 x119r0 none)
  (.seq (.reg 1 x119r1 none)
  .ret))
def x119 : XFunc := ⟨12, 1, [.tmp 2], x119b⟩
theorem x119_ok : chkF Tryz.prog Tryz.f119 x119 = true := by kernel_rfl
theorem x119_eq : x119.body = x119b ∧ x119.res = [.tmp 2] ∧ x119.np = 1 := ⟨rfl, rfl, rfl⟩
abbrev x188r0 : List XOper := [
  ⟨(some 2), none, .mv (.c .nils)⟩]
abbrev x188r1 : List XOper := [
  ⟨(some 3), none, .mv (.t 0)⟩,
  ⟨(some 4), none, .eqN false 0 (.t 3)⟩]
abbrev x188r2 : List XOper := [
  ⟨(some 2), none, .mv (.c .nils)⟩]
abbrev x188r3 : List XOper := [
  ⟨(some 5), none, .mkslice 4 (.agg [(.int .i64 0), (.int .i64 0), (.int .i64 0), (.int .i64 0)]) 0 []⟩,
  ⟨(some 6), none, .mv (.t 0)⟩,
  ⟨(some 7), none, .app 4 32 (.t 5) (.t 6)⟩,
  ⟨(some 2), none, .mv (.t 7)⟩]
abbrev x188b : XCode :=
  (.seq (.reg 0 x188r0 none)
  (.seq (.seq (.reg 1 x188r1 none)
  (.cond (.t 4)
    (.seq (.reg 2 x188r2 none)
    .ret)
    .skip))
  (.seq (.reg 3 x188r3 none)
  .ret)))
def x188 : XFunc := ⟨8, 1, [.tmp 2], x188b⟩
theorem x188_ok : chkF Tryz.prog Tryz.f188 x188 = true := by kernel_rfl
theorem x188_eq : x188.body = x188b ∧ x188.res = [.tmp 2] ∧ x188.np = 1 := ⟨rfl, rfl, rfl⟩
abbrev x419r0 : List XOper := [
  ⟨(some 2), none, .mv (.c .nils)⟩]
abbrev x419r1 : List XOper := [
  ⟨(some 3), none, .mv (.t 0)⟩,
  ⟨(some 4), none, .eqN false 0 (.t 3)⟩]
abbrev x419r2 : List XOper := [
  ⟨(some 2), none, .mv (.c .nils)⟩]
abbrev x419r3 : List XOper := [
  ⟨(some 5), none, .mkslice 1 (.int .i64 0) 0 []⟩,
  ⟨(some 6), none, .mv (.t 0)⟩,
  ⟨(some 7), none, .app 1 8 (.t 5) (.t 6)⟩,
  ⟨(some 2), none, .mv (.t 7)⟩]
abbrev x419b : XCode :=
  (.seq (.reg 0 x419r0 none)
  (.seq (.seq (.reg 1 x419r1 none)
  (.cond (.t 4)
    (.seq (.reg 2 x419r2 none)
    .ret)
    .skip))
  (.seq (.reg 3 x419r3 none)
  .ret)))
def x419 : XFunc := ⟨8, 1, [.tmp 2], x419b⟩
theorem x419_ok : chkF Tryz.prog Tryz.f419 x419 = true := by kernel_rfl
theorem x419_eq : x419.body = x419b ∧ x419.res = [.tmp 2] ∧ x419.np = 1 := ⟨rfl, rfl, rfl⟩
def xf : FuncId → Option XFunc
  | 3 => some x3
  | 6 => some x6
  | 7 => some x7
  | 9 => some x9
  | 10 => some x10
  | 20 => some x20
  | 21 => some x21
  | 22 => some x22
  | 24 => some x24
  | 26 => some x26
  | 48 => some x48
  | 52 => some x52
  | 55 => some x55
  | 58 => some x58
  | 80 => some x80
  | 81 => some x81
  | 88 => some x88
  | 89 => some x89
  | 91 => some x91
  | 93 => some x93
  | 94 => some x94
  | 95 => some x95
  | 118 => some x118
  | 119 => some x119
  | 188 => some x188
  | 419 => some x419
  | _ => none
def C0 : Cfg := ⟨fun _ => none, xf, fun _ => none, fun _ => none, fun _ => none, fun _ _ => none⟩
set_option maxRecDepth 100000 in
theorem ok0 : CfgOk Tryz.prog C0 := by
  refine ⟨(fun g F h => by cases h), (fun g x h => ?_), by kernel_rfl, (fun g F h => by cases h), (fun g F h => by cases h), (fun g q h => by cases h), (fun t m g h => by cases h)⟩
  change xf g = some x at h
  unfold xf at h
  split at h
  · cases h; exact ⟨Tryz.f3, Tryz.func3, x3_ok⟩
  · cases h; exact ⟨Tryz.f6, Tryz.func6, x6_ok⟩
  · cases h; exact ⟨Tryz.f7, Tryz.func7, x7_ok⟩
  · cases h; exact ⟨Tryz.f9, Tryz.func9, x9_ok⟩
  · cases h; exact ⟨Tryz.f10, Tryz.func10, x10_ok⟩
  · cases h; exact ⟨Tryz.f20, Tryz.func20, x20_ok⟩
  · cases h; exact ⟨Tryz.f21, Tryz.func21, x21_ok⟩
  · cases h; exact ⟨Tryz.f22, Tryz.func22, x22_ok⟩
  · cases h; exact ⟨Tryz.f24, Tryz.func24, x24_ok⟩
  · cases h; exact ⟨Tryz.f26, Tryz.func26, x26_ok⟩
  · cases h; exact ⟨Tryz.f48, Tryz.func48, x48_ok⟩
  · cases h; exact ⟨Tryz.f52, Tryz.func52, x52_ok⟩
  · cases h; exact ⟨Tryz.f55, Tryz.func55, x55_ok⟩
  · cases h; exact ⟨Tryz.f58, Tryz.func58, x58_ok⟩
  · cases h; exact ⟨Tryz.f80, Tryz.func80, x80_ok⟩
  · cases h; exact ⟨Tryz.f81, Tryz.func81, x81_ok⟩
  · cases h; exact ⟨Tryz.f88, Tryz.func88, x88_ok⟩
  · cases h; exact ⟨Tryz.f89, Tryz.func89, x89_ok⟩
  · cases h; exact ⟨Tryz.f91, Tryz.func91, x91_ok⟩
  · cases h; exact ⟨Tryz.f93, Tryz.func93, x93_ok⟩
  · cases h; exact ⟨Tryz.f94, Tryz.func94, x94_ok⟩
  · cases h; exact ⟨Tryz.f95, Tryz.func95, x95_ok⟩
  · cases h; exact ⟨Tryz.f118, Tryz.func118, x118_ok⟩
  · cases h; exact ⟨Tryz.f119, Tryz.func119, x119_ok⟩
  · cases h; exact ⟨Tryz.f188, Tryz.func188, x188_ok⟩
  · cases h; exact ⟨Tryz.f419, Tryz.func419, x419_ok⟩
  · cases h
end Go.Proofs.YtkonpbcnekcjjaaGreatDoor
namespace Go.Proofs.YtkonpbcnekcjjaaGreatDoor
open Go Go.Xec
attribute [local go_sem] tm0 ne_eq not_false_eq_true List.length_append List.length_replicate List.replicate_succ List.replicate_zero Int.cast_ofNat_Int not_true_eq_false decide_true decide_false ite_self beq_self_eq_true Bool.true_beq Bool.false_beq Bool.not_true Bool.not_false
attribute [local go_sem_proc] Nat.reduceAdd Nat.reduceMul Nat.reduceSub Nat.reduceLeDiff Nat.reduceLT Nat.reduceEqDiff Int.reduceLT Int.reduceLE Int.reduceAdd Int.reduceSub Int.reduceMul Int.reduceToNat Int.reducePow Int.reduceNe Int.reduceMod Int.reduceDiv Int.reduceEq Nat.reducePow Int.reduceNeg
abbrev U (n : Int) : Prop := 0 ≤ n ∧ n < 18446744073709551616
abbrev W (h l : Int) : AVal := .agg [.int .u64 h, .int .u64 l]
abbrev val (h l : Int) : Int := h * 18446744073709551616 + l
abbrev enc (n : Int) : AVal := W (n / 18446744073709551616) (n % 18446744073709551616)
abbrev big : Int := 340282366920938463463374607431768211456
noncomputable def F52 : List AVal → Option AVal
  | [.int .u64 a, .int .u64 b] => if U a ∧ U b then some (.tup [.int .u64 (a * b / 18446744073709551616), .int .u64 (a * b % 18446744073709551616)]) else none
  | _ => none
theorem F52_eq {a b : Int} (ha : U a) (hb : U b) : F52 [.int .u64 a, .int .u64 b] = some (.tup [.int .u64 (a * b / 18446744073709551616), .int .u64 (a * b % 18446744073709551616)]) := if_pos ⟨ha, hb⟩
theorem mul_bound {x y m : Int} (h0 : 0 ≤ x) (h1 : x ≤ m) (h2 : 0 ≤ y) (h3 : y ≤ m) : 0 ≤ x * y ∧ x * y ≤ m * m :=
  ⟨Int.mul_nonneg h0 h2, Int.mul_le_mul h1 h3 h2 (by omega)⟩
set_option maxRecDepth 10000
theorem step52 {a b : Int} (ha : U a) (hb : U b) : pureF C0 1 52 [.int .u64 a, .int .u64 b] = some (.tup [.int .u64 (a * b / 18446744073709551616), .int .u64 (a * b % 18446744073709551616)]) := by
  refine pureF_of (x := x52) rfl rfl ?_
  rw [x52_eq.1, x52_eq.2.1]
  simp only [x52b, go_sem, ↓reduceIte, dropK_eq, and_self, Bool.and_self, binA_and32, binA_shr]
  refine Ends_plain rfl ?_
  have e1 : a = a / 4294967296 * 4294967296 + a % 4294967296 := by omega
  have e2 : b = b / 4294967296 * 4294967296 + b % 4294967296 := by omega
  have h1 : 0 ≤ a / 4294967296 ∧ a / 4294967296 ≤ 4294967295 := by omega
  have h2 : 0 ≤ a % 4294967296 ∧ a % 4294967296 ≤ 4294967295 := by omega
  have h3 : 0 ≤ b / 4294967296 ∧ b / 4294967296 ≤ 4294967295 := by omega
  have h4 : 0 ≤ b % 4294967296 ∧ b % 4294967296 ≤ 4294967295 := by omega
  generalize a / 4294967296 = a1 at *
  generalize a % 4294967296 = a0 at *
  generalize b / 4294967296 = b1 at *
  generalize b % 4294967296 = b0 at *
  have p11 := mul_bound h1.1 h1.2 h3.1 h3.2
  have p10 := mul_bound h1.1 h1.2 h4.1 h4.2
  have p01 := mul_bound h2.1 h2.2 h3.1 h3.2
  have p00 := mul_bound h2.1 h2.2 h4.1 h4.2
  have e3 : a * b = a1 * b1 * 18446744073709551616 + (a1 * b0 + a0 * b1) * 4294967296 + a0 * b0 := by
    rw [e1, e2]
    simp only [Int.add_mul, Int.mul_add, Int.mul_comm, Int.mul_left_comm, Int.mul_assoc, Int.reduceMul]
    omega
  rw [e3]
  generalize a1 * b1 = q11 at *
  generalize a1 * b0 = q10 at *
  generalize a0 * b1 = q01 at *
  generalize a0 * b0 = q00 at *
  clear e1 e2 e3 ha hb
  congr 2
  · congr 1
    omega
theorem sound52 : Sound Tryz.prog 52 F52 := sound_at ok0 0 fun xs r h => by
  unfold F52 at h
  split at h
  · split at h
    · rename_i hc
      cases h
      exact step52 hc.1 hc.2
    · cases h
  · cases h
theorem sound25 : Sound Tryz.prog 25 F_add64 := sound_add64 Tryz.func25 (by kernel_rfl) (by kernel_rfl) (by kernel_rfl) (by kernel_rfl)
theorem sound114 : Sound Tryz.prog 114 F_sub64 := sound_sub64 Tryz.func114 (by kernel_rfl) (by kernel_rfl) (by kernel_rfl) (by
  intro x y c hc w
  have : c = 0 ∨ c = 1 := by omega
  rcases this with rfl | rfl <;> rfl)
noncomputable def C1 : Cfg := ((C0.add 52 F52).add 25 F_add64).add 114 F_sub64
theorem ok1 : CfgOk Tryz.prog C1 := ((ok0.add sound52).add sound25).add sound114
theorem C1_52 : C1.Γ 52 = some F52 := rfl
noncomputable def F24 : List AVal → Option AVal
  | [.int .u64 a, .int .u64 b] => if U a ∧ U b then some (enc (a * b)) else none
  | _ => none
theorem F24_eq {a b : Int} (ha : U a) (hb : U b) : F24 [.int .u64 a, .int .u64 b] = some (enc (a * b)) := if_pos ⟨ha, hb⟩
theorem step24 {a b : Int} (ha : U a) (hb : U b) : pureF C1 1 24 [.int .u64 a, .int .u64 b] = some (enc (a * b)) := by
  refine pureF_of (x := x24) rfl rfl ?_
  rw [x24_eq.1, x24_eq.2.1]
  simp only [x24b, go_sem, ↓reduceIte, dropK_eq, callX_known C1_52, F52_eq ha hb]
  exact Ends_plain rfl rfl
theorem sound24 : Sound Tryz.prog 24 F24 := sound_at ok1 0 fun xs r h => by
  unfold F24 at h
  split at h
  · split at h
    · rename_i hc
      cases h
      exact step24 hc.1 hc.2
    · cases h
  · cases h
noncomputable def F26 : List AVal → Option AVal
  | [.agg [.int .u64 h, .int .u64 l]] => some (.agg [.int .u64 l, .int .u64 h])
  | _ => none
theorem F26_eq {h l : Int} : F26 [W h l] = some (.agg [.int .u64 l, .int .u64 h]) := rfl
theorem step26 (h l : Int) : pureF C1 1 26 [W h l] = some (.agg [.int .u64 l, .int .u64 h]) := by
  refine pureF_of (x := x26) rfl rfl ?_
  rw [x26_eq.1, x26_eq.2.1]
  simp only [x26b, go_sem, ↓reduceIte, dropK_eq]
  exact Ends_plain rfl rfl
theorem sound26 : Sound Tryz.prog 26 F26 := sound_at ok1 0 fun xs r h => by
  unfold F26 at h
  split at h
  · cases h
    exact step26 _ _
  · cases h
noncomputable def F55 : List AVal → Option AVal
  | [.agg [.int .u64 ah, .int .u64 al], .agg [.int .u64 bh, .int .u64 bl]] => if U al ∧ U bl then some (.bool (decide (val ah al < val bh bl))) else none
  | _ => none
theorem step55 {ah al bh bl : Int} (h1 : U al) (h2 : U bl) : pureF C1 1 55 [W ah al, W bh bl] = some (.bool (decide (val ah al < val bh bl))) := by
  refine pureF_of (x := x55) rfl rfl ?_
  rw [x55_eq.1, x55_eq.2.1]
  simp only [x55b, go_sem, ↓reduceIte, dropK_eq]
  repeat' (first | refine Ends_plain rfl ?_ | (first | refine Gd_split_t (fun h => ?_) (fun h => ?_) | refine Gd_split_f (fun h => ?_) (fun h => ?_) | refine Cd_split (fun h => ?_) (fun h => ?_)) <;> simp only [*, go_sem, ↓reduceIte, dropK_eq])
  all_goals
    congr 1
    simp only [decide_eq_true_eq, decide_eq_false_iff_not, val] at *
  · exact (decide_eq_true (by omega)).symm
  · exact decide_eq_decide.2 (by omega)
  · exact (decide_eq_false (by omega)).symm
theorem sound55 : Sound Tryz.prog 55 F55 := sound_at ok1 0 fun xs r h => by
  unfold F55 at h
  split at h
  · split at h
    · rename_i hc
      cases h
      exact step55 hc.1 hc.2
    · cases h
  · cases h
noncomputable def C2 : Cfg := ((C1.add 24 F24).add 26 F26).add 55 F55
theorem ok2 : CfgOk Tryz.prog C2 := ((ok1.add sound24).add sound26).add sound55
theorem C2_24 : C2.Γ 24 = some F24 := rfl
theorem C2_26 : C2.Γ 26 = some F26 := rfl
theorem C2_25 : C2.Γ 25 = some F_add64 := rfl
theorem C2_114 : C2.Γ 114 = some F_sub64 := rfl
theorem tWb {h h' l l' : Int} {b b' : Bool} (e1 : h = h') (e2 : l = l') (e3 : b = b') : AVal.tup [W h l, .bool b] = .tup [W h' l', .bool b'] := by
  subst e1; subst e2; subst e3; rfl
noncomputable def F10 : List AVal → Option AVal
  | [.agg [.int .u64 ah, .int .u64 al], .agg [.int .u64 bh, .int .u64 bl]] => if U ah ∧ U al ∧ U bh ∧ U bl then
      some (.tup [enc ((val ah al + val bh bl) % big), .bool (decide (big ≤ val ah al + val bh bl))]) else none
  | _ => none
theorem F10_eq {ah al bh bl : Int} (h1 : U ah) (h2 : U al) (h3 : U bh) (h4 : U bl) : F10 [W ah al, W bh bl] = some (.tup [enc ((val ah al + val bh bl) % big), .bool (decide (big ≤ val ah al + val bh bl))]) := if_pos ⟨h1, h2, h3, h4⟩
theorem step10 {ah al bh bl : Int} (h1 : U ah) (h2 : U al) (h3 : U bh) (h4 : U bl) : pureF C2 1 10 [W ah al, W bh bl] = some (.tup [enc ((val ah al + val bh bl) % big), .bool (decide (big ≤ val ah al + val bh bl))]) := by
  refine pureF_of (x := x10) rfl rfl ?_
  rw [x10_eq.1, x10_eq.2.1]
  simp (disch := first | omega | simp only [go_sem, ↓reduceIte, dropK_eq]) only [x10b, x10l5, go_sem, ↓reduceIte, dropK_eq, callX_known C2_25, callX_known C2_26, ft_call C2_25, ft_call C2_26, F26_eq, F_add64_eq, ↓Ev_loop, ↓EvN_step]
  refine Ends_plain rfl (tWb ?_ ?_ (decide_eq_decide.2 ?_)) <;> simp only [val, big] <;> omega
theorem sound10 : Sound Tryz.prog 10 F10 := sound_at ok2 0 fun xs r h => by
  unfold F10 at h
  split at h
  · split at h
    · rename_i hc
      cases h
      exact step10 hc.1 hc.2.1 hc.2.2.1 hc.2.2.2
    · cases h
  · cases h
noncomputable def F80 : List AVal → Option AVal
  | [.agg [.int .u64 ah, .int .u64 al], .agg [.int .u64 bh, .int .u64 bl]] => if U ah ∧ U al ∧ U bh ∧ U bl then
      some (.tup [enc ((val ah al - val bh bl) % big), .bool (decide (val ah al < val bh bl))]) else none
  | _ => none
theorem step80 {ah al bh bl : Int} (h1 : U ah) (h2 : U al) (h3 : U bh) (h4 : U bl) : pureF C2 1 80 [W ah al, W bh bl] = some (.tup [enc ((val ah al - val bh bl) % big), .bool (decide (val ah al < val bh bl))]) := by
  refine pureF_of (x := x80) rfl rfl ?_
  rw [x80_eq.1, x80_eq.2.1]
  simp (disch := first | omega | simp only [go_sem, ↓reduceIte, dropK_eq]) only [x80b, x80l5, go_sem, ↓reduceIte, dropK_eq, callX_known C2_114, callX_known C2_26, ft_call C2_114, ft_call C2_26, F26_eq, F_sub64_eq, ↓Ev_loop, ↓EvN_step]
  refine Ends_plain rfl (tWb ?_ ?_ (decide_eq_decide.2 ?_)) <;> simp only [val, big] <;> (repeat' split) <;> omega
theorem sound80 : Sound Tryz.prog 80 F80 := sound_at ok2 0 fun xs r h => by
  unfold F80 at h
  split at h
  · split at h
    · rename_i hc
      cases h
      exact step80 hc.1 hc.2.1 hc.2.2.1 hc.2.2.2
    · cases h
  · cases h
noncomputable def F9 : List AVal → Option AVal
  | [.agg [.int .u64 ah, .int .u64 al], .agg [.int .u64 bh, .int .u64 bl]] => if U ah ∧ U al ∧ U bh ∧ U bl then
      some (.tup [enc ((val ah al * val bh bl) % big), .bool (decide (big ≤ val ah al * val bh bl))]) else none
  | _ => none
theorem F9_eq {ah al bh bl : Int} (h1 : U ah) (h2 : U al) (h3 : U bh) (h4 : U bl) : F9 [W ah al, W bh bl] = some (.tup [enc ((val ah al * val bh bl) % big), .bool (decide (big ≤ val ah al * val bh bl))]) := if_pos ⟨h1, h2, h3, h4⟩
theorem mul_pos1 {x y : Int} (h : 0 ≤ x) (h' : 0 ≤ y) : (0 < x ∧ 0 < y ∧ 1 ≤ x * y) ∨ ((x = 0 ∨ y = 0) ∧ x * y = 0) := by
  rcases Int.lt_or_eq_of_le h with h1 | h1
  · rcases Int.lt_or_eq_of_le h' with h2 | h2
    · exact .inl ⟨h1, h2, Int.mul_pos h1 h2⟩
    · subst h2; exact .inr ⟨.inr rfl, by simp⟩
  · subst h1; exact .inr ⟨.inl rfl, by simp⟩
theorem step9 {ah al bh bl : Int} (h1 : U ah) (h2 : U al) (h3 : U bh) (h4 : U bl) : pureF C2 1 9 [W ah al, W bh bl] = some (.tup [enc ((val ah al * val bh bl) % big), .bool (decide (big ≤ val ah al * val bh bl))]) := by
  refine pureF_of (x := x9) rfl rfl ?_
  rw [x9_eq.1, x9_eq.2.1]
  have p11 : 0 ≤ ah * bh ∧ ah * bh ≤ 18446744073709551615 * 18446744073709551615 := mul_bound h1.1 (by omega) h3.1 (by omega)
  have p10 : 0 ≤ ah * bl ∧ ah * bl ≤ 18446744073709551615 * 18446744073709551615 := mul_bound h1.1 (by omega) h4.1 (by omega)
  have p01 : 0 ≤ al * bh ∧ al * bh ≤ 18446744073709551615 * 18446744073709551615 := mul_bound h2.1 (by omega) h3.1 (by omega)
  have p00 : 0 ≤ al * bl ∧ al * bl ≤ 18446744073709551615 * 18446744073709551615 := mul_bound h2.1 (by omega) h4.1 (by omega)
  have pz := mul_pos1 h1.1 h3.1
  simp (disch := first | omega | simp only [go_sem, ↓reduceIte, dropK_eq]) only [x9b, x9l4, go_sem, ↓reduceIte, dropK_eq, callX_known C2_25, callX_known C2_24, ft_call C2_25, ft_call C2_24, F_add64_eq, F24_eq, ↓Ev_loop, ↓EvN_step]
  repeat' (first | refine Ends_plain rfl ?_ | (first | refine Gd_split_t (fun h => ?_) (fun h => ?_) | refine Gd_split_f (fun h => ?_) (fun h => ?_) | refine Cd_split (fun h => ?_) (fun h => ?_)) <;> simp (disch := first | omega | simp only [go_sem, ↓reduceIte, dropK_eq]) only [h, go_sem, ↓reduceIte, dropK_eq, callX_known C2_25, callX_known C2_24, ft_call C2_25, ft_call C2_24, F_add64_eq, F24_eq, ↓Ev_loop, ↓EvN_step])
  all_goals
    have e : val ah al * val bh bl = ah * bh * big + (ah * bl + al * bh) * 18446744073709551616 + al * bl := by
      simp only [val, big, Int.add_mul, Int.mul_add, Int.mul_comm, Int.mul_left_comm, Int.mul_assoc, Int.reduceMul]
      omega
    rw [e]
    generalize ah * bh = q11 at *
    generalize ah * bl = q10 at *
    generalize al * bh = q01 at *
    generalize al * bl = q00 at *
    simp only [decide_eq_true_eq, decide_eq_false_iff_not] at *
    clear e
    refine tWb ?_ ?_ ?_
    · simp only [big]; omega
    · simp only [big]; omega
    · simp only [big]
      first
        | exact (decide_eq_true (by omega)).symm
        | exact (decide_eq_false (by omega)).symm
        | exact decide_eq_decide.2 (by omega)
theorem sound9 : Sound Tryz.prog 9 F9 := sound_at ok2 0 fun xs r h => by
  unfold F9 at h
  split at h
  · split at h
    · rename_i hc
      cases h
      exact step9 hc.1 hc.2.1 hc.2.2.1 hc.2.2.2
    · cases h
  · cases h
set_option maxRecDepth 10000
theorem mnx_min {k : IntKind} {a b : Int} : mnxA false (.int k a) [.int k b] = some (.int k (min a b)) := by
  simp only [mnxA, Bool.false_eq_true, if_false]
  refine congrArg (fun z => some (AVal.int k z)) ?_
  split <;> omega
theorem val_enc (q : Int) : val (q / 18446744073709551616) (q % 18446744073709551616) = q := by unfold val; omega
theorem U_hi {q : Int} (h : 0 ≤ q ∧ q < big) : U (q / 18446744073709551616) := by unfold U; unfold big at h; omega
theorem U_lo (q : Int) : U (q % 18446744073709551616) := by unfold U; omega
theorem F10_q {p q : Int} (hp : 0 ≤ p ∧ p < big) (hq : 0 ≤ q ∧ q < big) (h : p + q < big) : F10 [enc p, enc q] = some (.tup [enc (p + q), .bool false]) := by
  rw [F10_eq (U_hi hp) (U_lo p) (U_hi hq) (U_lo q), val_enc, val_enc, Int.emod_eq_of_lt (by omega) h, decide_eq_false (by omega)]
theorem F9_q {a b : Int} (ha : U a) (hb : U b) (h : a * b < big) : F9 [W 0 a, W 0 b] = some (.tup [enc (a * b), .bool false]) := by
  have h0 : U 0 := by unfold U; omega
  have hn := Int.mul_nonneg ha.1 hb.1
  have e : ∀ x : Int, val 0 x = x := fun x => by unfold val; omega
  rw [F9_eq h0 ha h0 hb, e, e, Int.emod_eq_of_lt hn h, decide_eq_false (by omega)]
noncomputable def C3 : Cfg := (((C2.add 10 F10).add 80 F80).add 9 F9)
theorem ok3 : CfgOk Tryz.prog C3 := ((ok2.add sound10).add sound80).add sound9
abbrev inM (x : Int) : Prop := -1000000 ≤ x ∧ x ≤ 1000000
noncomputable def F20 : List AVal → Option AVal := pureF C3 1 20
theorem sound20 : Sound Tryz.prog 20 F20 := sound_self ok3 1 20
theorem F20_eq {x : Int} (h : inM x) : F20 [.int .i64 x] = some (.bool true) := by
  have d1 : decide (-1000000 ≤ x) = true := decide_eq_true h.1
  have d2 : decide (x ≤ 1000000) = true := decide_eq_true h.2
  unfold F20
  refine pureF_of (x := x20) rfl rfl ?_
  rw [x20_eq.1, x20_eq.2.1]
  simp (disch := first | omega | simp only [*, go_sem, ↓reduceIte, dropK_eq]) only [x20b, go_sem, ↓reduceIte, dropK_eq, d1, d2]
  exact Ends_plain rfl rfl
noncomputable def F48 : List AVal → Option AVal := pureF C3 1 48
theorem sound48 : Sound Tryz.prog 48 F48 := sound_self ok3 1 48
theorem F48_eq {x : Int} (h : inM x) : F48 [.int .i64 x] = some (.int .u64 (max x (-x))) := by
  have m1 : mnxA true (.int .i64 x) [.int .i64 (0 - x)] = some (.int .i64 (max x (-x))) := by rw [mnx_max, Int.zero_sub]
  have h1 := h.1
  have h2 := h.2
  have h3 : 0 ≤ max x (-x) ∧ max x (-x) ≤ 1000000 := by omega
  have h4 := h3.1
  have h5 := h3.2
  unfold F48
  refine pureF_of (x := x48) rfl rfl ?_
  rw [x48_eq.1, x48_eq.2.1]
  generalize max x (-x) = m at *
  simp (disch := first | omega | simp only [*, go_sem, ↓reduceIte, dropK_eq]) only [x48b, go_sem, ↓reduceIte, dropK_eq, m1]
  exact Ends_plain rfl (by rw [Int.emod_eq_of_lt (by omega) (by omega)])
noncomputable def C4 : Cfg := (C3.add 20 F20).add 48 F48
theorem ok4 : CfgOk Tryz.prog C4 := (ok3.add sound20).add sound48
structure Stt where
  n : Int
  s : Int
  q : Int
  lo : Int
  hi : Int
abbrev StC (t : Stt) : List AVal := [.int .i64 t.n, .int .i64 t.s, .int .u64 (t.q / 18446744073709551616), .int .u64 (t.q % 18446744073709551616), .int .i64 t.lo, .int .i64 t.hi]
abbrev StK (t : Stt) : AVal := .agg (StC t)
def one1 (x : Int) : Stt := ⟨1, x, x * x, x, x⟩
theorem sq_max (x : Int) : max x (-x) * max x (-x) = x * x := by
  rcases Int.le_total 0 x with h | h
  · rw [Int.max_eq_left (by omega)]
  · rw [Int.max_eq_right (by omega), Int.neg_mul_neg]
noncomputable def F22 : List AVal → Option AVal := pureF C4 1 22
theorem sound22 : Sound Tryz.prog 22 F22 := sound_self ok4 1 22
theorem F22_eq {x : Int} (h : inM x) : F22 [.int .i64 x] = some (StK (one1 x)) := by
  have e48 := F48_eq h
  have hu : U (max x (-x)) := by unfold U; have := h.1; have := h.2; omega
  have e24 := F24_eq hu hu
  rw [sq_max] at e24
  unfold F22
  refine pureF_of (x := x22) rfl rfl ?_
  rw [x22_eq.1, x22_eq.2.1]
  simp (disch := first | omega | simp only [*, go_sem, ↓reduceIte, dropK_eq]) only [x22b, go_sem, ↓reduceIte, dropK_eq, callX_known (C := C4) (g := 48) rfl, ft_call (C := C4) (g := 48) rfl, callX_known (C := C4) (g := 24) rfl, ft_call (C := C4) (g := 24) rfl, e48, e24]
  exact Ends_plain rfl rfl
def join2 (a b : Stt) : Stt := if a.n = 0 then b else if b.n = 0 then a else ⟨a.n + b.n, a.s + b.s, a.q + b.q, min a.lo b.lo, max a.hi b.hi⟩
abbrev stB (t : Stt) : Prop := (0 ≤ t.n ∧ t.n ≤ 1000000) ∧ (-1000000000000 ≤ t.s ∧ t.s ≤ 1000000000000) ∧ (0 ≤ t.q ∧ t.q ≤ 1000000000000000000)
noncomputable def F21 : List AVal → Option AVal := pureF C4 1 21
theorem sound21 : Sound Tryz.prog 21 F21 := sound_self ok4 1 21
theorem F21_eq {a b : Stt} (ha : stB a) (hb : stB b) : F21 [StK a, StK b] = some (StK (join2 a b)) := by
  obtain ⟨⟨a1, a2⟩, ⟨a3, a4⟩, a5, a6⟩ := ha
  obtain ⟨⟨b1, b2⟩, ⟨b3, b4⟩, b5, b6⟩ := hb
  have e10 := F10_q (p := a.q) (q := b.q) (by unfold big; omega) (by unfold big; omega) (by unfold big; omega)
  have m1 : mnxA false (.int .i64 a.lo) [.int .i64 b.lo] = some (.int .i64 (min a.lo b.lo)) := mnx_min
  have m2 : mnxA true (.int .i64 a.hi) [.int .i64 b.hi] = some (.int .i64 (max a.hi b.hi)) := mnx_max
  unfold join2
  unfold F21
  refine pureF_of (x := x21) rfl rfl ?_
  rw [x21_eq.1, x21_eq.2.1]
  by_cases h1 : a.n = 0
  · have d1 := decide_eq_true h1
    rw [if_pos h1]
    clear h1
    simp (disch := first | omega | simp only [*, go_sem, ↓reduceIte, dropK_eq]) only [x21b, go_sem, ↓reduceIte, dropK_eq, callX_known (C := C4) (g := 10) rfl, ft_call (C := C4) (g := 10) rfl, e10, d1]
    exact Ends_plain rfl rfl
  have d1 := decide_eq_false h1
  rw [if_neg h1]
  by_cases h2 : b.n = 0
  · have d2 := decide_eq_true h2
    rw [if_pos h2]
    clear h2
    simp (disch := first | omega | simp only [*, go_sem, ↓reduceIte, dropK_eq]) only [x21b, go_sem, ↓reduceIte, dropK_eq, callX_known (C := C4) (g := 10) rfl, ft_call (C := C4) (g := 10) rfl, e10, d1, d2]
    exact Ends_plain rfl rfl
  have d2 := decide_eq_false h2
  rw [if_neg h2]
  clear h1 h2
  simp (disch := first | omega | simp only [*, go_sem, ↓reduceIte, dropK_eq]) only [x21b, go_sem, ↓reduceIte, dropK_eq, callX_known (C := C4) (g := 10) rfl, ft_call (C := C4) (g := 10) rfl, e10, d1, d2, m1, m2]
  exact Ends_plain rfl rfl
noncomputable def C5 : Cfg := (C4.add 21 F21).add 22 F22
theorem ok5 : CfgOk Tryz.prog C5 := (ok4.add sound21).add sound22
abbrev St0 : Stt := ⟨0, 0, 0, 0, 0⟩
def ofL (l : List Int) : Stt := l.foldl (fun t x => join2 t (one1 x)) St0
theorem ofL_snoc (l : List Int) (x : Int) : ofL (l ++ [x]) = join2 (ofL l) (one1 x) := by simp [ofL]
def sumL (l : List Int) : Int := l.foldl (· + ·) 0
def sqL (l : List Int) : Int := l.foldl (fun a x => a + x * x) 0
theorem sumL_snoc (l : List Int) (x : Int) : sumL (l ++ [x]) = sumL l + x := by simp [sumL]
theorem sqL_snoc (l : List Int) (x : Int) : sqL (l ++ [x]) = sqL l + x * x := by simp [sqL]
theorem snoc_ind {α : Type} {p : List α → Prop} (h0 : p []) (hs : ∀ l x, p l → p (l ++ [x])) (l : List α) : p l := by
  have : ∀ n (l : List α), l.length = n → p l := by
    intro n
    induction n with
    | zero => intro l hl; rw [List.length_eq_zero_iff.1 hl]; exact h0
    | succ n ih =>
      intro l hl
      have hne : l ≠ [] := by intro h; rw [h] at hl; simp at hl
      rw [← List.dropLast_concat_getLast hne]
      exact hs _ _ (ih _ (by simp [hl]))
  exact this _ l rfl
theorem ofL_eq {l : List Int} : (ofL l).n = l.length ∧ (ofL l).s = sumL l ∧ (ofL l).q = sqL l := by
  induction l using snoc_ind with
  | h0 => exact ⟨rfl, rfl, rfl⟩
  | hs l x ih =>
    obtain ⟨h1, h2, h3⟩ := ih
    rw [ofL_snoc, sumL_snoc, sqL_snoc]
    unfold join2
    by_cases h : (ofL l).n = 0
    · rw [if_pos h]
      have : l = [] := by rw [h1] at h; exact List.length_eq_zero_iff.1 (by omega)
      subst this
      refine ⟨rfl, ?_, ?_⟩
      · show x = 0 + x; omega
      · show x * x = 0 + x * x; omega
    · rw [if_neg h, if_neg (show ¬ (one1 x).n = 0 by show ¬ (1 : Int) = 0; decide)]
      simp only [h1, h2, h3, one1, List.length_append, List.length_cons, List.length_nil]
      refine ⟨by omega, ?_⟩
      first | exact ⟨rfl, rfl⟩ | trivial
theorem sq_le {x : Int} (h : inM x) : 0 ≤ x * x ∧ x * x ≤ 1000000000000 := by
  rcases Int.le_total 0 x with h1 | h1
  · exact ⟨Int.mul_nonneg h1 h1, Int.mul_le_mul (c := (1000000 : Int)) (d := 1000000) h.2 h.2 h1 (by omega)⟩
  · rw [← Int.neg_mul_neg]
    have := h.1
    exact ⟨Int.mul_nonneg (by omega) (by omega), Int.mul_le_mul (c := (1000000 : Int)) (d := 1000000) (by omega) (by omega) (by omega) (by omega)⟩
theorem ofL_bnd {l : List Int} (h : ∀ x ∈ l, inM x) (hl : l.length ≤ 1000000) : (-(l.length * 1000000 : Int) ≤ sumL l ∧ sumL l ≤ l.length * 1000000) ∧ (0 ≤ sqL l ∧ sqL l ≤ l.length * 1000000000000) := by
  induction l using snoc_ind with
  | h0 => decide
  | hs l x ih =>
    have h1 := h x (by simp)
    obtain ⟨⟨i1, i2⟩, i3, i4⟩ := ih (fun y hy => h y (by simp [hy])) (by simp at hl; omega)
    have h2 := sq_le h1
    rw [sumL_snoc, sqL_snoc, List.length_append, List.length_cons, List.length_nil]
    refine ⟨⟨?_, ?_⟩, ?_, ?_⟩ <;> omega
theorem ofL_stB {l : List Int} (h : ∀ x ∈ l, inM x) (hl : l.length ≤ 1000000) : stB (ofL l) := by
  obtain ⟨h1, h2, h3⟩ := ofL_eq (l := l)
  obtain ⟨⟨i1, i2⟩, i3, i4⟩ := ofL_bnd h hl
  unfold stB
  rw [h1, h2, h3]
  refine ⟨⟨?_, ?_⟩, ⟨?_, ?_⟩, ?_, ?_⟩ <;> omega
set_option maxRecDepth 10000
theorem take_snoc {l : List Int} {i : Nat} (hi : i < l.length) : l.take (i + 1) = l.take i ++ [l.getD i 0] := by
  rw [List.take_add_one, List.getElem?_eq_getElem hi, List.getD_eq_getElem?_getD, List.getElem?_eq_getElem hi]
  rfl
def clip (x : Int) : Int := min (max x (-100000)) 100000
theorem clip_in (x : Int) : inM (clip x) := by unfold clip inM; omega
noncomputable def F6 : List AVal → Option AVal := pureF C5 1 6
theorem sound6 : Sound Tryz.prog 6 F6 := sound_self ok5 1 6
theorem F6_eq {a : AVal} {l : List Int} {m : Nat} (ha : Rw a l) (hl : l.length ≤ 100000000000000) (hm : m ≤ 1000000) : F6 [a, .int .i64 m] = some (rowN 1 (i64s ((l.take (min l.length m)).map clip))) := by
  have htk := ha.sliceTo (n := min l.length m) (by omega)
  have hta := ha.take (min l.length m)
  have hlt := hta.len
  have hl2 : (l.take (min l.length m)).length ≤ m := by rw [List.length_take]; omega
  have hmn : mnxA false (.int .i64 (l.length : Int)) [.int .i64 (m : Int)] = some (.int .i64 ((min l.length m : Nat) : Int)) := by
    rw [mnx_min]; refine congrArg (fun z => some (AVal.int .i64 z)) ?_; omega
  have hlen := ha.len
  generalize l.take (min l.length m) = l2 at *
  generalize rwTake (min l.length m) a = a2 at *
  unfold F6
  refine pureF_of (x := x6) rfl rfl ?_
  rw [x6_eq.1, x6_eq.2.1]
  simp (disch := first | omega | simp only [*, go_sem, ↓reduceIte, dropK_eq]) only [x6b, go_sem, ↓reduceIte, dropK_eq, hlen, hmn, htk, hlt]
  refine Ev_range (ti := 15) (len := l2.length) (J := fun i tm hp nc => Own [6005005] 1 hp (tm 5) (i64s ((l2.take i).map clip)) ∧ (i64s ((l2.take i).map clip) = [] → tm 5 = .nils)) (by omega) (by simp only [go_sem, ↓reduceIte, dropK_eq]) ?_ ?_
  · simp only [go_sem, ↓reduceIte, dropK_eq]
    exact ⟨Own.nils _ _ _, fun _ => trivial⟩
  rintro i tm hp nc hi' hc k15 ⟨ho, h0⟩
  have k13 := hc 13 rfl; have k14 := hc 14 rfl; simp only [go_sem, ↓reduceIte, dropK_eq] at k13 k14
  rcases Nat.lt_or_ge i l2.length with hlt2 | hge
  · have d1 : decide ((i : Int) < (l2.length : Int)) = true := decide_eq_true (by omega)
    have ia := hta.ia hlt2
    have hts := take_snoc hlt2
    generalize l2.getD i 0 = y at *
    have m1 : mnxA true (.int .i64 y) [.int .i64 (-100000)] = some (.int .i64 (max y (-100000))) := mnx_max
    have m2 : mnxA false (.int .i64 (max y (-100000))) [.int .i64 100000] = some (.int .i64 (clip y)) := mnx_min
    obtain ⟨V, H, hA, hO⟩ := ho.push (s0 := 6005005) (s1 := 6005004) (z := .int .i64 (clip y)) (bytes := 8) (by simp) (by simp) (plain_int _ _ _) rfl (by simp [i64s]; omega)
    simp (disch := first | omega | simp only [*, go_sem, ↓reduceIte, dropK_eq]) only [x6l3, go_sem, ↓reduceIte, dropK_eq, k13, k14, k15, d1, ia, m1, m2, hA]
    refine ⟨hlt2, by simp, ?_, ?_⟩
    · rw [hts, List.map_append, i64s, List.map_append]; exact (hO _ _).1
    · rw [hts]; intro h; simp [i64s] at h
  · obtain rfl : i = l2.length := by omega
    have d1 : decide ((l2.length : Int) < (l2.length : Int)) = false := decide_eq_false (by omega)
    rw [List.take_length] at *
    simp (disch := first | omega | simp only [*, go_sem, ↓reduceIte, dropK_eq]) only [x6l3, go_sem, ↓reduceIte, dropK_eq, k13, k14, k15, d1]
    rw [Ends_eq]
    exact ho.lendN h0 63 (plainL_ints 63 _ _) (fun _ _ => rfl)
noncomputable def F7 : List AVal → Option AVal := pureF C5 1 7
theorem sound7 : Sound Tryz.prog 7 F7 := sound_self ok5 1 7
theorem F7_eq {a : AVal} {l : List Int} (ha : Rw a l) (hl : l.length ≤ 1000000) (hin : ∀ x ∈ l, inM x) : F7 [a] = some (.tup [StK (ofL l), .int .i64 0]) := by
  have hlen := ha.len
  unfold F7
  refine pureF_of (x := x7) rfl rfl ?_
  rw [x7_eq.1, x7_eq.2.1]
  simp (disch := first | omega | simp only [*, go_sem, ↓reduceIte, dropK_eq]) only [x7b, go_sem, ↓reduceIte, dropK_eq, hlen]
  refine Ev_range (ti := 9) (len := l.length) (J := fun i tm hp nc => hp (7001000, 1) = some (.var (StC (ofL (l.take i)))) ∧ hp (7000000, 0) = some (.var (StC St0))) (by omega) (by simp only [go_sem, ↓reduceIte, dropK_eq]) ?_ ?_
  · simp only [go_sem, ↓reduceIte, dropK_eq, List.take_zero, ofL, List.foldl_nil]
    rfl
  rintro i tm hp nc hi' hc k9 ⟨kq, kr⟩
  have k2 := hc 2 rfl; have k4 := hc 4 rfl; have k7 := hc 7 rfl; have k8 := hc 8 rfl; simp only [go_sem, ↓reduceIte, dropK_eq] at k2 k4 k7 k8
  rcases Nat.lt_or_ge i l.length with hlt | hge
  · have d1 : decide ((i : Int) < (l.length : Int)) = true := decide_eq_true (by omega)
    have ia := ha.ia hlt
    have hsn := ofL_snoc (l.take i) (l.getD i 0)
    rw [← take_snoc hlt] at hsn
    have hx : inM (l.getD i 0) := hin _ (by rw [List.getD_eq_getElem?_getD, List.getElem?_eq_getElem hlt]; exact List.getElem_mem hlt)
    have hB := ofL_stB (l := l.take i) (fun x hx => hin x (List.mem_of_mem_take hx)) (by rw [List.length_take]; omega)
    generalize l.getD i 0 = y at *
    have hy := sq_le hx
    have hB1 : stB (one1 y) := by
      have h1 := hx.1
      have h2 := hx.2
      unfold stB one1
      refine ⟨⟨?_, ?_⟩, ⟨?_, ?_⟩, ?_, ?_⟩ <;> (dsimp only; omega)
    have e20 := F20_eq hx
    have e22 := F22_eq hx
    have e21 := F21_eq hB hB1
    rw [← hsn] at e21
    generalize one1 y = o at *
    generalize ofL (l.take i) = t0 at *
    generalize ofL (l.take (i + 1)) = t1 at *
    simp (disch := first | omega | simp only [*, go_sem, ↓reduceIte, dropK_eq]) only [x7l3, go_sem, ↓reduceIte, dropK_eq, k2, k4, k7, k8, k9, d1, ia, kq, kr, callX_known (C := C5) (g := 20) rfl, ft_call (C := C5) (g := 20) rfl, callX_known (C := C5) (g := 21) rfl, ft_call (C := C5) (g := 21) rfl, callX_known (C := C5) (g := 22) rfl, ft_call (C := C5) (g := 22) rfl, e20, e21, e22]
    exact ⟨hlt, by simp⟩
  · obtain rfl : i = l.length := by omega
    have d1 : decide ((l.length : Int) < (l.length : Int)) = false := decide_eq_false (by omega)
    rw [List.take_length] at *
    simp (disch := first | omega | simp only [*, go_sem, ↓reduceIte, dropK_eq]) only [x7l3, go_sem, ↓reduceIte, dropK_eq, k2, k4, k7, k8, k9, d1, kq, kr]
    exact Ends_plain rfl rfl
set_option maxRecDepth 10000
def rotS (l : List Int) (r : Nat) : Nat → Int
  | 0 => 0
  | i + 1 => rotS l r i + l.getD ((i + r) % l.length) 0 * l.getD ((i + r) % l.length) 0
theorem sqL_foldl (l : List Int) (a : Int) : l.foldl (fun a x => a + x * x) a = a + sqL l := by
  induction l generalizing a with
  | nil => simp [sqL]
  | cons x l ih =>
    unfold sqL
    rw [List.foldl_cons, List.foldl_cons, ih, ih (0 + x * x)]
    omega
theorem sqL_app (a b : List Int) : sqL (a ++ b) = sqL a + sqL b := by
  show List.foldl _ 0 (a ++ b) = _
  rw [List.foldl_append, sqL_foldl]
  rfl
theorem rot_get {l : List Int} {r i : Nat} (hr : r < l.length) (hi : i < l.length) : (l.drop r ++ l.take r)[i]? = some (l.getD ((i + r) % l.length) 0) := by
  rcases Nat.lt_or_ge i (l.length - r) with h | h
  · rw [List.getElem?_append_left (by simp; omega), List.getElem?_drop, Nat.mod_eq_of_lt (by omega), Nat.add_comm, List.getD_eq_getElem?_getD, List.getElem?_eq_getElem (by omega)]
    rfl
  · rw [List.getElem?_append_right (by simp; omega), List.getElem?_take_of_lt (by simp; omega), List.length_drop]
    have e : (i + r) % l.length = i - (l.length - r) := by
      rw [show i + r = (i - (l.length - r)) + l.length by omega, Nat.add_mod_right, Nat.mod_eq_of_lt (by omega)]
    rw [e, List.getD_eq_getElem?_getD, List.getElem?_eq_getElem (by omega)]
    rfl
theorem rotS_take {l : List Int} {r : Nat} (hr : r < l.length) {i : Nat} (hi : i ≤ l.length) : rotS l r i = sqL ((l.drop r ++ l.take r).take i) := by
  induction i with
  | zero => rfl
  | succ i ih =>
    have h := rot_get hr (show i < l.length by omega)
    rw [List.take_add_one, h]
    show rotS l r i + _ = sqL (_ ++ [_])
    rw [sqL_snoc, ih (by omega)]
theorem rotS_mod (l : List Int) (r i : Nat) : rotS l r i = rotS l (r % l.length) i := by
  induction i with
  | zero => rfl
  | succ i ih => rw [rotS, rotS, ih, Nat.add_mod_mod]
theorem rotS_all (l : List Int) (r : Nat) : rotS l r l.length = sqL l := by
  rcases Nat.eq_zero_or_pos l.length with h | h
  · rw [List.length_eq_zero_iff.1 h]; rfl
  · rw [rotS_mod, rotS_take (Nat.mod_lt _ h) (Nat.le_refl _), List.take_of_length_le (by simp; omega), sqL_app, Int.add_comm, ← sqL_app, List.take_append_drop]
theorem rotS_bnd {l : List Int} (hin : ∀ x ∈ l, inM x) (r i : Nat) : 0 ≤ rotS l r i ∧ rotS l r i ≤ i * 1000000000000 := by
  induction i with
  | zero => exact ⟨Int.le_refl 0, Int.le_refl 0⟩
  | succ i ih =>
    have hx : inM (l.getD ((i + r) % l.length) 0) := by
      rw [List.getD_eq_getElem?_getD]
      cases h : l[(i + r) % l.length]? with
      | none => exact ⟨by decide, by decide⟩
      | some x => exact hin x (List.mem_of_getElem? h)
    have hy := sq_le hx
    rw [rotS]
    omega
noncomputable def C6 : Cfg := (C5.add 6 F6).add 7 F7
theorem ok6 : CfgOk Tryz.prog C6 := (ok5.add sound6).add sound7
noncomputable def C7 (F8 : List AVal → Option AVal) : Cfg := C6.add 8 F8
theorem law3 {F8 : List AVal → Option AVal} (e8 : F8 [] = some (.bool true)) {a : AVal} {l : List Int} {turn : Int} (ha : Rw a l) (hl : l.length ≤ 100000000000000) (ht : -9223372036854775808 ≤ turn ∧ turn ≤ 9223372036854775807) : pureF (C7 F8) 1 3 [a, .int .i64 turn] = some (.bool true) := by
  have e6 : F6 [a, .int .i64 100] = _ := F6_eq (m := 100) ha hl (by decide)
  have hap := ha.plain
  have hin : ∀ x ∈ (l.take (min l.length 100)).map clip, inM x := fun x hx => by obtain ⟨y, _, rfl⟩ := List.mem_map.1 hx; exact clip_in y
  have hL : ((l.take (min l.length 100)).map clip).length ≤ 100 := by rw [List.length_map, List.length_take]; omega
  generalize (l.take (min l.length 100)).map clip = L at *
  have hrw := rowN_rw L
  have e7 := F7_eq hrw (by omega) hin
  have hqe := (ofL_eq (l := L)).2.2
  have hlen := hrw.len
  have hLp := hrw.plain
  have r1 := Int.lt_tmod_of_pos turn (show (0 : Int) < 100 by decide)
  have r2 := Int.tmod_lt_of_pos turn (show (0 : Int) < 100 by decide)
  obtain ⟨r, hr⟩ : ∃ r : Nat, (turn.tmod 100 + 100).tmod 100 = (r : Int) := ⟨((turn.tmod 100 + 100).tmod 100).toNat, by have := Int.tmod_nonneg (100 : Int) (show 0 ≤ turn.tmod 100 + 100 by omega); omega⟩
  have r3 := Int.tmod_lt_of_pos (turn.tmod 100 + 100) (show (0 : Int) < 100 by decide)
  rw [hr] at r3
  generalize hT : turn.tmod 100 = T at *
  refine pureF_of (x := x3) rfl rfl ?_
  rw [x3_eq.1, x3_eq.2.1]
  simp (disch := first | omega | simp only [*, go_sem, ↓reduceIte, dropK_eq]) only [x3b, go_sem, ↓reduceIte, dropK_eq, callX_known (C := C7 F8) (g := 6) rfl, ft_call (C := C7 F8) (g := 6) rfl, callX_known (C := C7 F8) (g := 7) rfl, ft_call (C := C7 F8) (g := 7) rfl, callX_known (C := C7 F8) (g := 8) rfl, ft_call (C := C7 F8) (g := 8) rfl, e6, e7, e8, hlen, hap, hLp]
  have hrb := rotS_bnd hin r
  have htot := rotS_all L r
  refine Ev_range (ti := 30) (len := L.length) (J := fun i tm hp nc => hp (3005001, 4) = some (.var [.int .u64 (rotS L r i / 18446744073709551616), .int .u64 (rotS L r i % 18446744073709551616)]) ∧ hp (3002005, 2) = some (.var (StC (ofL L)))) (by omega) (by simp only [go_sem, ↓reduceIte, dropK_eq]) ?_ ?_
  · simp only [go_sem, ↓reduceIte, dropK_eq, rotS, Int.zero_ediv, Int.zero_emod]
  rintro i tm hp nc hi' hc k30 ⟨kq, kr⟩
  have k0 := hc 0 rfl; have k1 := hc 1 rfl; have k5 := hc 5 rfl; have k7 := hc 7 rfl; have k29 := hc 29 rfl; simp only [go_sem, ↓reduceIte, dropK_eq] at k0 k1 k5 k7 k29
  rcases Nat.lt_or_ge i L.length with hlt | hge
  · have d1 : decide ((i : Int) < (L.length : Int)) = true := decide_eq_true (by omega)
    have hj : (i + r) % L.length < L.length := Nat.mod_lt _ (by omega)
    have hm : ((i : Int) + (r : Int)).tmod (L.length : Int) = (((i + r) % L.length : Nat) : Int) := by
      rw [show (i : Int) + (r : Int) = ((i + r : Nat) : Int) by omega, Int.tmod_eq_emod_of_nonneg (by omega)]
      rfl
    have ia := hrw.ia hj
    have hx : inM (L.getD ((i + r) % L.length) 0) := hin _ (by rw [List.getD_eq_getElem?_getD, List.getElem?_eq_getElem hj]; exact List.getElem_mem hj)
    have hy := sq_le hx
    have hb1 := hrb i
    have hsn : rotS L r (i + 1) = rotS L r i + L.getD ((i + r) % L.length) 0 * L.getD ((i + r) % L.length) 0 := rfl
    generalize L.getD ((i + r) % L.length) 0 = y at *
    generalize (i + r) % L.length = j at *
    have hz : ¬ (L.length : Int) = 0 := by omega
    have h1 := hx.1
    have h2 := hx.2
    have m1 : mnxA true (.int .i64 y) [.int .i64 (0 - y)] = some (.int .i64 (max y (-y))) := by rw [mnx_max, Int.zero_sub]
    have hmx : 0 ≤ max y (-y) ∧ max y (-y) ≤ 1000000 := by omega
    have hsq := sq_max y
    generalize max y (-y) = mm at *
    have hmw : mm % 18446744073709551616 = mm := Int.emod_eq_of_lt hmx.1 (by omega)
    have e9 := F9_q (a := mm) (b := mm) (by unfold U; omega) (by unfold U; omega) (by rw [hsq]; unfold big; omega)
    rw [hsq] at e9
    have e10 := F10_q (p := rotS L r i) (q := y * y) (by unfold big; omega) (by unfold big; omega) (by unfold big; omega)
    rw [← hsn] at e10
    generalize y * y = yy at *
    generalize rotS L r i = s0 at *
    generalize rotS L r (i + 1) = s1 at *
    simp (disch := first | omega | simp only [*, go_sem, ↓reduceIte, dropK_eq]) only [x3l7, go_sem, ↓reduceIte, dropK_eq, k0, k1, k5, k7, k29, k30, d1, kq, kr, hT, hr, hm, hlen, ia, m1, hmw, callX_known (C := C7 F8) (g := 9) rfl, ft_call (C := C7 F8) (g := 9) rfl, callX_known (C := C7 F8) (g := 10) rfl, ft_call (C := C7 F8) (g := 10) rfl, e9, e10]
    exact ⟨hlt, by simp⟩
  · obtain rfl : i = L.length := by omega
    have d1 : decide ((L.length : Int) < (L.length : Int)) = false := decide_eq_false (by omega)
    rw [htot, ← hqe] at kq
    simp (disch := first | omega | simp only [*, go_sem, ↓reduceIte, dropK_eq]) only [x3l7, go_sem, ↓reduceIte, dropK_eq, k0, k1, k5, k7, k29, k30, d1, kq, kr]
    exact Ends_plain rfl rfl
theorem law3w {F8 : List AVal → Option AVal} (e8 : F8 [] = some (.bool true)) (xs : List AVal) (h : WTL [.slice 1 8 (.int .i64), .int .i64] xs) : pureF (C7 F8) 1 3 xs = some (.bool true) := by
  simp only [WTL] at h
  obtain ⟨q, _, rfl, hq, a, _, rfl, ha, rfl⟩ := h
  rw [WT] at ha
  obtain ⟨n, rfl, hn1, hn2⟩ := ha
  obtain ⟨l, hl, hl2, hl3⟩ := wt_ints hq
  exact law3 e8 hl (by omega) ⟨hn1, hn2⟩
end Go.Proofs.YtkonpbcnekcjjaaGreatDoor
namespace Go.Xec
open Go
section
variable {α β : Type}
noncomputable def lenR (l : List α) : Nat := List.rec (motive := fun _ => Nat) 0 (fun _ _ ih => Nat.succ ih) l
noncomputable def nthR (l : List α) (i : Nat) : Option α := List.rec (motive := fun _ => Nat → Option α) (fun _ => none) (fun x _ ih i => Nat.rec (motive := fun _ => Option α) (some x) (fun j _ => ih j) i) l i
noncomputable def dropR (n : Nat) (l : List α) : List α := Nat.rec (motive := fun _ => List α → List α) (fun l => l) (fun _ ih l => List.rec (motive := fun _ => List α) [] (fun _ xs _ => ih xs) l) n l
noncomputable def takeR (n : Nat) (l : List α) : List α := Nat.rec (motive := fun _ => List α → List α) (fun _ => []) (fun _ ih l => List.rec (motive := fun _ => List α) [] (fun x xs _ => x :: ih xs) l) n l
noncomputable def mapR (f : α → β) (l : List α) : List β := List.rec (motive := fun _ => List β) [] (fun x _ ih => f x :: ih) l
noncomputable def allR (f : α → Bool) (l : List α) : Bool := List.rec (motive := fun _ => Bool) true (fun x _ ih => Bool.rec (motive := fun _ => Bool) false ih (f x)) l
noncomputable def ovl (cells : List α) (off : Nat) (new : List α) : List α :=
  List.rec (motive := fun _ => Nat → List α → List α) (fun _ _ => []) (fun x xs ih off new => Nat.rec (motive := fun _ => List α) (List.rec (motive := fun _ => List α) (x :: xs) (fun v vs _ => v :: ih 0 vs) new) (fun j _ => x :: ih j new) off) cells off new
theorem lenR_eq (l : List α) : lenR l = l.length := by induction l with
  | nil => rfl
  | cons x l ih => exact congrArg Nat.succ ih
theorem nthR_eq (l : List α) (i : Nat) : nthR l i = l[i]? := by
  induction l generalizing i with
  | nil => simp [nthR]
  | cons x l ih => cases i with
    | zero => rfl
    | succ i => exact (ih i).trans (List.getElem?_cons_succ).symm
theorem dropR_eq (n : Nat) (l : List α) : dropR n l = l.drop n := by
  induction n generalizing l with
  | zero => rfl
  | succ n ih => cases l with
    | nil => rfl
    | cons x l => exact ih l
theorem takeR_eq (n : Nat) (l : List α) : takeR n l = l.take n := by
  induction n generalizing l with
  | zero => rfl
  | succ n ih => cases l with
    | nil => rfl
    | cons x l => exact congrArg (x :: ·) (ih l)
theorem mapR_eq (f : α → β) (l : List α) : mapR f l = l.map f := by induction l with
  | nil => rfl
  | cons x l ih => exact congrArg (f x :: ·) ih
theorem allR_eq (f : α → Bool) (l : List α) : allR f l = l.all f := by induction l with
  | nil => rfl
  | cons x l ih =>
    rw [List.all_cons, ← ih]
    show Bool.rec (motive := fun _ => Bool) false (allR f l) (f x) = _
    cases f x <;> rfl
theorem ovl_eq (cells : List α) (off : Nat) (new : List α) (h : off + new.length ≤ cells.length) : ovl cells off new = cells.take off ++ (new ++ cells.drop (off + new.length)) := by
  induction cells generalizing off new with
  | nil =>
    have h1 : off = 0 := by simp at h; omega
    have h2 : new = [] := by
      cases new with
      | nil => rfl
      | cons v vs => simp at h
    subst h1 h2
    rfl
  | cons x xs ih =>
    cases off with
    | zero =>
      cases new with
      | nil => rfl
      | cons v vs =>
        have := ih 0 vs (by simp at h ⊢; omega)
        show v :: ovl xs 0 vs = _
        rw [this]
        simp
    | succ j =>
      have := ih j new (by simp at h ⊢; omega)
      show x :: ovl xs j new = _
      rw [this, show j + 1 + new.length = (j + new.length) + 1 by omega]
      simp
end
inductive D16 where
  | d0 | d1 | d2 | d3 | d4 | d5 | d6 | d7 | d8 | d9 | dA | dB | dC | dD | dE | dF
  deriving DecidableEq
inductive N16 (α : Type) where
  | mk (a0 a1 a2 a3 a4 a5 a6 a7 a8 a9 aA aB aC aD aE aF : α)
namespace N16
variable {α : Type}
noncomputable def get (n : N16 α) (d : D16) : α := N16.rec (fun a0 a1 a2 a3 a4 a5 a6 a7 a8 a9 aA aB aC aD aE aF => D16.rec a0 a1 a2 a3 a4 a5 a6 a7 a8 a9 aA aB aC aD aE aF d) n
noncomputable def set (n : N16 α) (d : D16) (x : α) : N16 α := N16.rec (fun a0 a1 a2 a3 a4 a5 a6 a7 a8 a9 aA aB aC aD aE aF => D16.rec (.mk x a1 a2 a3 a4 a5 a6 a7 a8 a9 aA aB aC aD aE aF) (.mk a0 x a2 a3 a4 a5 a6 a7 a8 a9 aA aB aC aD aE aF) (.mk a0 a1 x a3 a4 a5 a6 a7 a8 a9 aA aB aC aD aE aF) (.mk a0 a1 a2 x a4 a5 a6 a7 a8 a9 aA aB aC aD aE aF) (.mk a0 a1 a2 a3 x a5 a6 a7 a8 a9 aA aB aC aD aE aF) (.mk a0 a1 a2 a3 a4 x a6 a7 a8 a9 aA aB aC aD aE aF) (.mk a0 a1 a2 a3 a4 a5 x a7 a8 a9 aA aB aC aD aE aF) (.mk a0 a1 a2 a3 a4 a5 a6 x a8 a9 aA aB aC aD aE aF) (.mk a0 a1 a2 a3 a4 a5 a6 a7 x a9 aA aB aC aD aE aF) (.mk a0 a1 a2 a3 a4 a5 a6 a7 a8 x aA aB aC aD aE aF) (.mk a0 a1 a2 a3 a4 a5 a6 a7 a8 a9 x aB aC aD aE aF) (.mk a0 a1 a2 a3 a4 a5 a6 a7 a8 a9 aA x aC aD aE aF) (.mk a0 a1 a2 a3 a4 a5 a6 a7 a8 a9 aA aB x aD aE aF) (.mk a0 a1 a2 a3 a4 a5 a6 a7 a8 a9 aA aB aC x aE aF) (.mk a0 a1 a2 a3 a4 a5 a6 a7 a8 a9 aA aB aC aD x aF) (.mk a0 a1 a2 a3 a4 a5 a6 a7 a8 a9 aA aB aC aD aE x) d) n
def all (x : α) : N16 α := .mk x x x x x x x x x x x x x x x x
theorem get_set (n : N16 α) (d e : D16) (x : α) : (n.set d x).get e = if e = d then x else n.get e := by
  cases n; cases d <;> cases e <;> rfl
theorem get_all (d : D16) (x : α) : (all x).get d = x := by cases d <;> rfl
end N16
noncomputable def dg (n : Nat) : D16 :=
  Bool.rec (Bool.rec (Bool.rec (Bool.rec .dF .dE (Nat.ble n 14)) (Bool.rec .dD .dC (Nat.ble n 12)) (Nat.ble n 13)) (Bool.rec (Bool.rec .dB .dA (Nat.ble n 10)) (Bool.rec .d9 .d8 (Nat.ble n 8)) (Nat.ble n 9)) (Nat.ble n 11)) (Bool.rec (Bool.rec (Bool.rec .d7 .d6 (Nat.ble n 6)) (Bool.rec .d5 .d4 (Nat.ble n 4)) (Nat.ble n 5)) (Bool.rec (Bool.rec .d3 .d2 (Nat.ble n 2)) (Bool.rec .d1 .d0 (Nat.ble n 0)) (Nat.ble n 1)) (Nat.ble n 3)) (Nat.ble n 7)
def dgv : D16 → Nat
  | .d0 => 0
  | .d1 => 1
  | .d2 => 2
  | .d3 => 3
  | .d4 => 4
  | .d5 => 5
  | .d6 => 6
  | .d7 => 7
  | .d8 => 8
  | .d9 => 9
  | .dA => 10
  | .dB => 11
  | .dC => 12
  | .dD => 13
  | .dE => 14
  | .dF => 15
theorem dgv_dg {n : Nat} (h : n < 16) : dgv (dg n) = n := by
  match n, h with
  | 0, _ => exact rfl
  | 1, _ => exact rfl
  | 2, _ => exact rfl
  | 3, _ => exact rfl
  | 4, _ => exact rfl
  | 5, _ => exact rfl
  | 6, _ => exact rfl
  | 7, _ => exact rfl
  | 8, _ => exact rfl
  | 9, _ => exact rfl
  | 10, _ => exact rfl
  | 11, _ => exact rfl
  | 12, _ => exact rfl
  | 13, _ => exact rfl
  | 14, _ => exact rfl
  | 15, _ => exact rfl
  | n + 16, h => exact absurd h (by omega)
theorem dg_inj {a b : Nat} (ha : a < 16) (hb : b < 16) : dg a = dg b ↔ a = b := ⟨fun h => by rw [← dgv_dg ha, h, dgv_dg hb], fun h => by rw [h]⟩
inductive Dt where
  | in2 (a b : D16)
  | out
noncomputable def dt (n : Nat) : Dt := Bool.rec .out (.in2 (dg (Nat.div n 16)) (dg (Nat.mod n 16))) (Nat.ble n 255)
inductive Dk where
  | in4 (a b c d : D16)
  | out
noncomputable def dk (n : Nat) : Dk := Bool.rec .out (.in4 (dg (Nat.div n 4096)) (dg (Nat.mod (Nat.div n 256) 16)) (dg (Nat.mod (Nat.div n 16) 16)) (dg (Nat.mod n 16))) (Nat.ble n 65535)
theorem beq_spec (a b : Nat) : Nat.beq a b = decide (a = b) := by
  by_cases h : a = b
  · subst h; simp
  · rw [decide_eq_false h]
    cases hb : Nat.beq a b
    · rfl
    · exact absurd (Nat.eq_of_beq_eq_true hb) h
theorem ble_cases (n m : Nat) : (Nat.ble n m = true ∧ n ≤ m) ∨ (Nat.ble n m = false ∧ m < n) := by
  cases h : Nat.ble n m
  · exact .inr ⟨rfl, Nat.lt_of_not_le fun h2 => by rw [Nat.ble_eq_true_of_le h2] at h; cases h⟩
  · exact .inl ⟨rfl, Nat.le_of_ble_eq_true h⟩
theorem dt_in {n : Nat} (h : n ≤ 255) : dt n = .in2 (dg (n / 16)) (dg (n % 16)) := by
  unfold dt; rw [Nat.ble_eq_true_of_le h]; rfl
theorem dt_out {n : Nat} (h : 255 < n) : dt n = .out := by
  unfold dt
  rcases ble_cases n 255 with ⟨_, h2⟩ | ⟨h2, _⟩
  · omega
  · rw [h2]
theorem dk_in {n : Nat} (h : n ≤ 65535) : dk n = .in4 (dg (n / 4096)) (dg (n / 256 % 16)) (dg (n / 16 % 16)) (dg (n % 16)) := by
  unfold dk; rw [Nat.ble_eq_true_of_le h]; rfl
theorem dk_out {n : Nat} (h : 65535 < n) : dk n = .out := by
  unfold dk
  rcases ble_cases n 65535 with ⟨_, h2⟩ | ⟨h2, _⟩
  · omega
  · rw [h2]
structure KTm where
  top : N16 (N16 AVal)
  over : Nat → AVal
def KTm.e : KTm := ⟨.all (.all .undef), fun _ => .undef⟩
noncomputable def KTm.get (t : KTm) (n : Nat) : AVal := Dt.rec (fun a b => (t.top.get a).get b) (t.over n) (dt n)
noncomputable def KTm.set (t : KTm) (n : Nat) (x : AVal) : KTm := Dt.rec (fun a b => ⟨t.top.set a ((t.top.get a).set b x), t.over⟩) ⟨t.top, fun k => if k = n then x else t.over k⟩ (dt n)
theorem KTm.get_set (t : KTm) (n j : Nat) (x : AVal) : (t.set n x).get j = if j = n then x else t.get j := by
  unfold KTm.set KTm.get
  rcases Nat.lt_or_ge 255 n with hn | hn
  · rw [dt_out hn]
    rcases Nat.lt_or_ge 255 j with hj | hj
    · rw [dt_out hj]
    · rw [dt_in hj, if_neg (by omega)]
  · rw [dt_in hn]
    rcases Nat.lt_or_ge 255 j with hj | hj
    · rw [dt_out hj, if_neg (by omega)]
    · rw [dt_in hj]
      simp only [N16.get_set, dg_inj (show j / 16 < 16 by omega) (show n / 16 < 16 by omega)]
      by_cases h1 : j / 16 = n / 16
      · rw [if_pos h1]
        simp only [N16.get_set, dg_inj (show j % 16 < 16 by omega) (show n % 16 < 16 by omega)]
        by_cases h2 : j % 16 = n % 16
        · rw [if_pos h2, if_pos (by omega)]
        · rw [if_neg h2, if_neg (by omega), h1]
      · rw [if_neg h1, if_neg (by omega)]
theorem KTm.get_e (n : Nat) : KTm.e.get n = .undef := by
  unfold KTm.get KTm.e
  cases dt n with
  | in2 a b => simp only [N16.get_all]
  | out => rfl
abbrev Cell := List (Nat × Option Blk)
structure KHeap where
  top : N16 (N16 (N16 (N16 Cell)))
  over : Nat → Cell
def KHeap.e : KHeap := ⟨.all (.all (.all (.all []))), fun _ => []⟩
noncomputable def KHeap.get (t : KHeap) (n : Nat) : Cell := Dk.rec (fun a b c d => (((t.top.get a).get b).get c).get d) (t.over n) (dk n)
noncomputable def KHeap.set (t : KHeap) (n : Nat) (x : Cell) : KHeap := Dk.rec (fun a b c d => ⟨t.top.set a ((t.top.get a).set b (((t.top.get a).get b).set c ((((t.top.get a).get b).get c).set d x))), t.over⟩) ⟨t.top, fun k => if k = n then x else t.over k⟩ (dk n)
theorem KHeap.get_set (t : KHeap) (n j : Nat) (x : Cell) : (t.set n x).get j = if j = n then x else t.get j := by
  unfold KHeap.set KHeap.get
  rcases Nat.lt_or_ge 65535 n with hn | hn
  · rw [dk_out hn]
    rcases Nat.lt_or_ge 65535 j with hj | hj
    · rw [dk_out hj]
    · rw [dk_in hj, if_neg (by omega)]
  · rw [dk_in hn]
    rcases Nat.lt_or_ge 65535 j with hj | hj
    · rw [dk_out hj, if_neg (by omega)]
    · rw [dk_in hj]
      simp only [N16.get_set, dg_inj (show j / 4096 < 16 by omega) (show n / 4096 < 16 by omega)]
      by_cases h1 : j / 4096 = n / 4096
      · rw [if_pos h1]
        simp only [N16.get_set, dg_inj (show j / 256 % 16 < 16 by omega) (show n / 256 % 16 < 16 by omega)]
        by_cases h2 : j / 256 % 16 = n / 256 % 16
        · rw [if_pos h2]
          simp only [N16.get_set, dg_inj (show j / 16 % 16 < 16 by omega) (show n / 16 % 16 < 16 by omega)]
          by_cases h3 : j / 16 % 16 = n / 16 % 16
          · rw [if_pos h3]
            simp only [N16.get_set, dg_inj (show j % 16 < 16 by omega) (show n % 16 < 16 by omega)]
            by_cases h4 : j % 16 = n % 16
            · rw [if_pos h4, if_pos (by omega)]
            · rw [if_neg h4, if_neg (by omega), h1, h2, h3]
          · rw [if_neg h3, if_neg (by omega), h1, h2]
        · rw [if_neg h2, if_neg (by omega), h1]
      · rw [if_neg h1, if_neg (by omega)]
theorem KHeap.get_e (n : Nat) : KHeap.e.get n = [] := by
  unfold KHeap.get KHeap.e
  cases dk n with
  | in4 a b c d => simp only [N16.get_all]
  | out => rfl
noncomputable def look (l : Cell) (s : Nat) : Option Blk := List.rec (motive := fun _ => Option Blk) none (fun p _ ih => Bool.rec (motive := fun _ => Option Blk) ih p.2 (Nat.beq p.1 s)) l
theorem look_cons (s' : Nat) (b : Option Blk) (r : Cell) (s : Nat) : look ((s', b) :: r) s = bif Nat.beq s' s then b else look r s := by
  show Bool.rec (motive := fun _ => Option Blk) (look r s) b (Nat.beq s' s) = _
  cases Nat.beq s' s <;> rfl
theorem look_nil (s : Nat) : look [] s = none := rfl
def put : List (Nat × Option Blk) → Nat → Option Blk → List (Nat × Option Blk)
  | [], s, b => [(s, b)]
  | (s', b') :: r, s, b => bif Nat.beq s' s then (s, b) :: r else (s', b') :: put r s b
theorem look_put (l : List (Nat × Option Blk)) (s j : Nat) (b : Option Blk) : look (put l s b) j = if j = s then b else look l j := by
  induction l with
  | nil =>
    simp only [put, look_cons, look_nil, beq_spec]
    by_cases h : j = s
    · subst h; simp
    · rw [if_neg h, decide_eq_false (fun e => h e.symm)]; rfl
  | cons x l ih =>
    obtain ⟨s', b'⟩ := x
    simp only [put, beq_spec]
    by_cases h : s' = s
    · subst h
      simp only [decide_true, cond_true, look_cons, beq_spec]
      by_cases h2 : j = s'
      · subst h2; simp
      · rw [if_neg h2, decide_eq_false (fun e => h2 e.symm)]; rfl
    · rw [decide_eq_false h]
      simp only [cond_false, look_cons, beq_spec, ih]
      by_cases h2 : s' = j
      · subst h2
        simp [h]
      · rw [decide_eq_false h2]
        simp
noncomputable def toHeap (kh : KHeap) : Heap := fun k => look (kh.get k.2) k.1
noncomputable def setH (kh : KHeap) (k : Key) (b : Option Blk) : KHeap := kh.set k.2 (put (kh.get k.2) k.1 b)
theorem toHeap_set (kh : KHeap) (k : Key) (b : Option Blk) : toHeap (setH kh k b) = upd (toHeap kh) k b := by
  funext j
  obtain ⟨s, c⟩ := k
  obtain ⟨s', c'⟩ := j
  simp only [toHeap, setH, upd, KHeap.get_set]
  by_cases h : c' = c
  · subst h
    rw [if_pos rfl]
    simp only [look_put]
    by_cases h2 : s' = s
    · subst h2; simp
    · rw [if_neg h2, if_neg (fun e => h2 (Prod.mk.inj e).1)]
  · rw [if_neg h, if_neg (fun e => h (Prod.mk.inj e).2)]
noncomputable def applyK (kh : KHeap) : Wr → KHeap
  | [] => kh
  | (k, b) :: ws => applyK (setH kh k b) ws
theorem toHeap_apply (kh : KHeap) (ws : Wr) : toHeap (applyK kh ws) = applyW (toHeap kh) ws := by
  induction ws generalizing kh with
  | nil => rfl
  | cons x ws ih => obtain ⟨k, b⟩ := x; simp only [applyK, applyW, ih, toHeap_set]
theorem toHeap_empty : toHeap .e = fun _ => none := by funext k; unfold toHeap; rw [KHeap.get_e]; rfl
def lendW (f : AVal → Rd (AVal × List Key)) : List AVal → Rd (List AVal × List Key)
  | [] => .ret ([], [])
  | x :: xs => (f x).bind fun r => (lendW f xs).bind fun q => .ret (r.1 :: q.1, r.2 ++ q.2)
def lendK : Nat → AVal → Rd (AVal × List Key)
  | 0, x => match x with
    | .sl .. => .fail
    | .agg _ => .fail
    | .tup _ => .fail
    | .fn .. => .fail
    | .ifc .. => .fail
    | .ptr .. => .fail
    | .mp .. => .fail
    | x => .ret (x, [])
  | d + 1, x => match x with
    | .sl k g es off len => .get k fun b => match b with
      | none => .fail
      | some b => match b.els g es off len with
        | none => .fail
        | some xs => (lendW (lendK d) xs).bind fun r => .ret (.slc es r.1, k :: r.2)
    | .agg xs => (lendW (lendK d) xs).bind fun r => .ret (.agg r.1, r.2)
    | .tup xs => (lendW (lendK d) xs).bind fun r => .ret (.tup r.1, r.2)
    | .fn f first cap => (lendW (lendK d) first).bind fun r => (lendW (lendK d) cap).bind fun q => .ret (.fn f r.1 q.1, r.2 ++ q.2)
    | .ifc t v => (lendK d v).bind fun r => .ret (.ifc t r.1, r.2)
    | .ptr k g i es off => .get k fun b => match b with
      | some (.var cells) => if g = 0 then (lendW (lendK d) cells).bind fun r => .ret (.pvo r.1 (i * es + off), k :: r.2) else .fail
      | _ => .fail
    | .mp .. => .fail
    | x => .ret (x, [])
theorem lendW_lend (d : Nat) : lendW (lend d) = lendL d := by
  funext xs
  induction xs with
  | nil => rw [lendL]; rfl
  | cons x xs ih => rw [lendL, lendW, ih]
theorem lendK_eq (d : Nat) : lendK d = lend d := by
  induction d with
  | zero => funext x; cases x <;> (rw [lend]; rfl) <;> simp [lendK, lend]
  | succ d ih =>
    funext x
    cases x <;> simp only [lendK, lend, ih, lendW_lend] <;> rfl
theorem lendLK_eq (d : Nat) (xs : List AVal) : lendW (lendK d) xs = lendL d xs := by rw [lendK_eq, lendW_lend]
def callRK (F : List AVal → Option AVal) (args : List AVal) : Rd Outp :=
  (lendW (lendK freeze) args).bind fun r => match F r.1 with
    | some v => .ret (v, if hasRef v then r.2.map (fun k => (k, none)) else [])
    | none => .fail
theorem callRK_eq : callRK = callR := by funext F args; unfold callRK callR; rw [lendLK_eq]; rfl
def callNRK (key : Key) (F : List AVal → Option (Option (Nat × List AVal))) (args : List AVal) : Rd Outp :=
  (lendW (lendK freeze) args).bind fun r => match F r.1 with
    | some (some p) => if p.1 = 0 then
        match entsOf 0 p.2 with
        | some es => if r.2.isEmpty = true then .ret (.mp key, [(key, some (.obj (.map es p.2.length)))]) else .fail
        | none => .fail
      else if hasRefL p.2 = false then .ret (.sl key 0 p.1 0 p.2.length, [(key, some (.row 0 p.1 p.2))]) else .fail
    | some none => .ret (.nils, [])
    | none => .fail
theorem callNRK_eq : callNRK = callNR := by funext key F args; unfold callNRK callNR; rw [lendLK_eq]; rfl
def appRK (es bytes : Nat) (key : Key) (x y : AVal) : Rd Outp :=
  (elemsR es y).bind fun new0 => (lendW (lendK freeze) new0).bind fun r =>
  let new := r.1
  let gone : Wr := r.2.map fun k => (k, none)
  match x with
  | .nils => if new.isEmpty then .ret (.nils, gone) else
      if new.length * bytes ≤ 140737488355328 then .ret (.sl key 0 es 0 new.length, gone ++ [(key, some (.row 0 es new))]) else .fail
  | .emp => if new.isEmpty then .ret (.emp, gone) else
      if new.length * bytes ≤ 140737488355328 then .ret (.sl key 0 es 0 new.length, gone ++ [(key, some (.row 0 es new))]) else .fail
  | .sl k g es' off len => if es' = es ∧ r.2.contains k = false then .get k fun b => match b with
      | some (.row g' es'' elems) =>
        if g = g' ∧ es'' = es ∧ off + len = elems.length ∧ (len + new.length) * bytes ≤ 140737488355328 ∧ new.all (fun e => (cellsOf e).all isSc) = true then
          .ret (.sl k (g + 1) es 0 (len + new.length), gone ++ [(k, some (.row (g + 1) es (elems.drop off ++ new)))])
        else .fail
      | _ => .fail
    else .fail
  | _ => .fail
theorem appRK_eq : appRK = appR := by
  funext es bytes key x y
  unfold appRK appR
  refine congrArg _ (funext fun new0 => ?_)
  rw [lendLK_eq]
  rfl
def rdOfK (C : Cfg) (key : Key) (op : XOp) (e : XArg → AVal) : Rd Outp ⊕ (FuncId × List AVal) :=
  match op with
  | .call f as0 => match target (e f) (as0.map e) with
    | some (g, vs) => match C.Γ g with
      | some F => .inl (callRK F vs)
      | none => .inr (g, vs)
    | none => .inl .fail
  | .callN f as0 => match target (e f) (as0.map e) with
    | some (g, vs) => match C.Γn g with
      | some F => .inl (callNRK key F vs)
      | none => .inl .fail
    | none => .inl .fail
  | .callM f as0 => match target (e f) (as0.map e) with
    | some (g, vs) => match C.Γm g with
      | some F => .inl (callMR key F vs)
      | none => .inl .fail
    | none => .inl .fail
  | .callA f as0 => match target (e f) (as0.map e) with
    | some (g, vs) => match C.Γa g with
      | some q => .inl (q vs)
      | none => .inl .fail
    | none => .inl .fail
  | .inv m x as0 => match e x with
    | .ifc t v => match C.μ t m with
      | some g => match C.Γ g with
        | some F => .inl (callRK F (v :: as0.map e))
        | none => .inr (g, v :: as0.map e)
      | none => .inl .fail
    | _ => .inl .fail
  | .app es bytes x y => .inl (appRK es bytes key (e x) (e y))
  | op => .inl (opR key op e)
theorem rdOfK_eq (C : Cfg) (key : Key) (op : XOp) (e : XArg → AVal) : rdOfK C key op e = rdOf C key op e := by
  cases op <;> simp only [rdOfK, rdOf, callRK_eq, callNRK_eq, appRK_eq, opR] <;> rfl
structure KSt where
  tm : KTm
  hp : KHeap
  nc : Nat
noncomputable def KSt.tmf (s : KSt) : Nat → AVal := s.tm.get
noncomputable def KSt.st (s : KSt) : St := ⟨s.tmf, toHeap s.hp, s.nc⟩
abbrev InlK := FuncId → List AVal → KHeap → Nat → Option (AVal × KHeap × Nat)
noncomputable def runPK (inl : InlK) (p : Rd Outp ⊕ (FuncId × List AVal)) (h : KHeap) (nc : Nat) : Option (AVal × KHeap × Nat) :=
  match p with
  | .inl r => match r.run (toHeap h) with
    | some r => some (r.1, applyK h r.2, nc)
    | none => none
  | .inr (g, vs) => inl g vs h nc
noncomputable def putK (t : KTm) (d : Option Nat) (v : AVal) : KTm :=
  match d with
  | some d => t.set d v
  | none => t
noncomputable def progK (C : Cfg) (key : Key) (o : XOper) (tm : Nat → AVal) : Option (Rd Outp ⊕ (FuncId × List AVal)) :=
  match goes tm o.g with
  | none => none
  | some b => some (if b then rdOfK C key o.op (arg tm) else .inl (.ret (.undef, [])))
theorem progK_eq (C : Cfg) (key : Key) (o : XOper) (tm : Nat → AVal) : progK C key o tm = progO C key o tm := by
  unfold progK progO; simp only [rdOfK_eq]; rfl
inductive ClP where
  | p (f : (XArg → AVal) → Option AVal)
  | h (f : Key → (XArg → AVal) → KHeap → Option (AVal × KHeap))
  | c (f : XArg) (xs : List XArg)
  | g
noncomputable def takeVK (agg : Bool) (n off : Nat) (cs : List AVal) : Option AVal :=
  bif agg then (bif Nat.ble (off + n) (lenR cs) then some (.agg (takeR n (dropR off cs))) else none) else nthR cs off
theorem ble_dec (a b : Nat) : Nat.ble a b = decide (a ≤ b) := by
  rcases ble_cases a b with ⟨h, h2⟩ | ⟨h, h2⟩
  · rw [h, decide_eq_true h2]
  · rw [h, decide_eq_false (by omega)]
theorem takeVK_eq (agg : Bool) (n off : Nat) (cs : List AVal) : takeVK agg n off cs = takeV agg n off cs := by
  unfold takeVK takeV
  rw [lenR_eq, nthR_eq, takeR_eq, dropR_eq, ble_dec]
  cases agg
  · rfl
  · by_cases h : off + n ≤ cs.length <;> simp [h]
noncomputable def loadK (agg : Bool) (n : Nat) (hp : KHeap) : AVal → Option AVal
  | .ptr k g i es off => match look (hp.get k.2) k.1 with
    | some (.var cells) => bif Nat.beq g 0 then takeVK agg n off (dropR (i * es) cells) else none
    | some (.row g' es' elems) => bif Nat.beq g g' && Nat.beq es es' then match nthR elems i with
        | some x => takeVK agg n off (cellsOf x)
        | none => none
      else none
    | _ => none
  | .pvo cs off => takeVK agg n off cs
  | _ => none
noncomputable def storeK (n : Nat) (hp : KHeap) : AVal → AVal → Option KHeap
  | .ptr k g i es off, y => bif Nat.beq (lenR (cellsOf y)) n && allR isSc (cellsOf y) then
      match look (hp.get k.2) k.1 with
      | some (.var cells) => bif Nat.beq g 0 && Nat.ble (i * es + off + n) (lenR cells) then some (setH hp k (some (.var (ovl cells (i * es + off) (cellsOf y))))) else none
      | some (.row g' es' elems) => bif Nat.beq g g' && Nat.beq es es' then match nthR elems i with
          | some e => bif Nat.ble (off + n) (lenR (cellsOf e)) then some (setH hp k (some (.row g' es' (ovl elems i [remake e (ovl (cellsOf e) off (cellsOf y))])))) else none
          | none => none
        else none
      | _ => none
    else none
  | _, _ => none
noncomputable def pop : XOp → ClP
  | .mv x => .p fun e => some (e x)
  | .pick c a b => .p fun e => match e c with
    | .bool t => some (bif t then e a else e b)
    | _ => none
  | .bin op x y => .p fun e => binA op (e x) (e y)
  | .eqB neg x y => .p fun e => match e x, e y with
    | .bool a, .bool b => some (.bool (if neg then !(a == b) else a == b))
    | _, _ => none
  | .eqN neg kd x => .p fun e => match nilA kd (e x) with
    | some b => some (.bool (if neg then !b else b))
    | none => none
  | .un op x => .p fun e => unA op (e x)
  | .conv k x => .p fun e => match e x with
    | .int _ n => some (.int k (k.wrap n))
    | _ => none
  | .fa off x => .p fun e => faA off (e x)
  | .fld agg n off x => .p fun e => match e x with
    | .agg cs => takeVK agg n off cs
    | _ => none
  | .iaA n es x i => .p fun e => iaAA n es (e x) (e i)
  | .iaS es x i => .p fun e => iaSA es (e x) (e i)
  | .ixA agg n es x i => .p fun e => ixAA agg n es (e x) (e i)
  | .ixS x i => .p fun e => ixSA (e x) (e i)
  | .lenS x => .p fun e => match e x with
    | .str s => some (.int .i64 s.size)
    | _ => none
  | .lenV x => .p fun e => lenVA (e x)
  | .ext x i => .p fun e => match e x with
    | .tup xs => nthR xs i
    | _ => none
  | .mkf f first cap => .p fun e => some (.fn f (mapR e first) (mapR e cap))
  | .mki t x => .p fun e => some (.ifc t (e x))
  | .alloc cells => .h fun key e hp => some (.ptr key 0 0 0 0, setH hp key (some (.var cells)))
  | .load agg n x => .h fun key e hp => match loadK agg n hp (e x) with
    | some v => some (v, hp)
    | none => none
  | .store n x y => .h fun key e hp => match storeK n hp (e x) (e y) with
    | some hp' => some (.undef, hp')
    | none => none
  | .call f xs => .c f xs
  | _ => .g
theorem pop_ok (C : Cfg) (key : Key) {op : XOp} {f : (XArg → AVal) → Option AVal} (h : pop op = .p f) (e : XArg → AVal) {v : AVal} (hv : f e = some v) : rdOf C key op e = .inl (.ret (v, [])) := by
  cases op <;> simp only [pop, ClP.p.injEq, reduceCtorEq] at h <;> subst h <;> simp only [rdOf, opR] <;> simp only [takeVK_eq, nthR_eq, mapR_eq] at hv
  all_goals first
    | (rw [hv]; rfl)
    | (obtain rfl := Option.some.inj hv; rfl)
    | (split at hv <;> simp_all [Rd.ofO, Rd.bind] <;> done)
    | (split at hv <;> simp_all [Rd.ofO, Rd.bind] <;> (rw [← hv]; rename_i t _; cases t <;> rfl))
theorem loadK_ok {agg : Bool} {n : Nat} {hp : KHeap} {x v : AVal} (h : loadK agg n hp x = some v) : (loadR agg n x).run (toHeap hp) = some v := by
  unfold loadK at h
  split at h
  · rename_i k g i es off
    simp only [loadR, Rd.run]
    change (match toHeap hp k with | some (.var cells) => _ | some (.row g' es' elems) => _ | _ => none) = _ at h
    split at h
    · rename_i cells hk
      rw [hk]
      rw [beq_spec, Bool.cond_eq_ite] at h
      split at h
      · rename_i hg
        simp only [decide_eq_true_eq] at hg
        simp only [Blk.cs]
        rw [if_pos hg, Option.bind_some, ← dropR_eq, ← takeVK_eq, h]
        rfl
      · cases h
    · rename_i g' es' elems hk
      rw [hk]
      rw [beq_spec, beq_spec, Bool.cond_eq_ite] at h
      split at h
      · rename_i hg
        simp only [Bool.and_eq_true, decide_eq_true_eq] at hg
        simp only [Blk.cs]
        rw [if_pos hg, ← nthR_eq]
        cases hn : nthR elems i with
        | none => rw [hn] at h; cases h
        | some x =>
          rw [hn] at h
          simp only at h
          rw [Option.map_some, Option.bind_some, ← takeVK_eq, h]
          rfl
      · cases h
    · cases h
  · simp only [loadR]; rw [← takeVK_eq, h]; rfl
  · cases h
theorem storeK_ok {n : Nat} {hp hp' : KHeap} {x y : AVal} (h : storeK n hp x y = some hp') : ∃ ws, (storeR n x y).run (toHeap hp) = some (.undef, ws) ∧ toHeap hp' = applyW (toHeap hp) ws := by
  unfold storeK at h
  split at h
  · rename_i k g i es off
    rw [Bool.cond_eq_ite] at h
    split at h
    · rename_i hc
      rw [Bool.and_eq_true, beq_spec, decide_eq_true_eq, lenR_eq, allR_eq] at hc
      change (match toHeap hp k with | some (.var cells) => _ | some (.row g' es' elems) => _ | _ => none) = _ at h
      simp only [storeR]
      rw [if_pos hc]
      simp only [Rd.run]
      split at h
      · rename_i cells hk
        rw [Bool.cond_eq_ite] at h
        split at h
        · rename_i hg
          rw [Bool.and_eq_true, beq_spec, decide_eq_true_eq, lenR_eq] at hg
          have hg2 := Nat.le_of_ble_eq_true hg.2
          rw [hk]
          simp only
          rw [if_pos ⟨hg.1, hg2⟩]
          obtain rfl := Option.some.inj h
          refine ⟨_, rfl, ?_⟩
          rw [toHeap_set, ovl_eq _ _ _ (by rw [hc.1]; exact hg2)]
          rfl
        · cases h
      · rename_i g' es' elems hk
        rw [hk]
        rw [beq_spec, beq_spec, Bool.cond_eq_ite] at h
        split at h
        · rename_i hg
          simp only [Bool.and_eq_true, decide_eq_true_eq] at hg
          simp only
          rw [if_pos hg, ← nthR_eq]
          cases hn : nthR elems i with
          | none => rw [hn] at h; cases h
          | some e =>
            rw [hn] at h
            simp only at h ⊢
            rw [Bool.cond_eq_ite] at h
            split at h
            · rename_i hle
              rw [lenR_eq] at hle
              have hle := Nat.le_of_ble_eq_true hle
              obtain rfl := Option.some.inj h
              rw [if_pos hle]
              have hi : i < elems.length := by
                rw [nthR_eq] at hn
                exact (List.getElem?_eq_some_iff.1 hn).1
              refine ⟨_, rfl, ?_⟩
              rw [toHeap_set, ovl_eq (cellsOf e) off _ (by rw [hc.1]; exact hle), ovl_eq elems i _ (by simp; omega), List.set_eq_take_append_cons_drop, if_pos hi]
              rfl
            · cases h
        · cases h
      · cases h
    · cases h
  · cases h
theorem pop_h (C : Cfg) {key : Key} {op : XOp} {f : Key → (XArg → AVal) → KHeap → Option (AVal × KHeap)} (h : pop op = .h f) {e : XArg → AVal} {hp hp' : KHeap} {v : AVal} (hv : f key e hp = some (v, hp')) :
    ∃ rd ws, rdOf C key op e = .inl rd ∧ rd.run (toHeap hp) = some (v, ws) ∧ toHeap hp' = applyW (toHeap hp) ws := by
  cases op <;> simp only [pop, ClP.h.injEq, reduceCtorEq] at h <;> subst h <;> simp only [rdOf, opR] <;> simp only at hv
  · simp only [Option.some.injEq, Prod.mk.injEq] at hv
    obtain ⟨rfl, rfl⟩ := hv
    exact ⟨_, _, rfl, rfl, by rw [toHeap_set]; rfl⟩
  · rename_i agg n x
    cases hl : loadK agg n hp (e x) with
    | none => rw [hl] at hv; cases hv
    | some u =>
      rw [hl] at hv
      simp only [Option.some.injEq, Prod.mk.injEq] at hv
      obtain ⟨rfl, rfl⟩ := hv
      refine ⟨_, [], rfl, ?_, rfl⟩
      rw [Rd.run_bind, loadK_ok hl]
      rfl
  · rename_i n x y
    cases hl : storeK n hp (e x) (e y) with
    | none => rw [hl] at hv; cases hv
    | some u =>
      rw [hl] at hv
      simp only [Option.some.injEq, Prod.mk.injEq] at hv
      obtain ⟨rfl, rfl⟩ := hv
      obtain ⟨ws, h1, h2⟩ := storeK_ok hl
      exact ⟨_, ws, rfl, h1, h2⟩
theorem pop_c {op : XOp} {f : XArg} {xs : List XArg} (h : pop op = .c f xs) : op = .call f xs := by
  cases op <;> simp only [pop, ClP.c.injEq, reduceCtorEq] at h
  obtain ⟨rfl, rfl⟩ := h
  rfl
noncomputable def callK (C : Cfg) (inl : InlK) (f : AVal) (xs : List AVal) (hp : KHeap) (nc : Nat) : Option (AVal × KHeap × Nat) :=
  match target f xs with
  | some (g, vs) => match C.Γ g with
    | some F => match (callRK F vs).run (toHeap hp) with
      | some r => some (r.1, applyK hp r.2, nc)
      | none => none
    | none => inl g vs hp nc
  | none => none
theorem callK_eq (C : Cfg) (inl : InlK) (key : Key) (f : XArg) (xs : List XArg) (e : XArg → AVal) (hp : KHeap) (nc : Nat) : callK C inl (e f) (xs.map e) hp nc = runPK inl (rdOf C key (.call f xs) e) hp nc := by
  unfold callK
  simp only [rdOf]
  cases target (e f) (xs.map e) with
  | none => rfl
  | some q =>
    obtain ⟨g, vs⟩ := q
    simp only
    cases C.Γ g with
    | none => rfl
    | some F => simp only [runPK, callRK_eq]
noncomputable def stepK (C : Cfg) (inl : InlK) (key : Key) (o : XOper) (s : KSt) : Option KSt :=
  match goes s.tmf o.g with
  | none => none
  | some b => bif b then
      match pop o.op with
      | .p f => match f (arg s.tmf) with
        | some v => some ⟨putK s.tm o.dst v, s.hp, s.nc⟩
        | none => none
      | .h f => match f key (arg s.tmf) s.hp with
        | some r => some ⟨putK s.tm o.dst r.1, r.2, s.nc⟩
        | none => none
      | .c f xs => match callK C inl (arg s.tmf f) (mapR (arg s.tmf) xs) s.hp s.nc with
        | some r => some ⟨putK s.tm o.dst r.1, r.2.1, r.2.2⟩
        | none => none
      | .g => match runPK inl (rdOfK C key o.op (arg s.tmf)) s.hp s.nc with
        | some r => some ⟨putK s.tm o.dst r.1, r.2.1, r.2.2⟩
        | none => none
    else some ⟨putK s.tm o.dst .undef, s.hp, s.nc⟩
def InlKOk (inlK : InlK) (inl : Inl) : Prop := ∀ f as0 kh nc v kh' nc', inlK f as0 kh nc = some (v, kh', nc') → inl f as0 (toHeap kh) nc = some (v, toHeap kh', nc')
section
variable {C : Cfg} {inlK : InlK} {inl : Inl}
theorem runPK_ok (hi : InlKOk inlK inl) {p : Rd Outp ⊕ (FuncId × List AVal)} {h : KHeap} {nc : Nat} {v : AVal} {h' : KHeap} {nc' : Nat} (hr : runPK inlK p h nc = some (v, h', nc')) : runP inl p (toHeap h) nc = some (v, toHeap h', nc') := by
  cases p with
  | inl r =>
    simp only [runPK] at hr
    simp only [runP]
    cases hq : r.run (toHeap h) with
    | none => rw [hq] at hr; cases hr
    | some q =>
      rw [hq] at hr
      simp only [Option.some.injEq, Prod.mk.injEq] at hr
      obtain ⟨rfl, rfl, rfl⟩ := hr
      simp only [Option.map_some, toHeap_apply]
  | inr q => exact hi _ _ _ _ _ _ _ hr
theorem putK_ok (s : KSt) (d : Option Nat) (v : AVal) (h : KHeap) (nc : Nat) : (KSt.mk (putK s.tm d v) h nc).st = ⟨putO s.tmf d v, toHeap h, nc⟩ := by
  unfold KSt.st
  congr 1
  funext m
  cases d with
  | none => rfl
  | some d =>
    simp only [KSt.tmf, putK, putO, updT, KTm.get_set]
theorem stepK_ok (hi : InlKOk inlK inl) {key : Key} {o : XOper} {s s' : KSt} (h : stepK C inlK key o s = some s') : stepO C inl key o s.st = some s'.st := by
  unfold stepK at h
  unfold stepO progO
  change (match (match goes s.tmf o.g with | none => none | some b => some (if b = true then rdOf C key o.op (arg s.tmf) else Sum.inl (Rd.ret (AVal.undef, [])))) with | none => none | some p => _) = _
  cases hg : goes s.tmf o.g with
  | none => rw [hg] at h; cases h
  | some b =>
    rw [hg] at h
    cases b with
    | false =>
      simp only [cond_false, Option.some.injEq] at h
      subst h
      rw [putK_ok]
      rfl
    | true =>
      simp only [cond_true] at h
      simp only [if_true]
      cases hp : pop o.op with
      | p f =>
        rw [hp] at h
        simp only at h
        cases hv : f (arg s.tmf) with
        | none => rw [hv] at h; cases h
        | some v =>
          rw [hv] at h
          simp only [Option.some.injEq] at h
          subst h
          rw [putK_ok, pop_ok C key hp _ hv]
          rfl
      | h f =>
        rw [hp] at h
        simp only at h
        cases hv : f key (arg s.tmf) s.hp with
        | none => rw [hv] at h; cases h
        | some r =>
          obtain ⟨v, h'⟩ := r
          rw [hv] at h
          simp only [Option.some.injEq] at h
          subst h
          obtain ⟨rd, ws, h1, h2, h3⟩ := pop_h C hp hv
          rw [putK_ok, h1, h3]
          simp only [runP]
          change (((rd.run (toHeap s.hp)).map _).map _) = _
          rw [h2]
          rfl
      | c f xs =>
        rw [hp] at h
        simp only at h
        rw [mapR_eq, callK_eq C inlK key, ← pop_c hp] at h
        cases hr : runPK inlK (rdOf C key o.op (arg s.tmf)) s.hp s.nc with
        | none => rw [hr] at h; cases h
        | some r =>
          obtain ⟨v, h', nc'⟩ := r
          rw [hr] at h
          simp only [Option.some.injEq] at h
          subst h
          have := runPK_ok hi hr
          change (runP inl _ (toHeap s.hp) s.nc).map _ = _
          rw [this, putK_ok]
          rfl
      | g =>
        rw [hp, rdOfK_eq] at h
        simp only at h
        cases hr : runPK inlK (rdOf C key o.op (arg s.tmf)) s.hp s.nc with
        | none => rw [hr] at h; cases h
        | some r =>
          obtain ⟨v, h', nc'⟩ := r
          rw [hr] at h
          simp only [Option.some.injEq] at h
          subst h
          have := runPK_ok hi hr
          change (runP inl _ (toHeap s.hp) s.nc).map _ = _
          rw [this, putK_ok]
          rfl
noncomputable def runOpsK (C : Cfg) (inl : InlK) (fid rid c : Nat) : Nat → List XOper → KSt → Option KSt
  | _, [], st => some st
  | i, o :: os, st => match stepK C inl (site fid rid i, c) o st with
    | some st' => runOpsK C inl fid rid c (i + 1) os st'
    | none => none
theorem runOpsK_ok (hi : InlKOk inlK inl) {fid rid c i : Nat} {os : List XOper} {s s' : KSt} (h : runOpsK C inlK fid rid c i os s = some s') : runOps C inl fid rid c i os s.st = some s'.st := by
  induction os generalizing i s with
  | nil => simp only [runOpsK, Option.some.injEq] at h; subst h; rfl
  | cons o os ih =>
    simp only [runOpsK] at h
    simp only [runOps]
    cases hs : stepK C inlK (site fid rid i, c) o s with
    | none => rw [hs] at h; cases h
    | some s1 => rw [hs] at h; rw [stepK_ok hi hs, Option.bind_some]; exact ih h
mutual
def avEq : AVal → AVal → Bool
  | .bool a, .bool b => a == b
  | .int k a, .int k' b => decide (k = k') && decide (a = b)
  | .str a, .str b => a.data.toList == b.data.toList
  | .agg a, .agg b => avEqL a b
  | .nilp, .nilp => true
  | .nils, .nils => true
  | .emp, .emp => true
  | .nili, .nili => true
  | .nilf, .nilf => true
  | .undef, .undef => true
  | .ptr k g i es o, .ptr k' g' i' es' o' => decide (k = k') && (decide (g = g') && (decide (i = i') && (decide (es = es') && decide (o = o'))))
  | .sl k g es o l, .sl k' g' es' o' l' => decide (k = k') && (decide (g = g') && (decide (es = es') && (decide (o = o') && decide (l = l'))))
  | .slc es a, .slc es' b => decide (es = es') && avEqL a b
  | .ifc t a, .ifc t' b => decide (t = t') && avEq a b
  | .mp k, .mp k' => decide (k = k')
  | _, _ => false
def avEqL : List AVal → List AVal → Bool
  | [], [] => true
  | x :: xs, y :: ys => avEq x y && avEqL xs ys
  | _, _ => false
end
mutual
theorem avEq_ok : ∀ (a b : AVal), avEq a b = true → a = b
  | .bool a, b, h => by cases b <;> simp_all [avEq]
  | .int k a, b, h => by cases b <;> simp_all [avEq]
  | .str a, b, h => by
    cases b <;> simp [avEq] at h
    rename_i b
    cases a; cases b; simp at h; rename_i a b; cases a; cases b; simp at h; subst h; rfl
  | .agg a, b, h => by
    cases b <;> simp [avEq] at h
    rw [avEqL_ok _ _ h]
  | .slc es a, b, h => by
    cases b <;> simp [avEq] at h
    rw [avEqL_ok _ _ h.2, h.1]
  | .ifc t a, b, h => by
    cases b <;> simp [avEq] at h
    rw [avEq_ok _ _ h.2, h.1]
  | .nilp, b, h => by cases b <;> simp_all [avEq]
  | .nils, b, h => by cases b <;> simp_all [avEq]
  | .emp, b, h => by cases b <;> simp_all [avEq]
  | .nili, b, h => by cases b <;> simp_all [avEq]
  | .nilf, b, h => by cases b <;> simp_all [avEq]
  | .undef, b, h => by cases b <;> simp_all [avEq]
  | .ptr .., b, h => by cases b <;> simp_all [avEq]
  | .sl .., b, h => by cases b <;> simp_all [avEq]
  | .mp .., b, h => by cases b <;> simp_all [avEq]
  | .any, b, h => by cases b <;> simp [avEq] at h
  | .tup .., b, h => by cases b <;> simp [avEq] at h
  | .pvo .., b, h => by cases b <;> simp [avEq] at h
  | .fn .., b, h => by cases b <;> simp [avEq] at h
theorem avEqL_ok : ∀ (a b : List AVal), avEqL a b = true → a = b
  | [], b, h => by cases b <;> simp_all [avEqL]
  | x :: xs, b, h => by
    cases b with
    | nil => simp [avEqL] at h
    | cons y ys =>
      simp [avEqL] at h
      rw [avEq_ok _ _ h.1, avEqL_ok _ _ h.2]
end
def blkEq : Option Blk → Option Blk → Bool
  | none, none => true
  | some (.var a), some (.var b) => avEqL a b
  | some (.row g es a), some (.row g' es' b) => decide (g = g') && (decide (es = es') && avEqL a b)
  | _, _ => false
theorem blkEq_ok {a b : Option Blk} (h : blkEq a b = true) : a = b := by
  match a, b with
  | none, none => rfl
  | some (.var a), some (.var b) => rw [avEqL_ok _ _ h]
  | some (.row g es a), some (.row g' es' b) => simp [blkEq] at h; rw [avEqL_ok _ _ h.2.2, h.1, h.2.1]
  | none, some (.var b) => simp [blkEq] at h
  | none, some (.row ..) => simp [blkEq] at h
  | none, some (.obj b) => simp [blkEq] at h
  | some (.var b), none => simp [blkEq] at h
  | some (.row ..), none => simp [blkEq] at h
  | some (.obj b), none => simp [blkEq] at h
  | some (.var b), some (.row ..) => simp [blkEq] at h
  | some (.var b), some (.obj ..) => simp [blkEq] at h
  | some (.row ..), some (.var ..) => simp [blkEq] at h
  | some (.row ..), some (.obj ..) => simp [blkEq] at h
  | some (.obj ..), some (.var ..) => simp [blkEq] at h
  | some (.obj ..), some (.row ..) => simp [blkEq] at h
  | some (.obj ..), some (.obj ..) => simp [blkEq] at h
inductive RdsK where
  | kn (l : List Key)
  | cl (a b : KHeap)
abbrev FootK := RdsK × List Key
noncomputable def toFoot (f : FootK) : Foot := (match f.1 with
  | .kn l => .kn l
  | .cl a b => .cl fun k => toHeap b k = toHeap a k, f.2)
noncomputable def footPK (p : Rd Outp ⊕ (FuncId × List AVal)) (h h' : KHeap) : FootK :=
  match p with
  | .inl r => (.kn (r.reads (toHeap h)), match r.run (toHeap h) with | some r => r.2.map (·.1) | none => [])
  | .inr _ => (.cl h h', [])
noncomputable def footK (C : Cfg) (key : Key) (o : XOper) (s : KSt) (h' : KHeap) : FootK :=
  match progK C key o s.tmf with
  | some p => footPK p s.hp h'
  | none => (.kn [], [])
theorem footK_eq (C : Cfg) (key : Key) (o : XOper) (s : KSt) (h' : KHeap) : foot C key o s.st (toHeap h') = toFoot (footK C key o s h') := by
  unfold foot footK
  rw [progK_eq]
  change (match progO C key o s.tmf with | some p => _ | none => _) = _
  cases progO C key o s.tmf with
  | none => rfl
  | some p => cases p <;> rfl
noncomputable def runOpsFK (C : Cfg) (inl : InlK) (fid rid c : Nat) : Nat → List XOper → KSt → Option (KSt × List FootK)
  | _, [], st => some (st, [])
  | i, o :: os, st => match stepK C inl (site fid rid i, c) o st with
    | some st' => match runOpsFK C inl fid rid c (i + 1) os st' with
      | some r => some (r.1, footK C (site fid rid i, c) o st st'.hp :: r.2)
      | none => none
    | none => none
theorem runOpsFK_ok (hi : InlKOk inlK inl) {fid rid c i : Nat} {os : List XOper} {s s' : KSt} {fs : List FootK} (h : runOpsFK C inlK fid rid c i os s = some (s', fs)) : runOpsF C inl fid rid c i os s.st = some (s'.st, fs.map toFoot) := by
  induction os generalizing i s fs with
  | nil => simp only [runOpsFK, Option.some.injEq, Prod.mk.injEq] at h; obtain ⟨rfl, rfl⟩ := h; rfl
  | cons o os ih =>
    simp only [runOpsFK] at h
    simp only [runOpsF]
    cases hs : stepK C inlK (site fid rid i, c) o s with
    | none => rw [hs] at h; cases h
    | some s1 =>
      rw [hs] at h
      simp only at h
      rw [stepK_ok hi hs, Option.bind_some]
      cases hr : runOpsFK C inlK fid rid c (i + 1) os s1 with
      | none => rw [hr] at h; cases h
      | some r =>
        obtain ⟨s2, fs2⟩ := r
        rw [hr] at h
        simp only [Option.some.injEq, Prod.mk.injEq] at h
        obtain ⟨rfl, rfl⟩ := h
        rw [ih hr]
        simp only [Option.map_some, List.map_cons]
        rw [← footK_eq]
        rfl
noncomputable def apartK (x y : FootK) : Bool :=
  match x.1, y.1 with
  | .kn rx, .kn ry => disj x.2 (ry ++ y.2) && disj y.2 rx
  | .cl a b, .kn ry => y.2.isEmpty && ry.all fun k => blkEq (toHeap b k) (toHeap a k)
  | .kn rx, .cl a b => x.2.isEmpty && rx.all fun k => blkEq (toHeap b k) (toHeap a k)
  | .cl .., .cl .. => false
theorem apartK_ok {x y : FootK} (h : apartK x y = true) : apartF (toFoot x) (toFoot y) = true := by
  obtain ⟨x1, x2⟩ := x
  obtain ⟨y1, y2⟩ := y
  unfold apartF
  cases x1 <;> cases y1
  · exact h
  · simp only [apartK, Bool.and_eq_true] at h
    simp only [toFoot, Bool.and_eq_true, decide_eq_true_eq]
    exact ⟨h.1, fun k hk => blkEq_ok (List.all_eq_true.1 h.2 k hk)⟩
  · simp only [apartK, Bool.and_eq_true] at h
    simp only [toFoot, Bool.and_eq_true, decide_eq_true_eq]
    exact ⟨h.1, fun k hk => blkEq_ok (List.all_eq_true.1 h.2 k hk)⟩
  · cases h
noncomputable def hotK (fs : List FootK) (hot : List (Nat × Nat)) : Bool :=
  hot.all fun p => match fs[p.1]?, fs[p.2]? with
    | some x, some y => apartK x y
    | _, _ => false
theorem hotK_ok {fs : List FootK} {hot : List (Nat × Nat)} (h : hotK fs hot = true) : hotOk (fs.map toFoot) hot = true := by
  unfold hotOk
  refine List.all_eq_true.2 fun p hp => ?_
  have := List.all_eq_true.1 h p hp
  rw [List.getElem?_map, List.getElem?_map]
  cases h1 : fs[p.1]? with
  | none => rw [h1] at this; cases this
  | some x =>
    cases h2 : fs[p.2]? with
    | none => rw [h1, h2] at this; cases this
    | some y => rw [h1, h2] at this; exact apartK_ok this
noncomputable def runRegK (C : Cfg) (inl : InlK) (fid rid : Nat) (ops : List XOper) (draw : Option XDraw) (s : KSt) : Option KSt :=
  match draw with
  | none => runOpsK C inl fid rid s.nc 0 ops ⟨s.tm, s.hp, s.nc + 1⟩
  | some d => match d.hot with
    | [] => runOpsK C inl fid rid s.nc 0 ops ⟨s.tm, s.hp, s.nc + 1⟩
    | hot => match runOpsFK C inl fid rid s.nc 0 ops ⟨s.tm, s.hp, s.nc + 1⟩ with
      | some (st', fs) => if hotK fs hot = true then some st' else none
      | none => none
theorem runRegK_ok (hi : InlKOk inlK inl) {fid rid : Nat} {ops : List XOper} {draw : Option XDraw} {s s' : KSt} (h : runRegK C inlK fid rid ops draw s = some s') : runReg C inl fid rid ops draw s.st = some s'.st := by
  unfold runRegK at h
  unfold runReg
  match draw, h with
  | none, h => exact runOpsK_ok hi h
  | some ⟨[]⟩, h => exact runOpsK_ok hi h
  | some ⟨p :: ps⟩, h =>
    simp only at h ⊢
    cases hr : runOpsFK C inlK fid rid s.nc 0 ops ⟨s.tm, s.hp, s.nc + 1⟩ with
    | none => rw [hr] at h; cases h
    | some r =>
      obtain ⟨s1, fs⟩ := r
      rw [hr] at h
      simp only at h
      have := runOpsFK_ok hi hr
      change (match runOpsF C inl fid rid s.nc 0 ops (KSt.mk s.tm s.hp (s.nc + 1)).st with | some (st', fs) => _ | none => _) = _
      rw [this]
      simp only
      by_cases hh : hotK fs (p :: ps) = true
      · rw [if_pos hh] at h
        rw [if_pos (hotK_ok hh)]
        rw [Option.some.inj h]
      · rw [if_neg hh] at h; cases h
abbrev ResK := Option (Out × KSt)
def iterK : Nat → (KSt → ResK) → KSt → ResK
  | 0, _, _ => none
  | n + 1, f, s => match f s with
    | some (.nrm, s') => iterK n f s'
    | r => r
theorem iterK_ok {f : KSt → ResK} {g : St → Res} (hf : ∀ s o s', f s = some (o, s') → g s.st = some (o, s'.st)) {n m : Nat} (hn : n ≤ m) {s s' : KSt} {o : Out} (h : iterK n f s = some (o, s')) : iterN m g s.st = some (o, s'.st) := by
  induction n generalizing m s with
  | zero => cases h
  | succ n ih =>
    obtain ⟨m, rfl⟩ : ∃ k, m = k + 1 := ⟨m - 1, by omega⟩
    simp only [iterK] at h
    simp only [iterN]
    cases hs : f s with
    | none => rw [hs] at h; cases h
    | some r =>
      obtain ⟨o1, s1⟩ := r
      rw [hs] at h
      rw [hf _ _ _ hs]
      cases o1 with
      | nrm => exact ih (by omega) h
      | ext i => simp only [Option.some.injEq, Prod.mk.injEq] at h ⊢; obtain ⟨rfl, rfl⟩ := h; exact ⟨rfl, rfl⟩
      | ret => simp only [Option.some.injEq, Prod.mk.injEq] at h ⊢; obtain ⟨rfl, rfl⟩ := h; exact ⟨rfl, rfl⟩
noncomputable def execK (C : Cfg) (inl : InlK) (fid : Nat) : XCode → KSt → ResK
  | .skip, s => some (.nrm, s)
  | .reg id ops draw, s => match runRegK C inl fid id ops draw s with
    | some s' => some (.nrm, s')
    | none => none
  | .seq a b, s => match execK C inl fid a s with
    | some (.nrm, s') => execK C inl fid b s'
    | r => r
  | .cond c a b, s => match arg s.tmf c with
    | .bool t => bif t then execK C inl fid a s else execK C inl fid b s
    | _ => none
  | .block id c, s => match execK C inl fid c s with
    | some (.ext i, s') => if i = id then some (.nrm, s') else some (.ext i, s')
    | r => r
  | .loop c, s => iterK 100000 (fun s => execK C inl fid c s) s
  | .scope c, s => execK C inl fid c s
  | .exit id, s => some (.ext id, s)
  | .ret, s => some (.ret, s)
  | .bad, _ => none
theorem execK_ok (hi : InlKOk inlK inl) {fid : Nat} {c : XCode} {s s' : KSt} {o : Out} (h : execK C inlK fid c s = some (o, s')) : execC C inl fid c s.st = some (o, s'.st) := by
  induction c generalizing s s' o with
  | skip => simp only [execK, Option.some.injEq, Prod.mk.injEq] at h; obtain ⟨rfl, rfl⟩ := h; rfl
  | exit i => simp only [execK, Option.some.injEq, Prod.mk.injEq] at h; obtain ⟨rfl, rfl⟩ := h; rfl
  | ret => simp only [execK, Option.some.injEq, Prod.mk.injEq] at h; obtain ⟨rfl, rfl⟩ := h; rfl
  | bad => cases h
  | reg id ops draw =>
    simp only [execK] at h
    cases hr : runRegK C inlK fid id ops draw s with
    | none => rw [hr] at h; cases h
    | some s1 =>
      rw [hr] at h
      simp only [Option.some.injEq, Prod.mk.injEq] at h
      obtain ⟨rfl, rfl⟩ := h
      rw [execC, runRegK_ok hi hr]
      rfl
  | seq a b iha ihb =>
    simp only [execK] at h
    rw [execC]
    cases ha : execK C inlK fid a s with
    | none => rw [ha] at h; cases h
    | some r =>
      obtain ⟨o1, s1⟩ := r
      rw [ha] at h
      rw [iha ha]
      cases o1 with
      | nrm => exact ihb h
      | ext i => simp only [Option.some.injEq, Prod.mk.injEq] at h ⊢; obtain ⟨rfl, rfl⟩ := h; exact ⟨rfl, rfl⟩
      | ret => simp only [Option.some.injEq, Prod.mk.injEq] at h ⊢; obtain ⟨rfl, rfl⟩ := h; exact ⟨rfl, rfl⟩
  | cond c a b iha ihb =>
    simp only [execK] at h
    rw [execC]
    change (match arg s.tmf c with | .bool t => _ | _ => _) = _
    cases hc : arg s.tmf c with
    | bool t =>
      rw [hc] at h
      cases t with
      | true => exact iha h
      | false => exact ihb h
    | _ => rw [hc] at h; cases h
  | block id c ih =>
    simp only [execK] at h
    rw [execC]
    cases hc : execK C inlK fid c s with
    | none => rw [hc] at h; cases h
    | some r =>
      obtain ⟨o1, s1⟩ := r
      rw [hc] at h
      rw [ih hc]
      cases o1 with
      | nrm => simp only [Option.some.injEq, Prod.mk.injEq] at h ⊢; obtain ⟨rfl, rfl⟩ := h; exact ⟨rfl, rfl⟩
      | ret => simp only [Option.some.injEq, Prod.mk.injEq] at h ⊢; obtain ⟨rfl, rfl⟩ := h; exact ⟨rfl, rfl⟩
      | ext i =>
        simp only at h ⊢
        by_cases e : i = id
        · rw [if_pos e] at h ⊢; simp only [Option.some.injEq, Prod.mk.injEq] at h ⊢; obtain ⟨rfl, rfl⟩ := h; exact ⟨rfl, rfl⟩
        · rw [if_neg e] at h ⊢; simp only [Option.some.injEq, Prod.mk.injEq] at h ⊢; obtain ⟨rfl, rfl⟩ := h; exact ⟨rfl, rfl⟩
  | loop c ih =>
    simp only [execK] at h
    rw [execC]
    exact iterK_ok (fun s o s' => ih) (by decide) h
  | scope c ih => simp only [execK] at h; rw [execC]; exact ih h
end
noncomputable def inK : List AVal → Nat → KTm → KTm
  | [], _, t => t
  | v :: vs, i, t => inK vs (i + 1) (t.set i v)
theorem inK_get (vs : List AVal) (i : Nat) (t : KTm) (m : Nat) : (inK vs i t).get m = if i ≤ m then (vs[m - i]?).getD (t.get m) else t.get m := by
  induction vs generalizing i t with
  | nil => simp [inK]
  | cons v vs ih =>
    rw [inK, ih, KTm.get_set]
    by_cases h : i ≤ m
    · rw [if_pos h]
      by_cases h2 : m = i
      · subst h2; rw [if_neg (by omega), if_pos rfl]; simp
      · rw [if_pos (by omega), if_neg h2, show m - i = (m - (i + 1)) + 1 by omega, List.getElem?_cons_succ]
    · rw [if_neg h, if_neg (by omega), if_neg (by omega)]
theorem inK_tm0 (vs : List AVal) : (inK vs 0 .e).get = tm0 vs := by
  funext m
  rw [inK_get, if_pos (Nat.zero_le _), KTm.get_e]
  rfl
noncomputable def execFK (C : Cfg) (inl : InlK) (fid : Nat) (x : XFunc) (args : List AVal) (h : KHeap) (nc : Nat) : Option (AVal × KHeap × Nat) :=
  if args.length = x.np then
    match execK C inl fid x.body ⟨inK args 0 .e, h, nc⟩ with
    | some (.nrm, s) => match resL s.st x.res with
      | some vs => some (one vs, s.hp, s.nc)
      | none => none
    | some (.ret, s) => match resL s.st x.res with
      | some vs => some (one vs, s.hp, s.nc)
      | none => none
    | _ => none
  else none
theorem execFK_ok {C : Cfg} {inlK : InlK} {inl : Inl} (hi : InlKOk inlK inl) (fid : Nat) (x : XFunc) : InlKOk (fun _ as0 h nc => execFK C inlK fid x as0 h nc) (fun _ as0 h nc => execF C inl fid x as0 h nc) := by
  intro f as0 kh nc v kh' nc' h
  simp only [execFK] at h
  simp only [execF]
  by_cases hl : as0.length = x.np
  · rw [if_pos hl] at h ⊢
    rw [show St.mk (tm0 as0) (toHeap kh) nc = (KSt.mk (inK as0 0 .e) kh nc).st by unfold KSt.st KSt.tmf; rw [inK_tm0]]
    change (match execC C inl fid x.body (KSt.mk (inK as0 0 .e) kh nc).st with | some (.nrm, st) => _ | some (.ret, st) => _ | _ => _) = _
    cases he : execK C inlK fid x.body ⟨inK as0 0 .e, kh, nc⟩ with
    | none => rw [he] at h; cases h
    | some r =>
      obtain ⟨o, s⟩ := r
      rw [he] at h
      rw [execK_ok hi he]
      cases o with
      | ext i => cases h
      | nrm =>
        simp only at h ⊢
        cases hr : resL s.st x.res with
        | none => rw [hr] at h; cases h
        | some vs => rw [hr] at h; simp only [Option.some.injEq, Prod.mk.injEq] at h; obtain ⟨rfl, rfl, rfl⟩ := h; rfl
      | ret =>
        simp only at h ⊢
        cases hr : resL s.st x.res with
        | none => rw [hr] at h; cases h
        | some vs => rw [hr] at h; simp only [Option.some.injEq, Prod.mk.injEq] at h; obtain ⟨rfl, rfl, rfl⟩ := h; rfl
  · rw [if_neg hl] at h; cases h
noncomputable def inlDK (C : Cfg) : Nat → InlK
  | 0 => fun _ _ _ _ => none
  | d + 1 => fun f as0 h nc => match C.xf f with
    | some x => execFK C (inlDK C d) f x as0 h nc
    | none => none
theorem inlDK_ok (C : Cfg) (d : Nat) : InlKOk (inlDK C d) (inlD C d) := by
  induction d with
  | zero => intro f as0 kh nc v kh' nc' h; cases h
  | succ d ih =>
    intro f as0 kh nc v kh' nc' h
    simp only [inlDK] at h
    simp only [inlD]
    cases hx : C.xf f with
    | none => rw [hx] at h; cases h
    | some x => rw [hx] at h; exact execFK_ok ih f x f _ _ _ _ _ _ h
noncomputable def pureK (C : Cfg) (d : Nat) (f : FuncId) (as0 : List AVal) : Option AVal :=
  match inlDK C d f as0 .e 0 with
  | some (v, h, _) => match (lendK freeze v).run (toHeap h) with
    | some r => some r.1
    | none => none
  | none => none
theorem pureK_ok {C : Cfg} {d : Nat} {f : FuncId} {as0 : List AVal} {v : AVal} (h : pureK C d f as0 = some v) : pureF C d f as0 = some v := by
  unfold pureK at h
  unfold pureF
  cases hr : inlDK C d f as0 .e 0 with
  | none => rw [hr] at h; cases h
  | some r =>
    obtain ⟨w, kh, nc⟩ := r
    rw [hr] at h
    have := inlDK_ok C d _ _ _ _ _ _ _ hr
    rw [toHeap_empty] at this
    rw [this]
    simp only at h ⊢
    rw [← lendK_eq]
    cases hq : (lendK freeze w).run (toHeap kh) with
    | none => rw [hq] at h; cases h
    | some q => rw [hq] at h; rw [Option.some.inj h.symm]; rfl
end Go.Xec
namespace Go.Xec
open Go
def mapO {α β : Type} (f : α → Option β) : List α → Option (List β)
  | [] => some []
  | x :: xs => match f x with
    | some y => match mapO f xs with
      | some ys => some (y :: ys)
      | none => none
    | none => none
def gS (v : Value) : Option AVal :=
  match v with
  | .bool b => some (.bool b)
  | .int k n => some (.int k n)
  | .string s => some (.str s)
  | .pointer none => some .nilp
  | .slice none 0 0 => some .nils
  | .nilIface => some .nili
  | .nilFunc => some .nilf
  | .map none => some .any
  | _ => none
def gV (v : Value) : Option AVal :=
  match v with
  | .agg cs => (mapO gS cs.toList).map .agg
  | v => gS v
def gA : Operand → Option XArg
  | .tmp t => some (.t t)
  | .const v => (gV v).map .c
  | .func f => some (.c (.fn (.func f) [] []))
  | _ => none
def gAs (a : Array Operand) : Option (List XArg) := mapO gA a.toList
def gO : Option Operand → Option (Option XArg)
  | none => some none
  | some v => (gA v).map some
section
variable (P : Program)
def gZs (t : TypeId) : Option (List AVal) := (zeroOf P t).bind fun z => mapO gS z.cells.toList
def gZ (t : TypeId) : Option AVal := (zeroOf P t).bind fun z => (mapO gS z.cells.toList).bind fun cs => match z, cs with
  | .agg _, cs => some (.agg cs)
  | _, [x] => some x
  | _, _ => none
def gKd (t : TypeId) : Option Nat := match P.underlying t with
  | some (.int _) => some 0
  | some .bool => some 1
  | some .string => some 2
  | some (.struct fs) => some (fs.size + 3)
  | _ => none
def gCall (cn cm ca : List FuncId) (c : Call) : Option XOp :=
  match c.callee with
  | .value f => match gA f, gAs c.args with
    | some x, some as0 => some (match f with
      | .func g => if cn.contains g then .callN x as0 else if cm.contains g then .callM x as0 else if ca.contains g then .callA x as0 else .call x as0
      | _ => .call x as0)
    | _, _ => none
  | .invoke r m => match gA r, gAs c.args with
    | some x, some as0 => some (.inv m x as0)
    | _, _ => none
  | .builtin b => match gAs c.args, c.argTypes[0]? with
    | some as0, some t => match b, P.underlying t, as0 with
      | .len, some .string, [x] => some (.lenS x)
      | .len, some (.slice _), [x] => some (.lenV x)
      | .len, some (.array m _), _ => some (.mv (.c (.int .i64 m)))
      | .append, some (.slice e), [x, y] => (szOf P e).bind fun s => (byOf P e).map fun b => .app s b x y
      | .copy, some (.slice e), [x, y] => (szOf P e).map fun s => .cpy s x y
      | .max, _, x :: xs => some (.mnx true x xs)
      | .min, _, x :: xs => some (.mnx false x xs)
      | .delete, some (.map k _), [x, y] => (gKd P k).map fun k => .mdel k x y
      | _, _, _ => none
    | _, _ => none
def gOp (cn cm ca : List FuncId) (op : Op) : Option XOp :=
  match op with
  | .move x => (gA x).map .mv
  | .assign x => (gA x).map .mv
  | .pick c a b => (gA c).bind fun c => (gA a).bind fun a => (gA b).map fun b => .pick c a b
  | .alloc t => (gZs P t).map .alloc
  | .box _ x => (gA x).map .box
  | .build t parts => (gZs P t).bind fun z => match P.underlying t with
    | some (.struct fs) => (mapO (fun p => (fs[p.1]?).bind fun f => (szOf P f.type).bind fun n => (gA p.2).map fun x => (f.offset, n, x)) parts.toList).map fun ps => .build z ps
    | some (.array _ e) => (szOf P e).bind fun s => (mapO (fun p => (gA p.2).map fun x => (p.1 * s, s, x)) parts.toList).map fun ps => .build z ps
    | _ => none
  | .buildSlice t len parts => match P.underlying t with
    | some (.slice e) => (szOf P e).bind fun es => (gZ P e).bind fun z => (mapO (fun p => (gA p.2).map fun x => (p.1, x)) parts.toList).map fun ps => .mkslice es z len ps
    | _ => none
  | .load t x => (aggOf P t).bind fun a => (szOf P t).bind fun s => (gA x).map fun x => .load a s x
  | .store t x y => (szOf P t).bind fun s => (gA x).bind fun x => (gA y).map fun y => .store s x y
  | .binOp op t x y _ => (gA x).bind fun x' => (gA y).bind fun y' =>
    match (match op with | .neq => some true | .eql => some false | _ => none) with
    | none => some (.bin op x' y')
    | some neg => match P.underlying t with
      | some .bool => some (.eqB neg x' y')
      | some (.slice _) => some (.eqN neg 0 x')
      | some (.interface _) => match y with
        | .const .nilIface => some (.eqN neg 1 x')
        | _ => none
      | some (.pointer _) => match y with
        | .const (.pointer none) => some (.eqN neg 2 x')
        | _ => none
      | some (.struct _) => (kinds P 20 t).map fun ks => .eqA neg ks x' y'
      | some (.array _ _) => none
      | _ => some (.bin op x' y')
  | .nilCheck x => (gA x).map .nilChk
  | .unOp op _ x => (gA x).map fun x => .un op x
  | .convert s d x => (gA x).bind fun x => match P.underlying s, P.underlying d with
    | some .string, some .string => some (.idS x)
    | some (.slice u), some .string => match P.underlying u with
      | some (.int .u8) => some (.b2s x)
      | _ => none
    | some (.int _), some (.int k) => some (.conv k x)
    | _, _ => none
  | .fieldAddr s x f => match P.underlying s with
    | some (.struct fs) => (fs[f]?).bind fun fd => (gA x).map fun x => .fa fd.offset x
    | _ => none
  | .field s x f => match P.underlying s with
    | some (.struct fs) => (fs[f]?).bind fun fd => (aggOf P fd.type).bind fun a => (szOf P fd.type).bind fun n => (gA x).map fun x => .fld a n fd.offset x
    | _ => none
  | .indexAddr t x i => (gA x).bind fun x => (gA i).bind fun i => match P.underlying t with
    | some (.array n e) => (szOf P e).map fun s => .iaA n s x i
    | some (.slice e) => (szOf P e).map fun s => .iaS s x i
    | _ => none
  | .index t x i => (gA x).bind fun x => (gA i).bind fun i => match P.underlying t with
    | some (.array n e) => (aggOf P e).bind fun a => (szOf P e).map fun s => .ixA a n s x i
    | some .string => some (.ixS x i)
    | _ => none
  | .makeSlice t l c => match P.underlying t with
    | some (.slice e) => (szOf P e).bind fun s => (byOf P e).bind fun b => (gZ P e).bind fun z => (gA l).bind fun l => (gA c).map fun c => .mkS s b z l c
    | _ => none
  | .slice t x lo hi mx => (gA x).bind fun x => (gO lo).bind fun lo => (gO hi).bind fun hi => (gO mx).bind fun mx => match P.underlying t with
    | some .string => some (.slS x lo hi)
    | some (.slice e) => (szOf P e).map fun s => .slV s x lo hi mx
    | some (.array n e) => (szOf P e).map fun s => .slA n s x lo hi
    | _ => none
  | .extract x i => (gA x).map fun x => .ext x i
  | .makeFunc f first cap => (gAs first).bind fun a => (gAs cap).map fun b => .mkf f a b
  | .makeInterface t x => (gA x).map fun x => .mki t x
  | .call c => gCall P cn cm ca c
  | .range t x => match P.underlying t with
    | some .string => (gA x).map .rngS
    | _ => none
  | .next x true => (gA x).map .nxtS
  | .lookup t x i c => match P.underlying t with
    | some (.map k e) => (gKd P k).bind fun k => (gZ P e).bind fun z => (gA x).bind fun x => (gA i).map fun i => .lkp k c z x i
    | _ => none
  | .mapUpdate t x i v => match P.underlying t with
    | some (.map k _) => (gKd P k).bind fun k => (gA x).bind fun x => (gA i).bind fun i => (gA v).map fun v => .mset k x i v
    | _ => none
  | .insert t x i v => match P.underlying t with
    | some (.map k _) => (gKd P k).bind fun k => (gA x).bind fun x => (gA i).bind fun i => (gA v).map fun v => .mset k x i v
    | _ => none
  | .mapEntry t x i => match P.underlying t with
    | some (.map k e) => (gKd P k).bind fun k => (gZ P e).bind fun z => (gA x).bind fun x => (gA i).map fun i => .ment k z x i
    | _ => none
  | .entryStore _ x i v => (gA x).bind fun x => (gA i).bind fun i => (gA v).map fun v => .msto x i v
  | .makeMap _ none => some .mkM
  | .typeAssert x _ t true => match P.underlying t with
    | some (.interface _) => none
    | _ => (gZ P t).bind fun z => (gA x).map fun x => .tas t z x
  | _ => none
def gHot (ops : List Oper) (xs : List XOper) : List (Nat × Nat) :=
  let bef := befC [] ops
  (List.range xs.length).flatMap fun j => (List.range j).filterMap fun i =>
    if (bef[j]?.getD []).contains i then none else match xs[i]?, xs[j]? with
      | some x, some y => if isPure x.op || isPure y.op || (isLook x.op && isLook y.op) then none else some (i, j)
      | _, _ => none
def gCode (cn cm ca : List FuncId) : Code → XCode
  | .skip => .skip
  | .label _ => .skip
  | .region id ops draw =>
    let xs := ops.toList.map fun o => ({ dst := o.dst, g := o.guard.bind fun g => ((ops[g.1]?).bind (·.dst)).map fun s => (s, g.2), op := (gOp P cn cm ca o.op).getD .bad } : XOper)
    .reg id xs (if draw then some ⟨gHot ops.toList xs⟩ else none)
  | .seq a b => .seq (gCode cn cm ca a) (gCode cn cm ca b)
  | .cond c a b => match gA c with
    | some c => .cond c (gCode cn cm ca a) (gCode cn cm ca b)
    | none => .bad
  | .block id a => .block id (gCode cn cm ca a)
  | .loop a => .loop (gCode cn cm ca a)
  | .scope a => .scope (gCode cn cm ca a)
  | .exit id => .exit id
  | .ret => .ret
  | _ => .bad
def gRes : ResultVar → Option XRes
  | .tmp t => some (.tmp t)
  | .cell a t => (aggOf P t).bind fun g => (szOf P t).map fun s => .cell a g s
def gF (cn cm ca : List FuncId) (fn : Func) : Option XFunc := match fn.body with
  | some c => (mapO (gRes P) fn.results.toList).map fun r => ⟨fn.ntmps, fn.params.size + fn.nfree, r, gCode P cn cm ca c⟩
  | none => none
end
end Go.Xec
namespace Go.Proofs.YtkonpbcnekcjjaaGreatDoor
open Go Go.Xec
def idsK : List Nat := [8, 9, 15, 16, 17, 23, 24, 39, 40, 41, 42, 43, 49, 51, 52, 55, 59, 60, 65, 68, 69, 71, 72, 73, 74, 77, 78, 79, 84, 85, 86, 96, 97, 100, 101, 102, 103, 104, 112, 113, 122, 123, 124, 125, 126, 127, 128, 131, 132, 133, 134, 135, 136, 137, 138, 139, 140, 141, 142, 155, 158, 159, 160, 169, 170, 171, 172, 173, 174, 175, 176, 196, 203, 204, 205, 206, 207, 208, 209, 210, 212, 214, 215, 216, 217, 218, 238, 239, 240, 241, 242, 243, 244, 245, 246, 247, 248, 249, 250, 252, 254, 255, 256, 257, 258, 259, 287, 288, 289, 290, 291, 296, 298, 334, 385, 386, 387, 388, 404, 406, 408, 409, 410, 411, 412, 413, 414, 415, 416, 417, 418, 420, 421, 422, 423, 424, 425]
noncomputable def xfK (g : FuncId) : Option XFunc := if idsK.contains g then (Tryz.prog.funcs[g]?).bind (gF Tryz.prog [188, 419] [177] []) else none
theorem chkK : (idsK.all fun g => match Tryz.prog.funcs[g]? with
  | some fn => match gF Tryz.prog [188, 419] [177] [] fn with
    | some x => chkF Tryz.prog fn x
    | none => true
  | none => true) = true := by kernel_rfl
set_option maxRecDepth 100000 in
theorem xfK_ok (g : FuncId) (x : XFunc) (h : xfK g = some x) : ∃ fn, Tryz.prog.funcs[g]? = some fn ∧ chkF Tryz.prog fn x = true := by
  unfold xfK at h
  split at h
  · rename_i hg
    have := List.all_eq_true.1 chkK g (by simpa using hg)
    cases hf : Tryz.prog.funcs[g]? with
    | none => rw [hf] at h; cases h
    | some fn =>
      rw [hf] at h this
      change gF Tryz.prog [188, 419] [177] [] fn = some x at h
      change (match gF Tryz.prog [188, 419] [177] [] fn with | some x => chkF Tryz.prog fn x | none => true) = true at this
      rw [h] at this
      exact ⟨fn, rfl, this⟩
  · cases h
end Go.Proofs.YtkonpbcnekcjjaaGreatDoor
namespace Go.Proofs
open Go.Shelf
def Tryz.lays169_ren : Go.Shelf.Ren := ⟨fun | 169 => 76 | n => n, fun | 70 => 148 | 9 => 9 | 0 => 0 | 72 => 151 | 37 => 149 | 127 => 208 | 3 => 3 | 5 => 5 | n => n, fun | n => n⟩
theorem Tryz.lays169 : Go.Proofs.Lays.n169 Tryz.prog Tryz.lays169_ren := {
  mixed := by kernel_rfl
  f169 := Tryz.func76.trans (congrArg some (by kernel_rfl))
  t0 := Tryz.underlying0
  a0 := Tryz.isAgg0
  z0 := Tryz.sizeOf0
  v0 := Tryz.zeroValue0
  t3 := Tryz.underlying3
  a3 := Tryz.isAgg3
  z3 := Tryz.sizeOf3
  v3 := Tryz.zeroValue3
  t9 := Tryz.underlying9
  a9 := Tryz.isAgg9
  z9 := Tryz.sizeOf9
  v9 := Tryz.zeroValue9
  t37 := Tryz.underlying149
  a37 := Tryz.isAgg149
  z37 := Tryz.sizeOf149
  v37 := Tryz.zeroValue149
  t70 := Tryz.underlying148
  a70 := Tryz.isAgg148
  z70 := Tryz.sizeOf148
  v70 := Tryz.zeroValue148
  t72 := Tryz.underlying151
  a72 := Tryz.isAgg151
  z72 := Tryz.sizeOf151
  v72 := Tryz.zeroValue151
  t127 := Tryz.underlying208
  a127 := Tryz.isAgg208
  z127 := Tryz.sizeOf208
  v127 := Tryz.zeroValue208 }
theorem Tryz.Builder_Extra_169 : Builder.Extra Tryz.prog Tryz.lays169_ren := {
  sizeBuilder := by kernel_rfl
  liesBuilder := by kernel_rfl
  t5 := Tryz.underlying5
  a5 := Tryz.isAgg5
  z5 := Tryz.sizeOf5
  v5 := Tryz.zeroValue5
  infoByte := by kernel_rfl
  cellsByte := by kernel_rfl
  sizeByte := by kernel_rfl
  neB5 := by decide }
def Tryz.lays137_ren : Go.Shelf.Ren := ⟨fun | 137 => 253 | 217 => 297 | 266 => 336 | n => n, fun | 9 => 9 | 5 => 5 | 3 => 3 | n => n, fun | n => n⟩
theorem Tryz.lays137 : Go.Proofs.Lays.n137 Tryz.prog Tryz.lays137_ren := {
  mixed := by kernel_rfl
  f137 := Tryz.func253.trans (congrArg some (by kernel_rfl))
  f217 := Tryz.func297.trans (congrArg some (by kernel_rfl))
  f266 := Tryz.func336.trans (congrArg some (by kernel_rfl))
  t3 := Tryz.underlying3
  a3 := Tryz.isAgg3
  z3 := Tryz.sizeOf3
  v3 := Tryz.zeroValue3
  t5 := Tryz.underlying5
  a5 := Tryz.isAgg5
  z5 := Tryz.sizeOf5
  v5 := Tryz.zeroValue5
  t9 := Tryz.underlying9
  a9 := Tryz.isAgg9
  z9 := Tryz.sizeOf9
  v9 := Tryz.zeroValue9 }
open Go.RowKit in

theorem Tryz.strings_IndexByte (s : ByteArray) (c : Int) (w : World) :
    Calls Tryz.prog 253 #[.string s, .int .u8 c] w fun e w' => e = .returned (.int .i64 (Lib.indexByte s.data.toList c.toNat.toUInt8)) ∧ w' = w := Any.strings_IndexByte Tryz.lays137 s c w
open Go.RowKit in

theorem Tryz.Builder_String_any_k (B b : Nat) (l : List UInt8) (w : World) (h : Lib.IsBuilderF 151 5 B b (Lib.byteCells l) w) (hBw : B ≤ w.heap.size) :
    Calls Tryz.prog 76 #[.pointer (some ⟨b, 0, none⟩)] w fun e w' => e = .returned (.string ⟨l.toArray⟩) ∧ (Lib.IsBuilderF 151 5 B b (Lib.byteCells l) w' ∧ Below B w w' ∧ Lib.OthersKept 5 (some b) w w') := Any.Builder_String_any_k Tryz.lays169 Tryz.Builder_Extra_169 B b l w h hBw
def Tryz.laysM171_ren : Go.Shelf.Ren := ⟨fun | 171 => 75 | 243 => 99 | 246 => 130 | 283 => 161 | 284 => 162 | 285 => 163 | 286 => 164 | 129 => 85 | 317 => 193 | 318 => 194 | 319 => 195 | 320 => 196 | 337 => 232 | 338 => 233 | n => n, fun | 3 => 3 | 9 => 9 | 2 => 2 | 4 => 4 | 171 => 291 | 0 => 0 | 53 => 24 | 37 => 149 | 5 => 5 | 173 => 293 | 212 => 361 | 51 => 184 | 20 => 20 | 213 => 362 | 46 => 172 | 232 => 434 | 233 => 435 | n => n, fun | 17 => 3 | 18 => 4 | 19 => 5 | n => n⟩
theorem Tryz.laysM171 : Go.Proofs.LaysM.n171 Tryz.prog Tryz.laysM171_ren := {
  mixed := by kernel_rfl
  f129 := Tryz.func85.trans (congrArg some (by kernel_rfl))
  f171 := Tryz.func75.trans (congrArg some (by kernel_rfl))
  f243 := Tryz.func99.trans (congrArg some (by kernel_rfl))
  f246 := Tryz.func130.trans (congrArg some (by kernel_rfl))
  f283 := Tryz.func161.trans (congrArg some (by kernel_rfl))
  f284 := Tryz.func162.trans (congrArg some (by kernel_rfl))
  f285 := Tryz.func163.trans (congrArg some (by kernel_rfl))
  f286 := Tryz.func164.trans (congrArg some (by kernel_rfl))
  f317 := Tryz.func193.trans (congrArg some (by kernel_rfl))
  f318 := Tryz.func194.trans (congrArg some (by kernel_rfl))
  f319 := Tryz.func195.trans (congrArg some (by kernel_rfl))
  f320 := Tryz.func196.trans (congrArg some (by kernel_rfl))
  f337 := Tryz.func232.trans (congrArg some (by kernel_rfl))
  f338 := Tryz.func233.trans (congrArg some (by kernel_rfl))
  t0 := Tryz.underlying0
  a0 := Tryz.isAgg0
  z0 := Tryz.sizeOf0
  v0 := Tryz.zeroValue0
  t2 := Tryz.underlying2
  a2 := Tryz.isAgg2
  z2 := Tryz.sizeOf2
  v2 := Tryz.zeroValue2
  t3 := Tryz.underlying3
  a3 := Tryz.isAgg3
  z3 := Tryz.sizeOf3
  v3 := Tryz.zeroValue3
  t4 := Tryz.underlying4
  a4 := Tryz.isAgg4
  z4 := Tryz.sizeOf4
  v4 := Tryz.zeroValue4
  t5 := Tryz.underlying5
  a5 := Tryz.isAgg5
  z5 := Tryz.sizeOf5
  v5 := Tryz.zeroValue5
  t9 := Tryz.underlying9
  a9 := Tryz.isAgg9
  z9 := Tryz.sizeOf9
  v9 := Tryz.zeroValue9
  t20 := Tryz.underlying20
  a20 := Tryz.isAgg20
  z20 := Tryz.sizeOf20
  v20 := Tryz.zeroValue20
  t37 := Tryz.underlying149
  a37 := Tryz.isAgg149
  z37 := Tryz.sizeOf149
  v37 := Tryz.zeroValue149
  t46 := Tryz.underlying172
  a46 := Tryz.isAgg172
  z46 := Tryz.sizeOf172
  v46 := Tryz.zeroValue172
  t51 := Tryz.underlying184
  a51 := Tryz.isAgg184
  z51 := Tryz.sizeOf184
  v51 := Tryz.zeroValue184
  t53 := Tryz.underlying24
  a53 := Tryz.isAgg24
  z53 := Tryz.sizeOf24
  v53 := Tryz.zeroValue24
  t171 := Tryz.underlying291
  a171 := Tryz.isAgg291
  z171 := Tryz.sizeOf291
  v171 := Tryz.zeroValue291
  t173 := Tryz.underlying293
  a173 := Tryz.isAgg293
  z173 := Tryz.sizeOf293
  v173 := Tryz.zeroValue293
  t212 := Tryz.underlying361
  a212 := Tryz.isAgg361
  z212 := Tryz.sizeOf361
  v212 := Tryz.zeroValue361
  t213 := Tryz.underlying362
  a213 := Tryz.isAgg362
  z213 := Tryz.sizeOf362
  t232 := Tryz.underlying434
  a232 := Tryz.isAgg434
  z232 := Tryz.sizeOf434
  v232 := Tryz.zeroValue434
  t233 := Tryz.underlying435
  a233 := Tryz.isAgg435
  z233 := Tryz.sizeOf435
  v233 := Tryz.zeroValue435
  g17 := by kernel_rfl
  g18 := by kernel_rfl
  g19 := by kernel_rfl
  i0 := by kernel_rfl
  i2 := by kernel_rfl
  i3 := by kernel_rfl
  i4 := by kernel_rfl
  i5 := by kernel_rfl
  i9 := by kernel_rfl
  i20 := by kernel_rfl
  i37 := by kernel_rfl
  i46 := by kernel_rfl
  i51 := by kernel_rfl
  i53 := by kernel_rfl
  i171 := by kernel_rfl
  i173 := by kernel_rfl
  i212 := by kernel_rfl
  i232 := by kernel_rfl
  i233 := by kernel_rfl
  m17 := by kernel_rfl
  m18 := by kernel_rfl
  m19 := by kernel_rfl }
open Go.RowKit Go.Sort Go.Lib in

theorem Tryz.strconv_Itoa (n : Int) (h0 : -9223372036854775808 ≤ n) (h1 : n ≤ 9223372036854775807) (w : World) (htab : Lib.TabIs Tryz.prog w "internal/strconv.uint64pow10" .u64 Lib.pow10Tab) :
    Calls Tryz.prog 75 #[.int .i64 n] w fun e w' => e = .returned (.string ⟨(Lib.itoa n).toArray⟩) ∧ ∃ k os, w' = grow (w.drewN k) os := Any.strconv_Itoa Tryz.laysM171 n h0 h1 w htab
def Tryz.laysC172_ren : Go.Shelf.Ren := ⟨fun | 172 => 272 | 244 => 324 | 245 => 325 | 247 => 353 | 279 => 354 | 280 => 355 | 281 => 356 | 282 => 357 | 287 => 362 | 316 => 363 | 171 => 75 | 205 => 364 | 321 => 366 | 322 => 367 | 243 => 99 | 246 => 130 | 283 => 161 | 284 => 162 | 285 => 163 | 286 => 164 | 129 => 85 | 317 => 193 | 318 => 194 | 319 => 195 | 320 => 196 | 337 => 232 | 338 => 233 | n => n, fun | 9 => 9 | 3 => 3 | 75 => 153 | 76 => 154 | 4 => 4 | 5 => 5 | 167 => 480 | 37 => 149 | 0 => 0 | 85 => 481 | 2 => 2 | 168 => 483 | 53 => 24 | 175 => 495 | 46 => 172 | 210 => 498 | 127 => 208 | 145 => 504 | 143 => 502 | 21 => 21 | 171 => 291 | 173 => 293 | 212 => 361 | 51 => 184 | 20 => 20 | 213 => 362 | 232 => 434 | 233 => 435 | 80 => 167 | n => n, fun | 15 => 9 | 16 => 10 | 17 => 3 | 18 => 4 | 19 => 5 | n => n⟩
theorem Tryz.laysC172 : Go.Proofs.LaysC.n172 Tryz.prog Tryz.laysC172_ren := {
  mixed := by kernel_rfl
  f129 := Tryz.func85.trans (congrArg some (by kernel_rfl))
  f171 := Tryz.func75.trans (congrArg some (by kernel_rfl))
  f172 := Tryz.func272.trans (congrArg some (by kernel_rfl))
  f205 := Tryz.func364.trans (congrArg some (by kernel_rfl))
  f243 := Tryz.func99.trans (congrArg some (by kernel_rfl))
  f244 := Tryz.func324.trans (congrArg some (by kernel_rfl))
  f245 := Tryz.func325.trans (congrArg some (by kernel_rfl))
  f246 := Tryz.func130.trans (congrArg some (by kernel_rfl))
  f247 := Tryz.func353.trans (congrArg some (by kernel_rfl))
  f279 := Tryz.func354.trans (congrArg some (by kernel_rfl))
  f280 := Tryz.func355.trans (congrArg some (by kernel_rfl))
  f281 := Tryz.func356.trans (congrArg some (by kernel_rfl))
  f282 := Tryz.func357.trans (congrArg some (by kernel_rfl))
  f283 := Tryz.func161.trans (congrArg some (by kernel_rfl))
  f284 := Tryz.func162.trans (congrArg some (by kernel_rfl))
  f285 := Tryz.func163.trans (congrArg some (by kernel_rfl))
  f286 := Tryz.func164.trans (congrArg some (by kernel_rfl))
  f287 := Tryz.func362.trans (congrArg some (by kernel_rfl))
  f316 := Tryz.func363.trans (congrArg some (by kernel_rfl))
  f317 := Tryz.func193.trans (congrArg some (by kernel_rfl))
  f318 := Tryz.func194.trans (congrArg some (by kernel_rfl))
  f319 := Tryz.func195.trans (congrArg some (by kernel_rfl))
  f320 := Tryz.func196.trans (congrArg some (by kernel_rfl))
  f321 := Tryz.func366.trans (congrArg some (by kernel_rfl))
  f322 := Tryz.func367.trans (congrArg some (by kernel_rfl))
  f337 := Tryz.func232.trans (congrArg some (by kernel_rfl))
  f338 := Tryz.func233.trans (congrArg some (by kernel_rfl))
  t0 := Tryz.underlying0
  a0 := Tryz.isAgg0
  z0 := Tryz.sizeOf0
  v0 := Tryz.zeroValue0
  t2 := Tryz.underlying2
  a2 := Tryz.isAgg2
  z2 := Tryz.sizeOf2
  v2 := Tryz.zeroValue2
  t3 := Tryz.underlying3
  a3 := Tryz.isAgg3
  z3 := Tryz.sizeOf3
  v3 := Tryz.zeroValue3
  t4 := Tryz.underlying4
  a4 := Tryz.isAgg4
  z4 := Tryz.sizeOf4
  v4 := Tryz.zeroValue4
  t5 := Tryz.underlying5
  a5 := Tryz.isAgg5
  z5 := Tryz.sizeOf5
  v5 := Tryz.zeroValue5
  t9 := Tryz.underlying9
  a9 := Tryz.isAgg9
  z9 := Tryz.sizeOf9
  v9 := Tryz.zeroValue9
  t20 := Tryz.underlying20
  a20 := Tryz.isAgg20
  z20 := Tryz.sizeOf20
  v20 := Tryz.zeroValue20
  t21 := Tryz.underlying21
  a21 := Tryz.isAgg21
  z21 := Tryz.sizeOf21
  v21 := Tryz.zeroValue21
  t37 := Tryz.underlying149
  a37 := Tryz.isAgg149
  z37 := Tryz.sizeOf149
  v37 := Tryz.zeroValue149
  t46 := Tryz.underlying172
  a46 := Tryz.isAgg172
  z46 := Tryz.sizeOf172
  v46 := Tryz.zeroValue172
  t51 := Tryz.underlying184
  a51 := Tryz.isAgg184
  z51 := Tryz.sizeOf184
  v51 := Tryz.zeroValue184
  t53 := Tryz.underlying24
  a53 := Tryz.isAgg24
  z53 := Tryz.sizeOf24
  v53 := Tryz.zeroValue24
  t75 := Tryz.underlying153
  a75 := Tryz.isAgg153
  z75 := Tryz.sizeOf153
  v75 := Tryz.zeroValue153
  t76 := Tryz.underlying154
  a76 := Tryz.isAgg154
  z76 := Tryz.sizeOf154
  v76 := Tryz.zeroValue154
  t85 := Tryz.underlying481
  a85 := Tryz.isAgg481
  z85 := Tryz.sizeOf481
  v85 := Tryz.zeroValue481
  t127 := Tryz.underlying208
  a127 := Tryz.isAgg208
  z127 := Tryz.sizeOf208
  v127 := Tryz.zeroValue208
  t143 := Tryz.underlying502
  a143 := Tryz.isAgg502
  z143 := Tryz.sizeOf502
  v143 := Tryz.zeroValue502
  t145 := Tryz.underlying504
  a145 := Tryz.isAgg504
  z145 := Tryz.sizeOf504
  v145 := Tryz.zeroValue504
  t167 := Tryz.underlying480
  a167 := Tryz.isAgg480
  z167 := Tryz.sizeOf480
  v167 := Tryz.zeroValue480
  t168 := Tryz.underlying483
  a168 := Tryz.isAgg483
  z168 := Tryz.sizeOf483
  v168 := Tryz.zeroValue483
  t171 := Tryz.underlying291
  a171 := Tryz.isAgg291
  z171 := Tryz.sizeOf291
  v171 := Tryz.zeroValue291
  t173 := Tryz.underlying293
  a173 := Tryz.isAgg293
  z173 := Tryz.sizeOf293
  v173 := Tryz.zeroValue293
  t175 := Tryz.underlying495
  a175 := Tryz.isAgg495
  z175 := Tryz.sizeOf495
  v175 := Tryz.zeroValue495
  t210 := Tryz.underlying498
  a210 := Tryz.isAgg498
  z210 := Tryz.sizeOf498
  v210 := Tryz.zeroValue498
  t212 := Tryz.underlying361
  a212 := Tryz.isAgg361
  z212 := Tryz.sizeOf361
  v212 := Tryz.zeroValue361
  t213 := Tryz.underlying362
  a213 := Tryz.isAgg362
  z213 := Tryz.sizeOf362
  t232 := Tryz.underlying434
  a232 := Tryz.isAgg434
  z232 := Tryz.sizeOf434
  v232 := Tryz.zeroValue434
  t233 := Tryz.underlying435
  a233 := Tryz.isAgg435
  z233 := Tryz.sizeOf435
  v233 := Tryz.zeroValue435
  g15 := by kernel_rfl
  g16 := by kernel_rfl
  g17 := by kernel_rfl
  g18 := by kernel_rfl
  g19 := by kernel_rfl
  t80 := Tryz.underlying167
  a80 := Tryz.isAgg167
  z80 := Tryz.sizeOf167
  v80 := Tryz.zeroValue167
  i0 := by kernel_rfl
  i2 := by kernel_rfl
  i3 := by kernel_rfl
  i4 := by kernel_rfl
  i5 := by kernel_rfl
  i9 := by kernel_rfl
  i20 := by kernel_rfl
  i21 := by kernel_rfl
  i37 := by kernel_rfl
  i46 := by kernel_rfl
  i51 := by kernel_rfl
  i53 := by kernel_rfl
  i75 := by kernel_rfl
  i76 := by kernel_rfl
  i80 := by kernel_rfl
  i85 := by kernel_rfl
  i127 := by kernel_rfl
  i143 := by kernel_rfl
  i145 := by kernel_rfl
  i167 := by kernel_rfl
  i168 := by kernel_rfl
  i171 := by kernel_rfl
  i173 := by kernel_rfl
  i175 := by kernel_rfl
  i210 := by kernel_rfl
  i212 := by kernel_rfl
  i232 := by kernel_rfl
  i233 := by kernel_rfl
  m15 := by kernel_rfl
  m16 := by kernel_rfl
  m17 := by kernel_rfl
  m18 := by kernel_rfl
  m19 := by kernel_rfl
  c0 := by kernel_rfl
  c2 := by kernel_rfl
  c3 := by kernel_rfl
  c4 := by kernel_rfl
  c5 := by kernel_rfl
  c9 := by kernel_rfl
  c20 := by kernel_rfl
  c21 := by kernel_rfl
  c37 := by kernel_rfl
  c46 := by kernel_rfl
  c51 := by kernel_rfl
  c53 := by kernel_rfl
  c75 := by kernel_rfl
  c76 := by kernel_rfl
  c80 := by kernel_rfl
  c85 := by kernel_rfl
  c127 := by kernel_rfl
  c143 := by kernel_rfl
  c145 := by kernel_rfl
  c167 := by kernel_rfl
  c168 := by kernel_rfl
  c171 := by kernel_rfl
  c173 := by kernel_rfl
  c175 := by kernel_rfl
  c210 := by kernel_rfl
  c212 := by kernel_rfl
  c213 := by kernel_rfl
  c232 := by kernel_rfl
  c233 := by kernel_rfl }
open Go.RowKit in

theorem Tryz.strconv_Atoi_ok (s : ByteArray) (hmax : s.size ≤ 9223372036854775806) (v : Int) (h : Lib.atoiAll s.data.toList = .ok v) (w : World) :
    Calls Tryz.prog 272 #[.string s] w fun e w' => e = .returned (.tuple #[.int .i64 v, .nilIface]) ∧ (w' = w ∨ ∃ t, w' = Lib.bytesWorld w 5 t) := Any.strconv_Atoi_ok Tryz.laysC172 s hmax v h w
open Go.RowKit in
theorem Tryz.strconv_Atoi_range_var (s : ByteArray) (hlim : s.size ≤ 281474976710656) (h : Lib.atoiAll s.data.toList = .range) (tp : TypeId) (p : Value) (w : World) (hvar : w.var? Tryz.prog "strconv.ErrRange" = some #[.iface tp p]) :
    Calls Tryz.prog 272 #[.string s] w fun e w' => ∃ N, e = .returned (.tuple #[.int .i64 (Lib.atoiSat s.data.toList), .iface 483 (.pointer (some ⟨N, 0, none⟩))]) ∧ w.heap.size ≤ N ∧ w'.heap[N]? = some (.cells #[.string ⟨#[65, 116, 111, 105]⟩, .string s, .iface tp p] 498 (0, 0)) ∧ Below w.heap.size w w' := Any.strconv_Atoi_range_var Tryz.laysC172 s hlim h tp p w hvar
def Tryz.sortA_ren : Go.Shelf.Ren := ⟨fun | 6 => 219 | 15 => 241 | 14 => 260 | 28 => 286 | 29 => 85 | 20 => 299 | 21 => 300 | 22 => 301 | 23 => 302 | 24 => 303 | 25 => 304 | 26 => 305 | 27 => 306 | 46 => 337 | 47 => 338 | 48 => 339 | 49 => 340 | 50 => 341 | 57 => 358 | n => n, fun | 22 => 61 | 24 => 221 | 25 => 314 | 3 => 3 | 39 => 172 | 0 => 0 | 53 => 184 | 55 => 24 | 4 => 4 | 46 => 444 | 45 => 443 | 50 => 133 | 5 => 5 | 9 => 9 | 66 => 470 | 70 => 166 | 76 => 486 | 77 => 437 | n => n, fun | n => n⟩
theorem Tryz.sortA : Go.Proofs.SlLaysF0.n6 Tryz.prog Tryz.sortA_ren := {
  mixed := by kernel_rfl
  f6 := ⟨Tryz.f219.name, by decide, Tryz.func219.trans (congrArg some (by kernel_rfl))⟩
  f14 := ⟨Tryz.f260.name, by decide, Tryz.func260.trans (congrArg some (by kernel_rfl))⟩
  f15 := Tryz.func241.trans (congrArg some (by kernel_rfl))
  f20 := ⟨Tryz.f299.name, by decide, Tryz.func299.trans (congrArg some (by kernel_rfl))⟩
  f21 := ⟨Tryz.f300.name, by decide, Tryz.func300.trans (congrArg some (by kernel_rfl))⟩
  f22 := ⟨Tryz.f301.name, by decide, Tryz.func301.trans (congrArg some (by kernel_rfl))⟩
  f23 := ⟨Tryz.f302.name, by decide, Tryz.func302.trans (congrArg some (by kernel_rfl))⟩
  f24 := ⟨Tryz.f303.name, by decide, Tryz.func303.trans (congrArg some (by kernel_rfl))⟩
  f25 := ⟨Tryz.f304.name, by decide, Tryz.func304.trans (congrArg some (by kernel_rfl))⟩
  f26 := ⟨Tryz.f305.name, by decide, Tryz.func305.trans (congrArg some (by kernel_rfl))⟩
  f27 := ⟨Tryz.f306.name, by decide, Tryz.func306.trans (congrArg some (by kernel_rfl))⟩
  f28 := Tryz.func286.trans (congrArg some (by kernel_rfl))
  f29 := Tryz.func85.trans (congrArg some (by kernel_rfl))
  f46 := ⟨Tryz.f337.name, by decide, Tryz.func337.trans (congrArg some (by kernel_rfl))⟩
  f47 := Tryz.func338.trans (congrArg some (by kernel_rfl))
  f48 := Tryz.func339.trans (congrArg some (by kernel_rfl))
  f49 := ⟨Tryz.f340.name, by decide, Tryz.func340.trans (congrArg some (by kernel_rfl))⟩
  f50 := ⟨Tryz.f341.name, by decide, Tryz.func341.trans (congrArg some (by kernel_rfl))⟩
  f57 := ⟨Tryz.f358.name, by decide, Tryz.func358.trans (congrArg some (by kernel_rfl))⟩
  t0 := Tryz.underlying0
  a0 := Tryz.isAgg0
  z0 := Tryz.sizeOf0
  v0 := Tryz.zeroValue0
  t3 := Tryz.underlying3
  a3 := Tryz.isAgg3
  z3 := Tryz.sizeOf3
  v3 := Tryz.zeroValue3
  t4 := Tryz.underlying4
  a4 := Tryz.isAgg4
  z4 := Tryz.sizeOf4
  v4 := Tryz.zeroValue4
  t5 := Tryz.underlying5
  a5 := Tryz.isAgg5
  z5 := Tryz.sizeOf5
  v5 := Tryz.zeroValue5
  t9 := Tryz.underlying9
  a9 := Tryz.isAgg9
  z9 := Tryz.sizeOf9
  v9 := Tryz.zeroValue9
  t22 := Tryz.underlying61
  a22 := Tryz.isAgg61
  z22 := Tryz.sizeOf61
  v22 := Tryz.zeroValue61
  t25 := Tryz.underlying314
  a25 := Tryz.isAgg314
  z25 := Tryz.sizeOf314
  v25 := Tryz.zeroValue314
  t39 := Tryz.underlying172
  a39 := Tryz.isAgg172
  z39 := Tryz.sizeOf172
  v39 := Tryz.zeroValue172
  t45 := Tryz.underlying443
  a45 := Tryz.isAgg443
  z45 := Tryz.sizeOf443
  v45 := Tryz.zeroValue443
  t46 := Tryz.underlying444
  a46 := Tryz.isAgg444
  z46 := Tryz.sizeOf444
  v46 := Tryz.zeroValue444
  t50 := Tryz.underlying133
  a50 := Tryz.isAgg133
  z50 := Tryz.sizeOf133
  v50 := Tryz.zeroValue133
  t53 := Tryz.underlying184
  a53 := Tryz.isAgg184
  z53 := Tryz.sizeOf184
  v53 := Tryz.zeroValue184
  t55 := Tryz.underlying24
  a55 := Tryz.isAgg24
  z55 := Tryz.sizeOf24
  v55 := Tryz.zeroValue24
  t66 := Tryz.underlying470
  a66 := Tryz.isAgg470
  z66 := Tryz.sizeOf470
  v66 := Tryz.zeroValue470
  t70 := Tryz.underlying166
  a70 := Tryz.isAgg166
  z70 := Tryz.sizeOf166
  v70 := Tryz.zeroValue166
  t76 := Tryz.underlying486
  a76 := Tryz.isAgg486
  z76 := Tryz.sizeOf486
  v76 := Tryz.zeroValue486
  t77 := Tryz.underlying437
  a77 := Tryz.isAgg437
  z77 := Tryz.sizeOf437
  v77 := Tryz.zeroValue437 }
def Tryz.cmpIA_ren : Go.Shelf.Ren := ⟨fun | 5 => 207 | 7 => 250 | n => n, fun | 22 => 3 | 3 => 3 | 4 => 4 | n => n, fun | n => n⟩
theorem Tryz.cmpIA : Go.Proofs.SlLaysC2.n5 Tryz.prog Tryz.cmpIA_ren := {
  mixed := by kernel_rfl
  f5 := ⟨Tryz.f207.name, by decide, Tryz.func207.trans (congrArg some (by kernel_rfl))⟩
  f7 := ⟨Tryz.f250.name, by decide, Tryz.func250.trans (congrArg some (by kernel_rfl))⟩
  t3 := Tryz.underlying3
  a3 := Tryz.isAgg3
  z3 := Tryz.sizeOf3
  v3 := Tryz.zeroValue3
  t4 := Tryz.underlying4
  a4 := Tryz.isAgg4
  z4 := Tryz.sizeOf4
  v4 := Tryz.zeroValue4
  t22 := Tryz.underlying3
  a22 := Tryz.isAgg3
  z22 := Tryz.sizeOf3
  v22 := Tryz.zeroValue3 }
end Go.Proofs
namespace Go.Proofs.YtkonpbcnekcjjaaGreatDoor
open Go Go.Xec Go.RowKit
theorem named1 : Tryz.prog.globalNamed "internal/strconv.uint64pow10" ≠ none := by
  have e : (Tryz.prog.globalNamed "internal/strconv.uint64pow10").isSome = true := by kernel_rfl
  intro h; rw [h] at e; cases e
theorem named2 : Tryz.prog.globalNamed "strconv.ErrSyntax" ≠ none := by
  have e : (Tryz.prog.globalNamed "strconv.ErrSyntax").isSome = true := by kernel_rfl
  intro h; rw [h] at e; cases e
theorem named3 : Tryz.prog.globalNamed "strconv.ErrRange" ≠ none := by
  have e : (Tryz.prog.globalNamed "strconv.ErrRange").isSome = true := by kernel_rfl
  intro h; rw [h] at e; cases e
theorem tab10 {w : World} (h : Laid Tryz.prog w) : Lib.TabIs Tryz.prog w "internal/strconv.uint64pow10" .u64 Lib.pow10Tab :=
  h.1 ("internal/strconv.uint64pow10", .u64, Lib.pow10Tab) (by simp [tabs]) named1
theorem sound75 : Sound Tryz.prog 75 F_itoa := by
  refine sound_calls Tryz.func75 (by kernel_rfl) (by kernel_rfl) ?_
  intro ys r hr w S vs hS hL hl
  unfold F_itoa at hr
  split at hr
  · rename_i n
    split at hr
    · rename_i hn
      cases hr
      obtain ⟨u, rfl, hu⟩ := VL_1 hl
      have hu := V_int hu
      subst hu
      refine (Tryz.strconv_Itoa n hn.1 hn.2 w (tab10 hL)).mono ?_
      rintro e w' ⟨rfl, k, os, rfl⟩
      obtain ⟨h1, h2, h3⟩ := env_grow w k os
      exact ⟨_, rfl, h1, h2, h3, by simp only [V]; rfl⟩
    · cases hr
  · cases hr
theorem sound253 : Sound Tryz.prog 253 F_index := by
  refine sound_calls Tryz.func253 (by kernel_rfl) (by kernel_rfl) ?_
  intro ys r hr w S vs hS hL hl
  unfold F_index at hr
  split at hr
  · rename_i s c
    cases hr
    obtain ⟨u, v, rfl, hu, hv⟩ := VL_2 hl
    have hu := V_str hu
    have hv := V_int hv
    subst hu; subst hv
    refine (Tryz.strings_IndexByte s c w).mono ?_
    rintro e w' ⟨rfl, rfl⟩
    exact ⟨_, rfl, Nat.le_refl _, fun _ _ => rfl, SameEnv.refl _, by simp only [V]⟩
  · cases hr
theorem sound272 : Sound Tryz.prog 272 (F_atoi 483) := by
  refine sound_calls Tryz.func272 (by kernel_rfl) (by kernel_rfl) ?_
  intro ys r hr w S vs hS hL hl
  unfold F_atoi at hr
  split at hr
  · rename_i s
    split at hr
    · rename_i hsz
      obtain ⟨u, rfl, hu⟩ := VL_1 hl
      have hu := V_str hu
      subst hu
      cases hv : Lib.atoiAll s.data.toList with
      | ok v =>
        rw [hv] at hr
        cases hr
        refine (Tryz.strconv_Atoi_ok s (by omega) v hv w).mono ?_
        rintro e w' ⟨rfl, rfl | ⟨t, rfl⟩⟩
        · refine ⟨_, rfl, Nat.le_refl _, fun _ _ => rfl, SameEnv.refl _, ?_⟩
          simp only [V, VL]
          exact ⟨_, rfl, _, _, rfl, rfl, _, _, rfl, rfl, rfl⟩
        · obtain ⟨h1, h2, h3⟩ := env_bytes w 5 t
          refine ⟨_, rfl, h1, h2, h3, ?_⟩
          simp only [V, VL]
          exact ⟨_, rfl, _, _, rfl, rfl, _, _, rfl, rfl, rfl⟩
      | range =>
        rw [hv] at hr
        cases hr
        obtain ⟨tp, p, hp⟩ := hL.2.1 "strconv.ErrRange" (by simp [errs]) named3
        refine (Tryz.strconv_Atoi_range_var s hsz hv tp p w hp).mono ?_
        rintro e w' ⟨N, rfl, _, _, hb⟩
        obtain ⟨h1, h2, h3⟩ := env_below hb
        refine ⟨_, rfl, h1, h2, h3, ?_⟩
        simp only [V, VL]
        exact ⟨_, rfl, _, _, rfl, rfl, _, _, rfl, ⟨_, rfl, trivial⟩, rfl⟩
      | _ =>
        rw [hv] at hr
        cases hr
        obtain ⟨tp, p, hp⟩ := hL.2.1 "strconv.ErrSyntax" (by simp [errs]) named2
        refine (Any.strconv_Atoi_syntax_var Tryz.laysC172 s hsz hv tp p w hp).mono ?_
        rintro e w' ⟨N, rfl, _, _, hb⟩
        obtain ⟨h1, h2, h3⟩ := env_below hb
        refine ⟨_, rfl, h1, h2, h3, ?_⟩
        simp only [V, VL]
        exact ⟨_, rfl, _, _, rfl, rfl, _, _, rfl, ⟨_, rfl, trivial⟩, rfl⟩
    · cases hr
  · cases hr
end Go.Proofs.YtkonpbcnekcjjaaGreatDoor
namespace Go.Proofs.YtkonpbcnekcjjaaGreatDoor
open Go Go.Xec
theorem cellsOf_fn (f : Fn) (a b : List AVal) : cellsOf (.fn f a b) = [.fn f a b] := rfl
theorem isSc_fn (f : Fn) (a b : List AVal) : isSc (.fn f a b) = true := rfl
theorem cellsOf_ifc (t : TypeId) (v : AVal) : cellsOf (.ifc t v) = [.ifc t v] := rfl
theorem isSc_ifc (t : TypeId) (v : AVal) : isSc (.ifc t v) = true := rfl
theorem cellsOf_mp (k : Key) : cellsOf (.mp k) = [.mp k] := rfl
theorem isSc_mp (k : Key) : isSc (.mp k) = true := rfl
theorem lendV_fn0 (d : Nat) (f : Fn) (hp : Heap) : lendV (d + 1) (.fn f [] []) hp = some (.fn f [] []) := by
  simp [lendV, lend, lendL, Rd.run, Rd.bind]
theorem iaAA_pvo (n es : Nat) (cs : List AVal) (o : Nat) (kd : IntKind) (j : Int) : iaAA n es (.pvo cs o) (.int kd j) = if 0 ≤ j ∧ j < n then some (.pvo cs (o + j.toNat * es)) else none := rfl
attribute [go_sem] iaAA_pvo cellsOf_fn isSc_fn cellsOf_ifc isSc_ifc cellsOf_mp isSc_mp lendV_fn0
end Go.Proofs.YtkonpbcnekcjjaaGreatDoor
namespace Go.Proofs.YtkonpbcnekcjjaaGreatDoor
open Go Go.Xec
attribute [local go_sem] tm0 ne_eq not_false_eq_true List.length_append List.length_replicate List.replicate_succ List.replicate_zero Int.cast_ofNat_Int not_true_eq_false decide_true decide_false ite_self beq_self_eq_true Bool.true_beq Bool.false_beq Bool.not_true Bool.not_false
attribute [local go_sem_proc] Nat.reduceAdd Nat.reduceMul Nat.reduceSub Nat.reduceLeDiff Nat.reduceLT Nat.reduceEqDiff Int.reduceLT Int.reduceLE Int.reduceAdd Int.reduceSub Int.reduceMul Int.reduceToNat Int.reducePow Int.reduceNe Int.reduceMod Int.reduceDiv Int.reduceEq Nat.reducePow Int.reduceNeg
set_option maxRecDepth 10000
noncomputable def F94 : List AVal → Option AVal := pureF C3 1 94
theorem sound94 : Sound Tryz.prog 94 F94 := sound_self ok3 1 94
theorem F94_eq {x : Int} (h : -9223372036854775808 ≤ x ∧ x ≤ 9223372036854775807) : F94 [.int .i64 x] = some (.int .u64 (x.natAbs : Int)) := by
  unfold F94
  refine pureF_of (x := x94) rfl rfl ?_
  rw [x94_eq.1, x94_eq.2.1]
  by_cases hx : x < 0
  · have d := decide_eq_true hx
    simp (disch := first | omega | simp only [go_sem, ↓reduceIte, dropK_eq]) only [x94b, go_sem, ↓reduceIte, dropK_eq, d]
    refine Ends_plain rfl ?_
    congr 1
    omega
  · have d := decide_eq_false hx
    simp (disch := first | omega | simp only [go_sem, ↓reduceIte, dropK_eq]) only [x94b, go_sem, ↓reduceIte, dropK_eq, d]
    refine Ends_plain rfl ?_
    congr 1
    omega
noncomputable def F81 : List AVal → Option AVal := pureF C3 1 81
theorem sound81 : Sound Tryz.prog 81 F81 := sound_self ok3 1 81
theorem F81_low {l y : Int} (hl : U l) (hy : 0 < y) (hy2 : y < 18446744073709551616) : F81 [.int .u64 0, .int .u64 l, .int .u64 y] = some (.tup [.int .u64 (l / y), .int .u64 (l % y)]) := by
  have d1 : decide (y = 0) = false := decide_eq_false (by omega)
  have d2 : decide (y ≤ 0) = false := decide_eq_false (by omega)
  have hq : l.tdiv y = l / y := Int.tdiv_eq_ediv_of_nonneg hl.1
  have hr : l.tmod y = l % y := Int.tmod_eq_emod_of_nonneg hl.1
  have hb : l / y ≤ l := Int.ediv_le_self y hl.1
  have hb0 : 0 ≤ l / y := Int.ediv_nonneg hl.1 (by omega)
  have w1 : l / y % 18446744073709551616 = l / y := by have := hl.2; omega
  have hy0 : y ≠ 0 := by omega
  unfold F81
  refine pureF_of (x := x81) rfl rfl ?_
  rw [x81_eq.1, x81_eq.2.1]
  simp (disch := first | omega | simp only [*, go_sem, ↓reduceIte, dropK_eq]) only [x81b, go_sem, ↓reduceIte, dropK_eq, d1, d2, hq, hr, w1]
  exact Ends_plain rfl rfl
noncomputable def C20 : Cfg := (C3.add 94 F94).add 81 F81
theorem ok20 : CfgOk Tryz.prog C20 := (ok3.add sound94).add sound81
noncomputable def F58 : List AVal → Option AVal := pureF C20 1 58
theorem sound58 : Sound Tryz.prog 58 F58 := sound_self ok20 1 58
theorem F58_low {l y : Int} (hl : U l) (hy : 0 < y) (hy2 : y < 18446744073709551616) : F58 [W 0 l, W 0 y] = some (.tup [W 0 (l / y), W 0 (l % y), .int .i64 0]) := by
  have e1 := F81_low (l := 0) (by decide) hy hy2
  have e2 := F81_low hl hy hy2
  have d1 : decide (y = 0) = false := decide_eq_false (by omega)
  rw [Int.zero_ediv, Int.zero_emod] at e1
  unfold F58
  refine pureF_of (x := x58) rfl rfl ?_
  rw [x58_eq.1, x58_eq.2.1]
  simp (disch := first | omega | simp only [*, go_sem, ↓reduceIte, dropK_eq]) only [x58b, go_sem, ↓reduceIte, dropK_eq, callX_known (C := C20) (g := 81) rfl, ft_call (C := C20) (g := 81) rfl, d1, e1, e2]
  exact Ends_plain rfl rfl
noncomputable def F95 : List AVal → Option AVal := pureF C3 1 95
theorem sound95 : Sound Tryz.prog 95 F95 := sound_self ok3 1 95
theorem F95_eq {l : Int} {b : Bool} (h : 0 ≤ l ∧ l ≤ 9223372036854775807) : F95 [W 0 l, .bool b] = some (.int .i64 (if b = true then -l else l)) := by
  have d1 : decide (9223372036854775808 < l) = false := decide_eq_false (by omega)
  have d2 : decide (9223372036854775807 < l) = false := decide_eq_false (by omega)
  have w1 : IntKind.i64.wrap l = l := wrap_i64 (by omega) (by omega)
  have w2 : IntKind.i64.wrap ((0 - l) % 18446744073709551616) = -l := by
    by_cases h0 : l = 0
    · subst h0; rfl
    · rw [show (0 - l) % 18446744073709551616 = 18446744073709551616 - l by omega]
      simp only [IntKind.wrap, IntKind.signed, IntKind.bits]
      simp
      omega
  unfold F95
  refine pureF_of (x := x95) rfl rfl ?_
  rw [x95_eq.1, x95_eq.2.1]
  cases b <;>
  · simp (disch := first | omega | simp only [*, go_sem, ↓reduceIte, dropK_eq]) only [x95b, go_sem, ↓reduceIte, dropK_eq, d1, d2, w1, w2]
    exact Ends_plain rfl rfl
abbrev LV (q r c : Int) (b : Bool) : AVal := .agg [.int .u64 0, .int .u64 q, .int .u64 0, .int .u64 r, .int .u64 0, .int .u64 c, .bool b]
noncomputable def F118 : List AVal → Option AVal := pureF C3 1 118
theorem sound118 : Sound Tryz.prog 118 F118 := sound_self ok3 1 118
theorem F118_eq {q r c : Int} {b : Bool} : F118 [LV q r c b] = some (.bool (b && !decide (r = 0))) := by
  unfold F118
  refine pureF_of (x := x118) rfl rfl ?_
  rw [x118_eq.1, x118_eq.2.1]
  cases b <;>
  · simp (disch := first | omega | simp only [*, go_sem, ↓reduceIte, dropK_eq]) only [x118b, go_sem, ↓reduceIte, dropK_eq]
    exact Ends_plain rfl rfl
noncomputable def F119 : List AVal → Option AVal := pureF C3 1 119
theorem sound119 : Sound Tryz.prog 119 F119 := sound_self ok3 1 119
theorem F119_eq {q r c : Int} {b : Bool} : F119 [LV q r c b] = some (.bool (!b && !decide (r = 0))) := by
  unfold F119
  refine pureF_of (x := x119) rfl rfl ?_
  rw [x119_eq.1, x119_eq.2.1]
  cases b <;>
  · simp (disch := first | omega | simp only [*, go_sem, ↓reduceIte, dropK_eq]) only [x119b, go_sem, ↓reduceIte, dropK_eq]
    exact Ends_plain rfl rfl
noncomputable def F91 : List AVal → Option AVal := pureF C3 1 91
theorem sound91 : Sound Tryz.prog 91 F91 := sound_self ok3 1 91
def mdFs : List AVal := [.fn (.func 118) [] [], .fn (.func 119) [] [], .fn (.func 120) [] []]
theorem F91_eq : F91 [] = some (.agg mdFs) := by
  unfold F91
  refine pureF_of (x := x91) rfl rfl ?_
  rw [x91_eq.1, x91_eq.2.1]
  simp (disch := first | omega | simp only [go_sem, ↓reduceIte, dropK_eq]) only [x91b, go_sem, ↓reduceIte, dropK_eq]
  rw [Ends_eq]
  simp (disch := first | omega | simp only [go_sem, ↓reduceIte, dropK_eq]) only [go_sem, ↓reduceIte, dropK_eq]
  rfl
noncomputable def C21 : Cfg := (((((C20.add 58 F58).add 95 F95).add 118 F118).add 119 F119).add 91 F91)
theorem ok21 : CfgOk Tryz.prog C21 := (((((ok20.add sound58).add sound95).add sound118).add sound119).add sound91)
def rnd (n c m : Int) : Int := if m = 0 then n / c else -((-n) / c)
noncomputable def F93 : List AVal → Option AVal := pureF C21 1 93
theorem sound93 : Sound Tryz.prog 93 F93 := sound_self ok21 1 93
theorem neg_pos_div {p c : Int} (hc : 0 < c) (hp : 0 ≤ p) : (-p) / c = -(p / c) - (if p % c = 0 then 0 else 1) := by
  have h1 := Int.emod_add_mul_ediv p c
  have h2 := Int.emod_nonneg p (by omega : c ≠ 0)
  have h3 := Int.emod_lt_of_pos p hc
  by_cases h : p % c = 0
  · rw [if_pos h, Int.neg_ediv_of_dvd (Int.dvd_of_emod_eq_zero h)]
    omega
  · rw [if_neg h]
    have e : c * (-(p / c) - 1) = -(c * (p / c)) - c := by rw [Int.mul_sub, Int.mul_neg]; omega
    exact ((Int.ediv_emod_unique (r := c - p % c) hc).2 ⟨by omega, by omega, by omega⟩).1
theorem rnd_eq {p c : Int} {s : Bool} (hc : 0 < c) (hp : 0 ≤ p) :
    rnd (if s = true then -p else p) c 0 = (if s = true then -(p / c + (if (s && !decide (p % c = 0)) = true then 1 else 0)) else p / c + (if (s && !decide (p % c = 0)) = true then 1 else 0)) ∧
    rnd (if s = true then -p else p) c 1 = (if s = true then -(p / c + (if (!s && !decide (p % c = 0)) = true then 1 else 0)) else p / c + (if (!s && !decide (p % c = 0)) = true then 1 else 0)) := by
  have h := neg_pos_div hc hp
  unfold rnd
  cases s
  · simp only [Bool.false_eq_true, if_false, if_true, Bool.false_and, Bool.not_false, Bool.true_and]
    refine ⟨by omega, ?_⟩
    rw [if_neg (by decide), h]
    by_cases h0 : p % c = 0
    · simp [h0]
    · simp [h0]; omega
  · simp only [if_true, Bool.true_and, Bool.not_true, Bool.false_and, Bool.false_eq_true, if_false, Int.neg_neg]
    refine ⟨?_, ?_⟩
    · rw [h]
      by_cases h0 : p % c = 0
      · simp [h0]
      · simp [h0]; omega
    · rw [if_neg (by decide)]; omega
theorem sgn_eq {a b : Int} (ha : ¬ a = 0) (hb : ¬ b = 0) : a * b = (if (decide (a < 0) != decide (b < 0)) = true then -((a.natAbs : Int) * (b.natAbs : Int)) else (a.natAbs : Int) * (b.natAbs : Int)) := by
  rcases Int.lt_or_gt_of_ne ha with h1 | h1 <;> rcases Int.lt_or_gt_of_ne hb with h2 | h2
  · have e1 : ((a.natAbs : Int)) = -a := by omega
    have e2 : ((b.natAbs : Int)) = -b := by omega
    rw [e1, e2, Int.neg_mul_neg]; simp [h1, h2]
  · have e1 : ((a.natAbs : Int)) = -a := by omega
    have e2 : ((b.natAbs : Int)) = b := by omega
    have h3 : ¬ b < 0 := by omega
    rw [e1, e2, Int.neg_mul, Int.neg_neg]; simp [h1, h3]
  · have e1 : ((a.natAbs : Int)) = a := by omega
    have e2 : ((b.natAbs : Int)) = -b := by omega
    have h3 : ¬ a < 0 := by omega
    rw [e1, e2, Int.mul_neg, Int.neg_neg]; simp [h3, h2]
  · have e1 : ((a.natAbs : Int)) = a := by omega
    have e2 : ((b.natAbs : Int)) = b := by omega
    have h3 : ¬ a < 0 := by omega
    have h4 : ¬ b < 0 := by omega
    rw [e1, e2]; simp [h3, h4]
theorem rnd_zero (c m : Int) : rnd 0 c m = 0 := by
  unfold rnd; split <;> simp
theorem F93_eq {a b c m : Int} (hc : 0 < c) (hc2 : c < 9223372036854775808) (ha : -9223372036854775808 ≤ a ∧ a ≤ 9223372036854775807) (hb : -9223372036854775808 ≤ b ∧ b ≤ 9223372036854775807)
    (hab : (a.natAbs : Int) * (b.natAbs : Int) ≤ 9223372036854775806) (hm : m = 0 ∨ m = 1) :
    F93 [.pvo [.int .i64 c] 0, .pvo [.int .i64 a] 0, .pvo [.int .i64 b] 0, .pvo mdFs 0, .pvo [.int .i64 m] 0] = some (.int .i64 (rnd (a * b) c m)) := by
  have e1 := F94_eq (x := c) (by omega)
  have e2 := F94_eq ha
  have e3 := F94_eq hb
  rw [show ((c.natAbs : Nat) : Int) = c by omega] at e1
  have hA : U (a.natAbs : Int) := by simp only [U]; omega
  have hB : U (b.natAbs : Int) := by simp only [U]; omega
  have e4 := F24_eq hA hB
  have hp0 : 0 ≤ (a.natAbs : Int) * (b.natAbs : Int) := Int.mul_nonneg hA.1 hB.1
  have hcn : decide (c < 0) = false := decide_eq_false (by omega)
  have hz : a = 0 ∨ b = 0 ∨ (¬ a = 0 ∧ ¬ b = 0) := by omega
  have hsg := fun h1 h2 => sgn_eq (a := a) (b := b) h1 h2
  have hz0 : a = 0 ∨ b = 0 → a * b = 0 := by rintro (rfl | rfl) <;> simp
  generalize a * b = n at *
  generalize (a.natAbs : Int) * (b.natAbs : Int) = p at *
  have e5 := F58_low (l := p) (y := c) (by simp only [U]; omega) hc (by omega)
  have hq : p / c ≤ p := Int.ediv_le_self c hp0
  have hq0 : 0 ≤ p / c := Int.ediv_nonneg hp0 (by omega)
  simp only [enc] at e4
  rw [show p / 18446744073709551616 = 0 by omega, show p % 18446744073709551616 = p by omega] at e4
  have hrn := fun s => rnd_eq (p := p) (c := c) (s := s) hc hp0
  have e243 := F10_eq (ah := 0) (al := p / c) (bh := 0) (bl := 1) (by decide) (by simp only [U]; omega) (by decide) (by decide)
  have hv : (val 0 (p / c) + val 0 1) % big = p / c + 1 := by simp only [val, big]; omega
  rw [hv] at e243
  simp only [enc] at e243
  rw [show (p / c + 1) / 18446744073709551616 = 0 by omega, show (p / c + 1) % 18446744073709551616 = p / c + 1 by omega] at e243
  have e249a : ∀ s : Bool, F95 [W 0 (p / c), .bool s] = some (.int .i64 (if s = true then -(p / c) else p / c)) := fun s => F95_eq ⟨by omega, by omega⟩
  have e249b : ∀ s : Bool, F95 [W 0 (p / c + 1), .bool s] = some (.int .i64 (if s = true then -(p / c + 1) else p / c + 1)) := fun s => F95_eq ⟨by omega, by omega⟩
  rcases hz with h | h | ⟨h1, h2⟩
  · have d1 : decide (a = 0) = true := decide_eq_true h
    rw [hz0 (.inl h), rnd_zero]
    unfold F93
    refine pureF_of (x := x93) rfl rfl ?_
    rw [x93_eq.1, x93_eq.2.1]
    clear hrn hsg hz0 h e243 e249a e249b
    generalize decide (a < 0) = s1
    generalize decide (b < 0) = s2
    simp (disch := first | omega | simp only [*, go_sem, ↓reduceIte, dropK_eq]) only [x93b, go_sem, ↓reduceIte, dropK_eq, callX_known (C := C21) (g := 94) rfl, ft_call (C := C21) (g := 94) rfl, callX_known (C := C21) (g := 24) rfl, ft_call (C := C21) (g := 24) rfl, callX_known (C := C21) (g := 58) rfl, ft_call (C := C21) (g := 58) rfl, e1, e2, e3, e4, e5, d1, hcn, ft_mkf]
    exact Ends_plain rfl rfl
  · have d2 : decide (b = 0) = true := decide_eq_true h
    rw [hz0 (.inr h), rnd_zero]
    unfold F93
    refine pureF_of (x := x93) rfl rfl ?_
    rw [x93_eq.1, x93_eq.2.1]
    clear hrn hsg hz0 h e243 e249a e249b
    generalize decide (a < 0) = s1
    generalize decide (b < 0) = s2
    generalize hd : decide (a = 0) = d1
    cases d1 <;>
    · simp (disch := first | omega | simp only [*, go_sem, ↓reduceIte, dropK_eq]) only [x93b, go_sem, ↓reduceIte, dropK_eq, callX_known (C := C21) (g := 94) rfl, ft_call (C := C21) (g := 94) rfl, callX_known (C := C21) (g := 24) rfl, ft_call (C := C21) (g := 24) rfl, callX_known (C := C21) (g := 58) rfl, ft_call (C := C21) (g := 58) rfl, e1, e2, e3, e4, e5, hd, d2, hcn]
      exact Ends_plain rfl rfl
  · have d1 : decide (a = 0) = false := decide_eq_false h1
    have d2 : decide (b = 0) = false := decide_eq_false h2
    have hn := hsg h1 h2
    have hr0 := hrn (decide (a < 0) != decide (b < 0))
    rw [← hn] at hr0
    clear hsg hz0 hn hrn h1 h2 ha hb
    unfold F93
    refine pureF_of (x := x93) rfl rfl ?_
    rw [x93_eq.1, x93_eq.2.1]
    generalize hs1 : decide (a < 0) = s1 at *
    generalize hs2 : decide (b < 0) = s2 at *
    generalize hrr : decide (p % c = 0) = r0 at *
    cases s1 <;> cases s2 <;> cases r0 <;> rcases hm with rfl | rfl
    all_goals
      simp (disch := first | omega | simp only [*, go_sem, ↓reduceIte, dropK_eq]) only [x93b, go_sem, ↓reduceIte, dropK_eq, callX_known (C := C21) (g := 94) rfl, ft_call (C := C21) (g := 94) rfl, callX_known (C := C21) (g := 24) rfl, ft_call (C := C21) (g := 24) rfl, callX_known (C := C21) (g := 58) rfl, ft_call (C := C21) (g := 58) rfl, callX_known (C := C21) (g := 118) rfl, ft_call (C := C21) (g := 118) rfl, callX_known (C := C21) (g := 119) rfl, ft_call (C := C21) (g := 119) rfl, callX_known (C := C21) (g := 10) rfl, ft_call (C := C21) (g := 10) rfl, callX_known (C := C21) (g := 95) rfl, ft_call (C := C21) (g := 95) rfl, e1, e2, e3, e4, e5, hs1, hs2, d1, d2, hcn, mdFs, F118_eq, F119_eq, hrr, e243, e249a, e249b]
      refine Ends_plain rfl ?_
      refine congrArg (AVal.int .i64) ?_
      first | rw [hr0.1] | rw [hr0.2]
      simp
end Go.Proofs.YtkonpbcnekcjjaaGreatDoor
namespace Go.Proofs.YtkonpbcnekcjjaaGreatDoor
open Go Go.Xec Go.RowKit
theorem calls_sound {f : FuncId} {fn : Func} {F : List AVal → Option AVal} (hf : Tryz.prog.funcs[f]? = some fn) (hname : (fn.name == "runtime.NumGoroutine") = false) (hb : fn.body.isSome = true)
    (hs : Sound Tryz.prog f F) {ys : List AVal} {r : AVal} (hF : F ys = some r) (w : World) (hL : Laid Tryz.prog w) {vs : List Value} (hl : VL (ctx0 w fun b => b < w.heap.size) ys vs) :
    Calls Tryz.prog f vs.toArray w fun e w' => ∃ v, e = .returned v ∧ Below w.heap.size w w' ∧ V (ctx0 w' fun b => b < w'.heap.size) r v := by
  rcases hs ys r hF w _ vs (fun _ h => h) hL hl with ⟨_, h⟩ | ⟨v, w', h, _⟩
  · refine h.mono ?_
    rintro e w' ⟨v, rfl, h1, h2, h3, h4⟩
    refine ⟨v, rfl, ⟨h3.1, h3.2.1, h3.2.2, h1, h2⟩, ?_⟩
    have e : (fun b => b < w.heap.size ∨ (w.heap.size ≤ b ∧ b < w'.heap.size)) = fun b => b < w'.heap.size := by
      funext b
      apply propext
      omega
    rw [e] at h4
    exact h4
  · exfalso
    cases hbb : fn.body with
    | none => rw [hbb] at hb; cases hb
    | some c =>
      simp only [callFunc, Sem.run_bind, run_program, Result.andThen_ok, hf, hname, hbb] at h
      simp at h
theorem below_laid {w w' : World} (hL : Laid Tryz.prog w) (h : Below w.heap.size w w') : Laid Tryz.prog w' := hL.keep h.block
theorem heap_alloc (w : World) (o : Obj) : (w.alloc o).heap = w.heap.push o := rfl
theorem catch_idle (p q : Addr) (w : World) :
    CallsD Tryz.prog 121 #[.pointer (some p), .pointer (some q)] .returning w fun e u' w' => e = .returned (.tuple #[]) ∧ u' = .returning ∧ w' = w := by
  refine callsD_of_wpS Tryz.func121 rfl fun c₀ cs hu => ?_
  apply wpS_seq
  apply wpS_region
  simp [wpOpsS, go_sem, recoverD, hu, Tryz.ntmps121, Exit.thenS]
  apply wpS_seq
  apply wpS_region
  simp [wpOpsS, go_sem, Exit.thenS]
  refine wpS_cond (t := false) (by simp [Act.eval, Array.replicate]) ?_
  simp only [Bool.false_eq_true, if_false]
  refine wpS_of_wp (wp_skip ?_)
  cases c₀
  simp_all [bodyPostS, results, Tryz.results121]
theorem try_calls (caps : Array Value) (n : Int) (w : World) (h : ∀ w', Below w.heap.size w w' → Calls Tryz.prog 93 caps w' fun e w'' => e = .returned (.int .i64 n) ∧ Below w'.heap.size w' w'') :
    Calls Tryz.prog 92 #[.func (.func 93) #[] caps] w fun e w' => e = .returned (.tuple #[.int .i64 n, .int .i64 0]) ∧ Below w.heap.size w w' := by
  have hmf : ∀ (fn : Fn) (first cap : Array Value) (w : World), (Instr.makeFunc fn first cap).run Tryz.prog w = .ok (.func fn first cap) w := fun _ _ _ _ => rfl
  go_enter_defers Tryz.func92, Tryz.ntmps92
  go_wp2_with fail
  have h01 : Below w.heap.size w ((w.alloc (.cells #[.int .i64 0] 3)).alloc (.cells #[.int .i64 0] 29)) := ((Below.refl _ _).alloc (Nat.le_refl _) _).alloc (by simp) _
  refine (h _ h01).mono ?_
  rintro e w2 ⟨rfl, hb⟩
  have hsz : w.heap.size + 2 ≤ w2.heap.size := by have := hb.size; simp at this; omega
  have c0 : w2.cell? ⟨w.heap.size, 0, none⟩ = some (.int .i64 0) := by
    rw [hb.cell (by simp; omega)]
    simp
  have c1 : w2.cell? ⟨w.heap.size + 1, 0, none⟩ = some (.int .i64 0) := by
    rw [hb.cell (by simp)]
    simp [World.cell?_alloc_at]
  have f0 : w2.frozen? ⟨w.heap.size, 0, none⟩ = false := by
    rw [hb.frozen (by simp; omega)]
    simp
  have f1 : w2.frozen? ⟨w.heap.size + 1, 0, none⟩ = false := by
    rw [hb.frozen (by simp)]
    simp [World.frozen?_alloc_at]
  go_wp2
  have b2 : Below w.heap.size w ((w2.setCell ⟨w.heap.size, 0, none⟩ (.int .i64 n)).setCell ⟨w.heap.size + 1, 0, none⟩ (.int .i64 0)) :=
    ((h01.trans (hb.mono (by simp; omega))).setCell (by simp) _).setCell (by simp) _
  have d0 : ((w2.setCell ⟨w.heap.size, 0, none⟩ (.int .i64 n)).setCell ⟨w.heap.size + 1, 0, none⟩ (.int .i64 0)).cell? ⟨w.heap.size, 0, none⟩ = some (.int .i64 n) := by
    rw [World.cell?_setCell_other _ _ _ _ (by simp)]
    exact World.cell?_setCell_same _ _ _ c0
  have d1 : ((w2.setCell ⟨w.heap.size, 0, none⟩ (.int .i64 n)).setCell ⟨w.heap.size + 1, 0, none⟩ (.int .i64 0)).cell? ⟨w.heap.size + 1, 0, none⟩ = some (.int .i64 0) := by
    refine World.cell?_setCell_same _ _ _ ((World.cell?_setCell_other _ _ _ _ (by simp)).trans c1)
  generalize ((w2.setCell ⟨w.heap.size, 0, none⟩ (.int .i64 n)).setCell ⟨w.heap.size + 1, 0, none⟩ (.int .i64 0)) = w3 at *
  refine leaves_cons (f := 121) (args := #[.pointer (some ⟨w.heap.size, 0, none⟩), .pointer (some ⟨w.heap.size + 1, 0, none⟩)]) (by simp) (by simp [go_sem]) ?_
  refine (catch_idle ⟨w.heap.size, 0, none⟩ ⟨w.heap.size + 1, 0, none⟩ _).mono ?_
  rintro e u' w'' ⟨rfl, rfl, rfl⟩
  simp [Leaves, settle, results, Tryz.results92, go_sem, d0, d1]
  exact b2
theorem VL_nil0 (x : Ctx) : VL x [] [] := by simp [VL]
theorem V_pvo1 {w : World} {S : Nat → Prop} {k : IntKind} {n : Int} {b : Nat} (hS : S b) (h : w.cell? ⟨b, 0, none⟩ = some (.int k n)) : V (ctx0 w S) (.pvo [.int k n] 0) (.pointer (some ⟨b, 0, none⟩)) := by
  simp only [V, VC]
  exact ⟨b, 0, rfl, hS, ⟨_, h, rfl⟩, trivial⟩
def F_md : List AVal → Option AVal
  | [.int .i64 a, .int .i64 b, .int .i64 c, .int .i64 m] => if (0 < c ∧ c < 9223372036854775808) ∧ (-9223372036854775808 ≤ a ∧ a ≤ 9223372036854775807) ∧ (-9223372036854775808 ≤ b ∧ b ≤ 9223372036854775807) ∧ (a.natAbs : Int) * (b.natAbs : Int) ≤ 9223372036854775806 ∧ (m = 0 ∨ m = 1) then some (.tup [.int .i64 (rnd (a * b) c m), .int .i64 0]) else none
  | _ => none
theorem md_calls {a b c m : Int} (hc : 0 < c) (hc2 : c < 9223372036854775808) (ha : -9223372036854775808 ≤ a ∧ a ≤ 9223372036854775807) (hb : -9223372036854775808 ≤ b ∧ b ≤ 9223372036854775807)
    (hab : (a.natAbs : Int) * (b.natAbs : Int) ≤ 9223372036854775806) (hm : m = 0 ∨ m = 1) (w : World) (hL : Laid Tryz.prog w) :
    Calls Tryz.prog 67 #[.int .i64 a, .int .i64 b, .int .i64 c, .int .i64 m] w fun e w' => e = .returned (.tuple #[.int .i64 (rnd (a * b) c m), .int .i64 0]) ∧ Below w.heap.size w w' := by
  have hmf : ∀ (fn : Fn) (first cap : Array Value) (w : World), (Instr.makeFunc fn first cap).run Tryz.prog w = .ok (.func fn first cap) w := fun _ _ _ _ => rfl
  have hF := F93_eq hc hc2 ha hb hab hm
  go_enter Tryz.func67, Tryz.ntmps67
  go_wp2_with fail
  obtain ⟨w4, hw4⟩ : ∃ w4, w4 = ((((w.alloc (.cells #[.int .i64 a] 3)).alloc (.cells #[.int .i64 b] 3)).alloc (.cells #[.int .i64 c] 3)).alloc (.cells #[.int .i64 m] 3)) := ⟨_, rfl⟩
  rw [← hw4]
  have b4 : Below w.heap.size w w4 := by
    rw [hw4]
    exact ((((Below.refl _ _).alloc (Nat.le_refl _) _).alloc (by simp) _).alloc (by simp; omega) _).alloc (by simp; omega) _
  have s4 : w4.heap.size = w.heap.size + 4 := by rw [hw4]; simp
  have ca : w4.cell? ⟨w.heap.size, 0, none⟩ = some (.int .i64 a) := by
    rw [hw4, World.cell?_alloc_past _ _ _ (by simp; omega), World.cell?_alloc_past _ _ _ (by simp; omega), World.cell?_alloc_past _ _ _ (by simp)]
    simp
  have cb : w4.cell? ⟨w.heap.size + 1, 0, none⟩ = some (.int .i64 b) := by rw [hw4]; simp [World.cell?_alloc_at, World.cell?_alloc_past]
  have cc : w4.cell? ⟨w.heap.size + 1 + 1, 0, none⟩ = some (.int .i64 c) := by rw [hw4]; simp [World.cell?_alloc_at, World.cell?_alloc_past]
  have cm : w4.cell? ⟨w.heap.size + 1 + 1 + 1, 0, none⟩ = some (.int .i64 m) := by rw [hw4]; simp [World.cell?_alloc_at, World.cell?_alloc_past]
  clear hw4
  refine (calls_sound Tryz.func91 (by kernel_rfl) (by kernel_rfl) sound91 F91_eq w4 (below_laid hL b4) (vs := []) (VL_nil0 _)).mono ?_
  rintro e w5 ⟨v, rfl, b5, hv⟩
  simp only [mdFs, V, VL] at hv
  obtain ⟨cs, rfl, _, _, rfl, ⟨_, _, rfl, rfl, rfl⟩, _, _, rfl, ⟨_, _, rfl, rfl, rfl⟩, _, _, rfl, ⟨_, _, rfl, rfl, rfl⟩, rfl⟩ := hv
  have s5 := b5.size
  have ca5 := (b5.cell (p := ⟨w.heap.size, 0, none⟩) (by simp; omega)).trans ca
  have cb5 := (b5.cell (p := ⟨w.heap.size + 1, 0, none⟩) (by simp; omega)).trans cb
  have cc5 := (b5.cell (p := ⟨w.heap.size + 1 + 1, 0, none⟩) (by simp; omega)).trans cc
  have cm5 := (b5.cell (p := ⟨w.heap.size + 1 + 1 + 1, 0, none⟩) (by simp; omega)).trans cm
  have b05 : Below w.heap.size w w5 := b4.trans (b5.mono (by omega))
  clear ca cb cc cm b5
  have cm6 : ∀ o, (w5.alloc o).cell? ⟨w.heap.size + 1 + 1 + 1, 0, none⟩ = some (.int .i64 m) := fun o => by rw [World.cell?_alloc_past _ _ _ (by omega)]; exact cm5
  have cc6 : ∀ o, (w5.alloc o).cell? ⟨w.heap.size + 1 + 1, 0, none⟩ = some (.int .i64 c) := fun o => by rw [World.cell?_alloc_past _ _ _ (by omega)]; exact cc5
  go_wp2_with fail
  obtain ⟨w6, hw6⟩ : ∃ w6, w6 = w5.alloc (.cells #[.func (.func 118) #[] #[], .func (.func 119) #[] #[], .func (.func 120) #[] #[]] 199) := ⟨_, rfl⟩
  rw [← hw6]
  have b6 : Below w5.heap.size w5 w6 := by rw [hw6]; exact (Below.refl _ _).alloc (Nat.le_refl _) _
  have s6 : w6.heap.size = w5.heap.size + 1 := by rw [hw6]; simp
  have g0 : w6.cell? ⟨w5.heap.size, 0, none⟩ = some (.func (.func 118) #[] #[]) := by rw [hw6]; simp
  have g1 : w6.cell? ⟨w5.heap.size, 1, none⟩ = some (.func (.func 119) #[] #[]) := by rw [hw6]; simp
  have g2 : w6.cell? ⟨w5.heap.size, 2, none⟩ = some (.func (.func 120) #[] #[]) := by rw [hw6]; simp
  have ca6 := (b6.cell (p := ⟨w.heap.size, 0, none⟩) (by simp; omega)).trans ca5
  have cb6 := (b6.cell (p := ⟨w.heap.size + 1, 0, none⟩) (by simp; omega)).trans cb5
  have cc7 := (b6.cell (p := ⟨w.heap.size + 1 + 1, 0, none⟩) (by simp; omega)).trans cc5
  have cm7 := (b6.cell (p := ⟨w.heap.size + 1 + 1 + 1, 0, none⟩) (by simp; omega)).trans cm5
  have b06 : Below w.heap.size w w6 := b05.trans (b6.mono (by omega))
  clear hw6 cm6 cc6
  refine (try_calls _ (rnd (a * b) c m) w6 fun w7 b7 => ?_).mono ?_
  · have s7 := b7.size
    refine (calls_sound Tryz.func93 (by kernel_rfl) (by kernel_rfl) sound93 hF w7 (below_laid (below_laid hL b06) b7) (vs := [.pointer (some ⟨w.heap.size + 1 + 1, 0, none⟩), .pointer (some ⟨w.heap.size, 0, none⟩), .pointer (some ⟨w.heap.size + 1, 0, none⟩), .pointer (some ⟨w5.heap.size, 0, none⟩), .pointer (some ⟨w.heap.size + 1 + 1 + 1, 0, none⟩)]) ?_).mono ?_
    · have va := V_pvo1 (S := fun b => b < w7.heap.size) (b := w.heap.size) (by show w.heap.size < w7.heap.size; omega) ((b7.cell (p := ⟨w.heap.size, 0, none⟩) (by simp; omega)).trans ca6)
      have vb := V_pvo1 (S := fun b => b < w7.heap.size) (b := w.heap.size + 1) (by show w.heap.size + 1 < w7.heap.size; omega) ((b7.cell (p := ⟨w.heap.size + 1, 0, none⟩) (by simp; omega)).trans cb6)
      have vc := V_pvo1 (S := fun b => b < w7.heap.size) (b := w.heap.size + 1 + 1) (by show w.heap.size + 1 + 1 < w7.heap.size; omega) ((b7.cell (p := ⟨w.heap.size + 1 + 1, 0, none⟩) (by simp; omega)).trans cc7)
      have vm := V_pvo1 (S := fun b => b < w7.heap.size) (b := w.heap.size + 1 + 1 + 1) (by show w.heap.size + 1 + 1 + 1 < w7.heap.size; omega) ((b7.cell (p := ⟨w.heap.size + 1 + 1 + 1, 0, none⟩) (by simp; omega)).trans cm7)
      have vf : V (ctx0 w7 fun b => b < w7.heap.size) (.pvo mdFs 0) (.pointer (some ⟨w5.heap.size, 0, none⟩)) := by
        simp only [V, VC, mdFs, VL]
        refine ⟨w5.heap.size, 0, rfl, by show w5.heap.size < w7.heap.size; omega, ?_⟩
        exact ⟨⟨_, (b7.cell (p := ⟨w5.heap.size, 0, none⟩) (by simp; omega)).trans g0, [], [], rfl, rfl, rfl⟩, ⟨_, (b7.cell (p := ⟨w5.heap.size, 1, none⟩) (by simp; omega)).trans g1, [], [], rfl, rfl, rfl⟩, ⟨_, (b7.cell (p := ⟨w5.heap.size, 2, none⟩) (by simp; omega)).trans g2, [], [], rfl, rfl, rfl⟩, trivial⟩
      simp only [VL]
      exact ⟨_, _, rfl, vc, _, _, rfl, va, _, _, rfl, vb, _, _, rfl, vf, _, _, rfl, vm, rfl⟩
    · rintro e w8 ⟨v, rfl, b8, hv⟩
      have hv := V_int hv
      subst hv
      exact ⟨rfl, b8⟩
  · rintro e w8 ⟨rfl, b8⟩
    go_wp2
    go_ret2
    exact ⟨rfl, b06.trans (b8.mono (by omega))⟩
theorem sound67 : Sound Tryz.prog 67 F_md := by
  refine sound_calls Tryz.func67 (by kernel_rfl) (by kernel_rfl) ?_
  intro ys r hr w S vs hS hL hl
  unfold F_md at hr
  split at hr
  · rename_i a b c m
    split at hr
    · rename_i hx
      cases hr
      simp only [VL] at hl
      obtain ⟨u1, _, rfl, e1, u2, _, rfl, e2, u3, _, rfl, e3, u4, _, rfl, e4, rfl⟩ := hl
      have e1 := V_int e1
      have e2 := V_int e2
      have e3 := V_int e3
      have e4 := V_int e4
      subst e1 e2 e3 e4
      obtain ⟨h1, h2, h3, h4, h5⟩ := hx
      refine (md_calls h1.1 h1.2 h2 h3 h4 h5 w hL).mono ?_
      rintro e w' ⟨rfl, hb⟩
      obtain ⟨q1, q2, q3⟩ := env_below hb
      refine ⟨_, rfl, q1, q2, q3, ?_⟩
      simp only [V, VL]
      exact ⟨_, rfl, _, _, rfl, rfl, _, _, rfl, rfl, rfl⟩
    · cases hr
  · cases hr
end Go.Proofs.YtkonpbcnekcjjaaGreatDoor
namespace Go.Proofs.YtkonpbcnekcjjaaGreatDoor
open Go
def Tryz.lays7x29_ren : Go.Shelf.Ren := ⟨fun | 29 => 233 | n => n, fun | 22 => 24 | 3 => 3 | 4 => 4 | 25 => 172 | 54 => 435 | 0 => 0 | 5 => 5 | n => n, fun | 1 => 5 | n => n⟩
theorem Tryz.lays7x29 : Go.Proofs.Lays7.n29 Tryz.prog Tryz.lays7x29_ren := {
  mixed := by kernel_rfl
  f29 := Tryz.func233.trans (congrArg some (by kernel_rfl))
  t0 := Tryz.underlying0
  a0 := Tryz.isAgg0
  z0 := Tryz.sizeOf0
  v0 := Tryz.zeroValue0
  i0 := by kernel_rfl
  t3 := Tryz.underlying3
  a3 := Tryz.isAgg3
  z3 := Tryz.sizeOf3
  v3 := Tryz.zeroValue3
  i3 := by kernel_rfl
  t4 := Tryz.underlying4
  a4 := Tryz.isAgg4
  z4 := Tryz.sizeOf4
  v4 := Tryz.zeroValue4
  i4 := by kernel_rfl
  t5 := Tryz.underlying5
  a5 := Tryz.isAgg5
  z5 := Tryz.sizeOf5
  v5 := Tryz.zeroValue5
  i5 := by kernel_rfl
  t22 := Tryz.underlying24
  a22 := Tryz.isAgg24
  z22 := Tryz.sizeOf24
  v22 := Tryz.zeroValue24
  i22 := by kernel_rfl
  t25 := Tryz.underlying172
  a25 := Tryz.isAgg172
  z25 := Tryz.sizeOf172
  v25 := Tryz.zeroValue172
  i25 := by kernel_rfl
  t54 := Tryz.underlying435
  a54 := Tryz.isAgg435
  z54 := Tryz.sizeOf435
  g1 := by kernel_rfl }
open Go.Xec Go.RowKit
theorem named_db : Tryz.prog.globalNamed "math/bits.deBruijn64tab" = some 5 := by kernel_rfl
def F_tz : List AVal → Option AVal
  | [.int .u64 x] => if 0 ≤ x ∧ x < 18446744073709551616 then some (.int .i64 (Lib.ctz 64 x.toNat : Nat)) else none
  | _ => none
theorem sound233 : Sound Tryz.prog 233 F_tz := by
  refine sound_calls Tryz.func233 (by kernel_rfl) (by kernel_rfl) ?_
  intro ys r hr w S vs hS hL hl
  unfold F_tz at hr
  split at hr
  · rename_i x
    split at hr
    · rename_i hx
      cases hr
      obtain ⟨u, rfl, hu⟩ := VL_1 hl
      have hu := V_int hu
      subst hu
      obtain ⟨n, rfl⟩ : ∃ n : Nat, x = n := ⟨x.toNat, by omega⟩
      have hT : TabAt 5 Lib.deBruijn64tab w := by
        intro j hj
        have h := hL.1 ("math/bits.deBruijn64tab", .u8, Lib.deBruijn64tab.map Int.ofNat) (by simp [tabs]) (by rw [named_db]; simp)
        rw [h.cell named_db j (by simpa using hj)]
        simp [List.getD_eq_getElem?_getD, List.getElem?_map, List.getElem?_eq_getElem hj]
      refine (Any7.bits_TrailingZeros64 Tryz.lays7x29 n (by omega) w (fun _ => hT)).mono ?_
      rintro e w' ⟨rfl, rfl⟩
      exact ⟨_, rfl, Nat.le_refl _, fun _ _ => rfl, SameEnv.refl _, by simp only [V, Int.toNat_natCast]⟩
    · cases hr
  · cases hr
end Go.Proofs.YtkonpbcnekcjjaaGreatDoor
namespace Go.Proofs.YtkonpbcnekcjjaaGreatDoor
open Go Go.Xec
set_option maxRecDepth 10000
structure Fd where
  w : List UInt8
  lo : Int
  hi : Int
  nd : Int
abbrev FK (b : Fd) : AVal := .agg [sv b.w, .int .i64 b.lo, .int .i64 b.hi, .int .i64 b.nd]
def needB (b : Fd) (c : Int) : Bool := decide (b.nd / 2 ^ c.toNat % 2 = 1)
def fdL : List Fd := [⟨[115, 105, 122, 101], 1, 1000, 45⟩, ⟨[108, 111, 119], -1000000, 1000000, 195⟩, ⟨[104, 105, 103, 104], -1000000, 1000000, 195⟩, ⟨[98, 97, 115, 101], 2, 25, 63⟩, ⟨[99, 97, 112], 1, 1000000000, 255⟩,
  ⟨[116, 97, 114, 103, 101, 116], -1000000, 1000000, 192⟩, ⟨[115, 116, 101, 112], 0, 1000000, 64⟩, ⟨[98, 111, 117, 110, 100], 1, 1000000000, 64⟩, ⟨[119, 101, 105, 103, 104, 116], 1, 99, 128⟩, ⟨[115, 105, 103, 109, 97], 1, 1000000, 128⟩,
  ⟨[108, 111, 119, 101, 114], -1000000, 1000000, 0⟩, ⟨[117, 112, 112, 101, 114], -1000000, 1000000, 0⟩]
def fd (f : Nat) : Fd := fdL.getD f ⟨[], 0, 0, 0⟩
def chW : List (List UInt8) := [[120, 98, 97, 114], [115, 105, 110, 103, 108, 101], [112], [110, 112], [99], [117], [99, 117, 115, 117, 109], [101, 119, 109, 97]]
structure Ch where
  n : List UInt8
  t : Int
  f0 : Int
  f1 : Int
  f2 : Int
  f3 : Int
  f4 : Int
  f5 : Int
  f6 : Int
  f7 : Int
  f8 : Int
  f9 : Int
  f10 : Int
  f11 : Int
  deriving DecidableEq
abbrev CK (c : Ch) : AVal := .agg [sv c.n, .int .i64 c.t, .int .i64 c.f0, .int .i64 c.f1, .int .i64 c.f2, .int .i64 c.f3, .int .i64 c.f4, .int .i64 c.f5, .int .i64 c.f6, .int .i64 c.f7, .int .i64 c.f8, .int .i64 c.f9, .int .i64 c.f10, .int .i64 c.f11]
def Ch.fs (c : Ch) : List Int := [c.f0, c.f1, c.f2, c.f3, c.f4, c.f5, c.f6, c.f7, c.f8, c.f9, c.f10, c.f11]
def chanW : List UInt8 := [99, 104, 97, 110, 110, 101, 108]
def vl (c : Ch) (k : Nat) : Int := c.fs.getD k 0
def flB (c : Ch) (k : Nat) : Bool := needB (fd k) c.t || (decide (10 ≤ k) && !decide (c.f10 = c.f11))
def fl (c : Ch) : List Nat := (List.range 12).filter (flB c)
abbrev itz (n : Int) : List UInt8 := Lib.itoa n
def fP (c : Ch) (k : Nat) : List UInt8 := (fd k).w ++ ([32] ++ (itz (vl c k) ++ [59, 10]))
def chP (c : Ch) : List UInt8 := chanW ++ ([32] ++ (c.n ++ ([32] ++ (chW.getD c.t.toNat [] ++ ([32, 123, 10] ++ ((fl c).flatMap (fP c) ++ [125, 10]))))))
def prtR (r : List Ch) : List UInt8 := r.flatMap chP
def hdP (c : Ch) : List UInt8 := chanW ++ ([32] ++ (c.n ++ ([32] ++ (chW.getD c.t.toNat [] ++ [32, 123, 10]))))
theorem chP_eq (c : Ch) : chP c = hdP c ++ ((fl c).flatMap (fP c) ++ [125, 10]) := by simp [chP, hdP]
theorem range_next (p : Nat → Bool) (g : Nat → List UInt8) (i : Nat) : ((List.range (i + 1)).filter p).flatMap g = ((List.range i).filter p).flatMap g ++ (if p i then g i else []) := by
  rw [List.range_succ, List.filter_append, List.flatMap_append]
  congr 1
  by_cases h : p i = true
  · simp [h]
  · simp [h]
abbrev RC (a : AVal) (r : List Ch) : Prop := Rg 14 CK a r
def chOk (c : Ch) : Prop := (True ∧ True ∧ c.n.length ≤ 20) ∧ (0 ≤ c.t ∧ c.t ≤ 7) ∧ (∀ i < 12, (-1000000000 ≤ vl c i ∧ vl c i ≤ 1000000000) ∧ (itz (vl c i)).length ≤ 21) ∧ (∀ i ≤ 12, (((List.range i).filter (flB c)).flatMap (fP c)).length ≤ 400)
theorem vl_num {c : Ch} (hc : chOk c) {i : Nat} (hi : i < 12) (h : flB c i = true) : -1000000000 ≤ vl c i ∧ vl c i ≤ 1000000000 := (hc.2.2.1 i hi).1
theorem fls_len {c : Ch} (hc : chOk c) {i : Nat} (hi : i ≤ 12) : (((List.range i).filter (flB c)).flatMap (fP c)).length ≤ 400 := hc.2.2.2 i hi
def rOk (r : List Ch) : Prop := (∀ c ∈ r, chOk c) ∧ True ∧ True ∧ r.length ≤ 4
theorem chP_len {c : Ch} (hc : chOk c) : (chP c).length ≤ 500 := by
  have h1 := hc.1.2.2
  have h2 := hc.2.1
  have h3 : ((fl c).flatMap (fP c)).length ≤ 400 := hc.2.2.2 12 (by decide)
  have h4 : ∀ t < 8, (chW.getD t []).length ≤ 6 := by decide
  have h5 := h4 c.t.toNat (by omega)
  unfold chP
  simp only [List.length_append, List.length_cons, List.length_nil, chanW]
  omega
theorem prtR_len : ∀ {r : List Ch}, (∀ c ∈ r, chOk c) → (prtR r).length ≤ 500 * r.length
  | [], _ => by simp [prtR]
  | c :: r, h => by
    have h1 := prtR_len (r := r) fun d hd => h d (by simp [hd])
    have h2 := chP_len (h c (by simp))
    simp only [prtR, List.flatMap_cons, List.length_append, List.length_cons] at *
    omega
def avIs (o : Option AVal) (v : AVal) : Bool := match o with
  | some x => avEq x v
  | none => false
theorem pureK_is {C : Cfg} {d : Nat} {f : FuncId} {xs : List AVal} {v : AVal} (h : avIs (pureK C d f xs) v = true) : pureF C d f xs = some v := by
  cases hp : pureK C d f xs with
  | none => rw [hp] at h; cases h
  | some x => rw [hp] at h; rw [pureK_ok hp, avEq_ok _ _ h]
noncomputable def CP : Cfg := ⟨fun _ => none, xfK, fun _ => none, fun _ => none, fun _ => none, fun _ _ => none⟩
theorem okP : CfgOk Tryz.prog CP := ⟨(fun g F h => by cases h), xfK_ok, by kernel_rfl, (fun g F h => by cases h), (fun g F h => by cases h), (fun g F h => by cases h), (fun t m g h => by cases h)⟩
noncomputable def F69 : List AVal → Option AVal := pureF CP 20 69
theorem sound69 : Sound Tryz.prog 69 F69 := sound_self okP 20 69
noncomputable def F71 : List AVal → Option AVal := pureF CP 20 71
theorem sound71 : Sound Tryz.prog 71 F71 := sound_self okP 20 71
theorem F71_eq : F71 [] = some (.agg (chW.map sv)) := pureK_is (by kernel_rfl)
noncomputable def F74 : List AVal → Option AVal := pureF CP 20 74
theorem sound74 : Sound Tryz.prog 74 F74 := sound_self okP 20 74
theorem need_all : ((List.range 8).all fun t => (List.range 12).all fun k => avIs (pureK CP 20 74 [FK (fd k), .int .i64 (Int.ofNat t)]) (.bool (needB (fd k) (Int.ofNat t)))) = true := by kernel_rfl
theorem E26 {t k : Nat} {ct : Int} (ht : t < 8) (hk : k < 12) (hct : ct = (t : Nat)) : F74 [FK (fd k), .int .i64 ct] = some (.bool (needB (fd k) (t : Nat))) := by
  subst hct
  have h1 := List.all_eq_true.1 need_all t (List.mem_range.2 ht)
  exact pureK_is (List.all_eq_true.1 h1 k (List.mem_range.2 hk))
def c0 : Ch := ⟨[97], 1, 0, 0, 100, 2, 9, 0, 0, 0, 0, 0, 0, 0⟩
theorem right0 : F69 [.agg [.slc 14 [CK c0]]] = some (.bool true) := pureK_is (by kernel_rfl)
theorem c0_ok : chOk c0 := ⟨⟨trivial, trivial, by decide⟩, by decide, by decide +kernel, by decide +kernel⟩
def txtL : List UInt8 := [99, 104, 97, 110, 110, 101, 108, 32, 97, 32, 115, 105, 110, 103, 108, 101, 32, 123, 10, 108, 111, 119, 32, 48, 59, 10, 104, 105, 103, 104, 32, 49, 48, 48, 59, 10, 98, 97, 115, 101, 32, 50, 59, 10, 99, 97, 112, 32, 57, 59, 10, 125, 10]
theorem txt_eq : prtR [c0] = txtL := by decide +kernel
end Go.Proofs.YtkonpbcnekcjjaaGreatDoor
namespace Go.Proofs.YtkonpbcnekcjjaaGreatDoor
open Go Go.Xec Go.RowKit
def ren166 : Go.Shelf.Ren := ⟨fun | 166 => 70 | 240 => 98 | 276 => 129 | n => n, fun | 70 => 148 | 9 => 9 | 0 => 0 | 72 => 151 | 37 => 149 | 3 => 3 | 5 => 5 | 4 => 4 | 20 => 20 | 75 => 153 | 80 => 167 | 164 => 246 | n => n, fun | n => n⟩
theorem l166_f166 : Tryz.prog.funcs[70]? = some (Go.Proofs.Body.n166 ren166) := Tryz.func70.trans (congrArg some (by kernel_rfl))
theorem l166_f240 : Tryz.prog.funcs[98]? = some (Go.Proofs.Body.n240 ren166) := Tryz.func98.trans (congrArg some (by kernel_rfl))
theorem l166_f276 : Tryz.prog.funcs[129]? = some (Go.Proofs.Body.n276 ren166) := Tryz.func129.trans (congrArg some (by kernel_rfl))
theorem lays166 : Go.Proofs.Lays.n166 Tryz.prog ren166 := {
  mixed := by kernel_rfl
  f166 := l166_f166
  f240 := l166_f240
  f276 := l166_f276
  t0 := Tryz.underlying0
  a0 := Tryz.isAgg0
  z0 := Tryz.sizeOf0
  v0 := Tryz.zeroValue0
  t3 := Tryz.underlying3
  a3 := Tryz.isAgg3
  z3 := Tryz.sizeOf3
  v3 := Tryz.zeroValue3
  t4 := Tryz.underlying4
  a4 := Tryz.isAgg4
  z4 := Tryz.sizeOf4
  v4 := Tryz.zeroValue4
  t9 := Tryz.underlying9
  a9 := Tryz.isAgg9
  z9 := Tryz.sizeOf9
  v9 := Tryz.zeroValue9
  t20 := Tryz.underlying20
  a20 := Tryz.isAgg20
  z20 := Tryz.sizeOf20
  v20 := Tryz.zeroValue20
  t37 := Tryz.underlying149
  a37 := Tryz.isAgg149
  z37 := Tryz.sizeOf149
  v37 := Tryz.zeroValue149
  t70 := Tryz.underlying148
  a70 := Tryz.isAgg148
  z70 := Tryz.sizeOf148
  v70 := Tryz.zeroValue148
  t72 := Tryz.underlying151
  a72 := Tryz.isAgg151
  z72 := Tryz.sizeOf151
  v72 := Tryz.zeroValue151
  t75 := Tryz.underlying153
  a75 := Tryz.isAgg153
  z75 := Tryz.sizeOf153
  v75 := Tryz.zeroValue153
  t164 := Tryz.underlying246
  a164 := Tryz.isAgg246
  z164 := Tryz.sizeOf246
  v164 := Tryz.zeroValue246
}
theorem ext166 : Builder.Extra Tryz.prog ren166 := {
  sizeBuilder := by kernel_rfl
  liesBuilder := by kernel_rfl
  t5 := Tryz.underlying5
  a5 := Tryz.isAgg5
  z5 := Tryz.sizeOf5
  v5 := Tryz.zeroValue5
  infoByte := by kernel_rfl
  cellsByte := by kernel_rfl
  sizeByte := by kernel_rfl
  neB5 := by decide }
theorem bld_write (B b : Nat) (cs : List Value) (s : ByteArray) (w : World) (h : Lib.IsBuilderF 151 5 B b cs w) (hlen : cs.length + s.size ≤ 140737488355328) (hBw : B ≤ w.heap.size) :
    Calls Tryz.prog 70 #[.pointer (some ⟨b, 0, none⟩), .string s] w fun e w' => e = .returned (.tuple #[.int .i64 s.size, .nilIface]) ∧ (Lib.BuilderAtF 151 5 B b (.pointer (some ⟨b, 0, none⟩)) (cs ++ Lib.strCells s) w' ∧ Below B w w' ∧ Lib.OthersKept 5 (some b) w w') :=
  Any.Builder_WriteString_k lays166 ext166 B b cs s w h hlen hBw
theorem bld_string (B b : Nat) (l : List UInt8) (w : World) (h : Lib.IsBuilderF 151 5 B b (Lib.byteCells l) w) (hBw : B ≤ w.heap.size) :
    Calls Tryz.prog 76 #[.pointer (some ⟨b, 0, none⟩)] w fun e w' => e = .returned (.string ⟨l.toArray⟩) ∧ Below B w w' :=
  (Tryz.Builder_String_any_k B b l w h hBw).mono fun e w' h => ⟨h.1, h.2.2.1⟩
theorem ctx_grow {w w' : World} (h : Below w.heap.size w w') : Grow (ctx0 w fun b => b < w.heap.size) (ctx0 w' fun b => b < w'.heap.size) := by
  refine ⟨fun b hb => Nat.lt_of_lt_of_le hb h.size, fun b hb => h.block b hb, fun _ _ _ hp => hp, fun b => ?_⟩
  show bsz w b ≤ bsz w' b
  unfold bsz
  rcases Nat.lt_or_ge b w.heap.size with hb | hb
  · rw [h.block b hb]
    exact Nat.le_refl _
  · rw [Array.getElem?_eq_none hb]
    exact Nat.zero_le _
def chV (c : Ch) : List Value := [.string (bs c.n), .int .i64 c.t, .int .i64 c.f0, .int .i64 c.f1, .int .i64 c.f2, .int .i64 c.f3, .int .i64 c.f4, .int .i64 c.f5, .int .i64 c.f6, .int .i64 c.f7, .int .i64 c.f8, .int .i64 c.f9, .int .i64 c.f10, .int .i64 c.f11]
theorem vc_ch {x : Ctx} {b o : Nat} {c : Ch} (h : VE x 14 (CK c) b o) : ∀ j v, (chV c)[j]? = some v → x.w.cell? ⟨b, o + j, none⟩ = some v := by
  simp only [VE, VC, V] at h
  obtain ⟨_, ⟨_, h0, rfl⟩, ⟨_, h1, rfl⟩, ⟨_, h2, rfl⟩, ⟨_, h3, rfl⟩, ⟨_, h4, rfl⟩, ⟨_, h5, rfl⟩, ⟨_, h6, rfl⟩, ⟨_, h7, rfl⟩, ⟨_, h8, rfl⟩, ⟨_, h9, rfl⟩, ⟨_, h10, rfl⟩, ⟨_, h11, rfl⟩, ⟨_, h12, rfl⟩, ⟨_, h13, rfl⟩, _⟩ := h
  intro j v hj
  match j with
  | 0 => cases hj; exact h0
  | 1 => cases hj; exact h1
  | 2 => cases hj; exact h2
  | 3 => cases hj; exact h3
  | 4 => cases hj; exact h4
  | 5 => cases hj; exact h5
  | 6 => cases hj; exact h6
  | 7 => cases hj; exact h7
  | 8 => cases hj; exact h8
  | 9 => cases hj; exact h9
  | 10 => cases hj; exact h10
  | 11 => cases hj; exact h11
  | 12 => cases hj; exact h12
  | 13 => cases hj; exact h13
  | j + 14 => simp [chV] at hj
theorem vr_ch {x : Ctx} {b : Nat} : ∀ (l : List Ch) (o : Nat), VR x 14 (l.map CK) b o → ∀ i (hi : i < l.length), ∀ j v, (chV l[i])[j]? = some v → x.w.cell? ⟨b, o + i * 14 + j, none⟩ = some v
  | [], _, _, i, hi => absurd hi (by simp)
  | e :: l, o, h, i, hi => by
    rw [List.map_cons, VR] at h
    cases i with
    | zero => simpa using vc_ch h.1
    | succ i =>
      have := vr_ch l (o + 14) h.2 i (by simp at hi; omega)
      simp only [List.getElem_cons_succ]
      rw [show o + (i + 1) * 14 = o + 14 + i * 14 by omega]
      exact this
theorem rec_val {w : World} {S : Nat → Prop} {a : AVal} {l : List Ch} {v : Value} (ha : RC a l) (h : V (ctx0 w S) (.agg [a]) v) :
    ∃ ao cp, v = .agg #[.slice ao l.length cp] ∧ ∀ i (hi : i < l.length), ∃ b o, ao = some ⟨b, o, none⟩ ∧ (S b) ∧ ∀ j v, (chV l[i])[j]? = some v → w.cell? ⟨b, o + i * 14 + j, none⟩ = some v := by
  simp only [V, VL] at h
  obtain ⟨cs, rfl, u, _, rfl, hu, rfl⟩ := h
  rcases ha with ⟨rfl, rfl⟩ | ⟨rfl, rfl⟩ | rfl
  · simp only [V] at hu
    subst hu
    exact ⟨_, _, rfl, fun i hi => absurd hi (by simp)⟩
  · simp only [V] at hu
    obtain ⟨q, rfl⟩ := hu
    exact ⟨_, _, rfl, fun i hi => absurd hi (by simp)⟩
  · simp only [V] at hu
    obtain ⟨b, o, cp, rfl, _, hS, hr⟩ := hu
    refine ⟨some ⟨b, o, none⟩, cp, by simp, fun i hi => ⟨b, o, rfl, ?_, vr_ch l o hr i hi⟩⟩
    rcases hS with h0 | h0
    · rw [List.map_eq_nil_iff] at h0
      rw [h0] at hi
      simp at hi
    · exact h0
theorem vl_strs {x : Ctx} : ∀ {l : List (List UInt8)} {vs : List Value}, VL x (l.map sv) vs → vs = l.map fun s => Value.string (bs s)
  | [], vs, h => by simpa only [List.map_nil, VL] using h
  | s :: l, vs, h => by
    rw [List.map_cons, VL] at h
    obtain ⟨u, r, rfl, hu, hr⟩ := h
    rw [vl_strs hr, List.map_cons]
    simp only [V] at hu
    rw [hu]
def wsA : Array Value := (chW.map fun s => Value.string (bs s)).toArray
theorem words_calls (w : World) (hL : Laid Tryz.prog w) : Calls Tryz.prog 71 #[] w fun e w' => e = .returned (.agg wsA) ∧ Below w.heap.size w w' := by
  refine (calls_sound Tryz.func71 (by kernel_rfl) (by kernel_rfl) sound71 F71_eq w hL (vs := []) (by simp only [VL])).mono ?_
  rintro e w' ⟨v, rfl, hb, hv⟩
  simp only [V] at hv
  obtain ⟨cs, rfl, h⟩ := hv
  exact ⟨by rw [vl_strs h]; rfl, hb⟩
theorem vl_strs' {x : Ctx} : ∀ {l : List (List UInt8)}, VL x (l.map sv) (l.map fun s => Value.string (bs s))
  | [] => by simp only [List.map_nil, VL]
  | s :: l => by
    rw [List.map_cons, List.map_cons, VL]
    exact ⟨_, _, rfl, by simp only [V], vl_strs'⟩
theorem idx_words {t : Nat} (ht : t < 8) (W : World) : (Instr.index 156 (.agg wsA) (.int .i64 (t : Int))).run Tryz.prog W = .ok (.string (bs (chW.getD t []))) W := by
  have hr : (0 : Int) ≤ (t : Int) ∧ (t : Int) < ((8 : Nat) : Int) := by omega
  have hn : szOf Tryz.prog 9 = some 1 := by kernel_rfl
  simp only [Instr.index, asIntOf, Sem.run_bind, run_underlying Tryz.underlying156, Result.andThen_ok, Sem.run_pure, Sem.run_ite, hr, and_self, if_true, szOf_run hn]
  have htw : t < chW.length := ht
  obtain ⟨u, hu, hvu⟩ := part_ok (P := Tryz.prog) (x := ctx0 W fun _ => True) (t := 9) (agg := false) (off := t * 1) (cs := chW.map sv) (vs := chW.map fun s => Value.string (bs s)) (v := sv (chW.getD t [])) (by kernel_rfl) hn vl_strs'
    (by simp only [takeV, Bool.false_eq_true, if_false, Nat.mul_one, List.getElem?_map, List.getD_eq_getElem?_getD, List.getElem?_eq_getElem htw]; rfl) W
  rw [Int.toNat_natCast]
  simp only [V] at hvu
  subst hvu
  exact hu
def ptrs (b : Nat) : List Value := (List.range 12).map fun k => .pointer (some ⟨b, k + 2, none⟩)
set_option maxRecDepth 100000 in
set_option maxHeartbeats 8000000 in
theorem fields_calls (b : Nat) (w : World) : Calls Tryz.prog 72 #[.pointer (some ⟨b, 0, none⟩)] w fun e w' => ∃ B, e = .returned (.slice (some ⟨B, 0, none⟩) 12 12) ∧ w.heap.size ≤ B ∧ w'.heap[B]? = some (.cells (ptrs b).toArray 166 (0, 0)) ∧ Below w.heap.size w w' := by
  go_enter Tryz.func72, Tryz.ntmps72
  go_wp2_with fail
  go_still_tail 36, (by kernel_rfl)
  change wpList _ _ _ _ _ w.drew
  generalize hw : w.drew = w2
  go_wp2
  go_ret
  subst hw
  refine ⟨w.heap.size, rfl, Nat.le_refl _, heap_alloc_new w.drew _, ?_⟩
  exact Below.alloc (w := w.drew) ((Below.refl _ w).drew) (Nat.le_refl _) _
set_option maxRecDepth 100000 in
set_option maxHeartbeats 8000000 in
theorem bounds_calls (w : World) : Calls Tryz.prog 73 #[] w fun e w' => ∃ B, e = .returned (.slice (some ⟨B, 0, none⟩) 12 12) ∧ w.heap.size ≤ B ∧ (∃ cs : Array Value, w'.heap[B]? = some (.cells cs 164 (0, 0)) ∧ ∀ k < 12, cs[k * 4]? = some (.string (bs (fd k).w)) ∧ cs[k * 4 + 1]? = some (.int .i64 (fd k).lo) ∧ cs[k * 4 + 2]? = some (.int .i64 (fd k).hi) ∧ cs[k * 4 + 3]? = some (.int .i64 (fd k).nd)) ∧ Below w.heap.size w w' := by
  go_enter Tryz.func73, Tryz.ntmps73
  go_wp2
  go_ret
  refine ⟨w.heap.size, rfl, Nat.le_refl _, ⟨_, heap_alloc_new w _, ?_⟩, (Below.refl _ w).alloc (Nat.le_refl _) _⟩
  intro k hk
  match k, hk with
  | 0, _ => exact ⟨rfl, rfl, rfl, rfl⟩
  | 1, _ => exact ⟨rfl, rfl, rfl, rfl⟩
  | 2, _ => exact ⟨rfl, rfl, rfl, rfl⟩
  | 3, _ => exact ⟨rfl, rfl, rfl, rfl⟩
  | 4, _ => exact ⟨rfl, rfl, rfl, rfl⟩
  | 5, _ => exact ⟨rfl, rfl, rfl, rfl⟩
  | 6, _ => exact ⟨rfl, rfl, rfl, rfl⟩
  | 7, _ => exact ⟨rfl, rfl, rfl, rfl⟩
  | 8, _ => exact ⟨rfl, rfl, rfl, rfl⟩
  | 9, _ => exact ⟨rfl, rfl, rfl, rfl⟩
  | 10, _ => exact ⟨rfl, rfl, rfl, rfl⟩
  | 11, _ => exact ⟨rfl, rfl, rfl, rfl⟩
def Stg (w : World) (B : Nat) (acc : List UInt8) (wr : World) : Prop := Lib.IsBuilderF 151 5 B B (Lib.byteCells acc) wr ∧ Below w.heap.size w wr ∧ w.heap.size ≤ B ∧ B < wr.heap.size
theorem Stg.alloc {w wr : World} {B : Nat} {acc : List UInt8} (h : Stg w B acc wr) (o : Obj) : Stg w B acc (wr.alloc o) :=
  ⟨h.1.alloc o, h.2.1.alloc (h.2.1.size) o, h.2.2.1, by have := h.2.2.2; simp; omega⟩
theorem Stg.below {w wr w' : World} {B : Nat} {acc : List UInt8} (h : Stg w B acc wr) (hb : Below wr.heap.size wr w') : Stg w B acc w' :=
  ⟨h.1.below hb, h.2.1.trans (hb.mono h.2.1.size), h.2.2.1, Nat.lt_of_lt_of_le h.2.2.2 hb.size⟩
theorem Stg.drew {w wr : World} {B : Nat} {acc : List UInt8} (h : Stg w B acc wr) : Stg w B acc wr.drew := h.below (Below.refl _ wr).drew
theorem Stg.laid {w wr : World} {B : Nat} {acc : List UInt8} (h : Stg w B acc wr) (hL : Laid Tryz.prog w) : Laid Tryz.prog wr := below_laid hL h.2.1
theorem stg_write {w wr : World} {B : Nat} {acc : List UInt8} (h : Stg w B acc wr) (s : List UInt8) {q : ByteArray} (hq : q = bs s) (hlen : acc.length + s.length ≤ 1000000) :
    Calls Tryz.prog 70 #[.pointer (some ⟨B, 0, none⟩), .string q] wr fun e w' => e = .returned (.tuple #[.int .i64 s.length, .nilIface]) ∧ Stg w B (acc ++ s) w' ∧ wr.heap.size ≤ w'.heap.size ∧ (∀ (k : Nat) (cs : Array Value) (T : TypeId), wr.heap[k]? = some (.cells cs T (0, 0)) → k ≠ B → T ≠ 5 → w'.heap[k]? = some (.cells cs T (0, 0))) := by
  subst hq
  refine (bld_write B B (Lib.byteCells acc) (bs s) wr h.1 (by rw [Lib.byteCells_length, bs_size]; omega) (Nat.le_of_lt h.2.2.2)).mono ?_
  rintro e w' ⟨rfl, h1, h2, h3⟩
  refine ⟨by rw [bs_size], ⟨.inr ?_, h.2.1.trans (h2.mono h.2.2.1), h.2.2.1, Nat.lt_of_lt_of_le h.2.2.2 h2.size⟩, h2.size, ?_⟩
  · rw [Lib.byteCells_append, show Lib.byteCells s = Lib.strCells (bs s) from rfl]
    exact h1
  · intro k cs T hk hne hT
    refine h3 k _ hk (fun h => hne (Option.some.inj h)) ?_
    intro c fz he
    cases he
    exact hT rfl
theorem stg_string {w wr : World} {B : Nat} {acc : List UInt8} (h : Stg w B acc wr) :
    Calls Tryz.prog 76 #[.pointer (some ⟨B, 0, none⟩)] wr fun e w' => e = .returned (.string (bs acc)) ∧ Below w.heap.size w w' :=
  (bld_string B B acc wr h.1 (Nat.le_of_lt h.2.2.2)).mono fun e w' h' => ⟨h'.1, h.2.1.trans (h'.2.mono h.2.2.1)⟩
end Go.Proofs.YtkonpbcnekcjjaaGreatDoor
