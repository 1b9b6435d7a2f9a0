/-
  Copy; all operations together.
-/
import Derived.Test.YtppehejnnjlkfaaGreatDoorXJ
set_option linter.unusedVariables false
set_option linter.unusedSimpArgs false
namespace Go.Xec
open Go

section
variable {P : Program} {B : Nat} {S0 : Base} {ρc : Operand → Value} {o : Oper} {x : Ctx} {h : Heap} {nc : Nat} {key : Key} {e : XArg → AVal}

theorem splice_nil (cs : List AVal) (off : Nat) : splice cs off [] = cs := by simp [splice]

theorem take_flat {es : Nat} : ∀ (l : List AVal) (n : Nat), (∀ b ∈ l, (cellsOf b).length = es) → (l.take n).flatMap cellsOf = (l.flatMap cellsOf).take (n * es)
  | [], n, _ => by simp
  | b :: l, 0, _ => by simp
  | b :: l, n + 1, hl => by
    have hb := hl b (by simp)
    have e1 : (cellsOf b).take ((n + 1) * es) = cellsOf b := List.take_of_length_le (by rw [hb, Nat.succ_mul]; omega)
    have e2 : (n + 1) * es - (cellsOf b).length = n * es := by rw [hb, Nat.succ_mul]; omega
    simp only [List.take_succ_cons, List.flatMap_cons]
    rw [take_flat l n (fun c hc => hl c (by simp [hc])), List.take_append, e1, e2]
theorem drop_flat {es : Nat} : ∀ (l : List AVal) (n : Nat), (∀ b ∈ l, (cellsOf b).length = es) → (l.drop n).flatMap cellsOf = (l.flatMap cellsOf).drop (n * es)
  | [], n, _ => by simp
  | b :: l, 0, _ => by simp
  | b :: l, n + 1, hl => by
    have hb := hl b (by simp)
    have e1 : (cellsOf b).drop ((n + 1) * es) = [] := List.drop_eq_nil_of_le (by rw [hb, Nat.succ_mul]; omega)
    have e2 : (n + 1) * es - (cellsOf b).length = n * es := by rw [hb, Nat.succ_mul]; omega
    simp only [List.drop_succ_cons, List.flatMap_cons]
    rw [drop_flat l n (fun c hc => hl c (by simp [hc])), List.drop_append, e1, e2, List.nil_append]

theorem flat_splice {es : Nat} {xs ys : List AVal} {i : Nat} (hx : ∀ b ∈ xs, (cellsOf b).length = es) (hy : ∀ b ∈ ys, (cellsOf b).length = es) (hi : i + ys.length ≤ xs.length) : (splice xs i ys).flatMap cellsOf = splice (xs.flatMap cellsOf) (i * es) (ys.flatMap cellsOf) := by
  unfold splice
  rw [List.flatMap_append, List.flatMap_append, take_flat _ _ hx, drop_flat _ _ hx, flat_len hy, Nat.add_mul]

theorem mem_splice {xs ys : List AVal} {i : Nat} {a : AVal} (h : a ∈ splice xs i ys) : a ∈ xs ∨ a ∈ ys := by
  unfold splice at h
  rcases List.mem_append.1 h with h | h
  · exact .inl (List.mem_of_mem_take h)
  · rcases List.mem_append.1 h with h | h
    · exact .inr h
    · exact .inl (List.mem_of_mem_drop h)

theorem ok_cpy (hs : Sim B S0 h nc x) {c : Call} {t et : TypeId} {es : Nat} {a b : Operand} {va vb v : AVal} {ws : Wr} (hop : o.op = .call c) (hc : c.callee = .builtin .copy) (h0 : c.argTypes[0]? = some t) (h2 : c.args[0]? = some a) (h3 : c.args[1]? = some b) (ha : V x va (ρc a)) (hb : V x vb (ρc b))
    (ht : P.underlying t = some (.slice et)) (hsz : szOf P et = some es) (hes : 1 ≤ es) (hv : (cpyR es va vb).run h = some (v, ws)) : OpOk P B S0 ρc o x (applyW h ws) nc key v := by
  unfold cpyR at hv
  rw [Rd.run_bind] at hv
  cases hys : (elemsR es vb).run h with
  | none => rw [hys] at hv; cases hv
  | some ys =>
    rw [hys, Option.bind_some] at hv
    obtain ⟨hlen0, hlens0, vs, hvs, hfirst⟩ := elems_ok (P := P) hs hys hb
    have run : ∀ (base : Option Addr) (sLen sCap : Nat), ρc a = .slice base sLen sCap → ∀ y : World, (match base with | some ad => storeCells ad (vs.take (min ys.length sLen * es)) | none => pure ()).run P x.w = .ok () y →
        (execOp ρc o).run P x.w = .ok (.value (.int .i64 (min ys.length sLen : Nat))) y := by
      intro base sLen sCap hp y hy
      have hm : Nat.min ys.length sLen = min ys.length sLen := rfl
      have hf := hfirst (min ys.length sLen) (Nat.min_le_left _ _) x.w rfl
      simp only [execOp, hop, resolve, hc, Sem.run_bind, Sem.run_pure, Result.andThen_ok, invoke, builtin, Builtin.copy_, h0, Array.getElem?_map, h2, h3, Option.map_some, run_underlying ht, hp, szOf_run hsz, hlen0, hm, hf, goInt]
      cases base with
      | none =>
        simp only [Sem.run_pure, Result.ok.injEq, true_and] at hy
        subst hy
        simp
      | some ad =>
        simp only at hy
        simp only [Sem.run_bind, hy, Result.andThen_ok, Sem.run_pure]
    cases va <;> simp only at hv <;> try (cases hv; done)
    case nils =>
      cases hv
      simp only [V] at ha
      refine pureOk hs (run none 0 0 ha x.w (by simp)) ?_
      simp [V]
    case emp =>
      cases hv
      simp only [V] at ha
      obtain ⟨ad, ha⟩ := ha
      refine pureOk hs (run (some ad) 0 0 ha x.w (by simp [storeCells])) ?_
      simp [V]
    case sl k g es' off len =>
      split at hv
      · rename_i he
        subst he
        simp only [V] at ha
        obtain ⟨bb, oo, ad, cap, hρ, ha, hlc, had, hz, hsp⟩ := ha
        rw [Rd.run_get] at hv
        cases hk : h k with
        | none => rw [hk] at hv; cases hv
        | some blk =>
          rw [hk] at hv
          obtain ⟨b', o', j1, j2, j3, j4⟩ := hs.live k blk hk
          have htl : (ys.take len).length = min ys.length len := by rw [List.length_take, Nat.min_comm]
          have htake : ∀ b ∈ ys.take len, (cellsOf b).length = es' := fun b hb => hlens0 b (List.mem_of_mem_take hb)
          have hnew : VL x ((ys.take len).flatMap cellsOf) (vs.take (min ys.length len * es')) := by
            have h7 := hvs.take (min ys.length len * es')
            have : (ys.flatMap cellsOf).take (min ys.length len * es') = (ys.take len).flatMap cellsOf := by
              rw [← take_flat ys _ hlens0]
              congr 1
              rw [Nat.min_comm, ← List.take_eq_take_min]
            rw [this] at h7
            exact h7
          have hvl : (vs.take (min ys.length len * es')).length = min ys.length len * es' := by
            rw [hnew.length, flat_len htake, htl]
          have finish : ∀ (blk' : Blk) (cc : Array Value) (el : TypeId), x.w.heap[bb]? = some (.cells cc el (0, 0)) → blk'.gen = blk.gen → x.ρ k blk.gen = some (bb, oo) → oo + off * es' + min ys.length len * es' ≤ cc.size → (∀ u ∈ vs.take (min ys.length len * es'), u.oneCell' = true) →
              (ys.take len = [] → blk' = blk) →
              (∀ y : Ctx, Grow x y → y.w.heap[bb]? = some (.cells (spliceV cc.toList (oo + off * es') (vs.take (min ys.length len * es'))).toArray el (0, 0)) → BlkOk y bb oo blk') →
              OpOk P B S0 ρc o x (applyW h [(k, some blk')]) nc key (.int .i64 (ys.take len).length) := by
            intro blk' cc el hheap hg hρ' hfit hone hnil hblk
            by_cases hn : ys.take len = []
            · have h0 : min ys.length len = 0 := by rw [← htl, hn]; rfl
              have hx : applyW h [(k, some blk')] = h := by
                simp only [applyW]
                funext k'
                by_cases e : k' = k
                · subst e; rw [upd_same, hk, hnil hn]
                · rw [upd_ne _ _ e]
              rw [hx, hn]
              refine pureOk (h := h) hs (run (some ad) len cap ha x.w ?_) ?_
              · simp [h0, storeCells]
              · simp [V, h0]
            · have hc0 : cap ≠ 0 := by
                intro h0
                apply hn
                have : len = 0 := by omega
                rw [this]; simp
              obtain ⟨y, e1, e2, e3, e4⟩ := writeOk (P := P) hs hk hρ' hheap (us := vs.take (min ys.length len * es')) (q := off * es') (blk := blk') (by rw [hvl]; exact hfit) hg hone hblk
              refine ⟨_, y, .inl (run (some ad) len cap ha y.w ?_), ?_, e2, e3, fun k' g p hp => .inl (e4 k' g p hp)⟩
              · simp only
                rw [had.resolve_left hc0]
                exact e1
              · simp only [V]
                rw [htl]
          cases blk with
          | obj a => cases hv
          | var cells =>
            simp only at hv
            split at hv
            · rename_i hcond
              obtain ⟨rfl, rfl, hle, hsc⟩ := hcond
              simp only [Rd.run_ret, Option.some.injEq, Prod.mk.injEq] at hv
              obtain ⟨rfl, rfl⟩ := hv
              simp only [Blk.gen] at j1
              rw [hρ] at j1
              cases j1
              obtain ⟨rfl, cc, el, hheap, hcsz, hvc⟩ := j4
              have hflat : (ys.take len).flatMap cellsOf = ys.take len := by
                have : ∀ (l : List AVal), (∀ a ∈ l, isSc a = true) → l.flatMap cellsOf = l := by
                  intro l
                  induction l with
                  | nil => simp
                  | cons a l ih => intro hl; simp only [List.flatMap_cons, cellsOf_sc (hl a (by simp)), ih (fun b hb => hl b (by simp [hb]))]; rfl
                exact this _ (List.all_eq_true.1 hsc)
              rw [hflat] at hnew
              refine finish (.var (splice cells off (ys.take len))) cc el hheap rfl (by simpa [Blk.gen] using hρ) (by omega) (VL_sc hnew hsc) (fun hn => by rw [hn, splice_nil]) ?_
              intro y g hb'
              have h8 := VL_splice off (VL_grow g _ _ (VL_of_block hheap hvc)) (VL_grow g _ _ hnew)
              have hle2 : off + (ys.take len).length ≤ cells.length := by rw [htl]; omega
              refine ⟨rfl, _, el, hb', ?_, ?_⟩
              · simp only [List.size_toArray]
                rw [spliceV_length (by rw [hvl]; simp; omega), splice_length hle2]
                simpa using hcsz
              · refine VC_new hb' ?_
                have h9 : (cc.toList.drop 0).take cells.length = cc.toList := by
                  rw [List.drop_zero]; exact List.take_of_length_le (by simp; omega)
                rw [h9] at h8
                simp only [Nat.zero_add, Nat.mul_one] at h8 ⊢
                exact h8
            · cases hv
          | row g' es'' elems =>
            simp only at hv
            split at hv
            · rename_i hcond
              obtain ⟨rfl, rfl, hle, hall⟩ := hcond
              simp only [Rd.run_ret, Option.some.injEq, Prod.mk.injEq] at hv
              obtain ⟨rfl, rfl⟩ := hv
              simp only [Blk.gen] at j1
              rw [hρ] at j1
              cases j1
              obtain ⟨cc, el, hheap, hcsz, hvr⟩ := j4
              have hsc : ((ys.take len).flatMap cellsOf).all isSc = true := by
                rw [List.all_flatMap]
                refine List.all_eq_true.2 fun a ha => ?_
                have := List.all_eq_true.1 hall a ha
                simp only [Bool.and_eq_true] at this
                exact this.2
              have hlens := VR_lens hvr
              obtain ⟨hfl, hfll⟩ := VR_flat hvr
              have hmul : (off + min ys.length len) * es'' ≤ elems.length * es'' := Nat.mul_le_mul_right es'' (by omega)
              rw [Nat.add_mul] at hmul
              have hle2 : off + (ys.take len).length ≤ elems.length := by rw [htl]; omega
              refine finish (.row g es'' (splice elems off (ys.take len))) cc el hheap rfl (by simpa [Blk.gen] using hρ) (by omega) (VL_sc hnew hsc) (fun hn => by rw [hn, splice_nil]) ?_
              intro y gr hb'
              have h8 := VL_splice (off * es'') (VL_grow gr _ _ (VL_of_block hheap hfl)) (VL_grow gr _ _ hnew)
              refine ⟨_, el, hb', ?_, ?_⟩
              · simp only [List.size_toArray]
                rw [spliceV_length (by rw [hvl]; simp; omega), splice_length hle2]
                simpa using hcsz
              · refine VR_of_flat (fun a ha => ?_) ?_
                · rcases mem_splice ha with h9 | h9
                  · exact hlens a h9
                  · exact htake a h9
                · rw [flat_splice hlens htake hle2]
                  refine VC_of_block hb' ?_
                  rw [splice_length (by rw [hfll, flat_len htake, htl]; exact hmul), hfll, List.toList_toArray, spliceV_window (by rw [hvl]; omega) (by simpa using hcsz), ← hfll]
                  exact h8
            · cases hv
      · cases hv

theorem chkArgs_ok (he : ArgsOk x ρc e) : ∀ {as : List Operand} {bs : List XArg}, chkArgs as bs = true → VL x (bs.map e) (as.map ρc)
  | [], [], _ => by simp [VL]
  | [], _ :: _, hc => by simp [chkArgs] at hc
  | _ :: _, [], hc => by simp [chkArgs] at hc
  | a :: as, b :: bs, hc => by
    simp only [chkArgs, Bool.and_eq_true] at hc
    simp only [List.map_cons, VL]
    exact ⟨_, _, rfl, he _ _ hc.1, chkArgs_ok he hc.2⟩
theorem chkO_ok (he : ArgsOk x ρc e) {a : Option Operand} {b : Option XArg} (hc : chkO a b = true) : VO x (b.map e) (a.map ρc) := by
  cases a <;> cases b <;> simp only [chkO, Bool.false_eq_true] at hc
  · trivial
  · exact he _ _ hc
theorem chkPartsS_ok (he : ArgsOk x ρc e) {fs : Array Field} : ∀ {ps : List (Nat × Operand)} {qs : List (Nat × Nat × XArg)}, chkPartsS P fs ps qs = true →
    ∀ place : Nat → Option (Nat × Nat), (∀ (i : Nat) (f : Field) (n : Nat), fs[i]? = some f → szOf P f.type = some n → place i = some (f.offset, n)) → PartsV x (qs.map fun p => (p.1, p.2.1, e p.2.2)) (ps.map fun p => (p.1, ρc p.2)) place
  | [], [], _, _, _ => by simp [PartsV]
  | [], _ :: _, hc, _, _ => by simp [chkPartsS] at hc
  | _ :: _, [], hc, _, _ => by simp [chkPartsS] at hc
  | (i, a) :: ps, (off, n, b) :: qs, hc, place, hp => by
    simp only [chkPartsS, Bool.and_eq_true] at hc
    obtain ⟨⟨h1, h2⟩, h3⟩ := hc
    simp only [List.map_cons, PartsV]
    refine ⟨?_, he _ _ h2, chkPartsS_ok he h3 place hp⟩
    cases hf : fs[i]? with
    | none => rw [hf] at h1; cases h1
    | some f =>
      rw [hf] at h1
      simp only [Bool.and_eq_true, beq_iff_eq, decide_eq_true_eq] at h1
      rw [hp i f n hf h1.2, h1.1]
theorem chkPartsA_ok (he : ArgsOk x ρc e) {s : Nat} : ∀ {ps : List (Nat × Operand)} {qs : List (Nat × Nat × XArg)}, chkPartsA s ps qs = true → PartsV x (qs.map fun p => (p.1, p.2.1, e p.2.2)) (ps.map fun p => (p.1, ρc p.2)) (fun i => some (i * s, s))
  | [], [], _ => by simp [PartsV]
  | [], _ :: _, hc => by simp [chkPartsA] at hc
  | _ :: _, [], hc => by simp [chkPartsA] at hc
  | (i, a) :: ps, (off, n, b) :: qs, hc => by
    simp only [chkPartsA, Bool.and_eq_true, beq_iff_eq] at hc
    obtain ⟨⟨⟨h1, h2⟩, h3⟩, h4⟩ := hc
    simp only [List.map_cons, PartsV]
    exact ⟨by rw [h1, h2], he _ _ h3, chkPartsA_ok he h4⟩
theorem chkPartsE_ok (he : ArgsOk x ρc e) : ∀ {ps : List (Nat × Operand)} {qs : List (Nat × XArg)}, chkPartsE ps qs = true → PartsE x (qs.map fun p => (p.1, e p.2)) (ps.map fun p => (p.1, ρc p.2))
  | [], [], _ => by simp [PartsE]
  | [], _ :: _, hc => by simp [chkPartsE] at hc
  | _ :: _, [], hc => by simp [chkPartsE] at hc
  | (i, a) :: ps, (j, b) :: qs, hc => by
    simp only [chkPartsE, Bool.and_eq_true, beq_iff_eq] at hc
    simp only [List.map_cons, PartsE]
    exact ⟨hc.1.1.symm, he _ _ hc.1.2, chkPartsE_ok he hc.2⟩

theorem run_pureR {a : Option AVal} {v : AVal} {ws : Wr} (hr : ((Rd.ofO a).bind fun v => Rd.ret (v, ([] : Wr))).run h = some (v, ws)) : a = some v ∧ ws = [] := by
  obtain ⟨v', e1, e2⟩ := run_pure1 hr
  cases e2
  exact ⟨e1, rfl⟩

end
end Go.Xec
