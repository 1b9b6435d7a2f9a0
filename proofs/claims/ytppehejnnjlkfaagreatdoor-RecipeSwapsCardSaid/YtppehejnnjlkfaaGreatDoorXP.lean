/-
  Code and functions: what the interpreter answers is what a call answers.
-/
import Derived.Test.YtppehejnnjlkfaaGreatDoorXO
import Derived.LoopN
set_option linter.unusedVariables false
set_option linter.unusedSimpArgs false
namespace Go.Xec
open Go

section
variable {P : Program} {nt B : Nat} {S0 : Base} {C : Cfg} {inl : Inl}

def Out.conc : Out → Exit
  | .nrm => .normal
  | .ext id => .exit id
  | .ret => .ret

def PostC (nt B : Nat) (S0 : Base) (x : Ctx) (nc : Nat) (o : Out) (stF : St) : Exit → Act → World → Prop :=
  fun e a w => e = o.conc ∧ ∃ y, y.w = w ∧ StOk nt B S0 stF y a ∧ Step B x y ∧ nc ≤ stF.nc ∧ Keys nc x y

theorem foot_look {key : Key} {o : XOper} {st : St} {h' : Heap} (h : isLook o.op = true) : ∃ r, foot C key o st h' = (.kn r, []) := by
  obtain ⟨d, g, op⟩ := o
  cases op <;> simp only [isLook] at h <;> try cases h
  simp only [foot, progO]
  cases goes st.tm g with
  | none => exact ⟨_, rfl⟩
  | some b =>
    cases b with
    | false => exact ⟨_, rfl⟩
    | true =>
      simp only [if_true, rdOf, footP, opR, Rd.run_bind]
      refine ⟨_, Prod.ext rfl ?_⟩
      rename_i agg n x
      cases (loadR agg n (arg st.tm x)).run st.hp <;> rfl

theorem feet_look {fid rid c : Nat} : ∀ (xs : List XOper) (i : Nat) (st stF : St) (fs : List Foot), runOpsF C inl fid rid c i xs st = some (stF, fs) →
    ∀ (j : Nat) (x : XOper) (f : Foot), xs[j]? = some x → fs[j]? = some f → isLook x.op = true → ∃ r, f = (.kn r, [])
  | [], i, st, stF, fs, h, j, x, f, hx, hf, hl => by simp at hx
  | o :: xs, i, st, stF, fs, h, j, x, f, hx, hf, hl => by
    simp only [runOpsF] at h
    cases h1 : stepO C inl (site fid rid i, c) o st with
    | none => rw [h1] at h; cases h
    | some st1 =>
      rw [h1] at h
      simp only [Option.bind_some] at h
      cases h2 : runOpsF C inl fid rid c (i + 1) xs st1 with
      | none => rw [h2] at h; cases h
      | some q =>
        obtain ⟨s, gs⟩ := q
        rw [h2] at h
        simp only [Option.map_some, Option.some.injEq, Prod.mk.injEq] at h
        obtain ⟨rfl, rfl⟩ := h
        cases j with
        | zero =>
          simp only [List.getElem?_cons_zero, Option.some.injEq] at hx hf
          subst hx; subst hf
          exact foot_look hl
        | succ j =>
          simp only [List.getElem?_cons_succ] at hx hf
          exact feet_look xs (i + 1) st1 s gs h2 j x f hx hf hl

theorem relz_of {xs : List XOper} {fs : List Foot} {bef : List (List Nat)} {hot : List (Nat × Nat)} (hlen : fs.length = xs.length)
    (hlook : ∀ (j : Nat) (x : XOper) (f : Foot), xs[j]? = some x → fs[j]? = some f → isLook x.op = true → ∃ r, f = (.kn r, []))
    (hd : (List.range xs.length).all (fun j => (List.range j).all fun i => (bef[j]?.getD []).contains i ||
      (match xs[i]?, xs[j]? with
       | some x, some y => apartT x y && (isPure x.op || isPure y.op || (isLook x.op && isLook y.op) || hot.contains (i, j))
       | _, _ => false)) = true) (hh : hotOk fs hot = true) : ((List.range' 0 xs.length).zip (xs.zip fs)).Pairwise (RelZ bef) := by
  rw [List.pairwise_iff_getElem]
  intro i j hi hj hij
  simp only [List.length_zip, List.length_range', hlen, Nat.min_self] at hi hj
  simp only [List.getElem_zip, List.getElem_range', Nat.zero_add, Nat.one_mul]
  simp only [List.all_eq_true, List.mem_range] at hd
  have h1 := hd j hj i hij
  simp only [Bool.or_eq_true, List.contains_iff_mem] at h1
  rcases h1 with h1 | h1
  · exact .inl h1
  · rw [List.getElem?_eq_getElem hi, List.getElem?_eq_getElem hj] at h1
    simp only [Bool.and_eq_true, Bool.or_eq_true, List.contains_iff_mem] at h1
    refine .inr ⟨h1.1, ?_⟩
    rcases h1.2 with ((h2 | h2) | h2) | h2
    · exact .inl h2
    · exact .inr (.inl h2)
    · obtain ⟨r, e1⟩ := hlook i _ _ (List.getElem?_eq_getElem hi) (List.getElem?_eq_getElem (by omega)) h2.1
      obtain ⟨r', e2⟩ := hlook j _ _ (List.getElem?_eq_getElem hj) (List.getElem?_eq_getElem (by omega)) h2.2
      rw [e1, e2]
      exact .inr (.inr rfl)
    · unfold hotOk at hh
      rw [List.all_eq_true] at hh
      have h3 := hh (i, j) h2
      simp only at h3
      rw [List.getElem?_eq_getElem (by omega), List.getElem?_eq_getElem (by omega)] at h3
      exact .inr (.inr h3)

theorem reg_wp (ok : CfgOk P C) (hin : InlOk P B S0 inl) (hLd : Laid P S0.w0) {id : Nat} {ops : Array Oper} {draw : Bool} {xs : List XOper} {d : Option XDraw} {fid : Nat} (hc : chkOpers P nt ops ops.toList xs = true) (hd : (match draw, d with
      | false, none => true
      | true, some d => chkDraw ops.toList xs d
      | _, _ => false) = true) {st stF : St} {x : Ctx} {a : Act} (hr : runReg C inl fid id xs d st = some stF) (hst : StOk nt B S0 st x a) : (Code.region id ops draw).wp P (PostC nt B S0 x st.nc .nrm stF) a x.w := by
  obtain ⟨hlen, hops⟩ := opers_at hc
  simp only [Array.length_toList] at hlen
  have hst1 : StOk nt B S0 { st with nc := st.nc + 1 } x a := ⟨hst.sim.more _ (Nat.le_succ _), hst.sz, hst.tm, hst.dfr⟩
  have hused : UsedOk x fid id st.nc (fun j => j < 0) := fun k g p hp hk => absurd hk (Nat.ne_of_lt (hst.sim.dom k g p hp))
  cases draw with
  | false =>
    cases d with
    | some d => cases hd
    | none =>
      simp only [runReg] at hr
      refine wp_region ?_
      rw [List.range_eq_range', hlen]
      refine runOps_wp ok hin hLd xs 0 _ x a ?_ hr hst1 (by simp) hused ?_
      · intro j xo hj
        obtain ⟨o, ho, hck⟩ := hops j xo hj
        exact ⟨o, by simpa using ho, hck⟩
      · intro a' y hy hstp hnc hk
        exact ⟨rfl, y, rfl, hy, hstp, by simp at hnc; omega, hk⟩
  | true =>
    cases d with
    | none => cases hd
    | some d =>
      simp only at hd
      unfold chkDraw at hd
      simp only [Bool.and_eq_true] at hd
      have hrun : ∃ fs, runOpsF C inl fid id st.nc 0 xs { st with nc := st.nc + 1 } = some (stF, fs) ∧ hotOk fs d.hot = true := by
        simp only [runReg] at hr
        split at hr
        · rename_i e
          obtain ⟨fs, hf⟩ := runOps_Z xs 0 _ _ hr
          exact ⟨fs, hf, by rw [e]; rfl⟩
        · split at hr
          · rename_i st' fs e
            split at hr
            · rename_i hh
              cases hr
              exact ⟨fs, e, hh⟩
            · cases hr
          · cases hr
      obtain ⟨fs, hf, hh⟩ := hrun
      obtain ⟨hfl, hZ⟩ := runOpsF_Z xs 0 _ _ _ hf
      have hzl : ((List.range' 0 xs.length).zip (xs.zip fs)).length = xs.length := by simp [hfl]
      have hidx : idx ((List.range' 0 xs.length).zip (xs.zip fs)) = List.range' 0 xs.length := by
        unfold idx
        rw [List.map_fst_zip]
        simp [hfl]
      have hmem : ∀ i, i ∈ List.range' 0 xs.length ↔ i < xs.length := by
        intro i; rw [← List.range_eq_range', List.mem_range]
      refine wp_region_any ok.mixed ?_
      have hst2 : StOk nt B S0 { st with nc := st.nc + 1 } (x.draw (x.w.drawn + 1)) a := ⟨hst1.sim.draw _, hst1.sz, fun t => V_grow (Step.draw B x _).grow _ _ (hst1.tm t), hst1.dfr⟩
      have hused2 : UsedOk (x.draw (x.w.drawn + 1)) fid id st.nc (fun j => j ∉ idx ((List.range' 0 xs.length).zip (xs.zip fs))) := fun k g p hp hk => absurd hk (Nat.ne_of_lt (hst.sim.dom k g p hp))
      have := drawn_wp ok hin hLd hd.1 (Q := PostC nt B S0 x st.nc .nrm stF) xs.length ((List.range' 0 xs.length).zip (xs.zip fs)) (Array.replicate ops.size false) _ _ a hzl hZ ?_ (relz_of hfl (feet_look xs 0 _ _ _ hf) hd.2 hh) ?_ ?_ hst2 (by simp) hused2 ?_
      · rw [hlen]
        have e : (Array.replicate xs.length false) = Array.replicate ops.size false := by rw [hlen]
        rw [e]
        exact this
      · rw [List.pairwise_iff_getElem]
        intro i j hi hj hij
        simp only [List.getElem_zip, List.getElem_range']
        omega
      · intro z hz
        obtain ⟨i, hi, rfl⟩ := List.getElem_of_mem hz
        simp only [hzl] at hi
        simp only [List.getElem_zip, List.getElem_range', Nat.zero_add, Nat.one_mul]
        obtain ⟨o, ho, hck⟩ := hops i xs[i] (List.getElem?_eq_getElem hi)
        exact ⟨o, by simpa using ho, hck⟩
      · refine ⟨by simp, ?_, ?_, ?_⟩
        · intro i hi
          rw [hidx, hmem]
          simp [Array.getD, hi, ← hlen]
        · intro i hi
          rw [hidx, hmem] at hi
          omega
        · intro j o hj hjn
          rw [hidx, hmem] at hjn
          omega
      · intro a' y hy hstp hnc hk
        exact ⟨rfl, y, rfl, hy, (Step.draw B x _).trans hstp, by simp at hnc; omega, hk⟩

theorem exec_wp (ok : CfgOk P C) (hin : InlOk P B S0 inl) (hLd : Laid P S0.w0) {fid : Nat} : ∀ (xc : XCode) (c : Code), chkCode P nt c xc = true → ∀ (st : St) (x : Ctx) (a : Act) (o : Out) (stF : St), execC C inl fid xc st = some (o, stF) → StOk nt B S0 st x a →
    c.wp P (PostC nt B S0 x st.nc o stF) a x.w
  | .skip, c, hc, st, x, a, o, stF, hr, hst => by
    simp only [execC, Option.some.injEq, Prod.mk.injEq] at hr
    obtain ⟨rfl, rfl⟩ := hr
    cases c <;> simp only [chkCode, Bool.false_eq_true] at hc
    · exact wp_skip ⟨rfl, x, rfl, hst, Step.refl B x, Nat.le_refl _, Keys.refl _ _⟩
    · exact wp_label ⟨rfl, x, rfl, hst, Step.refl B x, Nat.le_refl _, Keys.refl _ _⟩
  | .reg id xs d, c, hc, st, x, a, o, stF, hr, hst => by
    cases c <;> simp only [chkCode, Bool.false_eq_true] at hc
    simp only [Bool.and_eq_true, beq_iff_eq] at hc
    obtain ⟨⟨rfl, h2⟩, h3⟩ := hc
    simp only [execC] at hr
    cases hh : runReg C inl fid _ xs d st with
    | none => rw [hh] at hr; cases hr
    | some st' =>
      rw [hh] at hr
      simp only [Option.map_some, Option.some.injEq, Prod.mk.injEq] at hr
      obtain ⟨rfl, rfl⟩ := hr
      exact reg_wp ok hin hLd h2 h3 hh hst
  | .seq p q, c, hc, st, x, a, o, stF, hr, hst => by
    cases c <;> simp only [chkCode, Bool.false_eq_true] at hc
    rename_i c1 c2
    simp only [Bool.and_eq_true] at hc
    simp only [execC] at hr
    refine wp_seq ?_
    cases h1 : execC C inl fid p st with
    | none => rw [h1] at hr; cases hr
    | some r =>
      obtain ⟨o1, st1⟩ := r
      have ih := exec_wp ok hin hLd p c1 hc.1 st x a o1 st1 h1 hst
      rw [h1] at hr
      refine wp_mono ih ?_
      rintro e a' w' ⟨rfl, y, rfl, hy, hstp, hnc, hk⟩
      cases o1 with
      | nrm =>
        simp only at hr
        simp only [Out.conc, Exit.then]
        refine wp_mono (exec_wp ok hin hLd q c2 hc.2 st1 y a' o stF hr hy) ?_
        rintro e2 a2 w2 ⟨rfl, z, rfl, hz, hstp2, hnc2, hk2⟩
        exact ⟨rfl, z, rfl, hz, hstp.trans hstp2, Nat.le_trans hnc hnc2, hk.trans hk2 hnc⟩
      | ext i =>
        simp only [Option.some.injEq, Prod.mk.injEq] at hr
        obtain ⟨rfl, rfl⟩ := hr
        exact ⟨rfl, y, rfl, hy, hstp, hnc, hk⟩
      | ret =>
        simp only [Option.some.injEq, Prod.mk.injEq] at hr
        obtain ⟨rfl, rfl⟩ := hr
        exact ⟨rfl, y, rfl, hy, hstp, hnc, hk⟩
  | .cond k p q, c, hc, st, x, a, o, stF, hr, hst => by
    cases c <;> simp only [chkCode, Bool.false_eq_true] at hc
    rename_i k' c1 c2
    simp only [Bool.and_eq_true] at hc
    simp only [execC] at hr
    split at hr
    · rename_i t e
      have hk := hst.args k' k hc.1.1
      rw [e] at hk
      refine wp_cond (V_bool hk) ?_
      cases t with
      | true => simp only [if_true] at hr ⊢; exact exec_wp ok hin hLd p c1 hc.1.2 st x a o stF hr hst
      | false => simp only [Bool.false_eq_true, if_false] at hr ⊢; exact exec_wp ok hin hLd q c2 hc.2 st x a o stF hr hst
    · cases hr
  | .block id p, c, hc, st, x, a, o, stF, hr, hst => by
    cases c <;> simp only [chkCode, Bool.false_eq_true] at hc
    rename_i id' c1
    simp only [Bool.and_eq_true, beq_iff_eq] at hc
    obtain ⟨rfl, hc⟩ := hc
    simp only [execC] at hr
    refine wp_block ?_
    cases h1 : execC C inl fid p st with
    | none => rw [h1] at hr; cases hr
    | some r =>
      obtain ⟨o1, st1⟩ := r
      rw [h1] at hr
      refine wp_mono (exec_wp ok hin hLd p c1 hc st x a o1 st1 h1 hst) ?_
      rintro e a' w' ⟨rfl, y, rfl, hy, hstp, hnc, hk⟩
      cases o1 with
      | nrm =>
        simp only [Option.some.injEq, Prod.mk.injEq] at hr
        obtain ⟨rfl, rfl⟩ := hr
        exact ⟨rfl, y, rfl, hy, hstp, hnc, hk⟩
      | ext i =>
        simp only at hr
        simp only [Out.conc, Exit.inBlock]
        split at hr
        · rename_i e
          simp only [Option.some.injEq, Prod.mk.injEq] at hr
          obtain ⟨rfl, rfl⟩ := hr
          rw [if_pos e]
          exact ⟨rfl, y, rfl, hy, hstp, hnc, hk⟩
        · rename_i e
          simp only [Option.some.injEq, Prod.mk.injEq] at hr
          obtain ⟨rfl, rfl⟩ := hr
          rw [if_neg e]
          exact ⟨rfl, y, rfl, hy, hstp, hnc, hk⟩
      | ret =>
        simp only [Option.some.injEq, Prod.mk.injEq] at hr
        obtain ⟨rfl, rfl⟩ := hr
        exact ⟨rfl, y, rfl, hy, hstp, hnc, hk⟩
  | .loop p, c, hc, st, x, a, o, stF, hr, hst => by
    cases c <;> simp only [chkCode, Bool.false_eq_true] at hc
    rename_i c1
    simp only [execC] at hr
    refine wp_loop_rounds fuelL ?_
    have go : ∀ (n : Nat) (st : St) (x : Ctx) (a : Act), iterN n (fun s => execC C inl fid p s) st = some (o, stF) → StOk nt B S0 st x a → Code.rounds P c1 (PostC nt B S0 x st.nc o stF) n a x.w := by
      intro n
      induction n with
      | zero => intro st x a h _; simp [iterN] at h
      | succ n ih =>
        intro st x a h hst
        simp only [iterN] at h
        rw [rounds_succ]
        cases h1 : execC C inl fid p st with
        | none => rw [h1] at h; cases h
        | some r =>
          obtain ⟨o1, st1⟩ := r
          rw [h1] at h
          refine wp_mono (exec_wp ok hin hLd p c1 hc st x a o1 st1 h1 hst) ?_
          rintro e a' w' ⟨rfl, y, rfl, hy, hstp, hnc, hk⟩
          cases o1 with
          | nrm =>
            simp only at h
            simp only [Out.conc, Exit.then]
            have hmono : ∀ (m : Nat) (a : Act) (w : World), Code.rounds P c1 (PostC nt B S0 y st1.nc o stF) m a w → Code.rounds P c1 (PostC nt B S0 x st.nc o stF) m a w := by
              intro m
              induction m with
              | zero => intro a w h; exact h
              | succ m ihm =>
                intro a w h
                rw [rounds_succ] at h ⊢
                refine wp_mono h ?_
                intro e a w h
                have hq : ∀ e a w, PostC nt B S0 y st1.nc o stF e a w → PostC nt B S0 x st.nc o stF e a w := by
                  rintro e a w ⟨rfl, z, rfl, hz, hs2, hn2, hk2⟩
                  exact ⟨rfl, z, rfl, hz, hstp.trans hs2, Nat.le_trans hnc hn2, hk.trans hk2 hnc⟩
                cases e with
                | normal => exact ihm a w h
                | exit i => exact hq _ _ _ h
                | goto l => exact hq _ _ _ h
                | ret => exact hq _ _ _ h
                | panic ch => exact hq _ _ _ h
                | outgrown => exact hq _ _ _ h
            exact hmono n a' y.w (ih st1 y a' h hy)
          | ext i =>
            simp only [Option.some.injEq, Prod.mk.injEq] at h
            obtain ⟨rfl, rfl⟩ := h
            exact ⟨rfl, y, rfl, hy, hstp, hnc, hk⟩
          | ret =>
            simp only [Option.some.injEq, Prod.mk.injEq] at h
            obtain ⟨rfl, rfl⟩ := h
            exact ⟨rfl, y, rfl, hy, hstp, hnc, hk⟩
    exact go fuelL st x a hr hst
  | .exit id, c, hc, st, x, a, o, stF, hr, hst => by
    cases c <;> simp only [chkCode, Bool.false_eq_true] at hc
    simp only [beq_iff_eq] at hc
    subst hc
    simp only [execC, Option.some.injEq, Prod.mk.injEq] at hr
    obtain ⟨rfl, rfl⟩ := hr
    exact wp_exit ⟨rfl, x, rfl, hst, Step.refl B x, Nat.le_refl _, Keys.refl _ _⟩
  | .ret, c, hc, st, x, a, o, stF, hr, hst => by
    cases c <;> simp only [chkCode, Bool.false_eq_true] at hc
    simp only [execC, Option.some.injEq, Prod.mk.injEq] at hr
    obtain ⟨rfl, rfl⟩ := hr
    exact wp_ret ⟨rfl, x, rfl, hst, Step.refl B x, Nat.le_refl _, Keys.refl _ _⟩

/-! ### a function -/
def resM (tmps : Array Value) : ResultVar → Sem Value
  | .tmp t => pure (tmps.getD t undef)
  | .cell c t => do loadVar t (← asAddr (tmps.getD c undef))
theorem results_eq (fn : Func) (tmps : Array Value) : results fn tmps = (do let vs ← fn.results.mapM (resM tmps); pure (if h : vs.size = 1 then vs[0] else .tuple vs)) := rfl

theorem resR_ok {st : St} {x : Ctx} {a : Act} (hst : StOk nt B S0 st x a) {r : ResultVar} {xr : XRes} {v : AVal} (hc : chkRes P [r] [xr] = true) (hr : resR st xr = some v) :
    ∃ u, (resM a.tmps r).run P x.w = .ok u x.w ∧ V x v u := by
  cases r with
  | tmp t =>
    cases xr with
    | cell _ _ _ => simp [chkRes] at hc
    | tmp t' =>
      simp only [chkRes, Bool.and_true, beq_iff_eq] at hc
      subst hc
      simp only [resR, Option.some.injEq] at hr
      subst hr
      exact ⟨_, rfl, hst.tm t⟩
  | cell c t =>
    cases xr with
    | tmp _ => simp [chkRes] at hc
    | cell c' agg n =>
      simp only [chkRes, Bool.and_true, Bool.and_eq_true, beq_iff_eq, decide_eq_true_eq] at hc
      obtain ⟨⟨rfl, hagg⟩, hn⟩ := hc
      simp only [resR] at hr
      have hv := hst.tm c
      unfold loadR at hr
      split at hr
      · rename_i k g i es off e
        rw [e] at hv
        simp only [V] at hv
        obtain ⟨bb, oo, hρ, ha⟩ := hv
        rw [Rd.run_get] at hr
        cases hk : st.hp k with
        | none => rw [hk] at hr; cases hr
        | some blk =>
          rw [hk] at hr
          simp only [Rd.run_ofO] at hr
          cases hcs : blk.cs g i es with
          | none => rw [hcs] at hr; cases hr
          | some cs =>
            rw [hcs] at hr
            simp only [Option.bind_some] at hr
            obtain ⟨_, hcv⟩ := cs_ok hst.sim hk hρ hcs
            obtain ⟨u, hu, hvu⟩ := run_loadVar_ok (P := P) hagg hn hcv hr
            refine ⟨u, ?_, hvu⟩
            simp only [resM, ha, asAddr, Sem.run_bind, Sem.run_pure, Result.andThen_ok, hu]
      · rename_i cs off e
        rw [e] at hv
        simp only [V] at hv
        obtain ⟨bb, oo, ha, hS, hcv⟩ := hv
        rw [Rd.run_ofO] at hr
        obtain ⟨u, hu, hvu⟩ := run_loadVar_ok (P := P) hagg hn hcv hr
        refine ⟨u, ?_, V_grow (Grow.unbare x) _ _ hvu⟩
        have hu' : (loadVar t ⟨bb, oo + off, none⟩).run P x.w = .ok u x.w := hu
        simp only [resM, ha, asAddr, Sem.run_bind, Sem.run_pure, Result.andThen_ok, hu']
      · cases hr

theorem resL_ok {st : St} {x : Ctx} {a : Act} (hst : StOk nt B S0 st x a) : ∀ {rs : List ResultVar} {xs : List XRes} {vs : List AVal}, chkRes P rs xs = true → resL st xs = some vs →
    ∃ us, (rs.mapM (resM a.tmps)).run P x.w = .ok us x.w ∧ VL x vs us
  | [], [], vs, _, hr => by
    simp only [resL, Option.some.injEq] at hr
    subst hr
    exact ⟨[], by simp, by simp [VL]⟩
  | [], _ :: _, vs, hc, hr => by simp [chkRes] at hc
  | r :: _, [], vs, hc, hr => by cases r <;> simp [chkRes] at hc
  | r :: rs, xr :: xs, vs, hc, hr => by
    simp only [resL] at hr
    cases h1 : resR st xr with
    | none => rw [h1] at hr; cases hr
    | some v =>
      cases h2 : resL st xs with
      | none => rw [h1, h2] at hr; cases hr
      | some vs' =>
        rw [h1, h2] at hr
        simp only [Option.some.injEq] at hr
        subst hr
        have hc1 : chkRes P [r] [xr] = true ∧ chkRes P rs xs = true := by
          cases r <;> cases xr <;> simp only [chkRes, Bool.and_eq_true, Bool.and_true, Bool.false_eq_true] at hc ⊢ <;> exact hc
        obtain ⟨u, hu, hvu⟩ := resR_ok hst hc1.1 h1
        obtain ⟨us, hus, hvus⟩ := resL_ok hst hc1.2 h2
        refine ⟨u :: us, ?_, by simp only [VL]; exact ⟨u, us, rfl, hvu, hvus⟩⟩
        simp only [List.mapM_cons, Sem.run_bind, hu, Result.andThen_ok, hus, Sem.run_pure]

theorem V_one {x : Ctx} {vs : List AVal} {us : List Value} (h : VL x vs us) : V x (one vs) (if h : us.toArray.size = 1 then us.toArray[0] else .tuple us.toArray) := by
  have hl := h.length
  match vs, us, hl with
  | [], [], _ => simp only [one, V]; exact ⟨[], rfl, h⟩
  | [v], [u], _ =>
    obtain ⟨u', e, hv⟩ := VL.head h
    cases e
    simpa [one] using hv
  | v :: v' :: vs, u :: u' :: us, _ =>
    have : one (v :: v' :: vs) = .tup (v :: v' :: vs) := rfl
    rw [this, dif_neg (by simp)]
    simp only [V]
    exact ⟨_, rfl, h⟩

theorem inl_ok (ok : CfgOk P C) (hLd : Laid P S0.w0) : ∀ d, InlOk P B S0 (inlD C d) := by
  intro d
  induction d with
  | zero => intro g as h nc v h' nc' hr; simp [inlD] at hr
  | succ d ih =>
    intro g as h nc v h' nc' hr x vs hs hl
    simp only [inlD] at hr
    cases hx : C.xf g with
    | none => rw [hx] at hr; cases hr
    | some xf =>
      rw [hx] at hr
      obtain ⟨fn, hfn, hck⟩ := ok.xf g xf hx
      unfold chkF at hck
      simp only [Bool.and_eq_true, Bool.not_eq_true', beq_iff_eq, decide_eq_true_eq] at hck
      obtain ⟨⟨⟨⟨⟨hname, hnt⟩, hnp⟩, hle⟩, hres⟩, hbody⟩ := hck
      cases hb : fn.body with
      | none => rw [hb] at hbody; cases hbody
      | some c =>
        rw [hb] at hbody
        simp only [execF] at hr
        split at hr
        · rename_i hlen
          have hvl := hl.length
          have hrun : (callFunc g vs.toArray).run P x.w = .ok (.enter g vs.toArray) x.w := by
            simp only [callFunc, Sem.run_bind, run_program, Result.andThen_ok, hfn, hname, hb]
            simp
          refine .inl ⟨hrun, ?_⟩
          have hst : StOk xf.nt B S0 ⟨tm0 as, h, nc⟩ x { tmps := vs.toArray ++ Array.replicate (fn.ntmps - vs.toArray.size) undef, defers := [] } := by
            refine ⟨hs, ?_, ?_, rfl⟩
            · simp only [Array.size_append, List.size_toArray, Array.size_replicate]
              omega
            · intro t
              simp only [tm0]
              rw [Array.getD_eq_getD_getElem?]
              by_cases ht : t < as.length
              · obtain ⟨u, hu, hvu⟩ := hl.get (List.getElem?_eq_getElem ht)
                rw [List.getElem?_eq_getElem ht]
                rw [Array.getElem?_append_left (by simp; omega)]
                have : vs.toArray[t]? = some u := by simpa using hu
                rw [this]
                exact hvu
              · rw [List.getElem?_eq_none (by omega)]
                simp only [Option.getD_none, V]
                rw [Array.getElem?_append_right (by simp; omega)]
                rw [Array.getElem?_replicate]
                split <;> rfl
          have hend : ∀ (stF : St) (o : Out), (o = .nrm ∨ o = .ret) → execC C (inlD C d) g xf.body ⟨tm0 as, h, nc⟩ = some (o, stF) → ((resL stF xf.res).map fun vs => (one vs, stF.hp, stF.nc)) = some (v, h', nc') →
              Calls P g vs.toArray x.w fun e w' => ∃ u, e = .returned u ∧ ∃ y, y.w = w' ∧ Sim B S0 h' nc' y ∧ V y v u ∧ Step B x y ∧ nc ≤ nc' ∧ ∀ k g p, y.ρ k g = some p → (∃ g' p', x.ρ k g' = some p') ∨ nc ≤ k.2 := by
            intro stF o ho hex hrr
            cases hrl : resL stF xf.res with
            | none => rw [hrl] at hrr; cases hrr
            | some rvs =>
              rw [hrl] at hrr
              simp only [Option.map_some, Option.some.injEq, Prod.mk.injEq] at hrr
              obtain ⟨rfl, rfl, rfl⟩ := hrr
              refine calls_of_wp hfn hb (wp_mono (exec_wp ok ih hLd xf.body c hbody _ x _ o stF hex hst) ?_)
              rintro e a' w' ⟨rfl, y, rfl, hy, hstp, hnc, hk⟩
              obtain ⟨us, hus, hvus⟩ := resL_ok (P := P) hy hres hrl
              have hres' : (results fn a'.tmps).run P y.w = .ok (if h : us.toArray.size = 1 then us.toArray[0] else .tuple us.toArray) y.w := by
                rw [results_eq, Sem.run_bind, Array.mapM_eq_mapM_toList, Sem.run_map, hus]
                simp only [Result.andThen_ok, Sem.run_pure]
              have hfin : a'.defers = [] ∧ ∃ v, (results fn a'.tmps).run P y.w = .ok v y.w ∧ ∃ u, Ending.returned v = .returned u ∧ ∃ z, z.w = y.w ∧ Sim B S0 stF.hp stF.nc z ∧ V z (one rvs) u ∧ Step B x z ∧ nc ≤ stF.nc ∧ ∀ k g p, z.ρ k g = some p → (∃ g' p', x.ρ k g' = some p') ∨ nc ≤ k.2 :=
                ⟨hy.dfr, _, hres', _, rfl, y, rfl, hy.sim, V_one hvus, hstp, hnc, hk⟩
              rcases ho with rfl | rfl
              · exact hfin
              · exact hfin
          split at hr
          · rename_i st e
            exact hend st .nrm (.inl rfl) e hr
          · rename_i st e
            exact hend st .ret (.inr rfl) e hr
          · cases hr
        · cases hr


/-- A function of values: sound, if the interpreter says so. -/
theorem sound_of (ok : CfgOk P C) (d : Nat) {f : FuncId} {F : List AVal → Option AVal} (hF : ∀ as r, F as = some r → pureF C d f as = some r) : Sound P f F := by
  intro as r hr w S vs hS hL hl
  have h1 := hF as r hr
  unfold pureF at h1
  cases h2 : inlD C d f as (fun _ => none) 0 with
  | none => rw [h2] at h1; cases h1
  | some q =>
    obtain ⟨v, h, nc⟩ := q
    rw [h2] at h1
    simp only at h1
    cases h3 : (lend freeze v).run h with
    | none => rw [h3] at h1; cases h1
    | some p =>
      obtain ⟨r', ks⟩ := p
      rw [h3] at h1
      simp only [Option.map_some, Option.some.injEq] at h1
      subst h1
      let x : Ctx := { w := w, S := mkS w.heap.size ⟨S, w⟩ (fun _ => none) w ρ0, ρ := ρ0 }
      have g0 : Grow (ctx0 w S) x := ⟨fun b hb => .inl hb, fun _ _ => rfl, fun _ _ _ hp => hp, fun _ => Nat.le_refl _⟩
      have hs : Sim w.heap.size ⟨S, w⟩ (fun _ => none) 0 x := ⟨hS, Nat.le_refl _, (fun k blk hk => by cases hk), (fun k k' blk blk' b o o' hk => by cases hk), rfl, (fun k g p hp => by cases hp), (fun k blk g p hk => by cases hk), ⟨rfl, fun _ _ => rfl, SameEnv.refl _⟩⟩
      refine (inl_ok (S0 := ⟨S, w⟩) ok hL d f as (fun _ => none) 0 v h nc h2 x vs hs (VL_grow g0 _ _ hl)).mono ?_
      rintro u w' ⟨y, rfl, hs', hv, hstp, _, _⟩
      refine ⟨hstp.size, hstp.below, hstp.env, ?_⟩
      let y2 : Ctx := { y with S := fun b => S b ∨ (w.heap.size ≤ b ∧ b < y.w.heap.size) }
      have g1 : Grow y y2 := by
        refine ⟨fun b hb => ?_, fun _ _ => rfl, fun _ _ _ hp => hp, fun _ => Nat.le_refl _⟩
        rw [hs'.S] at hb
        rcases hb with hb | ⟨h4, h5, _⟩
        · exact .inl hb
        · exact .inr ⟨h4, h5⟩
      have := lend_ok (y := y2) hs' g1 rfl (KS := fun _ => True) (fun k _ blk b oo hk hρ => by
        obtain ⟨b', o', e1, e2, e3, _⟩ := hs'.live k blk hk
        rw [hρ] at e1
        cases e1
        exact .inr ⟨e2, e3⟩) freeze v r' ks h3 (fun _ _ => trivial)
      exact this.1 u hv

theorem VC_noref {c c' : Ctx} (hw : c'.w = c.w) : ∀ (xs : List AVal) (b o : Nat), hasRefL xs = false → VC c xs b o → VC c' xs b o
  | [], b, o, _, _ => by simp only [VC]
  | a :: xs, b, o, hr, h => by
    simp only [hasRefL, Bool.or_eq_false_iff] at hr
    simp only [VC] at h ⊢
    obtain ⟨⟨v, hv, h1⟩, h2⟩ := h
    exact ⟨⟨v, by rw [hw]; exact hv, V_noref a v hr.1 h1⟩, VC_noref hw xs b (o + 1) hr.2 h2⟩
theorem VE_noref {c c' : Ctx} (hw : c'.w = c.w) (es : Nat) (a : AVal) (b o : Nat) (hr : hasRef a = false) (h : VE c es a b o) : VE c' es a b o := by
  cases a with
  | agg ys =>
    simp only [VE] at h ⊢
    simp only [hasRef] at hr
    exact ⟨h.1, VC_noref hw ys b o hr h.2⟩
  | _ =>
    simp only [VE] at h ⊢
    obtain ⟨h1, v, hv, h2⟩ := h
    exact ⟨h1, v, by rw [hw]; exact hv, V_noref _ v hr h2⟩
theorem VR_noref {c c' : Ctx} (hw : c'.w = c.w) (es : Nat) : ∀ (xs : List AVal) (b o : Nat), hasRefL xs = false → VR c es xs b o → VR c' es xs b o
  | [], b, o, _, _ => by simp only [VR]
  | a :: xs, b, o, hr, h => by
    simp only [hasRefL, Bool.or_eq_false_iff] at hr
    simp only [VR] at h ⊢
    exact ⟨VE_noref hw es a b o hr.1 h.1, VR_noref hw es xs b (o + es) hr.2 h.2⟩
/-- A function that answers a row of its own: sound, if the interpreter says so. -/
theorem soundN_of (ok : CfgOk P C) (d : Nat) {f : FuncId} {F : List AVal → Option (Option (Nat × List AVal))} (hF : ∀ as r, F as = some r → ∃ v h nc, inlD C d f as (fun _ => none) 0 = some (v, h, nc) ∧ match r with
    | none => v = .nils
    | some p => ∃ k g, v = .sl k g p.1 0 p.2.length ∧ h k = some (.row g p.1 p.2)) : SoundN P f F := by
  intro as r hr w S vs hS hL hl
  obtain ⟨v, h, nc, h2, h3⟩ := hF as r hr
  let x : Ctx := { w := w, S := mkS w.heap.size ⟨S, w⟩ (fun _ => none) w ρ0, ρ := ρ0 }
  have g0 : Grow (ctx0 w S) x := ⟨fun b hb => .inl hb, fun _ _ => rfl, fun _ _ _ hp => hp, fun _ => Nat.le_refl _⟩
  have hs : Sim w.heap.size ⟨S, w⟩ (fun _ => none) 0 x := ⟨hS, Nat.le_refl _, (fun k blk hk => by cases hk), (fun k k' blk blk' b o o' hk => by cases hk), rfl, (fun k g p hp => by cases hp), (fun k blk g p hk => by cases hk), ⟨rfl, fun _ _ => rfl, SameEnv.refl _⟩⟩
  refine (inl_ok (S0 := ⟨S, w⟩) ok hL d f as (fun _ => none) 0 v h nc h2 x vs hs (VL_grow g0 _ _ hl)).mono ?_
  rintro u w' ⟨y, rfl, hs', hv, hstp, _, _⟩
  refine ⟨hstp.size, hstp.below, hstp.env, ?_⟩
  cases r with
  | none =>
    simp only at h3
    subst h3
    simpa only [V] using hv
  | some p =>
    obtain ⟨es, xs⟩ := p
    obtain ⟨k, g, rfl, hk⟩ := h3
    simp only [V] at hv
    obtain ⟨b, o, a, cap, hρ, rfl, hcap, ha, hsz, hsp⟩ := hv
    obtain ⟨b', o', h4, h5, h6, c, e, h7, _, h8⟩ := hs'.live k _ hk
    have h4' : y.ρ k g = some (b', o') := h4
    rw [hρ] at h4'
    cases h4'
    rw [Nat.zero_mul, Nat.add_zero] at ha
    rw [Nat.zero_add] at hsz
    simp only [Go.Xec.bsz, h7] at hsz
    exact ⟨b, o, a, cap, c, e, rfl, ha, hsp, h5, h6, h7, hcap, hsz, fun href y' hy' => VR_noref hy' es xs b o href h8⟩
end
end Go.Xec
