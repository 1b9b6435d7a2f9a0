/-
  Each operation that is checked does in the machine what the interpreter says.
-/
import Derived.Test.YtppehejnnjlkfaaGreatDoorXKa
set_option linter.unusedVariables false
set_option linter.unusedSimpArgs false
namespace Go.Xec
open Go

section
variable {P : Program} {B : Nat} {S0 : Base} {ρc : Operand → Value} {o : Oper} {x : Ctx} {h : Heap} {nc : Nat} {key : Key} {e : XArg → AVal}

theorem split_pure {α : Type} {h : Heap} {a : Option α} {f : α → AVal} {v : AVal} {ws : Wr} (hr : ((Rd.ofO a).bind fun b => Rd.ret (f b, ([] : Wr))).run h = some (v, ws)) : ∃ b, a = some b ∧ v = f b ∧ ws = [] := by
  rw [Rd.run_bind, Rd.run_ofO] at hr
  cases a with
  | none => cases hr
  | some b => simp only [Option.bind_some, Rd.run_ret, Option.some.injEq, Prod.mk.injEq] at hr; exact ⟨b, rfl, hr.1.symm, hr.2.symm⟩

theorem split_bool {h : Heap} {a : Option Bool} {neg : Bool} {v : AVal} {ws : Wr} (hr : ((Rd.ofO a).bind fun b => Rd.ret (AVal.bool (if neg then !b else b), ([] : Wr))).run h = some (v, ws)) : ∃ b, a = some b ∧ v = AVal.bool (if neg then !b else b) ∧ ws = [] :=
  split_pure (f := fun b => AVal.bool (if neg then !b else b)) hr

theorem ret_inv {h : Heap} {a : AVal} {b : Wr} {v : AVal} {ws : Wr} (hr : (Rd.ret (a, b)).run h = some (v, ws)) : v = a ∧ ws = b := by
  simp only [Rd.run_ret, Option.some.injEq, Prod.mk.injEq] at hr; exact ⟨hr.1.symm, hr.2.symm⟩

theorem op_ok2 {xo : XOp} {op : Op} (hcv : ∀ v, ρc (.const v) = v) (hce : ∀ a, e (.c a) = a) (ho : o.op = op) (hc : chkOp2 P op xo = true) (he : ArgsOk x ρc e) (hs : Sim B S0 h nc x) (hk : key.2 < nc) (hfresh : ∀ g, x.ρ key g = none) {v : AVal} {ws : Wr} (hr : (opR key xo e).run h = some (v, ws)) :
    OpOk P B S0 ρc o x (applyW h ws) nc key v := by
  unfold chkOp2 at hc
  split at hc
  · simp [opR, Rd.run] at hr
  · simp only [Bool.and_eq_true] at hc
    obtain ⟨h1, h2⟩ := hc
    split at h1
    · rename_i u hsl hd
      split at h1
      · rename_i hu
        exact ok_b2s hs ho (he _ _ h2) hsl hd hu hr
      · cases h1
    · cases h1
  · simp only [Bool.and_eq_true] at hc
    obtain ⟨h1, h2⟩ := hc
    split at h1
    · rename_i ht
      simp only [opR] at hr
      split at hr
      · rename_i s hx
        obtain ⟨rfl, rfl⟩ := ret_inv hr
        have := he _ _ h2
        rw [hx] at this
        exact ok_rngS hs hk hfresh ho ht this
      · cases hr
    · cases h1
  · exact ok_nxtS hs ho (he _ _ hc) hr
  · obtain ⟨rfl, rfl⟩ := ret_inv hr
    exact ok_mkM hs hk hfresh ho
  · simp only [Bool.and_eq_true] at hc
    obtain ⟨⟨⟨h1, h2⟩, h3⟩, h4⟩ := hc
    split at h1
    · rename_i kt et ht
      simp only [Bool.and_eq_true] at h1
      unfold chkZ1 at h1
      split at h1
      · rename_i z hz
        have h2 := eq_of_beq h2
        subst h2
        exact ok_lkp hs ho ht h1.1 hz h1.2 (he _ _ h3) (he _ _ h4) hr
      · cases h1.2
    · cases h1
  · simp only [Bool.and_eq_true] at hc
    obtain ⟨⟨⟨h1, h2⟩, h3⟩, h4⟩ := hc
    split at h1
    · rename_i kt et ht
      exact ok_mset hs ho ht h1 (he _ _ h2) (he _ _ h3) (he _ _ h4) hr
    · cases h1
  · simp only [Bool.and_eq_true] at hc
    obtain ⟨⟨h1, h3⟩, h4⟩ := hc
    split at h1
    · rename_i kt et ht
      simp only [Bool.and_eq_true] at h1
      unfold chkZ1 at h1
      split at h1
      · rename_i z hz
        exact ok_ment hs ho ht h1.1 hz h1.2 (he _ _ h3) (he _ _ h4) hr
      · cases h1.2
    · cases h1
  · simp only [Bool.and_eq_true] at hc
    exact ok_msto hs ho (he _ _ hc.1.1) (he _ _ hc.1.2) (he _ _ hc.2) hr
  · cases hc

set_option maxHeartbeats 1600000 in
theorem op_ok {xo : XOp} (hcv : ∀ v, ρc (.const v) = v) (hce : ∀ a, e (.c a) = a) (hc : chkOp P o.op xo = true) (he : ArgsOk x ρc e) (hs : Sim B S0 h nc x) (hk : key.2 < nc) (hfresh : ∀ g, x.ρ key g = none) {v : AVal} {ws : Wr} (hr : (opR key xo e).run h = some (v, ws)) :
    OpOk P B S0 ρc o x (applyW h ws) nc key v := by
  generalize ho : o.op = op at hc
  unfold chkOp at hc
  split at hc
  · obtain ⟨rfl, rfl⟩ := ret_inv hr
    exact ok_mv hs (.inl ho) (he _ _ hc)
  · obtain ⟨rfl, rfl⟩ := ret_inv hr
    exact ok_mv hs (.inr ho) (he _ _ hc)
  · simp only [Bool.and_eq_true] at hc
    simp only [opR] at hr
    split at hr
    · rename_i ht
      obtain ⟨rfl, rfl⟩ := ret_inv hr
      have hcc := he _ _ hc.1.1
      rw [ht] at hcc
      exact ok_pick hs ho hcc (he _ _ hc.1.2) (he _ _ hc.2)
    · cases hr
  · -- alloc
    split at hc
    · rename_i z hz
      obtain ⟨rfl, rfl⟩ := ret_inv hr
      exact ok_alloc hs hk hfresh ho hz hc
    · cases hc
  · -- box
    simp only [opR] at hr
    split at hr
    · rename_i hsc
      obtain ⟨rfl, rfl⟩ := ret_inv hr
      exact ok_box hs hk hfresh ho (he _ _ hc) hsc
    · cases hr
  · -- build
    simp only [opR] at hr
    split at hr
    · rename_i cs hcs
      obtain ⟨rfl, rfl⟩ := ret_inv hr
      split at hc
      · rename_i fs z ht hz
        simp only [Bool.and_eq_true] at hc
        exact ok_buildS hs ho ht hz hc.1.1 hc.1.2 (chkPartsS_ok he hc.2) hcs
      · rename_i n et z ht hz
        split at hc
        · rename_i s hsz
          simp only [Bool.and_eq_true] at hc
          exact ok_buildA hs ho ht hz hc.1 hsz (chkPartsA_ok he hc.2) hcs
        · cases hc
      · cases hc
    · cases hr
  · -- buildSlice
    simp only [opR] at hr
    split at hr
    · rename_i xs hxs
      obtain ⟨rfl, rfl⟩ := ret_inv hr
      split at hc
      · rename_i et ht
        simp only [Bool.and_eq_true, decide_eq_true_eq, beq_iff_eq] at hc
        obtain ⟨⟨⟨⟨h1, rfl⟩, h3⟩, h4⟩, h5⟩ := hc
        unfold chkZ at h4
        split at h4
        · rename_i z hz
          simp only [Bool.and_eq_true, decide_eq_true_eq, beq_iff_eq] at h4
          exact ok_mkslice hs hk hfresh ho ht h1 h3 hz h4.1.1 h4.1.2 h4.2 (chkPartsE_ok he h5) hxs
        · cases h4
      · cases hc
    · cases hr
  · -- load
    simp only [Bool.and_eq_true, decide_eq_true_eq] at hc
    simp only [opR] at hr
    rw [Rd.run_bind] at hr
    cases hl : (loadR _ _ _).run h with
    | none => rw [hl] at hr; cases hr
    | some u =>
      rw [hl, Option.bind_some] at hr
      obtain ⟨rfl, rfl⟩ := ret_inv hr
      exact ok_load hs ho (he _ _ hc.2) hc.1.1 hc.1.2 hl
  · -- store
    simp only [Bool.and_eq_true, decide_eq_true_eq] at hc
    exact ok_store hs ho (he _ _ hc.1.2) (he _ _ hc.2) hc.1.1 hr
  · -- bin
    simp only [Bool.and_eq_true, decide_eq_true_eq] at hc
    obtain ⟨⟨⟨rfl, h2⟩, h3⟩, h4⟩ := hc
    obtain ⟨hv, rfl⟩ := run_pureR hr
    exact ok_bin hs ho (he _ _ h2) (he _ _ h3) h4 hv
  · -- eqB
    simp only [Bool.and_eq_true, decide_eq_true_eq] at hc
    obtain ⟨⟨⟨h1, h2⟩, h3⟩, h4⟩ := hc
    simp only [opR] at hr
    split at hr
    · rename_i ea eb
      obtain ⟨rfl, rfl⟩ := ret_inv hr
      split at h4
      · rename_i ht
        have a1 := he _ _ h2
        have a2 := he _ _ h3
        rw [ea] at a1
        rw [eb] at a2
        exact ok_eqB hs ho h1 a1 a2 ht
      · cases h4
    · cases hr
  · -- eqN
    simp only [Bool.and_eq_true, decide_eq_true_eq] at hc
    obtain ⟨⟨h1, h2⟩, h3⟩ := hc
    obtain ⟨r, hv, rfl, rfl⟩ := split_bool hr
    split at h3
    · rename_i et ht
      simp only [beq_iff_eq] at h3
      subst h3
      exact ok_eqN hs ho h1 (he _ _ h2) (hcv _) (.inl ⟨rfl, ⟨_, ht⟩, rfl⟩) hv
    · rename_i et ht
      simp only [beq_iff_eq] at h3
      subst h3
      exact ok_eqN hs ho h1 (he _ _ h2) (hcv _) (.inr (.inl ⟨rfl, ⟨_, ht⟩, rfl⟩)) hv
    · rename_i et ht
      simp only [beq_iff_eq] at h3
      subst h3
      exact ok_eqN hs ho h1 (he _ _ h2) (hcv _) (.inr (.inr ⟨rfl, ⟨_, ht⟩, rfl⟩)) hv
    · cases h3
  · -- eqA
    simp only [Bool.and_eq_true, decide_eq_true_eq, Bool.not_eq_true'] at hc
    obtain ⟨⟨⟨⟨⟨h1, h2⟩, h3⟩, h4⟩, h5⟩, h6⟩ := hc
    simp only [opR] at hr
    split at hr
    · rename_i ea eb
      obtain ⟨r, hv, rfl, rfl⟩ := split_bool hr
      split at h6
      · rename_i fs ht
        have a1 := he _ _ h2
        have a2 := he _ _ h3
        rw [ea] at a1
        rw [eb] at a2
        exact ok_eqA hs ho h1 a1 a2 ht h4 h5 hv
      · cases h6
    · cases hr
  · -- nilChk
    simp only [opR] at hr
    split at hr
    · rename_i hl
      obtain ⟨rfl, rfl⟩ := ret_inv hr
      exact ok_nilChk hs ho (he _ _ hc) hl
    · cases hr
  · -- un
    simp only [Bool.and_eq_true, decide_eq_true_eq] at hc
    obtain ⟨rfl, h2⟩ := hc
    obtain ⟨hv, rfl⟩ := run_pureR hr
    exact ok_un hs ho (he _ _ h2) hv
  · -- conv
    simp only [Bool.and_eq_true] at hc
    obtain ⟨⟨h1, h2⟩, h3⟩ := hc
    simp only [opR] at hr
    split at hr
    · rename_i ea
      obtain ⟨rfl, rfl⟩ := ret_inv hr
      split at h1
      · rename_i k' hd
        simp only [decide_eq_true_eq] at h1
        subst h1
        have a1 := he _ _ h3
        rw [ea] at a1
        exact ok_conv hs ho a1 hd h2
      · cases h1
    · cases hr
  · -- idS
    simp only [Bool.and_eq_true] at hc
    obtain ⟨h1, h2⟩ := hc
    simp only [opR] at hr
    split at hr
    · rename_i ea
      obtain ⟨rfl, rfl⟩ := ret_inv hr
      split at h1
      · rename_i hs1 hd1
        have a1 := he _ _ h2
        rw [ea] at a1
        exact ok_idS hs ho a1 hd1 hs1
      · cases h1
    · cases hr
  · -- fa
    obtain ⟨hv, rfl⟩ := run_pureR hr
    split at hc
    · rename_i fs ht
      split at hc
      · rename_i fd hf
        simp only [Bool.and_eq_true, beq_iff_eq] at hc
        obtain ⟨⟨h1, h2⟩, h3⟩ := hc
        split at h2
        · rename_i n hn
          simp only [decide_eq_true_eq] at h2
          exact ok_fa hs ho (he _ _ h3) ht hf h1 hn h2 hv
        · cases h2
      · cases hc
    · cases hc
  · -- fld
    split at hc
    · rename_i fs ht
      split at hc
      · rename_i fd hf
        simp only [Bool.and_eq_true, beq_iff_eq, decide_eq_true_eq] at hc
        obtain ⟨⟨⟨h1, h2⟩, h3⟩, h4⟩ := hc
        simp only [opR] at hr
        split at hr
        · rename_i ea
          obtain ⟨hv, rfl⟩ := run_pureR hr
          have a1 := he _ _ h4
          rw [ea] at a1
          exact ok_fld hs ho a1 ht hf h1 h2 h3 hv
        · cases hr
      · cases hc
    · cases hc
  · -- iaA
    obtain ⟨hv, rfl⟩ := run_pureR hr
    split at hc
    · rename_i m et ht
      simp only [Bool.and_eq_true, beq_iff_eq, decide_eq_true_eq] at hc
      obtain ⟨⟨⟨rfl, h2⟩, h3⟩, h4⟩ := hc
      exact ok_iaA hs ho (he _ _ h3) (he _ _ h4) ht h2 hv
    · cases hc
  · -- iaS
    obtain ⟨hv, rfl⟩ := run_pureR hr
    split at hc
    · rename_i et ht
      simp only [Bool.and_eq_true, decide_eq_true_eq] at hc
      obtain ⟨⟨h2, h3⟩, h4⟩ := hc
      exact ok_iaS hs ho (he _ _ h3) (he _ _ h4) ht h2 hv
    · cases hc
  · -- ixA
    obtain ⟨hv, rfl⟩ := run_pureR hr
    split at hc
    · rename_i m et ht
      simp only [Bool.and_eq_true, beq_iff_eq, decide_eq_true_eq] at hc
      obtain ⟨⟨⟨⟨rfl, h2⟩, h3⟩, h4⟩, h5⟩ := hc
      exact ok_ixA hs ho (he _ _ h4) (he _ _ h5) ht h2 h3 hv
    · cases hc
  · -- ixS
    obtain ⟨hv, rfl⟩ := run_pureR hr
    split at hc
    · rename_i ht
      simp only [Bool.and_eq_true] at hc
      exact ok_ixS hs ho (he _ _ hc.1) (he _ _ hc.2) ht hv
    · cases hc
  · -- mkS
    simp only [opR] at hr
    split at hr
    · rename_i el ec
      split at hr
      · rename_i hcond
        obtain ⟨rfl, rfl⟩ := ret_inv hr
        split at hc
        · rename_i et ht
          simp only [Bool.and_eq_true, decide_eq_true_eq] at hc
          obtain ⟨⟨⟨⟨⟨h1, h2⟩, h3⟩, h4⟩, h5⟩, h6⟩ := hc
          unfold chkZ at h4
          split at h4
          · rename_i z hz
            simp only [Bool.and_eq_true, decide_eq_true_eq, beq_iff_eq] at h4
            have a1 := he _ _ h5
            have a2 := he _ _ h6
            rw [el] at a1
            rw [ec] at a2
            exact ok_mkS hs hk hfresh ho a1 a2 ht h1 h2 h3 hz h4.1.1 h4.1.2 h4.2 hcond
          · cases h4
        · cases hc
      · cases hr
    · cases hr
  · -- slS
    obtain ⟨hv, rfl⟩ := run_pureR hr
    split at hc
    · rename_i ht
      simp only [Bool.and_eq_true] at hc
      exact ok_slS hs ho (he _ _ hc.1.1) (chkO_ok he hc.1.2) (chkO_ok he hc.2) ht hv
    · cases hc
  · -- slV
    obtain ⟨hv, rfl⟩ := run_pureR hr
    split at hc
    · rename_i t a lo hi mx es b lo' hi' mx' _ et ht
      simp only [Bool.and_eq_true, decide_eq_true_eq] at hc
      obtain ⟨⟨⟨⟨⟨h1, h2⟩, h3⟩, h4⟩, h5⟩, h6⟩ := hc
      cases mx with
      | none =>
        cases mx' with
        | none => exact ok_slV1 hs ho (he _ _ h2) (chkO_ok he h3) (chkO_ok he h4) ht h1 hv
        | some _ => cases h5
      | some m =>
        cases mx' with
        | none => cases h5
        | some m' =>
          simp only [chkO] at h5
          cases hi with
          | none =>
            cases hi' with
            | none => simp at h6
            | some _ => cases h4
          | some u =>
            cases hi' with
            | none => cases h4
            | some u' =>
              exact ok_slV3 hs ho (he _ _ h2) (chkO_ok he h3) (chkO_ok he h4) (he _ _ h5) (by simp) ht h1 hv
    · cases hc
  · -- slA
    simp only [opR] at hr
    split at hr
    · rename_i k es' ea
      rw [Rd.run_get] at hr
      split at hr
      · rename_i cells hkc
        split at hr
        · rename_i hle
          obtain ⟨hv, rfl⟩ := run_pureR hr
          split at hc
          · rename_i m et ht
            simp only [Bool.and_eq_true, beq_iff_eq, decide_eq_true_eq] at hc
            obtain ⟨⟨⟨⟨rfl, h2⟩, h3⟩, h4⟩, h5⟩ := hc
            have a1 := he _ _ h3
            rw [ea] at a1
            refine ok_slA hs ho a1 (chkO_ok he h4) (chkO_ok he h5) ht h2 hv ?_
            intro k2 es2 hk2 b oo hρ
            cases hk2
            obtain ⟨b', o', j1, j2, j3, j4⟩ := hs.live k _ hkc
            simp only [Blk.gen] at j1
            rw [hρ] at j1
            cases j1
            obtain ⟨rfl, c, el, hheap, hcsz, _⟩ := j4
            rw [bsz_of hheap]
            omega
          · cases hc
        · cases hr
      · cases hr
    · cases hr
  · -- extract
    simp only [Bool.and_eq_true, beq_iff_eq] at hc
    obtain ⟨rfl, h2⟩ := hc
    simp only [opR] at hr
    split at hr
    · rename_i ea
      obtain ⟨hv, rfl⟩ := run_pureR hr
      have a1 := he _ _ h2
      rw [ea] at a1
      exact ok_ext hs ho a1 hv
    · cases hr
  · -- makeFunc
    simp only [Bool.and_eq_true, decide_eq_true_eq] at hc
    obtain ⟨⟨rfl, h2⟩, h3⟩ := hc
    obtain ⟨rfl, rfl⟩ := ret_inv hr
    exact ok_mkf hs ho (chkArgs_ok he h2) (chkArgs_ok he h3)
  · -- makeInterface
    simp only [Bool.and_eq_true, beq_iff_eq] at hc
    obtain ⟨⟨rfl, h2⟩, h3⟩ := hc
    obtain ⟨rfl, rfl⟩ := ret_inv hr
    split at h3
    · rename_i d hd
      simp only [Bool.not_eq_true'] at h3
      exact ok_mki hs ho (he _ _ h2) hd h3
    · cases h3
  · -- call
    rename_i c xo _
    split at hc
    · simp [opR, Rd.run] at hr
    · cases hr
    · cases hr
    · cases hr
    · cases hr
    · -- delete
      rename_i hcal
      split at hc
      · rename_i h0 h1
        simp only [Bool.and_eq_true] at hc
        obtain ⟨⟨h2, h3⟩, h4⟩ := hc
        split at h2
        · rename_i kt et ht
          exact ok_mdel hs ho hcal h0 h1 ht h2 (he _ _ h3) (he _ _ h4) hr
        · cases h2
      · cases hc
    · -- len of a text
      rename_i hcal
      split at hc
      · rename_i h0 h1
        simp only [Bool.and_eq_true] at hc
        obtain ⟨h2, h3⟩ := hc
        split at h2
        · rename_i ht
          simp only [opR] at hr
          split at hr
          · rename_i ea
            obtain ⟨rfl, rfl⟩ := ret_inv hr
            have a1 := he _ _ h3
            rw [ea] at a1
            exact ok_lenS hs ho hcal h0 h1 a1 ht
          · cases hr
        · cases h2
      · cases hc
    · rename_i hcal
      split at hc
      · rename_i h0 h1
        simp only [Bool.and_eq_true] at hc
        obtain ⟨h2, h3⟩ := hc
        split at h2
        · rename_i ht
          obtain ⟨hv, rfl⟩ := run_pureR hr
          exact ok_lenV hs ho hcal h0 h1 (he _ _ h3) ht hv
        · cases h2
      · cases hc
    · rename_i hcal
      split at hc
      · rename_i h0 h1
        split at hc
        · rename_i ht
          simp only [decide_eq_true_eq] at hc
          subst hc
          obtain ⟨rfl, rfl⟩ := ret_inv hr
          rw [hce]
          exact ok_lenA hs ho hcal h0 h1 ht
        · cases hc
      · cases hc
    · -- append
      rename_i hcal
      split at hc
      · rename_i t0 t1 a0 a1 h0 h1 h2 h3
        simp only [Bool.and_eq_true] at hc
        obtain ⟨⟨⟨q1, q2⟩, q3⟩, q4⟩ := hc
        split at q1
        · rename_i et ht
          simp only [Bool.and_eq_true, decide_eq_true_eq] at q1
          obtain ⟨⟨⟨⟨p1, p2⟩, p3⟩, p4⟩, p5⟩ := q1
          split at p5
          · rename_i z hz
            simp only [beq_iff_eq] at p5
            cases hd2 : P.underlying t1 with
            | none => rw [hd2] at q2; cases q2
            | some d2 =>
              rw [hd2] at q2
              have hni : ∀ k, d2 ≠ .int k := by
                rintro k rfl
                cases q2
              exact ok_app hs hk hfresh ho hcal h0 h1 h2 h3 (he _ _ q3) (he _ _ q4) ht hd2 hni p1 p2 p3 p4 hz p5 hr
          · cases p5
        · cases q1
      · cases hc
    · -- copy
      rename_i hcal
      split at hc
      · rename_i t0 a0 a1 h0 h2 h3
        simp only [Bool.and_eq_true] at hc
        obtain ⟨⟨q1, q3⟩, q4⟩ := hc
        split at q1
        · rename_i et ht
          simp only [Bool.and_eq_true, decide_eq_true_eq] at q1
          exact ok_cpy hs ho hcal h0 h2 h3 (he _ _ q3) (he _ _ q4) ht q1.1 q1.2 hr
        · cases q1
      · cases hc
    · rename_i hcal
      split at hc
      · rename_i a as hargs
        simp only [Bool.and_eq_true] at hc
        obtain ⟨hv, rfl⟩ := run_pureR hr
        exact ok_mnx (isMax := true) hs ho hcal hargs (he _ _ hc.1) (chkArgs_ok he hc.2) hv
      · cases hc
    · rename_i hcal
      split at hc
      · rename_i a as hargs
        simp only [Bool.and_eq_true] at hc
        obtain ⟨hv, rfl⟩ := run_pureR hr
        exact ok_mnx (isMax := false) hs ho hcal hargs (he _ _ hc.1) (chkArgs_ok he hc.2) hv
      · cases hc
    · cases hc
  · exact op_ok2 hcv hce ho hc he hs hk hfresh hr

end
end Go.Xec
