/-
  Regions: in the text's order, and in whatever order their edges allow.
-/
import Derived.Test.YtppehejnnjlkfaaGreatDoorXM
set_option linter.unusedVariables false
set_option linter.unusedSimpArgs false
namespace Go.Xec
open Go

/-! ### what a reading program reads -/
theorem Rd.frame {α : Type} {h h' : Heap} : ∀ (r : Rd α), (∀ k ∈ r.reads h, h' k = h k) → r.run h' = r.run h ∧ r.reads h' = r.reads h
  | .ret a, _ => ⟨rfl, rfl⟩
  | .fail, _ => ⟨rfl, rfl⟩
  | .get k f, hk => by
    simp only [Rd.reads, List.mem_cons, forall_eq_or_imp] at hk
    simp only [Rd.run, Rd.reads, hk.1]
    obtain ⟨h1, h2⟩ := Rd.frame (f (h k)) hk.2
    exact ⟨h1, by rw [h2]⟩

def RdPure (r : Rd Outp) : Prop := (∀ h h', r.run h = r.run h') ∧ (∀ h, r.reads h = []) ∧ ∀ h v ws, r.run h = some (v, ws) → ws = []
theorem pure_ret (v : AVal) : RdPure (.ret (v, [])) := ⟨fun _ _ => rfl, fun _ => rfl, fun h u ws e => by simp only [Rd.run_ret, Option.some.injEq, Prod.mk.injEq] at e; exact e.2.symm⟩
theorem pure_fail : RdPure .fail := ⟨fun _ _ => rfl, fun _ => rfl, fun h u ws e => by cases e⟩
theorem pure_ofO {α : Type} (a : Option α) (f : α → AVal) : RdPure ((Rd.ofO a).bind fun v => .ret (f v, [])) := by
  cases a with
  | none => exact pure_fail
  | some a => exact pure_ret (f a)

theorem isPure_ok {op : XOp} (hp : isPure op = true) (key : Key) (e : XArg → AVal) : RdPure (opR key op e) := by
  cases op <;> simp only [isPure, Bool.false_eq_true] at hp <;> simp only [opR] <;> first
    | exact pure_ret _
    | exact pure_fail
    | exact pure_ofO _ _
    | (split <;> first | exact pure_ret _ | exact pure_fail | exact pure_ofO _ _)

theorem rdOf_congr {C : Cfg} {key : Key} {op : XOp} {e e' : XArg → AVal} (h : ∀ b ∈ eArgs op, e b = e' b) : rdOf C key op e = rdOf C key op e' := by
  have hm : ∀ (l : List XArg), (∀ b ∈ l, e b = e' b) → l.map e = l.map e' := fun l hl => List.map_congr_left hl
  have ho : ∀ (l : Option XArg), (∀ b ∈ l.toList, e b = e' b) → l.map e = l.map e' := by
    intro l hl
    cases l with
    | none => rfl
    | some b => simp [hl b (by simp)]
  cases op <;> simp only [eArgs] at h <;> simp only [rdOf, opR]
  case build zero ps =>
    rw [show (ps.map fun p => (p.1, p.2.1, e p.2.2)) = ps.map fun p => (p.1, p.2.1, e' p.2.2) from List.map_congr_left fun p hp => by rw [h p.2.2 (List.mem_map.2 ⟨p, hp, rfl⟩)]]
  case mkslice es zero n ps =>
    rw [show (ps.map fun p => (p.1, e p.2)) = ps.map fun p => (p.1, e' p.2) from List.map_congr_left fun p hp => by rw [h p.2 (List.mem_map.2 ⟨p, hp, rfl⟩)]]
  case slS x lo hi => rw [h x (by simp), ho lo (fun b hb => h b (by simp at hb ⊢; exact .inr (.inl hb))), ho hi (fun b hb => h b (by simp at hb ⊢; exact .inr (.inr hb)))]
  case slA n es x lo hi => rw [h x (by simp), ho lo (fun b hb => h b (by simp at hb ⊢; exact .inr (.inl hb))), ho hi (fun b hb => h b (by simp at hb ⊢; exact .inr (.inr hb)))]
  case slV es x lo hi mx => rw [h x (by simp), ho lo (fun b hb => h b (by simp at hb ⊢; exact .inr (.inl hb))), ho hi (fun b hb => h b (by simp at hb ⊢; exact .inr (.inr (.inl hb)))), ho mx (fun b hb => h b (by simp at hb ⊢; exact .inr (.inr (.inr hb))))]
  case mnx isMax x xs => rw [h x (by simp), hm xs (fun b hb => h b (by simp [hb]))]
  case call f as => rw [h f (by simp), hm as (fun b hb => h b (by simp [hb]))]
  case callN f as => rw [h f (by simp), hm as (fun b hb => h b (by simp [hb]))]
  case callM f as => rw [h f (by simp), hm as (fun b hb => h b (by simp [hb]))]
  case callA f as => rw [h f (by simp), hm as (fun b hb => h b (by simp [hb]))]
  case mkf f first cap => rw [hm first (fun b hb => h b (by simp [hb])), hm cap (fun b hb => h b (by simp [hb]))]
  all_goals simp only [List.mem_cons, List.not_mem_nil, or_false, forall_eq_or_imp, forall_eq] at h <;> simp only [h]

theorem progO_congr {C : Cfg} {key : Key} {o : XOper} {tm tm' : Nat → AVal} (h : ∀ t ∈ looks o, tm' t = tm t) : progO C key o tm' = progO C key o tm := by
  have hg : goes tm' o.g = goes tm o.g := by
    unfold goes
    cases hg : o.g with
    | none => rfl
    | some p =>
      obtain ⟨s, w⟩ := p
      simp only
      rw [h s (by simp [looks, hg])]
  have hr : rdOf C key o.op (arg tm') = rdOf C key o.op (arg tm) := by
    refine rdOf_congr (fun b hb => ?_)
    cases b with
    | c v => rfl
    | t n =>
      simp only [arg]
      refine h n ?_
      simp only [looks, List.mem_append, List.mem_filterMap]
      exact .inl ⟨.t n, hb, rfl⟩
  unfold progO
  rw [hg, hr]

/-! ### two steps change about -/
def keysOf (ws : Wr) : List Key := ws.map (·.1)
theorem applyW_other : ∀ (ws : Wr) (h : Heap) (k : Key), k ∉ keysOf ws → applyW h ws k = h k
  | [], _, _, _ => rfl
  | (k', b) :: ws, h, k, hk => by
    simp only [keysOf, List.map_cons, List.mem_cons, not_or] at hk
    simp only [applyW]
    rw [applyW_other ws _ k hk.2, upd_ne _ _ hk.1]
theorem applyW_in : ∀ (ws : Wr) (h h' : Heap) (k : Key), k ∈ keysOf ws → applyW h ws k = applyW h' ws k
  | [], _, _, _, hk => by simp [keysOf] at hk
  | (k', b) :: ws, h, h', k, hk => by
    simp only [applyW]
    by_cases hin : k ∈ keysOf ws
    · exact applyW_in ws _ _ k hin
    · rw [applyW_other ws _ k hin, applyW_other ws _ k hin]
      have : k = k' := by
        simp only [keysOf, List.map_cons, List.mem_cons] at hk
        rcases hk with h1 | h1
        · exact h1
        · exact absurd h1 hin
      subst this
      rw [upd_same, upd_same]
theorem applyW_comm {ws us : Wr} (h : Heap) (hd : ∀ k, k ∈ keysOf ws → k ∉ keysOf us) : applyW (applyW h ws) us = applyW (applyW h us) ws := by
  funext k
  by_cases h1 : k ∈ keysOf ws
  · rw [applyW_other us _ k (hd k h1), applyW_in ws h (applyW h us) k h1]
  · rw [applyW_other ws (applyW h us) k h1]
    by_cases h2 : k ∈ keysOf us
    · exact applyW_in us _ _ k h2
    · rw [applyW_other us _ k h2, applyW_other us _ k h2, applyW_other ws _ k h1]

theorem disj_iff {a b : List Key} : disj a b = true ↔ ∀ k ∈ a, k ∉ b := by
  simp [disj]

def PureP (p : Rd Outp ⊕ (FuncId × List AVal)) : Prop := ∃ r, p = .inl r ∧ RdPure r

theorem runP_pure {inl : Inl} {p : Rd Outp ⊕ (FuncId × List AVal)} (hp : PureP p) {h : Heap} {nc : Nat} {v : AVal} {h' : Heap} {nc' : Nat} (hr : runP inl p h nc = some (v, h', nc')) : h' = h ∧ nc' = nc ∧ ∀ h2 nc2, runP inl p h2 nc2 = some (v, h2, nc2) := by
  obtain ⟨r, rfl, h1, h2, h3⟩ := hp
  simp only [runP] at hr ⊢
  cases e : r.run h with
  | none => rw [e] at hr; cases hr
  | some q =>
    obtain ⟨v', ws⟩ := q
    rw [e] at hr
    have := h3 h v' ws e
    subst this
    simp only [Option.map_some, Option.some.injEq, Prod.mk.injEq, applyW] at hr
    obtain ⟨rfl, rfl, rfl⟩ := hr
    refine ⟨rfl, rfl, fun h2 nc2 => ?_⟩
    rw [h1 h2 h, e]
    rfl
theorem footP_pure {p : Rd Outp ⊕ (FuncId × List AVal)} (hp : PureP p) (h k h' k' : Heap) : footP p h k = footP p h' k' := by
  obtain ⟨r, rfl, h1, h2, h3⟩ := hp
  simp only [footP, h2, h1 h h']
theorem empty_of {α : Type} {l : List α} (h : l.isEmpty = true) : l = [] := by cases l <;> simp_all
theorem wr_nil {ws : Wr} (h : (ws.map (·.1)).isEmpty = true) : ws = [] := by cases ws <;> simp_all

theorem commute {inl : Inl} {pj pi : Rd Outp ⊕ (FuncId × List AVal)} {h h1 h2 : Heap} {nc nc1 nc2 : Nat} {vj vi : AVal} (hind : PureP pj ∨ PureP pi ∨ apartF (footP pj h h1) (footP pi h1 h2) = true)
    (hj : runP inl pj h nc = some (vj, h1, nc1)) (hi : runP inl pi h1 nc1 = some (vi, h2, nc2)) :
    ∃ h1' nc1', runP inl pi h nc = some (vi, h1', nc1') ∧ runP inl pj h1' nc1' = some (vj, h2, nc2) ∧ footP pi h h1' = footP pi h1 h2 ∧ footP pj h1' h2 = footP pj h h1 := by
  rcases hind with hp | hp | hap
  · obtain ⟨rfl, rfl, hall⟩ := runP_pure hp hj
    exact ⟨h2, nc2, hi, hall _ _, rfl, footP_pure hp _ _ _ _⟩
  · obtain ⟨rfl, rfl, hall⟩ := runP_pure hp hi
    exact ⟨h, nc, hall _ _, hj, footP_pure hp _ _ _ _, rfl⟩
  · cases pj with
    | inr qj =>
      cases pi with
      | inr q => simp [footP, apartF] at hap
      | inl ri =>
        simp only [runP] at hi
        cases ei : ri.run h1 with
        | none => rw [ei] at hi; cases hi
        | some qi =>
          obtain ⟨vi', wi⟩ := qi
          rw [ei] at hi
          simp only [footP, ei, apartF, Bool.and_eq_true, decide_eq_true_eq] at hap
          obtain ⟨hap1, hap2⟩ := hap
          have hw := wr_nil hap1
          subst hw
          simp only [Option.map_some, Option.some.injEq, Prod.mk.injEq, applyW] at hi
          obtain ⟨rfl, rfl, rfl⟩ := hi
          have f1 := Rd.frame (h := h1) (h' := h) ri (fun k hk => (hap2 k hk).symm)
          refine ⟨h, nc, ?_, hj, ?_, rfl⟩
          · simp only [runP, f1.1, ei, Option.map_some, applyW]
          · simp only [footP, f1.1, f1.2]
    | inl rj =>
      simp only [runP] at hj
      cases ej : rj.run h with
      | none => rw [ej] at hj; cases hj
      | some qj =>
        obtain ⟨vj', wj⟩ := qj
        rw [ej] at hj
        simp only [Option.map_some, Option.some.injEq, Prod.mk.injEq] at hj
        obtain ⟨rfl, rfl, rfl⟩ := hj
        cases pi with
        | inr q =>
          simp only [footP, ej, apartF, Bool.and_eq_true, decide_eq_true_eq] at hap
          obtain ⟨hap1, hap2⟩ := hap
          have hw := wr_nil hap1
          subst hw
          simp only [applyW] at hi hap2 ⊢
          have f1 := Rd.frame (h := h) (h' := h2) rj (fun k hk => hap2 k hk)
          have hnc : runP inl (.inl rj) h2 nc2 = some (vj', h2, nc2) := by simp only [runP, f1.1, ej, Option.map_some, applyW]
          exact ⟨h2, nc2, hi, hnc, rfl, by simp only [footP, f1.1, f1.2]⟩
        | inl ri =>
          simp only [runP] at hi
          cases ei : ri.run (applyW h wj) with
          | none => rw [ei] at hi; cases hi
          | some qi =>
            obtain ⟨vi', wi⟩ := qi
            rw [ei] at hi
            simp only [Option.map_some, Option.some.injEq, Prod.mk.injEq] at hi
            obtain ⟨rfl, rfl, rfl⟩ := hi
            simp only [footP, ej, ei, apartF, Bool.and_eq_true, disj_iff, List.mem_append, not_or] at hap
            obtain ⟨hap1, hap2⟩ := hap
            have f1 := Rd.frame (h := applyW h wj) (h' := h) ri (fun k hk => by
              rw [applyW_other wj h k (fun hin => (hap1 k hin).1 hk)])
            have f2 := Rd.frame (h := h) (h' := applyW h wi) rj (fun k hk => applyW_other wi h k (fun hin => hap2 k hin hk))
            refine ⟨applyW h wi, nc, ?_, ?_, ?_, ?_⟩
            · simp only [runP, f1.1, ei, Option.map_some]
            · simp only [runP, f2.1, ej, Option.map_some]
              rw [applyW_comm h (fun k hk hk' => (hap1 k hk').2 hk)]
            · simp only [footP, f1.1, f1.2]
            · simp only [footP, f2.1, f2.2]

theorem putO_comm {tm : Nat → AVal} {d d' : Option Nat} {v v' : AVal} (h : ∀ t, d = some t → d' ≠ some t) : putO (putO tm d v) d' v' = putO (putO tm d' v') d v := by
  cases d with
  | none => rfl
  | some d =>
    cases d' with
    | none => rfl
    | some d' =>
      have hne : d ≠ d' := fun e => h d rfl (by rw [e])
      funext m
      simp only [putO, updT]
      by_cases h1 : m = d
      · subst h1
        simp [hne]
      · by_cases h2 : m = d' <;> simp [h1, h2]
        intro h3
        exact absurd (h2.trans h3) h1

theorem putO_other {tm : Nat → AVal} {d : Option Nat} {v : AVal} {t : Nat} (h : d ≠ some t) : putO tm d v t = tm t := by
  cases d with
  | none => rfl
  | some d =>
    simp only [putO, updT]
    rw [if_neg (fun e => h (by rw [e]))]

section
variable {P : Program} {nt B : Nat} {S0 : Base} {C : Cfg} {inl : Inl} {x : Ctx} {a : Act}

theorem progO_pure {key : Key} {o : XOper} {tm : Nat → AVal} {p : Rd Outp ⊕ (FuncId × List AVal)} (hp : isPure o.op = true) (h : progO C key o tm = some p) : PureP p := by
  unfold progO at h
  split at h
  · cases h
  · simp only [Option.some.injEq] at h
    subst h
    split
    · refine ⟨opR key o.op (arg tm), ?_, isPure_ok hp _ _⟩
      unfold rdOf
      split
      · rename_i e; rw [e] at hp; simp [isPure] at hp
      · rename_i e; rw [e] at hp; simp [isPure] at hp
      · rename_i e; rw [e] at hp; simp [isPure] at hp
      · rename_i e; rw [e] at hp; simp [isPure] at hp
      · rfl
    · exact ⟨_, rfl, pure_ret _⟩

def Indep (o : XOper) (f : Foot) (o' : XOper) (f' : Foot) : Prop := apartT o o' = true ∧ (isPure o.op = true ∨ isPure o'.op = true ∨ apartF f f' = true)

theorem swap_steps {kj ki : Key} {oj oi : XOper} {st st1 st2 : St} (hj : stepO C inl kj oj st = some st1) (hi : stepO C inl ki oi st1 = some st2) (hind : Indep oj (foot C kj oj st st1.hp) oi (foot C ki oi st1 st2.hp)) :
    ∃ st1', stepO C inl ki oi st = some st1' ∧ stepO C inl kj oj st1' = some st2 ∧ foot C ki oi st st1'.hp = foot C ki oi st1 st2.hp ∧ foot C kj oj st1' st2.hp = foot C kj oj st st1.hp := by
  obtain ⟨hT, hF⟩ := hind
  unfold apartT at hT
  simp only [Bool.and_eq_true] at hT
  have hd1 : ∀ t, oj.dst = some t → t ∉ looks oi ∧ oi.dst ≠ some t := by
    intro t ht
    have := hT.1
    rw [ht] at this
    simpa using this
  have hd2 : ∀ t, oi.dst = some t → t ∉ looks oj := by
    intro t ht
    have := hT.2
    rw [ht] at this
    simpa using this
  unfold stepO at hj hi
  cases ej : progO C kj oj st.tm with
  | none => rw [ej] at hj; cases hj
  | some pj =>
    rw [ej] at hj
    simp only at hj
    cases rj : runP inl pj st.hp st.nc with
    | none => rw [rj] at hj; cases hj
    | some q =>
      obtain ⟨vj, h1, nc1⟩ := q
      rw [rj] at hj
      simp only [Option.map_some, Option.some.injEq] at hj
      subst hj
      have cong : progO C ki oi (putO st.tm oj.dst vj) = progO C ki oi st.tm := progO_congr (fun t ht => putO_other (fun e => (hd1 t e).1 ht))
      simp only at hi
      cases ei : progO C ki oi (putO st.tm oj.dst vj) with
      | none => rw [ei] at hi; cases hi
      | some pi =>
        rw [ei] at hi
        simp only at hi
        cases ri : runP inl pi h1 nc1 with
        | none => rw [ri] at hi; cases hi
        | some q2 =>
          obtain ⟨vi, h2, nc2⟩ := q2
          rw [ri] at hi
          simp only [Option.map_some, Option.some.injEq] at hi
          subst hi
          have fj : foot C kj oj st h1 = footP pj st.hp h1 := by simp only [foot, ej]
          have fi : foot C ki oi ⟨putO st.tm oj.dst vj, h1, nc1⟩ h2 = footP pi h1 h2 := by simp only [foot, ei]
          have hind' : PureP pj ∨ PureP pi ∨ apartF (footP pj st.hp h1) (footP pi h1 h2) = true := by
            rcases hF with h | h | h
            · exact .inl (progO_pure h ej)
            · exact .inr (.inl (progO_pure h ei))
            · rw [fj, fi] at h; exact .inr (.inr h)
          obtain ⟨h1', nc1', r1, r2, r3, r4⟩ := commute hind' rj ri
          rw [cong] at ei
          have cong2 : progO C kj oj (putO st.tm oi.dst vi) = progO C kj oj st.tm := progO_congr (fun t ht => putO_other (fun e => hd2 t e ht))
          refine ⟨⟨putO st.tm oi.dst vi, h1', nc1'⟩, ?_, ?_, ?_, ?_⟩
          · simp only [stepO, ei, r1, Option.map_some]
          · simp only [stepO, cong2, ej, r2, Option.map_some, Option.some.injEq, St.mk.injEq, and_true]
            exact (putO_comm (fun t ht => (hd1 t ht).2)).symm
          · rw [fi]; simp only [foot, ei, r3]
          · rw [fj]; simp only [foot, cong2, ej, r4]

/-! ### a region's list -/
abbrev Zed := List (Nat × XOper × Foot)
def RunZ (C : Cfg) (inl : Inl) (fid rid c : Nat) (stF : St) : Zed → St → Prop
  | [], st => st = stF
  | (i, o, f) :: Z, st => ∃ st1, stepO C inl (site fid rid i, c) o st = some st1 ∧ foot C (site fid rid i, c) o st st1.hp = f ∧ RunZ C inl fid rid c stF Z st1

theorem front {fid rid c : Nat} {stF : St} {i : Nat} {o : XOper} {f : Foot} {Z2 : Zed} : ∀ (Z1 : Zed) (st : St), RunZ C inl fid rid c stF (Z1 ++ (i, o, f) :: Z2) st → (∀ z ∈ Z1, Indep z.2.1 z.2.2 o f) → RunZ C inl fid rid c stF ((i, o, f) :: (Z1 ++ Z2)) st
  | [], st, h, _ => h
  | (j, oj, fj) :: Z1, st, h, hind => by
    simp only [List.cons_append, RunZ] at h
    obtain ⟨st1, h1, h2, h3⟩ := h
    have ih := front Z1 st1 h3 (fun z hz => hind z (by simp [hz]))
    simp only [RunZ] at ih
    obtain ⟨st2, h4, h5, h6⟩ := ih
    have hi := hind (j, oj, fj) (by simp)
    simp only at hi
    rw [← h2, ← h5] at hi
    obtain ⟨st1', s1, s2, s3, s4⟩ := swap_steps h1 h4 hi
    simp only [List.cons_append, RunZ]
    exact ⟨st1', s1, by rw [s3, h5], st2, s2, by rw [s4, h2], h6⟩

theorem runOpsF_Z {fid rid c : Nat} : ∀ (xs : List XOper) (i : Nat) (st stF : St) (fs : List Foot), runOpsF C inl fid rid c i xs st = some (stF, fs) →
    fs.length = xs.length ∧ RunZ C inl fid rid c stF ((List.range' i xs.length).zip (xs.zip fs)) st
  | [], i, st, stF, fs, h => by
    simp only [runOpsF, Option.some.injEq, Prod.mk.injEq] at h
    obtain ⟨rfl, rfl⟩ := h
    exact ⟨rfl, by simp [RunZ]⟩
  | o :: xs, i, st, stF, fs, h => by
    simp only [runOpsF] at h
    cases h1 : stepO C inl (site fid rid i, c) o st with
    | none => rw [h1] at h; cases h
    | some st1 =>
      rw [h1] at h
      simp only [Option.bind_some] at h
      cases h2 : runOpsF C inl fid rid c (i + 1) xs st1 with
      | none => rw [h2] at h; cases h
      | some q =>
        obtain ⟨s, gs⟩ := q
        rw [h2] at h
        simp only [Option.map_some, Option.some.injEq, Prod.mk.injEq] at h
        obtain ⟨rfl, rfl⟩ := h
        obtain ⟨e1, e2⟩ := runOpsF_Z xs (i + 1) st1 s gs h2
        refine ⟨by simp [e1], ?_⟩
        simp only [List.length_cons, List.range'_succ, List.zip_cons_cons, RunZ]
        exact ⟨st1, h1, rfl, e2⟩
theorem runOps_Z {fid rid c : Nat} : ∀ (xs : List XOper) (i : Nat) (st stF : St), runOps C inl fid rid c i xs st = some stF → ∃ fs : List Foot, runOpsF C inl fid rid c i xs st = some (stF, fs)
  | [], i, st, stF, h => by
    simp only [runOps, Option.some.injEq] at h
    subst h
    exact ⟨[], rfl⟩
  | o :: xs, i, st, stF, h => by
    simp only [runOps] at h
    cases h1 : stepO C inl (site fid rid i, c) o st with
    | none => rw [h1] at h; cases h
    | some st1 =>
      rw [h1] at h
      simp only [Option.bind_some] at h
      obtain ⟨fs, hf⟩ := runOps_Z xs (i + 1) st1 stF h
      refine ⟨foot C (site fid rid i, c) o st st1.hp :: fs, ?_⟩
      simp only [runOpsF, h1, Option.bind_some, hf, Option.map_some]


/-! ### the machine's side -/
theorem opers_at : ∀ {os : List Oper} {xs : List XOper} {ops : Array Oper}, chkOpers P nt ops os xs = true → os.length = xs.length ∧ ∀ (i : Nat) (x : XOper), xs[i]? = some x → ∃ o, os[i]? = some o ∧ chkOper P nt ops o x = true
  | [], [], ops, _ => ⟨rfl, by simp⟩
  | [], _ :: _, ops, h => by simp [chkOpers] at h
  | _ :: _, [], ops, h => by simp [chkOpers] at h
  | o :: os, x :: xs, ops, h => by
    simp only [chkOpers, Bool.and_eq_true] at h
    obtain ⟨h1, h2⟩ := opers_at h.2
    refine ⟨by simp [h1], ?_⟩
    intro i y hy
    cases i with
    | zero => simp at hy; subst hy; exact ⟨o, rfl, h.1⟩
    | succ i => simpa using h2 i y (by simpa using hy)

theorem site_inj {fid rid i j : Nat} (h : site fid rid i = site fid rid j) : i = j := by
  unfold site at h; omega

/-- Which names of this region are in use: those of its operations that have come. -/
def UsedOk (x : Ctx) (fid rid c : Nat) (D : Nat → Prop) : Prop := ∀ k g p, x.ρ k g = some p → k.2 = c → ∃ j, D j ∧ k.1 = site fid rid j

theorem UsedOk.fresh {fid rid c : Nat} {D : Nat → Prop} (h : UsedOk x fid rid c D) {i : Nat} (hi : ¬ D i) : ∀ g, x.ρ (site fid rid i, c) g = none := by
  intro g
  cases e : x.ρ (site fid rid i, c) g with
  | none => rfl
  | some p =>
    obtain ⟨j, hj, hs⟩ := h _ _ _ e rfl
    rw [site_inj hs] at hi
    exact absurd hj hi

theorem UsedOk.step {y : Ctx} {fid rid c nc : Nat} {D D' : Nat → Prop} {i : Nat} (h : UsedOk x fid rid c D) (hc : c < nc) (hD : ∀ j, D j → D' j) (hi : D' i)
    (hy : ∀ k g p, y.ρ k g = some p → (∃ g' p', x.ρ k g' = some p') ∨ k = (site fid rid i, c) ∨ nc ≤ k.2) : UsedOk y fid rid c D' := by
  intro k g p hp hk
  rcases hy k g p hp with ⟨g', p', h1⟩ | rfl | h1
  · obtain ⟨j, hj, hs⟩ := h k g' p' h1 hk
    exact ⟨j, hD j hj, hs⟩
  · exact ⟨i, hi, rfl⟩
  · omega

/-- New names have numbers from c on. -/
def Keys (c : Nat) (x y : Ctx) : Prop := ∀ k g p, y.ρ k g = some p → (∃ g' p', x.ρ k g' = some p') ∨ c ≤ k.2
theorem Keys.refl (c : Nat) (x : Ctx) : Keys c x x := fun k g p hp => .inl ⟨g, p, hp⟩
theorem Keys.trans {c c' : Nat} {x y z : Ctx} (h : Keys c x y) (h' : Keys c' y z) (hc : c ≤ c') : Keys c x z := by
  intro k g p hp
  rcases h' k g p hp with ⟨g', p', h1⟩ | h1
  · exact h k g' p' h1
  · exact .inr (Nat.le_trans hc h1)
theorem Keys.step {y : Ctx} {fid rid c nc i : Nat} (hc : c < nc) (hy : ∀ k g p, y.ρ k g = some p → (∃ g' p', x.ρ k g' = some p') ∨ k = (site fid rid i, c) ∨ nc ≤ k.2) : Keys c x y := by
  intro k g p hp
  rcases hy k g p hp with h1 | rfl | h1
  · exact .inl h1
  · exact .inr (Nat.le_refl _)
  · exact .inr (by omega)

theorem runOps_wp (ok : CfgOk P C) (hin : InlOk P B S0 inl) (hLd : Laid P S0.w0) {ops : Array Oper} {fid rid c : Nat} {stF : St} {Q : Exit → Act → World → Prop} : ∀ (xs : List XOper) (i : Nat) (st : St) (x : Ctx) (a : Act),
    (∀ (j : Nat) (xo : XOper), xs[j]? = some xo → ∃ o, ops[i + j]? = some o ∧ chkOper P nt ops o xo = true) → runOps C inl fid rid c i xs st = some stF → StOk nt B S0 st x a → c < st.nc → UsedOk x fid rid c (· < i) →
    (∀ a' y, StOk nt B S0 stF y a' → Step B x y → st.nc ≤ stF.nc → Keys c x y → Q .normal a' y.w) → wpOps P ops Q (List.range' i xs.length) a x.w
  | [], i, st, x, a, _, hr, hst, _, _, hQ => by
    simp only [runOps, Option.some.injEq] at hr
    subst hr
    exact hQ a x hst (Step.refl B x) (Nat.le_refl _) (Keys.refl _ _)
  | xo :: xs, i, st, x, a, hops, hr, hst, hc, hu, hQ => by
    simp only [runOps] at hr
    cases h1 : stepO C inl (site fid rid i, c) xo st with
    | none => rw [h1] at hr; cases hr
    | some st1 =>
      rw [h1] at hr
      simp only [Option.bind_some] at hr
      obtain ⟨o, ho, hck⟩ := hops 0 xo rfl
      simp only [List.length_cons, List.range'_succ, wpOps_cons]
      refine step_wp ok hin hLd (key := (site fid rid i, c)) (by simpa using ho) hck hst hc (hu.fresh (by omega)) h1 ?_
      intro a' y hst' hstp hρ hnc
      refine runOps_wp ok hin hLd xs (i + 1) st1 y a' ?_ hr hst' (by omega) (hu.step hc (fun j hj => by omega) (by omega) hρ) ?_
      · intro j xo' hj
        obtain ⟨o', ho', hck'⟩ := hops (j + 1) xo' (by simpa using hj)
        exact ⟨o', by rw [← ho']; congr 1; omega, hck'⟩
      · intro a2 z hz hz2 hnc2 hk2
        exact hQ a2 z hz (hstp.trans hz2) (by omega) ((Keys.step hc hρ).trans hk2 (Nat.le_refl _))

/-- What comes ahead of an operation has come, when all that it waits for has. -/
theorem bef_ok {os : List Oper} {bef : List (List Nat)} (hb : chkBef os bef = true) {D : Nat → Prop} (hD : ∀ (j : Nat) (o : Oper), D j → os[j]? = some o → ∀ e ∈ o.after.toList, Region.binds .any e = true → D e.on) :
    ∀ (b : Nat) (o : Oper), os[b]? = some o → (∀ e ∈ o.after.toList, Region.binds .any e = true → D e.on) → ∀ a ∈ (bef[b]?.getD []), D a := by
  intro b
  induction b using Nat.strongRecOn with
  | _ b ih =>
    intro o ho hall a ha
    unfold chkBef at hb
    simp only [Bool.and_eq_true, beq_iff_eq, List.all_eq_true, List.mem_range] at hb
    obtain ⟨hlen, hb⟩ := hb
    have hlt : b < os.length := by
      rcases Nat.lt_or_ge b os.length with h1 | h1
      · exact h1
      · rw [List.getElem?_eq_none h1] at ho; cases ho
    have h1 := hb b hlt
    rw [ho] at h1
    cases hbb : bef[b]? with
    | none => rw [hbb] at ha; simp at ha
    | some l =>
      rw [hbb] at h1 ha
      simp only [Bool.and_eq_true, List.all_eq_true, Option.getD_some] at h1 ha
      have h2 := h1.2 a ha
      simp only [List.any_eq_true, Bool.and_eq_true, Bool.or_eq_true, beq_iff_eq, List.contains_iff_mem] at h2
      obtain ⟨e, he, hbind, h3⟩ := h2
      have hDe := hall e he hbind
      rcases h3 with h3 | h3
      · rw [← h3]; exact hDe
      · have h4 := h1.1 e he
        simp only [Bool.or_eq_true, Bool.not_eq_true', decide_eq_true_eq] at h4
        have hlt2 : e.on < b := by
          rcases h4 with h4 | h4
          · rw [hbind] at h4; cases h4
          · exact h4
        have : e.on < os.length := by omega
        exact ih e.on hlt2 os[e.on] (List.getElem?_eq_getElem this) (fun e' he' hb' => hD e.on _ hDe (List.getElem?_eq_getElem this) e' he' hb') a h3

end
end Go.Xec
