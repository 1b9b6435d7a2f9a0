/-
  A region that draws its order: every order comes to what the text's order comes to.
-/
import Derived.Test.YtppehejnnjlkfaaGreatDoorXN
set_option linter.unusedVariables false
set_option linter.unusedSimpArgs false
namespace Go.Xec
open Go

section
variable {P : Program} {nt B : Nat} {S0 : Base} {C : Cfg} {inl : Inl} {x : Ctx} {a : Act}

def idx (Z : Zed) : List Nat := Z.map (·.1)

theorem mem_ready {ops : Array Oper} {listed : Array Bool} {i : Nat} : i ∈ Region.ready .any ops listed ↔ i < ops.size ∧ listed.getD i true = false ∧ ∃ o, ops[i]? = some o ∧ ∀ e ∈ o.after.toList, Region.binds .any e = true → listed.getD e.on false = true := by
  simp only [Region.ready, List.mem_filter, List.mem_range, Bool.and_eq_true, Bool.not_eq_true']
  constructor
  · rintro ⟨h1, h2, h3⟩
    refine ⟨h1, h2, ops[i], by simp [h1], ?_⟩
    rw [show ops[i]? = some ops[i] by simp [h1]] at h3
    simp only [Option.map_some, Option.getD_some, Array.all_eq_true', Bool.or_eq_true, Bool.not_eq_true'] at h3
    intro e he hb
    rcases h3 e (by simpa using he) with h4 | h4
    · rw [hb] at h4; cases h4
    · exact h4
  · rintro ⟨h1, h2, o, ho, h3⟩
    refine ⟨h1, h2, ?_⟩
    rw [ho]
    simp only [Option.map_some, Option.getD_some, Array.all_eq_true', Bool.or_eq_true, Bool.not_eq_true']
    intro e he
    cases hb : Region.binds .any e with
    | false => exact .inl rfl
    | true => exact .inr (h3 e (by simpa using he) hb)

structure ListedOk (ops : Array Oper) (listed : Array Bool) (Z : Zed) : Prop where
  size : listed.size = ops.size
  iff : ∀ i, i < ops.size → (listed.getD i true = false ↔ i ∈ idx Z)
  lt : ∀ i ∈ idx Z, i < ops.size
  down : ∀ (j : Nat) (o : Oper), j < ops.size → j ∉ idx Z → ops.toList[j]? = some o → ∀ e ∈ o.after.toList, Region.binds .any e = true → e.on < ops.size ∧ e.on ∉ idx Z

theorem ListedOk.false_iff {ops : Array Oper} {listed : Array Bool} {Z : Zed} (h : ListedOk ops listed Z) (i : Nat) : listed.getD i false = true ↔ i < ops.size ∧ i ∉ idx Z := by
  by_cases hi : i < ops.size
  · have hs : i < listed.size := by rw [h.size]; exact hi
    have h1 := h.iff i hi
    have e1 : listed.getD i true = listed[i] := by simp [Array.getD, hs]
    have e2 : listed.getD i false = listed[i] := by simp [Array.getD, hs]
    rw [e1] at h1
    rw [e2]
    simp only [hi, true_and]
    constructor
    · intro h2 h3
      have := h1.2 h3
      rw [h2] at this
      cases this
    · intro h2
      cases h3 : listed[i] with
      | true => rfl
      | false => exact absurd (h1.1 h3) h2
  · have hs : ¬ i < listed.size := by rw [h.size]; exact hi
    simp [Array.getD, hs, hi]

def RelZ (bef : List (List Nat)) (z z' : Nat × XOper × Foot) : Prop := z.1 ∈ (bef[z'.1]?.getD []) ∨ Indep z.2.1 z.2.2 z'.2.1 z'.2.2

theorem drawn_wp (ok : CfgOk P C) (hin : InlOk P B S0 inl) (hLd : Laid P S0.w0) {ops : Array Oper} {bef : List (List Nat)} (hb : chkBef ops.toList bef = true) {fid rid c : Nat} {stF : St} {Q : Exit → Act → World → Prop} : ∀ (n : Nat) (Z : Zed) (listed : Array Bool) (st : St) (x : Ctx) (a : Act), Z.length = n →
    RunZ C inl fid rid c stF Z st → Z.Pairwise (fun z z' => z.1 < z'.1) → Z.Pairwise (RelZ bef) → (∀ z ∈ Z, ∃ o, ops[z.1]? = some o ∧ chkOper P nt ops o z.2.1 = true) → ListedOk ops listed Z → StOk nt B S0 st x a → c < st.nc → UsedOk x fid rid c (fun j => j ∉ idx Z) →
    (∀ a' y, StOk nt B S0 stF y a' → Step B x y → st.nc ≤ stF.nc → Keys c x y → Q .normal a' y.w) → wpAny P .any ops Q n listed a x.w := by
  intro n
  induction n with
  | zero =>
    intro Z listed st x a hlen hrun _ _ _ hL hst _ _ hQ
    have : Z = [] := List.eq_nil_of_length_eq_zero hlen
    subst this
    simp only [RunZ] at hrun
    subst hrun
    refine ⟨?_, hQ a x hst (Step.refl B x) (Nat.le_refl _) (Keys.refl _ _)⟩
    apply List.eq_nil_iff_forall_not_mem.2
    intro i hi
    rw [mem_ready] at hi
    have := (hL.iff i hi.1).1 hi.2.1
    simp [idx] at this
  | succ n ih =>
    intro Z listed st x a hlen hrun hsort hrel hops hL hst hc hu hQ
    have hchk := hb
    unfold chkBef at hchk
    simp only [Bool.and_eq_true, beq_iff_eq, List.all_eq_true, List.mem_range] at hchk
    obtain ⟨hblen, hball⟩ := hchk
    have hedge : ∀ (b : Nat) (o : Oper), ops.toList[b]? = some o → ∀ e ∈ o.after.toList, Region.binds .any e = true → e.on < b := by
      intro b o ho e he hbind
      have hlt : b < ops.toList.length := by
        rcases Nat.lt_or_ge b ops.toList.length with h1 | h1
        · exact h1
        · rw [List.getElem?_eq_none h1] at ho; cases ho
      have h1 := hball b hlt
      rw [ho] at h1
      cases hbb : bef[b]? with
      | none => rw [hbb] at h1; cases h1
      | some l =>
        rw [hbb] at h1
        simp only [Bool.and_eq_true, List.all_eq_true] at h1
        have h4 := h1.1 e he
        simp only [Bool.or_eq_true, Bool.not_eq_true', decide_eq_true_eq] at h4
        rcases h4 with h4 | h4
        · rw [hbind] at h4; cases h4
        · exact h4
    refine ⟨?_, ?_⟩
    · intro hr
      exfalso
      cases Z with
      | nil => simp at hlen
      | cons z Z =>
        have hz := hL.lt z.1 (by simp [idx])
        obtain ⟨o, ho, _⟩ := hops z (by simp)
        have : z.1 ∈ Region.ready .any ops listed := by
          rw [mem_ready]
          refine ⟨hz, (hL.iff z.1 hz).2 (by simp [idx]), o, ho, ?_⟩
          intro e he hbind
          rw [hL.false_iff]
          have h1 := hedge z.1 o (by simpa using ho) e he hbind
          refine ⟨by omega, ?_⟩
          intro hm
          simp only [idx, List.map_cons, List.mem_cons, List.mem_map] at hm
          rcases hm with h2 | ⟨z', hz', h2⟩
          · omega
          · have := (List.pairwise_cons.1 hsort).1 z' hz'
            omega
        rw [hr] at this
        cases this
    · intro i hi
      rw [mem_ready] at hi
      obtain ⟨hi1, hi2, o, ho, hi3⟩ := hi
      have hiZ := (hL.iff i hi1).1 hi2
      simp only [idx, List.mem_map] at hiZ
      obtain ⟨z, hz, hzi⟩ := hiZ
      obtain ⟨Z1, Z2, rfl⟩ := List.append_of_mem hz
      obtain ⟨i', xo, f⟩ := z
      simp only at hzi
      subst hzi
      have hsplit := List.pairwise_append.1 hsort
      have hrels := List.pairwise_append.1 hrel
      have hallD : ∀ e ∈ o.after.toList, Region.binds .any e = true → e.on < ops.size ∧ e.on ∉ idx (Z1 ++ (i', xo, f) :: Z2) := by
        intro e he hbind
        exact (hL.false_iff e.on).1 (hi3 e he hbind)
      have hind : ∀ z ∈ Z1, Indep z.2.1 z.2.2 xo f := by
        intro z hz1
        rcases hrels.2.2 z hz1 (i', xo, f) (by simp) with h1 | h1
        · exfalso
          have hD := bef_ok (D := fun j => j < ops.size ∧ j ∉ idx (Z1 ++ (i', xo, f) :: Z2)) hb (fun j o' hj ho' e he hbind => hL.down j o' hj.1 hj.2 ho' e he hbind) i' o (by simpa using ho) hallD z.1 h1
          exact hD.2 (by simp only [idx, List.map_append, List.mem_append, List.mem_map]; exact .inl ⟨z, hz1, rfl⟩)
        · exact h1
      have hfr := front Z1 st hrun hind
      simp only [RunZ] at hfr
      obtain ⟨st1, h1, h2, h3⟩ := hfr
      obtain ⟨o', ho', hck⟩ := hops (i', xo, f) (by simp)
      simp only at ho'
      rw [ho] at ho'
      cases ho'
      have hnot : i' ∉ idx (Z1 ++ Z2) := by
        intro hm
        simp only [idx, List.map_append, List.mem_append, List.mem_map] at hm
        rcases hm with ⟨z, hz1, h4⟩ | ⟨z, hz2, h4⟩
        · have := hsplit.2.2 z hz1 (i', xo, f) (by simp)
          simp only at this
          omega
        · have := (List.pairwise_cons.1 hsplit.2.1).1 z hz2
          simp only at this
          omega
      have hidx : ∀ j, j ∈ idx (Z1 ++ (i', xo, f) :: Z2) ↔ j = i' ∨ j ∈ idx (Z1 ++ Z2) := by
        intro j
        simp only [idx, List.map_append, List.map_cons, List.mem_append, List.mem_cons]
        constructor
        · rintro (h4 | h4 | h4)
          · exact .inr (.inl h4)
          · exact .inl h4
          · exact .inr (.inr h4)
        · rintro (h4 | h4 | h4)
          · exact .inr (.inl h4)
          · exact .inl h4
          · exact .inr (.inr h4)
      refine step_wp ok hin hLd (key := (site fid rid i', c)) ho hck hst hc (hu.fresh (by rw [hidx]; simp)) h1 ?_
      intro a' y hst' hstp hρ hnc
      refine ih (Z1 ++ Z2) (listed.setIfInBounds i' true) st1 y a' ?_ h3 ?_ ?_ ?_ ?_ hst' (by omega) (hu.step hc (fun j hj => by rw [hidx] at hj; exact fun h4 => hj (.inr h4)) hnot hρ) ?_
      · simp at hlen ⊢; omega
      · exact List.pairwise_append.2 ⟨hsplit.1, (List.pairwise_cons.1 hsplit.2.1).2, fun z hz1 z' hz2 => hsplit.2.2 z hz1 z' (by simp [hz2])⟩
      · exact List.pairwise_append.2 ⟨hrels.1, (List.pairwise_cons.1 hrels.2.1).2, fun z hz1 z' hz2 => hrels.2.2 z hz1 z' (by simp [hz2])⟩
      · intro z hz1
        refine hops z ?_
        rcases List.mem_append.1 hz1 with h4 | h4
        · simp [h4]
        · simp [h4]
      · refine ⟨by simp [hL.size], ?_, fun j hj => hL.lt j ((hidx j).2 (.inr hj)), ?_⟩
        · intro j hj
          have hjs : j < listed.size := by rw [hL.size]; exact hj
          by_cases e : j = i'
          · subst e
            have : (listed.setIfInBounds j true).getD j true = true := by simp [Array.getD, hjs]
            rw [this]
            simp [hnot]
          · have : (listed.setIfInBounds i' true).getD j true = listed.getD j true := by
              rw [Array.getD_eq_getD_getElem?, Array.getD_eq_getD_getElem?, Array.getElem?_setIfInBounds_ne (Ne.symm e)]
            rw [this, hL.iff j hj, hidx]
            simp [e]
        · intro j o' hj hjn ho' e he hbind
          by_cases e2 : j = i'
          · subst e2
            rw [show ops.toList[j]? = some o by simpa using ho] at ho'
            cases ho'
            obtain ⟨h4, h5⟩ := hallD e he hbind
            exact ⟨h4, fun h6 => h5 ((hidx _).2 (.inr h6))⟩
          · obtain ⟨h4, h5⟩ := hL.down j o' hj (by rw [hidx]; rintro (h6 | h6); exact e2 h6; exact hjn h6) ho' e he hbind
            exact ⟨h4, fun h6 => h5 ((hidx _).2 (.inr h6))⟩
      · intro a2 z2 h4 h5 h6 h7
        exact hQ a2 z2 h4 (hstp.trans h5) (by omega) ((Keys.step hc hρ).trans h7 (Nat.le_refl _))

end
end Go.Xec
