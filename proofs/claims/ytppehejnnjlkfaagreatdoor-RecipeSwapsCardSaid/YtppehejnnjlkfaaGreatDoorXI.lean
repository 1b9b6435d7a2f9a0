/-
  Handing over by value; append and copy.
-/
import Derived.Test.YtppehejnnjlkfaaGreatDoorXH
set_option linter.unusedVariables false
set_option linter.unusedSimpArgs false
namespace Go.Xec
open Go

section
variable {P : Program} {B : Nat} {S0 : Base} {ρc : Operand → Value} {o : Oper} {x : Ctx} {h : Heap} {nc : Nat} {key : Key} {e : XArg → AVal}

theorem VC_of_VC {y : Ctx} (hw : y.w = x.w) {as bs : List AVal} {b oo : Nat} (hc : VC x as b oo) (hl : ∀ us, VL x as us → VL y bs us) : VC y bs b oo := by
  obtain ⟨us, h1, h2⟩ := VL_of_VC hc
  exact VC_of_VL (hl us h1) (fun i u hi => by rw [hw]; exact h2 i u hi)

theorem els_ok (hs : Sim B S0 h nc x) {k : Key} {g es off len : Nat} {blk : Blk} {xs : List AVal} {b oo : Nat} (hk : h k = some blk) (hρ : x.ρ k g = some (b, oo)) (hcs : blk.els g es off len = some xs) : blk.gen = g ∧ xs.length = len ∧ VR x es xs b (oo + off * es) := by
  obtain ⟨b', o', h1, _, _, h4⟩ := hs.live k blk hk
  cases blk with
  | var cells =>
    simp only [Blk.els] at hcs
    split at hcs
    · rename_i hg
      obtain ⟨rfl, rfl, hle, hsc⟩ := hg
      cases hcs
      simp only [Blk.gen] at h1
      rw [hρ] at h1
      cases h1
      obtain ⟨rfl, c, ee, _, _, hv⟩ := h4
      refine ⟨rfl, by simp; omega, ?_⟩
      have hc := (hv.drop off).take len
      have hl : ∀ a ∈ (cells.drop off).take len, cellsOf a = [a] := fun a ha => cellsOf_sc (List.all_eq_true.1 hsc a ha)
      refine VR_of_flat (fun a ha => by rw [hl a ha]; rfl) ?_
      have : ((cells.drop off).take len).flatMap cellsOf = (cells.drop off).take len := by
        have : ∀ (l : List AVal), (∀ a ∈ l, cellsOf a = [a]) → l.flatMap cellsOf = l := by
          intro l
          induction l with
          | nil => simp
          | cons a l ih => intro hl; simp only [List.flatMap_cons, hl a (by simp), ih (fun b hb => hl b (by simp [hb]))]; rfl
        exact this _ hl
      rw [this]
      simpa using hc
    · cases hcs
  | row g' es' elems =>
    simp only [Blk.els] at hcs
    split at hcs
    · rename_i hg
      obtain ⟨rfl, rfl, hle⟩ := hg
      cases hcs
      simp only [Blk.gen] at h1
      rw [hρ] at h1
      cases h1
      obtain ⟨c, ee, _, _, hv⟩ := h4
      exact ⟨rfl, by simp; omega, (hv.drop off).take len⟩
    · cases hcs
  | obj a => simp [Blk.els] at hcs

/-- What is handed over by value stands for the same. -/
def LendOk (x y : Ctx) (h : Heap) (KS : Key → Prop) (d : Nat) : Prop :=
  ∀ a a' ks, (lend d a).run h = some (a', ks) → (∀ k ∈ ks, KS k) → (∀ u, V x a u → V y.bare a' u) ∧ (∀ us, VL x (cellsOf a) us → VL y.bare (cellsOf a') us)

theorem run_lendL_cons {d : Nat} {a : AVal} {as : List AVal} {r : List AVal × List Key} (hr : (lendL d (a :: as)).run h = some r) :
    ∃ a' ks as' ls, (lend d a).run h = some (a', ks) ∧ (lendL d as).run h = some (as', ls) ∧ r = (a' :: as', ks ++ ls) := by
  rw [lendL, Rd.run_bind] at hr
  cases h1 : (lend d a).run h with
  | none => rw [h1] at hr; cases hr
  | some p =>
    rw [h1, Option.bind_some, Rd.run_bind] at hr
    cases h2 : (lendL d as).run h with
    | none => rw [h2] at hr; cases hr
    | some q =>
      rw [h2, Option.bind_some, Rd.run_ret] at hr
      cases hr
      exact ⟨p.1, p.2, q.1, q.2, rfl, rfl, rfl⟩

theorem lendL_VL {x y : Ctx} {KS : Key → Prop} {d : Nat} (hd : LendOk x y h KS d) : ∀ {as as' : List AVal} {ks : List Key}, (lendL d as).run h = some (as', ks) → (∀ k ∈ ks, KS k) → as'.length = as.length ∧ (∀ us, VL x as us → VL y.bare as' us) ∧ (∀ us, VL x (as.flatMap cellsOf) us → VL y.bare (as'.flatMap cellsOf) us)
  | [], as', ks, hr, _ => by
    rw [lendL, Rd.run_ret] at hr
    cases hr
    exact ⟨rfl, fun us hu => by simpa only [VL] using hu, fun us hu => by simpa only [List.flatMap_nil, VL] using hu⟩
  | a :: as, as', ks, hr, hK => by
    obtain ⟨a', k1, bs, k2, h1, h2, e⟩ := run_lendL_cons hr
    cases e
    obtain ⟨hv, hc⟩ := hd a a' k1 h1 (fun k hk => hK k (by simp [hk]))
    obtain ⟨ih1, ih2, ih3⟩ := lendL_VL hd h2 (fun k hk => hK k (by simp [hk]))
    refine ⟨by simp [ih1], ?_, ?_⟩
    · intro us hu
      simp only [VL] at hu ⊢
      obtain ⟨v, r, rfl, e1, e2⟩ := hu
      exact ⟨v, r, rfl, hv v e1, ih2 r e2⟩
    · intro us hu
      simp only [List.flatMap_cons] at hu ⊢
      obtain ⟨e1, e2⟩ := hu.split
      have := (hc _ e1).append (ih3 _ e2)
      rwa [List.take_append_drop] at this

theorem lend_len {h : Heap} {d : Nat} {a a' : AVal} {ks : List Key} (hr : (lend d a).run h = some (a', ks)) (hL : ∀ d' as as' ks, d' < d → (lendL d' as).run h = some (as', ks) → as'.length = as.length) : (cellsOf a').length = (cellsOf a).length := by
  cases a <;> cases d <;> simp only [lend, Rd.run_ret, Rd.run_fail, Option.some.injEq, Prod.mk.injEq, reduceCtorEq] at hr <;> try (obtain ⟨rfl, _⟩ := hr; rfl)
  case agg.succ xs d =>
    rw [Rd.run_bind] at hr
    cases h1 : (lendL d xs).run h with
    | none => rw [h1] at hr; cases hr
    | some p => rw [h1, Option.bind_some, Rd.run_ret] at hr; cases hr; simpa [cellsOf] using hL d xs p.1 p.2 (Nat.lt_succ_self d) h1
  case tup.succ xs d =>
    rw [Rd.run_bind] at hr
    cases h1 : (lendL d xs).run h with
    | none => rw [h1] at hr; cases hr
    | some p => rw [h1, Option.bind_some, Rd.run_ret] at hr; cases hr; rfl
  case sl.succ k g es off len d =>
    rw [Rd.run_get] at hr
    cases hk : h k with
    | none => rw [hk] at hr; cases hr
    | some b =>
      rw [hk] at hr
      cases he : b.els g es off len with
      | none => simp only [he] at hr; cases hr
      | some xs =>
        simp only [he] at hr
        rw [Rd.run_bind] at hr
        cases h1 : (lendL d xs).run h with
        | none => rw [h1] at hr; cases hr
        | some p => rw [h1, Option.bind_some, Rd.run_ret] at hr; cases hr; rfl
  case ptr.succ k g i es off d =>
    rw [Rd.run_get] at hr
    cases hk : h k with
    | none => rw [hk] at hr; cases hr
    | some b =>
      rw [hk] at hr
      cases b with
      | row => cases hr
      | obj => cases hr
      | var cells =>
        simp only at hr
        split at hr
        · rw [Rd.run_bind] at hr
          cases h1 : (lendL d cells).run h with
          | none => rw [h1] at hr; cases hr
          | some p => rw [h1, Option.bind_some, Rd.run_ret] at hr; cases hr; rfl
        · cases hr
  case ifc.succ t v d =>
    rw [Rd.run_bind] at hr
    cases h1 : (lend d v).run h with
    | none => rw [h1] at hr; cases hr
    | some p => rw [h1, Option.bind_some, Rd.run_ret] at hr; cases hr; rfl
  case fn.succ f first cap d =>
    rw [Rd.run_bind] at hr
    cases h1 : (lendL d first).run h with
    | none => rw [h1] at hr; cases hr
    | some p =>
      rw [h1, Option.bind_some, Rd.run_bind] at hr
      cases h2 : (lendL d cap).run h with
      | none => rw [h2] at hr; cases hr
      | some q => rw [h2, Option.bind_some, Rd.run_ret] at hr; cases hr; rfl

theorem lendL_lens {h : Heap} : ∀ (d : Nat) (as as' : List AVal) (ks : List Key), (lendL d as).run h = some (as', ks) → as'.length = as.length ∧ ∀ es, (∀ a ∈ as, (cellsOf a).length = es) → ∀ a ∈ as', (cellsOf a).length = es := by
  intro d
  induction d using Nat.strongRecOn with
  | _ d ih =>
    intro as
    induction as with
    | nil =>
      intro as' ks hr
      rw [lendL, Rd.run_ret] at hr
      cases hr
      exact ⟨rfl, fun es _ a ha => by cases ha⟩
    | cons a as ihl =>
      intro as' ks hr
      obtain ⟨a', k1, bs, k2, h1, h2, e⟩ := run_lendL_cons hr
      cases e
      obtain ⟨i1, i2⟩ := ihl bs k2 h2
      have hlen := lend_len h1 (fun d' as as' ks hd' hr' => (ih d' hd' as as' ks hr').1)
      refine ⟨by simp [i1], ?_⟩
      intro es hes b hb
      rcases List.mem_cons.1 hb with rfl | hb
      · rw [hlen]; exact hes a (by simp)
      · exact i2 es (fun c hc => hes c (by simp [hc])) b hb

theorem V_of_cells1 {y : Ctx} {a : AVal} (h1 : cellsOf a = [a]) {us : List Value} (hl : VL y [a] us) : VL y (cellsOf a) us := by rw [h1]; exact hl

/-- What speaks of no names. -/
def isPlain : AVal → Bool
  | .agg _ => false
  | .tup _ => false
  | .ptr .. => false
  | .sl .. => false
  | .ifc _ _ => false
  | .fn .. => false
  | .mp .. => false
  | _ => true
theorem bare_same {x y : Ctx} (g : Grow x y) {a : AVal} (hp : isPlain a = true) : (∀ u, V x a u → V y.bare a u) ∧ (∀ us, VL x (cellsOf a) us → VL y.bare (cellsOf a) us) := by
  have hv : ∀ u, V x a u → V y.bare a u := by
    intro u hu
    have hu := V_grow g _ _ hu
    cases a <;> simp only [isPlain, Bool.false_eq_true] at hp <;> simp only [V] at hu ⊢ <;> exact hu
  have hc : cellsOf a = [a] := by cases a <;> simp_all [isPlain, cellsOf]
  refine ⟨hv, fun us hu => ?_⟩
  rw [hc] at hu ⊢
  simp only [VL] at hu ⊢
  obtain ⟨v, r, rfl, h1, h2⟩ := hu
  exact ⟨v, r, rfl, hv v h1, h2⟩

theorem lend_ok (hs : Sim B S0 h nc x) {y : Ctx} (g : Grow x y) (hw : y.w = x.w) {KS : Key → Prop} (hK : ∀ k, KS k → ∀ blk b oo, h k = some blk → x.ρ k blk.gen = some (b, oo) → y.S b) : ∀ d, LendOk x y h KS d := by
  intro d
  induction d with
  | zero =>
    intro a a' ks hr hks
    cases a <;> simp only [lend, Rd.run_ret, Rd.run_fail, Option.some.injEq, Prod.mk.injEq, reduceCtorEq] at hr <;>
      (obtain ⟨rfl, _⟩ := hr; exact bare_same g (by simp [isPlain]))
  | succ d ih =>
    intro a a' ks hr hks
    have lift : (∀ u, V x a u → V y.bare a' u) → cellsOf a = [a] → cellsOf a' = [a'] → (∀ u, V x a u → V y.bare a' u) ∧ (∀ us, VL x (cellsOf a) us → VL y.bare (cellsOf a') us) := by
      intro hv e1 e2
      refine ⟨hv, fun us hu => ?_⟩
      rw [e1] at hu
      rw [e2]
      simp only [VL] at hu ⊢
      obtain ⟨v, r, rfl, h1, h2⟩ := hu
      exact ⟨v, r, rfl, hv v h1, h2⟩
    cases a <;> simp only [lend, Rd.run_ret, Rd.run_fail, Option.some.injEq, Prod.mk.injEq, reduceCtorEq] at hr <;>
      try (obtain ⟨rfl, _⟩ := hr; exact bare_same g (by simp [isPlain]))
    case agg xs =>
      rw [Rd.run_bind] at hr
      cases h1 : (lendL d xs).run h with
      | none => rw [h1] at hr; cases hr
      | some p =>
        rw [h1, Option.bind_some, Rd.run_ret] at hr
        cases hr
        obtain ⟨_, e2, _⟩ := lendL_VL ih h1 hks
        refine ⟨fun u hu => ?_, fun us hu => e2 us hu⟩
        simp only [V] at hu ⊢
        obtain ⟨cs, hu, hl⟩ := hu
        exact ⟨cs, hu, e2 cs hl⟩
    case tup xs =>
      rw [Rd.run_bind] at hr
      cases h1 : (lendL d xs).run h with
      | none => rw [h1] at hr; cases hr
      | some p =>
        rw [h1, Option.bind_some, Rd.run_ret] at hr
        cases hr
        obtain ⟨_, e2, _⟩ := lendL_VL ih h1 hks
        refine lift (fun u hu => ?_) rfl rfl
        simp only [V] at hu ⊢
        obtain ⟨cs, hu, hl⟩ := hu
        exact ⟨cs, hu, e2 cs hl⟩
    case sl k gg es off len =>
      rw [Rd.run_get] at hr
      cases hk : h k with
      | none => rw [hk] at hr; cases hr
      | some b =>
        rw [hk] at hr
        cases he : b.els gg es off len with
        | none => simp only [he] at hr; cases hr
        | some xs =>
          simp only [he] at hr
          rw [Rd.run_bind] at hr
          cases h1 : (lendL d xs).run h with
          | none => rw [h1] at hr; cases hr
          | some p =>
            rw [h1, Option.bind_some, Rd.run_ret] at hr
            cases hr
            obtain ⟨e1, _, e3⟩ := lendL_VL ih h1 (fun k hk => hks k (by simp [hk]))
            refine lift (fun u hu => ?_) rfl rfl
            simp only [V] at hu ⊢
            obtain ⟨bb, oo, ad, cap, hρ, hu, hlc, had, hz, hsp⟩ := hu
            obtain ⟨f1, f2, f3⟩ := els_ok hs hk hρ he
            have hyS : y.S bb := hK k (hks k (by simp)) b bb oo hk (by rw [f1]; exact hρ)
            have hlen : p.1.length = len := by rw [e1, f2]
            by_cases hc : cap = 0
            · have : p.1 = [] := by
                apply List.eq_nil_of_length_eq_zero
                omega
              refine ⟨ad.block, ad.off, cap, ?_, by omega, .inl this, by rw [this]; simp only [VR]⟩
              rw [hlen, hu, ← hsp]
            · refine ⟨bb, oo + off * es, cap, ?_, by omega, .inr hyS, ?_⟩
              · rw [hlen, hu, had.resolve_left hc]
              · obtain ⟨g1, g2⟩ := VR_flat f3
                exact VR_of_flat ((lendL_lens d xs p.1 p.2 h1).2 es (VR_lens f3)) (VC_of_VC (y := y.bare) hw g1 e3)
    case ptr k gg i es off =>
      rw [Rd.run_get] at hr
      cases hk : h k with
      | none => rw [hk] at hr; cases hr
      | some b =>
        rw [hk] at hr
        cases b with
        | row => cases hr
        | obj => cases hr
        | var cells =>
          simp only at hr
          split at hr
          · rename_i hg
            subst hg
            rw [Rd.run_bind] at hr
            cases h1 : (lendL d cells).run h with
            | none => rw [h1] at hr; cases hr
            | some p =>
              rw [h1, Option.bind_some, Rd.run_ret] at hr
              cases hr
              obtain ⟨e1, e2, e3⟩ := lendL_VL ih h1 (fun k hk => hks k (by simp [hk]))
              refine lift (fun u hu => ?_) rfl rfl
              simp only [V] at hu ⊢
              obtain ⟨bb, oo, hρ, hu⟩ := hu
              obtain ⟨b', o', h1', h2, h3, h4⟩ := hs.live k _ hk
              simp only [Blk.gen] at h1'
              rw [hρ] at h1'
              cases h1'
              obtain ⟨rfl, c, el, hheap, hcsz, hvc⟩ := h4
              have hyS : y.S bb := hK k (hks k (by simp)) _ bb 0 hk hρ
              refine ⟨bb, 0, by rw [hu]; congr 3; omega, hyS, ?_⟩
              exact VC_of_VC (y := y.bare) hw hvc e2
          · cases hr
    case ifc t v =>
      rw [Rd.run_bind] at hr
      cases h1 : (lend d v).run h with
      | none => rw [h1] at hr; cases hr
      | some p =>
        rw [h1, Option.bind_some, Rd.run_ret] at hr
        cases hr
        obtain ⟨e1, _⟩ := ih v p.1 p.2 h1 hks
        refine lift (fun u hu => ?_) rfl rfl
        simp only [V] at hu ⊢
        obtain ⟨w, hu, hl⟩ := hu
        exact ⟨w, hu, e1 w hl⟩
    case fn f first cap =>
      rw [Rd.run_bind] at hr
      cases h1 : (lendL d first).run h with
      | none => rw [h1] at hr; cases hr
      | some p =>
        rw [h1, Option.bind_some, Rd.run_bind] at hr
        cases h2 : (lendL d cap).run h with
        | none => rw [h2] at hr; cases hr
        | some q =>
          rw [h2, Option.bind_some, Rd.run_ret] at hr
          cases hr
          obtain ⟨_, e2, _⟩ := lendL_VL ih h1 (fun k hk => hks k (by simp [hk]))
          obtain ⟨_, e4, _⟩ := lendL_VL ih h2 (fun k hk => hks k (by simp [hk]))
          refine lift (fun u hu => ?_) rfl rfl
          simp only [V] at hu ⊢
          obtain ⟨fs, cs, hu, l1, l2⟩ := hu
          exact ⟨fs, cs, hu, e2 fs l1, e4 cs l2⟩

end
end Go.Xec
