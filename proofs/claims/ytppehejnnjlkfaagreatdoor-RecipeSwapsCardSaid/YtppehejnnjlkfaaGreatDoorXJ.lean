/-
  Append and copy.
-/
import Derived.Test.YtppehejnnjlkfaaGreatDoorXI
set_option linter.unusedVariables false
set_option linter.unusedSimpArgs false
namespace Go.Xec
open Go

section
variable {P : Program} {B : Nat} {S0 : Base} {ρc : Operand → Value} {o : Oper} {x : Ctx} {h : Heap} {nc : Nat} {key : Key} {e : XArg → AVal}

/-- What a slice or a text holds, for the machine. -/
theorem elems_ok (hs : Sim B S0 h nc x) {es : Nat} {va : AVal} {u : Value} {ys : List AVal} (hr : (elemsR es va).run h = some ys) (hv : V x va u) :
    (Builtin.lenOf u).run P x.w = .ok ys.length x.w ∧ (∀ a ∈ ys, (cellsOf a).length = es) ∧
      ∃ vs, VL x (ys.flatMap cellsOf) vs ∧ ∀ m, m ≤ ys.length → ∀ w' : World, w'.heap = x.w.heap → (Builtin.firstCells es m u).run P w' = .ok (vs.take (m * es)).toArray w' := by
  have rowCase : ∀ (b oo : Nat) (ad : Option Addr) (cap : Nat), u = .slice ad ys.length cap → (ys ≠ [] → ad = some ⟨b, oo, none⟩) → VR x es ys b oo →
      (Builtin.lenOf u).run P x.w = .ok ys.length x.w ∧ (∀ a ∈ ys, (cellsOf a).length = es) ∧
      ∃ vs, VL x (ys.flatMap cellsOf) vs ∧ ∀ m, m ≤ ys.length → ∀ w' : World, w'.heap = x.w.heap → (Builtin.firstCells es m u).run P w' = .ok (vs.take (m * es)).toArray w' := by
    intro b oo ad cap hu had hvr
    obtain ⟨hfl, hfll⟩ := VR_flat hvr
    obtain ⟨vs, h1, h2⟩ := VL_of_VC hfl
    refine ⟨by simp only [hu, Builtin.lenOf, Sem.run_pure], VR_lens hvr, vs, h1, ?_⟩
    intro m hm w' hw'
    by_cases hne : ys = []
    · subst hne
      have : m = 0 := by simpa using hm
      subst this
      rw [hu]
      cases ad <;> simp [Builtin.firstCells, loadCells, loadCellsFrom]
    · rw [hu, had hne]
      have hl : (vs.take (m * es)).length = m * es := by
        rw [List.length_take, h1.length, hfll]
        exact Nat.min_eq_left (Nat.mul_le_mul_right es hm)
      have hc : ∀ j v, (vs.take (m * es))[j]? = some v → w'.cell? ((⟨b, oo, none⟩ : Addr).add j) = some v := by
        intro j v hj
        rw [add_off]
        rw [List.getElem?_take] at hj
        split at hj
        · rw [← h2 j v hj]
          simp only [World.cell?, hw']
        · cases hj
      have := run_loadCells_list (P := P) w' ⟨b, oo, none⟩ (vs.take (m * es)) hc
      rw [hl] at this
      exact this
  unfold elemsR at hr
  split at hr
  · rename_i es' xs
    split at hr
    · rename_i he
      subst he
      cases hr
      simp only [V] at hv
      obtain ⟨b, oo, cap, hv, hcap, hS, hvr⟩ := hv
      exact rowCase b oo _ cap hv (fun _ => rfl) (VR_grow (Grow.unbare x) _ _ _ _ rfl hvr)
    · cases hr
  · rename_i k g es' off len
    split at hr
    · rename_i he
      subst he
      simp only [V] at hv
      obtain ⟨b, oo, ad, cap, hρ, hv, hcap, had, hz, hsp⟩ := hv
      rw [Rd.run_get] at hr
      cases hk : h k with
      | none => rw [hk] at hr; cases hr
      | some blk =>
        rw [hk] at hr
        simp only [Rd.run_ofO] at hr
        obtain ⟨_, hl, hvr⟩ := els_ok hs hk hρ hr
        refine rowCase b (oo + off * es) (some ad) cap (by rw [hl]; exact hv) ?_ hvr
        intro hne
        rw [had.resolve_left]
        intro h0
        apply hne
        apply List.eq_nil_of_length_eq_zero
        omega
    · cases hr
  · cases hr
    simp only [V] at hv
    exact rowCase 0 0 none 0 hv (fun hne => absurd rfl hne) (by simp only [VR])
  · cases hr
    simp only [V] at hv
    obtain ⟨ad, hv⟩ := hv
    exact rowCase 0 0 (some ad) 0 hv (fun hne => absurd rfl hne) (by simp only [VR])
  · rename_i s
    split at hr
    · rename_i he
      subst he
      cases hr
      have hv := V_str hv
      refine ⟨by simp [hv, Builtin.lenOf], ?_, s.data.toList.map fun b => .int .u8 b.toNat, ?_, ?_⟩
      · intro a ha
        obtain ⟨b, _, rfl⟩ := List.mem_map.1 ha
        rfl
      · have : ∀ (l : List UInt8), VL x ((l.map fun b => AVal.int .u8 b.toNat).flatMap cellsOf) (l.map fun b => Value.int .u8 b.toNat) := by
          intro l
          induction l with
          | nil => simp [VL]
          | cons b l ih =>
            simp only [List.map_cons, List.flatMap_cons, cellsOf, List.singleton_append, VL]
            exact ⟨_, _, rfl, by simp only [V], ih⟩
        exact this _
      · intro m hm w' _
        rw [hv]
        simp only [Builtin.firstCells, Sem.run_pure, Nat.mul_one]
        congr 1
        apply Array.ext'
        simp [List.map_take, List.extract_eq_take_drop]
    · cases hr
  · cases hr

theorem growBy_le (newLen : Nat) : ∀ (r c : Nat), 256 ≤ c → c ≤ 2 * newLen → Builtin.growBy newLen r c ≤ 2 * newLen
  | 0, c, _, h => by simpa [Builtin.growBy] using h
  | r + 1, c, h0, h => by
    simp only [Builtin.growBy]
    split
    · exact h
    · exact growBy_le newLen r _ (by omega) (by omega)
theorem nextcap_le {need cap : Nat} (h : cap < need) : Builtin.nextslicecap need cap ≤ 2 * need := by
  unfold Builtin.nextslicecap
  split
  · omega
  · split
    · omega
    · exact growBy_le need 4 cap (by omega) (by omega)

theorem run_choose_cap (need old : Nat) (elem : TypeId) (w : World) (hn : need < 2 ^ 63) : ∃ c, need ≤ c ∧ (choose (.appendCap need old elem)).run P w = .ok c { w with drawn := w.drawn + 1 } := by
  refine ⟨need + w.tape w.drawn (.appendCap need old elem) % (2 ^ 63 - need), Nat.le_add_right _ _, ?_⟩
  simp [run_choose, Question.forced, Question.cut]

/-- What append makes: in place, or anew. 'a': where the row begins; 'as': what it shows; 'new': what comes. -/
theorem ok_app (hs0 : Sim B S0 h nc x) (hk : key.2 < nc) (hfresh : ∀ g, x.ρ key g = none) {c : Call} {t t2 et : TypeId} {es bytes : Nat} {a b : Operand} {va vb v : AVal} {ws : Wr} {z : Value} {d2 : TypeDesc}
    (hop : o.op = .call c) (hc : c.callee = .builtin .append) (h0 : c.argTypes[0]? = some t) (h1 : c.argTypes[1]? = some t2) (h2 : c.args[0]? = some a) (h3 : c.args[1]? = some b) (ha : V x va (ρc a)) (hb : V x vb (ρc b))
    (ht : P.underlying t = some (.slice et)) (ht2 : P.underlying t2 = some d2) (hd2 : ∀ k, d2 ≠ .int k) (hsz : szOf P et = some es) (hby : byOf P et = some bytes) (hb1 : 1 ≤ bytes) (hes : 1 ≤ es) (hz : zeroOf P et = some z) (hzl : z.cells.size = es)
    (hv : (appR es bytes key va vb).run h = some (v, ws)) : OpOk P B S0 ρc o x (applyW h ws) nc key v := by
  obtain ⟨ti, hti, htib⟩ := info_run (P := P) hby x.w
  have hti' : ∀ w : World, (typeInfo et).run P w = .ok ti w := by
    intro w
    obtain ⟨ti', h4, h5⟩ := info_run (P := P) hby w
    have e1 : ∀ w : World, (typeInfo et).run P w = match P.info? et with | some i => .ok i w | none => .halt (.stuck "no such type") w := by
      intro w
      simp only [typeInfo, Sem.run_bind, run_program, Result.andThen_ok]
      cases P.info? et <;> simp
    rw [e1] at hti ⊢
    cases hi : P.info? et with
    | none => rw [hi] at hti; cases hti
    | some i => rw [hi] at hti; simp only [Result.ok.injEq] at hti; rw [hti.1]
  unfold appR at hv
  rw [Rd.run_bind] at hv
  cases hys : (elemsR es vb).run h with
  | none => rw [hys] at hv; cases hv
  | some ys =>
    rw [hys, Option.bind_some, Rd.run_bind] at hv
    cases hln : (lendL freeze ys).run h with
    | none => rw [hln] at hv; cases hv
    | some p =>
      rw [hln, Option.bind_some] at hv
      obtain ⟨new, ks⟩ := p
      simp only at hv
      obtain ⟨hlen0, hlens0, vs, hvs, hfirst⟩ := elems_ok (P := P) hs0 hys hb
      obtain ⟨hnl, hnlens⟩ := lendL_lens freeze ys new ks hln
      obtain ⟨x1, e1, e2, hs, hst1, hK⟩ := hs0.drops ks
      obtain ⟨_, _, hlv⟩ := lendL_VL (lend_ok (y := x1) hs0 hst1.grow e1 (KS := (· ∈ ks)) (fun k hk' => hK k hk') freeze) hln (fun k hk' => hk')
      have hnew : VL x1 (new.flatMap cellsOf) vs := VL_grow (Grow.unbare x1) _ _ (hlv vs hvs)
      have hnl' := hnlens es hlens0
      have hvl : vs.length = new.length * es := by rw [hnew.length, flat_len hnl']
      have ha1 := V_grow hst1.grow _ _ ha
      have hfr1 : ∀ g, x1.ρ key g = none := fun g => by rw [e2]; exact hfresh g
      have hall : ∀ w' : World, w'.heap = x1.w.heap → (Builtin.firstCells es new.length (ρc b)).run P w' = .ok vs.toArray w' := by
        intro w' hw'
        rw [hnl, hfirst ys.length (Nat.le_refl _) w' (by rw [hw', e1]), ← hnl, ← hvl, List.take_length]
      -- the run
      have hz' : ∀ w, (zeroValue et).run P w = .ok z w := fun w => zero_run hz w
      have run : ∀ (base : Option Addr) (sLen sCap : Nat), ρc a = .slice base sLen sCap →
          (sLen + new.length ≤ sCap → ∀ y : World, (match base with | some ad => storeCells (ad.add (sLen * es)) vs | none => pure ()).run P x1.w = .ok () y → (execOp ρc o).run P x.w = .ok (.value (.slice base (sLen + new.length) sCap)) y) ∧
          (sCap < sLen + new.length → (sLen + new.length) * bytes ≤ 140737488355328 → ∀ old : List Value, (∀ w' : World, w'.heap = x1.w.heap → (Builtin.firstCells es sLen (ρc a)).run P w' = .ok old.toArray w') →
            ∃ (cap : Nat) (rest : Array Value), sLen + new.length ≤ cap ∧ rest.size = (cap - (sLen + new.length)) * es ∧
            (execOp ρc o).run P x.w = .ok (.value (.slice (some ⟨x1.w.heap.size, 0, none⟩) (sLen + new.length) cap)) { x1.w with drawn := x1.w.drawn + 1, heap := x1.w.heap.push (.cells (old.toArray ++ vs.toArray ++ rest) et (0, 0)) }) := by
        intro base sLen sCap hp
        have pre : ∀ k : Nat → Sem Value, ((match (some t2 : Option TypeId) with
            | some xType => do pure ((← underlying xType) matches .int _)
            | none => pure false) : Sem Bool).run P x.w = .ok false x.w := by
          intro _
          simp only [Sem.run_bind, run_underlying ht2, Result.andThen_ok]
          cases d2 <;> simp at hd2 ⊢
        have hw : x1.w = x.w := e1
        have hstart : ∀ r, ((do
            let new' ← Builtin.firstCells es new.length (ρc b)
            pure new' : Sem (Array Value)).run P x.w) = r → True := fun _ _ => trivial
        constructor
        · intro hle y hy
          have hfc := hall x.w (by rw [hw])
          have hl0 : (Builtin.lenOf (ρc b)).run P x.w = .ok new.length x.w := by rw [hlen0, hnl]
          rw [hw] at hy
          simp only [execOp, hop, resolve, hc, Sem.run_bind, Sem.run_pure, Result.andThen_ok, invoke, builtin, Builtin.append_, h0, h1, Array.getElem?_map, h2, h3, Option.map_some, run_underlying ht, hp, szOf_run hsz, run_underlying ht2]
          have hf2 : (match d2 with | TypeDesc.int _ => true | _ => false) = false := by cases d2 <;> simp at hd2 ⊢
          simp only [hf2, Bool.false_eq_true, if_false, Bool.not_false, if_true, hl0, Result.andThen_ok, Sem.run_bind, hle, hfc]
          cases base with
          | none =>
            simp only [Sem.run_pure, Result.ok.injEq, true_and] at hy
            subst hy
            simp
          | some ad =>
            simp only at hy
            simp only [Sem.run_bind, hy, Result.andThen_ok, Sem.run_pure]
        · intro hgt hbnd old hold
          have hfc : ∀ w' : World, w'.heap = x.w.heap → (Builtin.firstCells es new.length (ρc b)).run P w' = .ok vs.toArray w' := fun w' hw' => hall w' (by rw [hw', hw])
          have hold' : ∀ w' : World, w'.heap = x.w.heap → (Builtin.firstCells es sLen (ρc a)).run P w' = .ok old.toArray w' := fun w' hw' => hold w' (by rw [hw', hw])
          have hl0 : (Builtin.lenOf (ρc b)).run P x.w = .ok new.length x.w := by rw [hlen0, hnl]
          have hneed : sLen + new.length ≤ 140737488355328 := by
            have := Nat.mul_le_mul_left (sLen + new.length) hb1
            omega
          obtain ⟨cap, hcap, hch⟩ := run_choose_cap (P := P) (sLen + new.length) sCap et x.w (by omega)
          refine ⟨cap, Builtin.zeroCells z.cells (cap - (sLen + new.length)), hcap, by simp [Builtin.zeroCells, hzl], ?_⟩
          simp only [execOp, hop, resolve, hc, Sem.run_bind, Sem.run_pure, Result.andThen_ok, invoke, builtin, Builtin.append_, h0, h1, Array.getElem?_map, h2, h3, Option.map_some, run_underlying ht, hp, szOf_run hsz, run_underlying ht2]
          have hf2 : (match d2 with | TypeDesc.int _ => true | _ => false) = false := by cases d2 <;> simp at hd2 ⊢
          have hnle : ¬ (sLen + new.length ≤ sCap) := by omega
          have hb0 : ¬ (((sLen + new.length : Nat) : Int) > IntKind.i64.max ∧ (False ∨ ti.bytes = 0)) := by
            rintro ⟨_, h9 | h9⟩
            · exact h9
            · omega
          have hnc : ¬ (Builtin.nextslicecap (sLen + new.length) sCap * ti.bytes > 2 ^ 48) := by
            have h7 := nextcap_le hgt
            have h8 := Nat.mul_le_mul_right bytes h7
            rw [htib]
            rw [Nat.mul_assoc] at h8
            omega
          have hold2 := hold' { x.w with drawn := x.w.drawn + 1 } rfl
          have hfc2 := hfc { x.w with drawn := x.w.drawn + 1 } rfl
          rw [hp] at hold2
          simp only [hf2, Bool.false_eq_true, if_false, Bool.not_false, if_true, hl0, Result.andThen_ok, Sem.run_bind, hnle, hti', hb0, hnc, Sem.run_pure, hch, run_askRoom, hold2, hfc2, hz', newRow, run_newObj, hw]
      -- a new row
      have fresh0 : ∀ (kk : Key) (gn : Nat) (y0 : Ctx) (hd : Heap) (old : List Value) (olds : List AVal) (cap : Nat) (rest : Array Value) (n : Nat), Sim B S0 hd nc y0 → y0.w = x1.w → kk.2 < nc → (∀ g p, y0.ρ kk g = some p → g < gn) → VL y0 (olds.flatMap cellsOf) old → (∀ a ∈ olds, (cellsOf a).length = es) → VL y0 (new.flatMap cellsOf) vs →
          n = olds.length + new.length → n ≤ cap → rest.size = (cap - n) * es →
          ∃ y, y.w = { x1.w with drawn := x1.w.drawn + 1, heap := x1.w.heap.push (.cells (old.toArray ++ vs.toArray ++ rest) et (0, 0)) } ∧ Sim B S0 (upd hd kk (some (.row gn es (olds ++ new)))) nc y ∧ Step B y0 y ∧ V y (.sl kk gn es 0 n) (.slice (some ⟨x1.w.heap.size, 0, none⟩) n cap) ∧
            (∀ k g p, y.ρ k g = some p → y0.ρ k g = some p ∨ k = kk) := by
        intro kk gn y0 hd old olds cap rest n hs' hw' hkk hnew' hold holds hnv hn hcap hrest
        obtain ⟨y, f1, f2, f3, f4, f5, f6⟩ := hs'.fresh kk gn (.row gn es (olds ++ new)) { x1.w with drawn := x1.w.drawn + 1, heap := x1.w.heap.push (.cells (old.toArray ++ vs.toArray ++ rest) et (0, 0)) } (old.toArray ++ vs.toArray ++ rest) et hkk rfl hnew' (by rw [hw']) (by rw [hw']; exact ⟨rfl, rfl, rfl⟩)
        have hol : old.length = olds.length * es := by rw [hold.length, flat_len holds]
        have hsize : (old.toArray ++ vs.toArray ++ rest).size = cap * es := by
          simp only [Array.size_append, List.size_toArray, hol, hvl, hrest]
          rw [← Nat.add_mul, ← Nat.add_mul]
          congr 1
          omega
        rw [hw'] at f5 f2
        refine ⟨y, f1, f6 ?_, f4, ?_, ?_⟩
        · refine ⟨_, et, by rw [hw']; exact f5, ?_, ?_⟩
          · rw [hsize, List.length_append]
            simp only [Nat.zero_add]
            exact Nat.mul_le_mul_right es (by omega)
          · rw [hw']
            refine VR_of_flat ?_ ?_
            · intro a ha
              rcases List.mem_append.1 ha with h7 | h7
              · exact holds a h7
              · exact hnl' a h7
            · refine VC_of_block f5 ?_
              have := (VL_grow f4.grow _ _ hold).append (VL_grow f4.grow _ _ hnv)
              rw [List.flatMap_append]
              have hl7 := this.length
              have : ((old.toArray ++ vs.toArray ++ rest).toList.drop 0).take (olds.flatMap cellsOf ++ new.flatMap cellsOf).length = old ++ vs := by
                rw [← hl7]
                simp only [List.drop_zero, Array.toList_append, List.length_append]
                exact List.take_left' (by simp)
              rw [this]
              assumption
        · simp only [V]
          refine ⟨x1.w.heap.size, 0, _, cap, by rw [f2]; exact ρset_same _ _ _ _, rfl, hcap, .inr (by simp), ?_, rfl⟩
          rw [bsz_of f5, hsize]
          simp
        · intro k g p hp
          rw [f2] at hp
          rcases ρset_inv _ _ _ _ hp with h7 | ⟨h7, _⟩
          · exact .inl h7
          · exact .inr h7
      have keys : ∀ (y : Ctx), (∀ k g p, y.ρ k g = some p → x1.ρ k g = some p ∨ k = key) → ∀ k g p, y.ρ k g = some p → (∃ g' p', x.ρ k g' = some p') ∨ k = key := by
        intro y hy k g p hp
        rcases hy k g p hp with h7 | h7
        · rw [e2] at h7; exact .inl ⟨g, p, h7⟩
        · exact .inr h7
      have gone : applyW h (ks.map fun k => (k, none)) = applyW h (ks.map fun k => (k, none)) := rfl
      cases va <;> simp only at hv <;> try (cases hv; done)
      case nils =>
        simp only [V] at ha
        obtain ⟨r1, r2⟩ := run none 0 0 ha
        split at hv
        · rename_i hemp
          simp only [Rd.run_ret, Option.some.injEq, Prod.mk.injEq] at hv
          obtain ⟨rfl, rfl⟩ := hv
          have hn0 : new.length = 0 := by simpa using hemp
          refine ⟨_, x1, .inl (r1 (by omega) x1.w (by simp)), by simp [V, hn0], hs, hst1, keys x1 (fun k g p hp => .inl hp)⟩
        · rename_i hemp
          have hn0 : new.length ≠ 0 := by simpa using hemp
          split at hv
          · rename_i hbnd
            simp only [Rd.run_ret, Option.some.injEq, Prod.mk.injEq] at hv
            obtain ⟨rfl, rfl⟩ := hv
            obtain ⟨cap, rest, hcap, hrest, hrun⟩ := r2 (by omega) (by simpa using hbnd) [] (by intro w' _; rw [ha]; simp [Builtin.firstCells])
            rw [Nat.zero_add] at hcap hrest hrun
            obtain ⟨y, f1, f2, f3, f4, f5⟩ := fresh0 key 0 x1 _ [] [] cap rest new.length hs rfl hk (fun g p hp => by rw [hfr1] at hp; cases hp) (by simp [VL]) (by simp) hnew (by simp) hcap hrest
            refine ⟨_, y, .inl (by rw [f1]; exact hrun), f4, ?_, hst1.trans f3, keys y f5⟩
            rw [applyW_append]
            exact f2
          · cases hv
      case emp =>
        simp only [V] at ha
        obtain ⟨ad, ha⟩ := ha
        obtain ⟨r1, r2⟩ := run (some ad) 0 0 ha
        split at hv
        · rename_i hemp
          simp only [Rd.run_ret, Option.some.injEq, Prod.mk.injEq] at hv
          obtain ⟨rfl, rfl⟩ := hv
          have hn0 : new.length = 0 := by simpa using hemp
          have hvs0 : vs = [] := by apply List.eq_nil_of_length_eq_zero; rw [hvl, hn0]; simp
          refine ⟨_, x1, .inl (r1 (by omega) x1.w (by simp [hvs0, storeCells])), by simp [V, hn0], hs, hst1, keys x1 (fun k g p hp => .inl hp)⟩
        · rename_i hemp
          have hn0 : new.length ≠ 0 := by simpa using hemp
          split at hv
          · rename_i hbnd
            simp only [Rd.run_ret, Option.some.injEq, Prod.mk.injEq] at hv
            obtain ⟨rfl, rfl⟩ := hv
            obtain ⟨cap, rest, hcap, hrest, hrun⟩ := r2 (by omega) (by simpa using hbnd) [] (by intro w' _; rw [ha]; simp [Builtin.firstCells, loadCells, loadCellsFrom])
            rw [Nat.zero_add] at hcap hrest hrun
            obtain ⟨y, f1, f2, f3, f4, f5⟩ := fresh0 key 0 x1 _ [] [] cap rest new.length hs rfl hk (fun g p hp => by rw [hfr1] at hp; cases hp) (by simp [VL]) (by simp) hnew (by simp) hcap hrest
            refine ⟨_, y, .inl (by rw [f1]; exact hrun), f4, ?_, hst1.trans f3, keys y f5⟩
            rw [applyW_append]
            exact f2
          · cases hv
      case sl k g es' off len =>
        split at hv
        · rename_i hcond
          obtain ⟨rfl, hnk⟩ := hcond
          have hnk' : k ∉ ks := by
            intro hm
            rw [List.contains_iff_mem.2 hm] at hnk
            cases hnk
          rw [Rd.run_get] at hv
          cases hkk : h k with
          | none => rw [hkk] at hv; cases hv
          | some blk =>
            rw [hkk] at hv
            cases blk with
            | var cells => cases hv
            | obj a => cases hv
            | row g' es'' elems =>
              simp only at hv
              split at hv
              · rename_i hcond
                obtain ⟨rfl, rfl, hlen, hbnd, hallsc⟩ := hcond
                simp only [Rd.run_ret, Option.some.injEq, Prod.mk.injEq] at hv
                obtain ⟨rfl, rfl⟩ := hv
                simp only [V] at ha ha1
                obtain ⟨bb, oo, ad, cap, hρ, ha, hlc, had, hzz, hsp⟩ := ha1
                obtain ⟨r1, r2⟩ := run (some ad) len cap ha
                have hk1 : applyW h (ks.map fun k => (k, none)) k = some (.row g es'' elems) := by rw [applyW_none, if_neg hnk', hkk]
                obtain ⟨b', o', j1, j2, j3, j4⟩ := hs.live k _ hk1
                simp only [Blk.gen] at j1
                rw [hρ] at j1
                cases j1
                obtain ⟨cc, el, hheap, hcsz, hvr⟩ := j4
                have hknc := hs.dom _ _ _ hρ
                have hvr' := hvr.drop off
                have holds := VR_lens hvr'
                obtain ⟨hfl, hfll⟩ := VR_flat hvr'
                have hdl : (elems.drop off).length = len := by simp; omega
                rw [bsz_of hheap] at hzz
                have hal : ∀ a ∈ elems.drop off ++ new, (cellsOf a).length = es'' := by
                  intro a ha
                  rcases List.mem_append.1 ha with h7 | h7
                  · exact holds a h7
                  · exact hnl' a h7
                by_cases hin : len + new.length ≤ cap
                · -- in place
                  have hmul : (len + new.length) * es'' ≤ cap * es'' := Nat.mul_le_mul_right es'' hin
                  rw [Nat.add_mul] at hmul
                  rw [Nat.add_mul] at hzz
                  have hvsz : oo + off * es'' + len * es'' + vs.length ≤ cc.size := by rw [hvl]; omega
                  have hrunS : (storeCells (ad.add (len * es'')) vs).run P x1.w = .ok () (x1.w.setRow bb (spliceV cc.toList (oo + off * es'' + len * es'') vs).toArray) := by
                    by_cases hvs0 : vs = []
                    · subst hvs0
                      have : (spliceV cc.toList (oo + off * es'' + len * es'') []).toArray = cc := by simp [spliceV]
                      rw [this, setRow_self x1.w bb cc el (0, 0) hheap]
                      simp [storeCells]
                    · have hc0 : cap ≠ 0 := by
                        intro h0
                        apply hvs0
                        apply List.eq_nil_of_length_eq_zero
                        have : new.length = 0 := by omega
                        rw [hvl, this]
                        simp
                      rw [had.resolve_left hc0, add_off]
                      have hone : ∀ u ∈ vs, u.oneCell' = true := by
                        refine VL_sc hnew ?_
                        rw [List.all_flatMap]
                        exact hallsc
                      have := run_storeCells_at (P := P) bb (oo + off * es'' + len * es'') el vs 0 cc x1.w hheap (by simpa using hvsz) hone
                      simp only [Nat.add_zero] at this
                      rw [this]
                      congr 2
                      simp [spliceV]
                  obtain ⟨y, q1, q2, q3, q4, q5, q6, q7⟩ := hs.write k (.row g es'' elems) bb oo hk1 hρ (g + 1) (oo + off * es'') (.row (g + 1) es'' (elems.drop off ++ new)) _ cc (spliceV cc.toList (oo + off * es'' + len * es'') vs).toArray el hheap
                    (by simp only [List.size_toArray]; rw [spliceV_length (by simpa using hvsz)]; simp) rfl (.inr rfl) (setRow_heap' hheap _) ⟨rfl, rfl, rfl⟩
                  refine ⟨_, y, .inl (by rw [q1]; exact r1 hin _ hrunS), ?_, ?_, hst1.trans q5, ?_⟩
                  · simp only [V]
                    refine ⟨bb, oo + off * es'', ad, cap, q3, rfl, hin, ?_, ?_, hsp⟩
                    · rcases had with h7 | h7
                      · exact .inl h7
                      · exact .inr (by rw [h7]; simp)
                    · rw [bsz_of q6]
                      simp only [List.size_toArray]
                      rw [spliceV_length (by simpa using hvsz)]
                      simp only [Nat.zero_add, Array.length_toList]
                      omega
                  · rw [applyW_append]
                    refine q7 ⟨_, el, q6, ?_, ?_⟩
                    · simp only [List.size_toArray]
                      rw [spliceV_length (by simpa using hvsz)]
                      simp only [List.length_append, hdl, Array.length_toList, Nat.add_mul]
                      rw [← hvl]
                      omega
                    · refine VR_of_flat hal ?_
                      refine VC_of_block q6 ?_
                      have h8 := (VL_grow q5.grow _ _ (VL_of_block hheap hfl)).append (VL_grow q5.grow _ _ hnew)
                      rw [List.flatMap_append]
                      have hl8 := h8.length
                      have : ((spliceV cc.toList (oo + off * es'' + len * es'') vs).toArray.toList.drop (oo + off * es'')).take ((elems.drop off).flatMap cellsOf ++ new.flatMap cellsOf).length = (cc.toList.drop (oo + off * es'')).take ((elems.drop off).flatMap cellsOf).length ++ vs := by
                        rw [List.length_append, hfll, hdl, hnew.length.symm]
                        simp only [List.toList_toArray]
                        rw [spliceV_window (L := len * es'' + vs.length) (by omega) (by simp only [Array.length_toList]; omega)]
                        unfold spliceV
                        rw [List.take_take, Nat.min_eq_left (by omega)]
                        congr 1
                        rw [List.drop_eq_nil_of_le (by simp; omega)]
                        simp
                      rw [this]
                      exact h8
                  · intro k' g' p hp
                    rcases q4 k' g' p hp with h7 | rfl
                    · rw [e2] at h7; exact .inl ⟨g', p, h7⟩
                    · rw [e2] at hρ; exact .inl ⟨_, _, hρ⟩
                · -- anew
                  have hold : ∀ w' : World, w'.heap = x1.w.heap → (Builtin.firstCells es'' len (ρc a)).run P w' = .ok ((cc.toList.drop (oo + off * es'')).take (len * es'')).toArray w' := by
                    intro w' hw'
                    rw [ha]
                    by_cases hl0 : len = 0
                    · subst hl0
                      simp [Builtin.firstCells, loadCells, loadCellsFrom]
                    · rw [had.resolve_left (by omega)]
                      have hln2 : ((cc.toList.drop (oo + off * es'')).take (len * es'')).length = len * es'' := by
                        have h9 := VL_of_block hheap hfl
                        have h10 := h9.length
                        rw [hfll, hdl] at h10
                        exact h10
                      have hcells : ∀ j v, ((cc.toList.drop (oo + off * es'')).take (len * es''))[j]? = some v → w'.cell? ((⟨bb, oo + off * es'', none⟩ : Addr).add j) = some v := by
                        intro j v hj
                        rw [add_off]
                        rw [List.getElem?_take] at hj
                        split at hj
                        · rw [List.getElem?_drop, Array.getElem?_toList] at hj
                          rw [← hj]
                          simp [World.cell?, hw', hheap]
                        · cases hj
                      have := run_loadCells_list (P := P) w' ⟨bb, oo + off * es'', none⟩ _ hcells
                      rw [hln2] at this
                      exact this
                  obtain ⟨cap', rest, hcap', hrest, hrun⟩ := r2 (by omega) hbnd _ hold
                  have hgen := fun g' p hp => hs.gen k _ g' p hk1 hp
                  have hv0 := VL_of_block hheap hfl
                  rw [hfll, hdl] at hv0
                  obtain ⟨y, f1, f2, f3, f4, f5⟩ := fresh0 k (g + 1) x1 _ _ (elems.drop off) cap' rest (len + new.length) hs rfl hknc (fun g' p hp => Nat.lt_succ_of_le (hgen g' p hp)) hv0 holds hnew (by rw [hdl]) hcap' hrest
                  refine ⟨_, y, .inl (by rw [f1]; exact hrun), f4, ?_, hst1.trans f3, ?_⟩
                  · rw [applyW_append]
                    exact f2
                  · intro k' g' p hp
                    rcases f5 k' g' p hp with h7 | rfl
                    · rw [e2] at h7; exact .inl ⟨g', p, h7⟩
                    · rw [e2] at hρ; exact .inl ⟨_, _, hρ⟩
              · cases hv
        · cases hv

end
end Go.Xec
