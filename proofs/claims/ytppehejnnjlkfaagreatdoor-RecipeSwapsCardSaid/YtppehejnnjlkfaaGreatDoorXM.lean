/-
  Calls; one step of a region.
-/
import Derived.Lib.TrailingZeros
import Derived.Test.YtppehejnnjlkfaaGreatDoorXL
import Derived.Lib.LaidTab
import Derived.Lib.ItoaNum
import GoSem.ClaimJoined
set_option linter.unusedVariables false
set_option linter.unusedSimpArgs false
namespace Go.Xec
open Go

/-- What a call of a function gives. -/
def Gives (P : Program) (g : FuncId) (args : Array Value) (w : World) (Q : Value → World → Prop) : Prop :=
  ((callFunc g args).run P w = .ok (.enter g args) w ∧ Calls P g args w fun e w' => ∃ v, e = .returned v ∧ Q v w') ∨ ∃ v w', (callFunc g args).run P w = .ok (.value v) w' ∧ Q v w'

theorem Gives.mono {P : Program} {g : FuncId} {args : Array Value} {w : World} {Q Q' : Value → World → Prop} (h : Gives P g args w Q) (hq : ∀ v w', Q v w' → Q' v w') : Gives P g args w Q' := by
  rcases h with ⟨h1, h2⟩ | ⟨v, w', h1, h2⟩
  · exact .inl ⟨h1, h2.mono fun e w' ⟨v, hv, hq'⟩ => ⟨v, hv, hq v w' hq'⟩⟩
  · exact .inr ⟨v, w', h1, hq v w' h2⟩

def ctx0 (w : World) (S : Nat → Prop) : Ctx := ⟨w, S, ρ0⟩

/-- The tables that the library lays, and its errors, are as they were laid. -/
def tabs : List (String × IntKind × List Int) := [("internal/strconv.uint64pow10", .u64, Lib.pow10Tab), ("math/bits.deBruijn64tab", .u8, Lib.deBruijn64tab.map Int.ofNat)]
def errs : List String := ["strconv.ErrSyntax", "strconv.ErrRange"]
def Laid (P : Program) (w : World) : Prop :=
  (∀ t ∈ tabs, P.globalNamed t.1 ≠ none → Lib.TabIs P w t.1 t.2.1 t.2.2) ∧ (∀ n ∈ errs, P.globalNamed n ≠ none → ∃ tp p, w.var? P n = some #[.iface tp p]) ∧
    (∀ g, P.globalNamed "internal/bytealg.MaxLen" = some g → ∃ m, w.cell? ⟨g, 0, none⟩ = some (.int .i64 m)) ∧
    (P.globalNamed "errors.errorType" ≠ none → ∃ u ty, (P.cutTypes.find? (·.1 == "internal/reflectlite.rtype")).map (·.2) = some u ∧ ty < P.types.size ∧ P.rowNamed ty [101, 114, 114, 111, 114] = true ∧ w.var? P "errors.errorType" = some #[.iface u (.agg #[typeHandle P ty])])
theorem cell_keep0 {w w' : World} {a : Addr} {v : Value} (h : w.cell? a = some v) (hb : ∀ b, b < w.heap.size → w'.heap[b]? = w.heap[b]?) : w'.cell? a = some v := by
  unfold World.cell? at h ⊢
  have hlt : a.block < w.heap.size := by
    rcases Nat.lt_or_ge a.block w.heap.size with h' | h'
    · exact h'
    · rw [Array.getElem?_eq_none h'] at h; cases h
  rw [hb _ hlt]
  exact h
theorem var_keep {P : Program} {w w' : World} {n : String} {cs : Array Value} (h : w.var? P n = some cs) (hb : ∀ b, b < w.heap.size → w'.heap[b]? = w.heap[b]?) : w'.var? P n = some cs := by
  unfold World.var? at h ⊢
  cases hg : P.globalNamed n with
  | none => rw [hg] at h; cases h
  | some g =>
    rw [hg] at h
    simp only [Option.bind_some] at h ⊢
    have hlt : g < w.heap.size := by
      rcases Nat.lt_or_ge g w.heap.size with h' | h'
      · exact h'
      · rw [Array.getElem?_eq_none h'] at h; cases h
    rw [hb g hlt]
    exact h
theorem Laid.keep {P : Program} {w w' : World} (h : Laid P w) (hb : ∀ b, b < w.heap.size → w'.heap[b]? = w.heap[b]?) : Laid P w' := by
  refine ⟨fun t ht hn => var_keep (h.1 t ht hn) hb, fun n hn hg => ?_, fun g hg => ?_, fun hg => ?_⟩
  · obtain ⟨tp, p, h1⟩ := h.2.1 n hn hg
    exact ⟨tp, p, var_keep h1 hb⟩
  · obtain ⟨m, hm⟩ := h.2.2.1 g hg
    exact ⟨m, cell_keep0 hm hb⟩
  · obtain ⟨u, ty, h1, h2, h3, h4⟩ := h.2.2.2 hg
    exact ⟨u, ty, h1, h2, h3, var_keep h4 hb⟩

/-- A function that is handed values and answers values: what it answers is what F says; nothing that was there is changed. -/
def Sound (P : Program) (g : FuncId) (F : List AVal → Option AVal) : Prop :=
  ∀ as r, F as = some r → ∀ (w : World) (S : Nat → Prop) (vs : List Value), (∀ b, S b → b < w.heap.size) → Laid P w → VL (ctx0 w S) as vs →
    Gives P g vs.toArray w fun v w' => w.heap.size ≤ w'.heap.size ∧ (∀ b, b < w.heap.size → w'.heap[b]? = w.heap[b]?) ∧ SameEnv w w' ∧ V (ctx0 w' fun b => S b ∨ (w.heap.size ≤ b ∧ b < w'.heap.size)) r v

/-- A function that answers a row of its own, in a block that it made, or none. -/
def SoundN (P : Program) (g : FuncId) (F : List AVal → Option (Option (Nat × List AVal))) : Prop :=
  ∀ as r, F as = some r → ∀ (w : World) (S : Nat → Prop) (vs : List Value), (∀ b, S b → b < w.heap.size) → Laid P w → VL (ctx0 w S) as vs →
    Gives P g vs.toArray w fun v w' => w.heap.size ≤ w'.heap.size ∧ (∀ b, b < w.heap.size → w'.heap[b]? = w.heap[b]?) ∧ SameEnv w w' ∧ match r with
      | none => v = .slice none 0 0
      | some (es, xs) => ∃ b o a cap c e, v = .slice (some a) xs.length cap ∧ (cap = 0 ∨ a = ⟨b, o, none⟩) ∧ a.spot = none ∧ w.heap.size ≤ b ∧ b < w'.heap.size ∧ w'.heap[b]? = some (.cells c e (0, 0)) ∧ xs.length ≤ cap ∧ o + cap * es ≤ c.size ∧ (hasRefL xs = false → ∀ y : Ctx, y.w = w' → VR y es xs b o)

/-- A function that looks at a map and answers a row of its own, or none. -/
def SoundM (P : Program) (g : FuncId) (F : List (AVal × AVal × Nat) → Nat → Option (Option (Nat × List AVal))) : Prop :=
  ∀ es cl r, F es cl = some r → ∀ (x : Ctx) (b : Nat) (arr : Array MapEntry), Laid P x.w → x.w.heap[b]? = some (.map arr cl) → EL x es arr.toList →
    Gives P g #[.map (some b)] x.w fun v w' => x.w.heap.size ≤ w'.heap.size ∧ (∀ b, b < x.w.heap.size → w'.heap[b]? = x.w.heap[b]?) ∧ SameEnv x.w w' ∧ match r with
      | none => v = .slice none 0 0
      | some (es, xs) => ∃ b o a cap c e, v = .slice (some a) xs.length cap ∧ (cap = 0 ∨ a = ⟨b, o, none⟩) ∧ a.spot = none ∧ x.w.heap.size ≤ b ∧ b < w'.heap.size ∧ w'.heap[b]? = some (.cells c e (0, 0)) ∧ xs.length ≤ cap ∧ o + cap * es ≤ c.size ∧ (hasRefL xs = false → ∀ y : Ctx, y.w = w' → VR y es xs b o)

/-- A function that asks whether an error is of a type, and sets the variable that it is handed. -/
def SoundA (P : Program) (g : FuncId) (t tp : TypeId) (n : Nat) : Prop :=
  (∀ (w : World) (v : Value), Laid P w → Gives P g #[.nilIface, v] w fun u w' => u = .bool false ∧ w.heap.size ≤ w'.heap.size ∧ (∀ b, b < w.heap.size → w'.heap[b]? = w.heap[b]?) ∧ SameEnv w w') ∧
  (∀ (w : World) (b : Nat) (c : Array Value) (T : TypeId) (cs : List Value), Laid P w → w.heap[b]? = some (.cells c T (0, 0)) → c.size = n → cs.length = n → (∀ u ∈ cs, u.oneCell' = true) →
    Gives P g #[.iface t (.agg cs.toArray), .iface tp (.pointer (some ⟨b, 0, none⟩))] w fun u w' => u = .bool true ∧ w.heap.size ≤ w'.heap.size ∧ (∀ k, k < w.heap.size → k ≠ b → w'.heap[k]? = w.heap[k]?) ∧ w'.heap[b]? = some (.cells cs.toArray T (0, 0)) ∧ SameEnv w w')

/-- A function that is gone into. -/
def InlOk (P : Program) (B : Nat) (S0 : Base) (inl : Inl) : Prop :=
  ∀ g as h nc v h' nc', inl g as h nc = some (v, h', nc') → ∀ (x : Ctx) (vs : List Value), Sim B S0 h nc x → VL x as vs →
    Gives P g vs.toArray x.w fun u w' => ∃ y, y.w = w' ∧ Sim B S0 h' nc' y ∧ V y v u ∧ Step B x y ∧ nc ≤ nc' ∧ ∀ k g p, y.ρ k g = some p → (∃ g' p', x.ρ k g' = some p') ∨ nc ≤ k.2

structure CfgOk (P : Program) (C : Cfg) : Prop where
  Γ : ∀ g F, C.Γ g = some F → Sound P g F
  xf : ∀ g x, C.xf g = some x → ∃ fn, P.funcs[g]? = some fn ∧ chkF P fn x = true
  mixed : P.follows .mixedOrders = true
  Γn : ∀ g F, C.Γn g = some F → SoundN P g F
  Γm : ∀ g F, C.Γm g = some F → SoundM P g F
  Γa : ∀ g q, C.Γa g = some q → SoundA P g q.1 q.2.1 q.2.2

/-- The state and the machine's. -/
structure StOk (nt B : Nat) (S0 : Base) (st : St) (x : Ctx) (a : Act) : Prop where
  sim : Sim B S0 st.hp st.nc x
  sz : a.tmps.size = nt
  tm : ∀ t, V x (st.tm t) (a.tmps.getD t undef)
  dfr : a.defers = []

section
variable {P : Program} {nt B : Nat} {S0 : Base} {C : Cfg} {inl : Inl} {st st' : St} {x : Ctx} {a : Act} {key : Key}

theorem StOk.args (h : StOk nt B S0 st x a) : ArgsOk x a.eval (arg st.tm) := by
  intro o b hc
  unfold chkArg at hc
  split at hc
  · rename_i t n
    simp only [beq_iff_eq] at hc
    subst hc
    exact h.tm t
  · exact chkV_ok hc
  · simp only [beq_iff_eq] at hc
    subst hc
    simp only [arg, V, Act.eval, VL]
    exact ⟨[], [], rfl, rfl, rfl⟩
  · cases hc

theorem StOk.put {y : Ctx} {h' : Heap} {nc' : Nat} {d : Option Nat} {v : AVal} {u : Value} (h : StOk nt B S0 st x a) (hs : Sim B S0 h' nc' y) (g : Grow x y) (hv : V y v u) (hd : ∀ t, d = some t → t < nt) :
    StOk nt B S0 ⟨putO st.tm d v, h', nc'⟩ y (a.put d u) := by
  refine ⟨hs, ?_, ?_, ?_⟩
  · cases d <;> simp [Act.put, h.sz]
  · intro t
    cases d with
    | none => exact V_grow g _ _ (h.tm t)
    | some d =>
      have hlt := hd d rfl
      simp only [putO, updT, Act.put]
      by_cases e : t = d
      · subst e
        simp only [if_true]
        have : (a.tmps.setIfInBounds t u).getD t undef = u := by
          simp [Array.getD, h.sz, hlt]
        rw [this]
        exact hv
      · simp only [e, if_false]
        have : (a.tmps.setIfInBounds d u).getD t undef = a.tmps.getD t undef := by
          rw [Array.getD_eq_getD_getElem?, Array.getD_eq_getD_getElem?, Array.getElem?_setIfInBounds_ne (Ne.symm e)]
        rw [this]
        exact V_grow g _ _ (h.tm t)
  · cases d <;> simp [Act.put, h.dfr]

/-! ### values without what may be looked through -/
mutual
theorem V_noref {c c' : Ctx} : ∀ (a : AVal) (v : Value), hasRef a = false → V c a v → V c' a v
  | .undef, v, _, h => by simpa only [V] using h
  | .any, v, hr, _ => by simp [hasRef] at hr
  | .bool _, v, _, h => by simpa only [V] using h
  | .int _ _, v, _, h => by simpa only [V] using h
  | .str _, v, _, h => by simpa only [V] using h
  | .agg xs, v, hr, h => by
    simp only [hasRef] at hr
    simp only [V] at h ⊢
    obtain ⟨cs, hv, hl⟩ := h
    exact ⟨cs, hv, VL_noref xs cs hr hl⟩
  | .tup xs, v, hr, h => by
    simp only [hasRef] at hr
    simp only [V] at h ⊢
    obtain ⟨cs, hv, hl⟩ := h
    exact ⟨cs, hv, VL_noref xs cs hr hl⟩
  | .nilp, v, _, h => by simpa only [V] using h
  | .ptr .., v, hr, _ => by simp [hasRef] at hr
  | .pvo .., v, hr, _ => by simp [hasRef] at hr
  | .nils, v, _, h => by simpa only [V] using h
  | .emp, v, _, h => by simpa only [V] using h
  | .slc _ _, v, hr, _ => by simp [hasRef] at hr
  | .sl .., v, hr, _ => by simp [hasRef] at hr
  | .nili, v, _, h => by simpa only [V] using h
  | .ifc t a, v, hr, h => by
    simp only [hasRef] at hr
    simp only [V] at h ⊢
    obtain ⟨u, hv, hu⟩ := h
    exact ⟨u, hv, V_noref a u hr hu⟩
  | .nilf, v, _, h => by simpa only [V] using h
  | .fn f first cap, v, hr, h => by
    simp only [hasRef, Bool.or_eq_false_iff] at hr
    simp only [V] at h ⊢
    obtain ⟨fs, cs, hv, h1, h2⟩ := h
    exact ⟨fs, cs, hv, VL_noref first fs hr.1 h1, VL_noref cap cs hr.2 h2⟩
theorem VL_noref {c c' : Ctx} : ∀ (as : List AVal) (vs : List Value), hasRefL as = false → VL c as vs → VL c' as vs
  | [], vs, _, h => by simpa only [VL] using h
  | a :: as, vs, hr, h => by
    simp only [hasRefL, Bool.or_eq_false_iff] at hr
    simp only [VL] at h ⊢
    obtain ⟨v, r, hv, h1, h2⟩ := h
    exact ⟨v, r, hv, V_noref a v hr.1 h1, VL_noref as r hr.2 h2⟩
end

/-- The world has grown behind a call. -/
theorem Sim.world {h : Heap} {nc : Nat} (hs : Sim B S0 h nc x) (w' : World) (hz : x.w.heap.size ≤ w'.heap.size) (hb : ∀ b, b < x.w.heap.size → w'.heap[b]? = x.w.heap[b]?) (henv : SameEnv x.w w') :
    ∃ y, y.w = w' ∧ y.ρ = x.ρ ∧ Sim B S0 h nc y ∧ Step B x y ∧ ∀ b, x.w.heap.size ≤ b → b < w'.heap.size → y.S b := by
  have hlt : ∀ b, x.S b → b < x.w.heap.size := by
    intro b hS
    rw [hs.S] at hS
    rcases hS with hS | ⟨_, h2, _⟩
    · have := hs.s0 _ hS; have := hs.sz; omega
    · exact h2
  have hg : Grow x { w := w', S := mkS B S0 h w' x.ρ, ρ := x.ρ } := by
    refine ⟨?_, fun b hS => hb b (hlt b hS), fun _ _ _ h => h, ?_⟩
    · intro b hS
      rw [hs.S] at hS
      rcases hS with hS | ⟨h1, h2, h3⟩
      · exact .inl hS
      · exact .inr ⟨h1, Nat.lt_of_lt_of_le h2 hz, h3⟩
    · intro b
      rcases Nat.lt_or_ge b x.w.heap.size with h1 | h1
      · rw [bsz_congr (hb b h1)]; exact Nat.le_refl _
      · rw [bsz_ge h1]; exact Nat.zero_le _
  refine ⟨{ w := w', S := mkS B S0 h w' x.ρ, ρ := x.ρ }, rfl, rfl, ?_, ⟨hg, fun b hlt => hb b (by have := hs.sz; omega), hz, henv⟩, ?_⟩
  · refine ⟨hs.s0, Nat.le_trans hs.sz hz, ?_, hs.inj, rfl, hs.dom, hs.gen, ⟨hs.inv.1, fun b hlt => (hb b (by have := hs.sz; omega)).trans (hs.inv.2.1 b hlt), hs.inv.2.2.trans henv⟩⟩
    intro k blk hk
    obtain ⟨b, oo, h1, h2, h3, h4⟩ := hs.live k blk hk
    exact ⟨b, oo, h1, h2, Nat.lt_of_lt_of_le h3 hz, BlkOk_grow hg (hb b h3) h4⟩
  · intro b h1 h2
    refine .inr ⟨Nat.le_trans hs.sz h1, h2, fun k blk oo hk hρ => ?_⟩
    obtain ⟨b', o', h3, _, h4, _⟩ := hs.live k blk hk
    have hρ' : x.ρ k blk.gen = some (b, oo) := hρ
    rw [hρ'] at h3
    cases h3
    omega

/-- A call by value. -/
theorem callR_ok {h : Heap} {nc : Nat} {g : FuncId} {F : List AVal → Option AVal} (hF : Sound P g F) (hLd : Laid P S0.w0) (hs : Sim B S0 h nc x) {as : List AVal} {us : List Value} (hl : VL x as us) {r : AVal} {ws : Wr} (hr : (callR F as).run h = some (r, ws)) :
    Gives P g us.toArray x.w fun u w' => ∃ y, y.w = w' ∧ Sim B S0 (applyW h ws) nc y ∧ V y r u ∧ Step B x y ∧ ∀ k g p, y.ρ k g = some p → ∃ g' p', x.ρ k g' = some p' := by
  unfold callR at hr
  rw [Rd.run_bind] at hr
  cases hln : (lendL freeze as).run h with
  | none => rw [hln] at hr; cases hr
  | some p =>
    rw [hln, Option.bind_some] at hr
    obtain ⟨bs, ks⟩ := p
    simp only at hr
    cases hf : F bs with
    | none => rw [hf] at hr; cases hr
    | some r' =>
      rw [hf] at hr
      simp only [Rd.run_ret, Option.some.injEq, Prod.mk.injEq] at hr
      obtain ⟨rfl, rfl⟩ := hr
      have hlt : ∀ b, x.S b → b < x.w.heap.size := by
        intro b hS
        rw [hs.S] at hS
        rcases hS with hS | ⟨_, h2, _⟩
        · have := hs.s0 _ hS; have := hs.sz; omega
        · exact h2
      -- what is lent
      let lent : Nat → Prop := fun b => ∃ k ∈ ks, ∃ blk oo, h k = some blk ∧ x.ρ k blk.gen = some (b, oo)
      let y0 : Ctx := { x with S := fun b => x.S b ∨ lent b }
      have g0 : Grow x y0 := ⟨fun b hb => .inl hb, fun _ _ => rfl, fun _ _ _ hp => hp, fun _ => Nat.le_refl _⟩
      obtain ⟨_, hbs, _⟩ := lendL_VL (lend_ok (y := y0) hs g0 rfl (KS := (· ∈ ks)) (fun k hk blk b oo hb hρ => .inr ⟨k, hk, blk, oo, hb, hρ⟩) freeze) hln (fun k hk => hk)
      have hS0 : ∀ b, (x.S b ∨ lent b) → b < x.w.heap.size := by
        rintro b (hb | ⟨k, _, blk, oo, hk, hρ⟩)
        · exact hlt b hb
        · obtain ⟨b', o', h1, _, h2, _⟩ := hs.live k blk hk
          rw [hρ] at h1
          cases h1
          exact h2
      refine (hF bs r' hf x.w (fun b => x.S b ∨ lent b) us hS0 (hLd.keep fun b hb => hs.inv.2.1 b (by have := hs.inv.1; omega)) (hbs us hl)).mono ?_
      rintro u w' ⟨hz, hb, henv, hv⟩
      by_cases href : hasRef r' = true
      · rw [if_pos href]
        obtain ⟨x1, e1, e2, hs1, hst1, hK⟩ := hs.drops ks
        obtain ⟨y, f1, f2, f3, f4, f5⟩ := hs1.world w' (by rw [e1]; exact hz) (by rw [e1]; exact hb) (by rw [e1]; exact henv)
        refine ⟨y, f1, f3, ?_, hst1.trans f4, fun k g p hp => ⟨g, p, by rw [f2, e2] at hp; exact hp⟩⟩
        refine V_grow (x := ctx0 w' _) ⟨?_, ?_, (fun _ _ _ hp => by cases hp), (fun b => by rw [f1]; exact Nat.le_refl _)⟩ _ _ hv
        · rintro b ((hb1 | ⟨k, hk, blk, oo, hk1, hρ⟩) | ⟨h1, h2⟩)
          · exact f4.grow.S b (hst1.grow.S b hb1)
          · exact f4.grow.S b (hK k hk blk b oo hk1 hρ)
          · exact f5 b (by rw [e1]; exact h1) h2
        · intro b _
          rw [f1]
          rfl
      · rw [if_neg href]
        obtain ⟨y, f1, f2, f3, f4, f5⟩ := hs.world w' hz hb henv
        exact ⟨y, f1, f3, V_noref r' u (by simpa using href) hv, f4, fun k g p hp => ⟨g, p, by rw [f2] at hp; exact hp⟩⟩

/-- A call that answers a row of its own. -/
theorem callNR_ok {h : Heap} {nc : Nat} {g : FuncId} {F : List AVal → Option (Option (Nat × List AVal))} (hF : SoundN P g F) (hLd : Laid P S0.w0) (hs : Sim B S0 h nc x) (hkey : key.2 < nc) (hfresh : ∀ g, x.ρ key g = none) {as : List AVal} {us : List Value} (hl : VL x as us) {r : AVal} {ws : Wr} (hr : (callNR key F as).run h = some (r, ws)) :
    Gives P g us.toArray x.w fun u w' => ∃ y, y.w = w' ∧ Sim B S0 (applyW h ws) nc y ∧ V y r u ∧ Step B x y ∧ ∀ k g p, y.ρ k g = some p → (∃ g' p', x.ρ k g' = some p') ∨ k = key := by
  unfold callNR at hr
  rw [Rd.run_bind] at hr
  cases hln : (lendL freeze as).run h with
  | none => rw [hln] at hr; cases hr
  | some p =>
    rw [hln, Option.bind_some] at hr
    obtain ⟨bs, ks⟩ := p
    simp only at hr
    have hlt : ∀ b, x.S b → b < x.w.heap.size := by
      intro b hS
      rw [hs.S] at hS
      rcases hS with hS | ⟨_, h2, _⟩
      · have := hs.s0 _ hS; have := hs.sz; omega
      · exact h2
    let lent : Nat → Prop := fun b => ∃ k ∈ ks, ∃ blk oo, h k = some blk ∧ x.ρ k blk.gen = some (b, oo)
    let y0 : Ctx := { x with S := fun b => x.S b ∨ lent b }
    have g0 : Grow x y0 := ⟨fun b hb => .inl hb, fun _ _ => rfl, fun _ _ _ hp => hp, fun _ => Nat.le_refl _⟩
    obtain ⟨_, hbs, _⟩ := lendL_VL (lend_ok (y := y0) hs g0 rfl (KS := (· ∈ ks)) (fun k hk blk b oo hb hρ => .inr ⟨k, hk, blk, oo, hb, hρ⟩) freeze) hln (fun k hk => hk)
    have hS0 : ∀ b, (x.S b ∨ lent b) → b < x.w.heap.size := by
      rintro b (hb | ⟨k, _, blk, oo, hk, hρ⟩)
      · exact hlt b hb
      · obtain ⟨b', o', h1, _, h2, _⟩ := hs.live k blk hk
        rw [hρ] at h1
        cases h1
        exact h2
    cases hf : F bs with
    | none => rw [hf] at hr; cases hr
    | some q =>
      rw [hf] at hr
      refine (hF bs q hf x.w (fun b => x.S b ∨ lent b) us hS0 (hLd.keep fun b hb => hs.inv.2.1 b (by have := hs.inv.1; omega)) (hbs us hl)).mono ?_
      rintro u w' ⟨hz, hb, henv, hv⟩
      cases q with
      | none =>
        simp only [Rd.run_ret, Option.some.injEq, Prod.mk.injEq] at hr
        obtain ⟨rfl, rfl⟩ := hr
        obtain ⟨y, f1, f2, f3, f4, f5⟩ := hs.world w' hz hb henv
        exact ⟨y, f1, f3, by simp only [V]; exact hv, f4, fun k g p hp => .inl ⟨g, p, by rw [f2] at hp; exact hp⟩⟩
      | some q =>
        obtain ⟨es, xs⟩ := q
        simp only at hr
        split at hr
        · rename_i href
          simp only [Rd.run_ret, Option.some.injEq, Prod.mk.injEq] at hr
          obtain ⟨rfl, rfl⟩ := hr
          obtain ⟨b, o, a, cap, c, e, rfl, ha, hsp, hb1, hb2, hbc, hcap, hsz, hvr⟩ := hv
          have hp : Puts B S0 h key 0 b o (.row 0 es xs) x { w := w', S := mkS B S0 (upd h key (some (.row 0 es xs))) w' (ρset x.ρ key 0 (b, o)), ρ := ρset x.ρ key 0 (b, o) } := by
            refine ⟨fun k' g p => ρset_old _ _ _ _ (hfresh 0), ?_, ρset_same _ _ _ _, rfl, Nat.le_trans hs.sz hb1, hb2, .inl hb1, fun b' hb' _ => hb b' hb', hz, ?_, rfl, fun g p hp => (by rw [hfresh] at hp; cases hp), henv⟩
            · intro k' g p hq
              rcases ρset_inv _ _ _ _ hq with h1 | ⟨h1, h2⟩
              · exact .inl h1
              · exact .inr ⟨h1, Nat.le_of_eq h2⟩
            · rw [bsz_ge hb1]; exact Nat.zero_le _
          have hst := hp.step hs
          have hsim := hp.sim hs hkey ⟨c, e, hbc, Nat.le_trans (Nat.add_le_add_left (Nat.mul_le_mul_right es hcap) o) hsz, hvr href _ rfl⟩
          refine ⟨_, rfl, hsim, ?_, hst, ?_⟩
          · simp only [V]
            refine ⟨b, o, _, cap, ρset_same _ _ _ _, rfl, hcap, (by rw [Nat.zero_mul, Nat.add_zero]; exact ha), ?_, hsp⟩
            rw [Nat.zero_add]
            simp only [Go.Xec.bsz, hbc]
            exact hsz
          · intro k g p hq
            rcases ρset_inv _ _ _ _ hq with h1 | ⟨h1, _⟩
            · exact .inl ⟨g, p, h1⟩
            · exact .inr h1
        · cases hr

/-- A call that looks at a map. -/
theorem callMR_ok {h : Heap} {nc : Nat} {g : FuncId} {F : List (AVal × AVal × Nat) → Nat → Option (Option (Nat × List AVal))} (hF : SoundM P g F) (hLd : Laid P S0.w0) (hs : Sim B S0 h nc x) (hkey : key.2 < nc) (hfresh : ∀ g, x.ρ key g = none) {as : List AVal} {us : List Value} (hl : VL x as us) {r : AVal} {ws : Wr} (hr : (callMR key F as).run h = some (r, ws)) :
    Gives P g us.toArray x.w fun u w' => ∃ y, y.w = w' ∧ Sim B S0 (applyW h ws) nc y ∧ V y r u ∧ Step B x y ∧ ∀ k g p, y.ρ k g = some p → (∃ g' p', x.ρ k g' = some p') ∨ k = key := by
  unfold callMR at hr
  split at hr
  · rename_i k
    simp only [Rd.run_get] at hr
    simp only [VL] at hl
    obtain ⟨u0, _, rfl, hu0, rfl⟩ := hl
    split at hr
    · rename_i es cl hk
      obtain ⟨b, arr, hρ, rfl, hb, hel⟩ := mapAt hs hu0 hk
      cases hf : F es cl with
      | none => rw [hf] at hr; cases hr
      | some q =>
        rw [hf] at hr
        refine (hF es cl q hf x b arr (hLd.keep fun b hb => hs.inv.2.1 b (by have := hs.inv.1; omega)) hb hel).mono ?_
        rintro u w' ⟨hz, hb, henv, hv⟩
        cases q with
        | none =>
          simp only [Rd.run_ret, Option.some.injEq, Prod.mk.injEq] at hr
          obtain ⟨rfl, rfl⟩ := hr
          obtain ⟨y, f1, f2, f3, f4, f5⟩ := hs.world w' hz hb henv
          exact ⟨y, f1, f3, by simp only [V]; exact hv, f4, fun k g p hp => .inl ⟨g, p, by rw [f2] at hp; exact hp⟩⟩
        | some q =>
          obtain ⟨es, xs⟩ := q
          simp only at hr
          split at hr
          · rename_i href
            simp only [Rd.run_ret, Option.some.injEq, Prod.mk.injEq] at hr
            obtain ⟨rfl, rfl⟩ := hr
            obtain ⟨b, o, a, cap, c, e, rfl, ha, hsp, hb1, hb2, hbc, hcap, hsz, hvr⟩ := hv
            have hp : Puts B S0 h key 0 b o (.row 0 es xs) x { w := w', S := mkS B S0 (upd h key (some (.row 0 es xs))) w' (ρset x.ρ key 0 (b, o)), ρ := ρset x.ρ key 0 (b, o) } := by
              refine ⟨fun k' g p => ρset_old _ _ _ _ (hfresh 0), ?_, ρset_same _ _ _ _, rfl, Nat.le_trans hs.sz hb1, hb2, .inl hb1, fun b' hb' _ => hb b' hb', hz, ?_, rfl, fun g p hp => (by rw [hfresh] at hp; cases hp), henv⟩
              · intro k' g p hq
                rcases ρset_inv _ _ _ _ hq with h1 | ⟨h1, h2⟩
                · exact .inl h1
                · exact .inr ⟨h1, Nat.le_of_eq h2⟩
              · rw [bsz_ge hb1]; exact Nat.zero_le _
            have hst := hp.step hs
            have hsim := hp.sim hs hkey ⟨c, e, hbc, Nat.le_trans (Nat.add_le_add_left (Nat.mul_le_mul_right es hcap) o) hsz, hvr href _ rfl⟩
            refine ⟨_, rfl, hsim, ?_, hst, ?_⟩
            · simp only [V]
              refine ⟨b, o, _, cap, ρset_same _ _ _ _, rfl, hcap, (by rw [Nat.zero_mul, Nat.add_zero]; exact ha), ?_, hsp⟩
              rw [Nat.zero_add]
              simp only [Go.Xec.bsz, hbc]
              exact hsz
            · intro k g p hq
              rcases ρset_inv _ _ _ _ hq with h1 | ⟨h1, _⟩
              · exact .inl ⟨g, p, h1⟩
              · exact .inr h1
          · cases hr
    · cases hr
  · cases hr

/-! ### one step -/
theorem yielded_of {ops : Array Oper} {j s : Nat} (hj : (ops[j]?).bind (·.dst) = some s) (hs : s < a.tmps.size) : yielded ops a.tmps j = match a.tmps.getD s undef with | .bool b => some b | _ => none := by
  unfold yielded
  rw [hj]
  simp only [Option.bind_some]
  have : a.tmps[s]? = some (a.tmps.getD s undef) := by simp [Array.getD, hs]
  rw [this]
  split
  · rename_i b hb
    simp only [Option.some.injEq] at hb
    rw [hb]
  · rename_i hne
    split
    · rename_i b hb
      exact absurd (congrArg some hb) (hne b)
    · rfl

theorem wanted_of (h : StOk nt B S0 st x a) {ops : Array Oper} {o : Oper} {xo : XOper} (hc : chkOper P nt ops o xo = true) {b : Bool} (hb : goes st.tm xo.g = some b) : Region.wanted o (yielded ops a.tmps) = b := by
  unfold chkOper at hc
  simp only [Bool.and_eq_true] at hc
  obtain ⟨⟨⟨_, _⟩, hg⟩, _⟩ := hc
  unfold Region.wanted
  split at hg
  · rename_i h1 h2
    rw [h2] at hb
    rw [h1]
    simp only [goes, Option.some.injEq] at hb
    exact hb
  · rename_i j bb s c h1 h2
    simp only [Bool.and_eq_true, decide_eq_true_eq, beq_iff_eq] at hg
    obtain ⟨⟨h3, h4⟩, rfl⟩ := hg
    rw [h2] at hb
    rw [h1]
    simp only [goes] at hb
    simp only
    rw [yielded_of (a := a) h3 (by rw [h.sz]; exact h4)]
    have htm := h.tm s
    split at hb
    · rename_i b' e
      rw [e] at htm
      rw [V_bool htm]
      simp only [Option.some.injEq] at hb ⊢
      rw [← hb]
      cases b' <;> cases bb <;> rfl
    · rename_i e
      rw [e] at htm
      simp only [V] at htm
      rw [htm]
      simp only [Option.some.injEq] at hb
      subst hb
      rfl
    · cases hb
  · cases hg

theorem run_call {o : Oper} {c : Call} {f : Operand} {fv : FuncId} {fs cs : List Value} {w : World} (ho : o.op = .call c) (hc : c.callee = .value f) (hf : a.eval f = .func (.func fv) fs.toArray cs.toArray) :
    (execOp a.eval o).run P w = (callFunc fv (fs ++ c.args.toList.map a.eval ++ cs).toArray).run P w := by
  simp only [execOp, ho, resolve, hc, hf, Deferred.ofValue, Sem.run_bind, Sem.run_pure, Result.andThen_ok, invoke]
  congr 2
  apply Array.ext'
  simp

theorem wp_of_gives {o : Oper} {g : FuncId} {args : Array Value} {w : World} {Q : Value → World → Prop} {K : Act → World → Prop} {QQ : Exit → Act → World → Prop} (hr : (execOp a.eval o).run P w = (callFunc g args).run P w) (hg : Gives P g args w Q) (hK : ∀ v w', Q v w' → K (a.put o.dst v) w') : o.wp P a w K QQ := by
  unfold Oper.wp
  rw [hr]
  rcases hg with ⟨h1, h2⟩ | ⟨v, w', h1, h2⟩
  · rw [h1, Oper.upon_enter]
    refine h2.mono ?_
    rintro e w' ⟨v, rfl, hq⟩
    exact hK v w' hq
  · rw [h1, Oper.upon_value]
    exact hK v w' h2

theorem chkCall {op : Op} {f' : XArg} {as : List XArg} (h : chkOp P op (.call f' as) = true) : ∃ c f, op = .call c ∧ c.callee = .value f ∧ chkArg f f' = true ∧ chkArgs c.args.toList as = true := by
  cases op <;> simp only [chkOp, chkOp2, Bool.false_eq_true] at h
  rename_i c
  cases hcal : c.callee with
  | value f =>
    rw [hcal] at h
    simp only [Bool.and_eq_true] at h
    exact ⟨c, f, rfl, hcal, h.1, h.2⟩
  | invoke r m => rw [hcal] at h; cases h
  | builtin b => rw [hcal] at h; cases b <;> simp only [Bool.false_eq_true] at h
theorem chkCallN {op : Op} {f' : XArg} {as : List XArg} (h : chkOp P op (.callN f' as) = true) : ∃ c f, op = .call c ∧ c.callee = .value f ∧ chkArg f f' = true ∧ chkArgs c.args.toList as = true := by
  cases op <;> simp only [chkOp, chkOp2, Bool.false_eq_true] at h
  rename_i c
  cases hcal : c.callee with
  | value f =>
    rw [hcal] at h
    simp only [Bool.and_eq_true] at h
    exact ⟨c, f, rfl, hcal, h.1, h.2⟩
  | invoke r m => rw [hcal] at h; cases h
  | builtin b => rw [hcal] at h; cases b <;> simp only [Bool.false_eq_true] at h

theorem callAR_ok {h : Heap} {nc : Nat} {key : Key} {g : FuncId} {t tp : TypeId} {n : Nat} (hF : SoundA P g t tp n) (hLd : Laid P S0.w0) (hs : Sim B S0 h nc x) {as : List AVal} {us : List Value} {r : AVal} {ws : Wr} (hl : VL x as us) (hr : (callAR t tp n as).run h = some (r, ws)) :
    Gives P g us.toArray x.w fun u w' => ∃ y, y.w = w' ∧ Sim B S0 (applyW h ws) nc y ∧ V y r u ∧ Step B x y ∧ ∀ k g p, y.ρ k g = some p → (∃ g' p', x.ρ k g' = some p') ∨ k = key := by
  have hld : Laid P x.w := hLd.keep fun b hb => hs.inv.2.1 b (by have := hs.inv.1; omega)
  unfold callAR at hr
  split at hr
  · rename_i z
    simp only [Rd.run_ret, Option.some.injEq, Prod.mk.injEq] at hr
    obtain ⟨rfl, rfl⟩ := hr
    simp only [VL, V] at hl
    obtain ⟨u0, _, rfl, rfl, u1, _, rfl, _, rfl⟩ := hl
    refine (hF.1 x.w u1 hld).mono ?_
    rintro u w' ⟨rfl, hz, hb, henv⟩
    obtain ⟨y, f1, f2, f3, f4, f5⟩ := hs.world w' hz hb henv
    exact ⟨y, f1, f3, by simp only [V], f4, fun k g p hp => .inl ⟨g, p, by rw [f2] at hp; exact hp⟩⟩
  · rename_i t' cs tp' k
    split at hr
    · rename_i hc
      obtain ⟨rfl, rfl, hn, hsc⟩ := hc
      rw [Rd.run_get] at hr
      cases hk : h k with
      | none => rw [hk] at hr; cases hr
      | some blk =>
        rw [hk] at hr
        cases blk with
        | var cells =>
          simp only at hr
          split at hr
          · rename_i hcl
            simp only [Rd.run_ret, Option.some.injEq, Prod.mk.injEq] at hr
            obtain ⟨rfl, rfl⟩ := hr
            simp only [VL, V] at hl
            obtain ⟨u0, _, rfl, ⟨v0, rfl, vs, rfl, hvs⟩, u1, _, rfl, ⟨v1, rfl, b, o, hρ, rfl⟩, rfl⟩ := hl
            obtain ⟨b', o', h1, h2, h3, h4⟩ := hs.live k _ hk
            simp only [Blk.gen] at h1
            rw [hρ] at h1
            cases h1
            obtain ⟨rfl, c, el, hheap, hcsz, hvc⟩ := h4
            have hlen := hvs.length
            refine (hF.2 x.w b c el vs hld hheap (by omega) (by omega) (VL_sc hvs hsc)).mono ?_
            rintro u w' ⟨rfl, hz, hb, hnew, henv⟩
            have hbl := heap_lt hheap
            obtain ⟨y, f1, f2, f3, f4, f5⟩ := hs.world { w' with heap := w'.heap.setIfInBounds b (.cells c el (0, 0)) } (by simpa using hz) (fun k hk' => by
              by_cases e : k = b
              · subst e
                rw [hheap]
                simp [Nat.lt_of_lt_of_le hbl hz]
              · simp only [Array.getElem?_setIfInBounds, if_neg (Ne.symm e)]
                exact hb k hk' e) henv
            obtain ⟨z, e1, e2, e3, e4, e5, e6, e7⟩ := f3.write k (.var cells) b 0 hk (by rw [f2]; exact hρ) 0 0 (.var cs) w' c vs.toArray el (by rw [f1]; simp [Nat.lt_of_lt_of_le hbl hz]) (by simp; omega) rfl (.inl ⟨rfl, rfl⟩) (by
                rw [f1]
                apply Array.ext_getElem?
                intro i
                simp only [Array.getElem?_setIfInBounds, Array.size_setIfInBounds]
                by_cases e : b = i
                · subst e
                  rw [if_pos rfl, if_pos (Nat.lt_of_lt_of_le hbl hz), hnew]
                · rw [if_neg e, if_neg e]) ⟨by rw [f1], by rw [f1], by rw [f1]⟩
            refine ⟨z, e1, e7 ⟨rfl, vs.toArray, el, e6, by simp; omega, VC_new e6 (VL_grow (f4.grow.trans e5.grow) _ _ hvs)⟩, by simp only [V], f4.trans e5, fun k' g p hp => ?_⟩
            rcases e4 k' g p hp with h8 | rfl
            · rw [f2] at h8; exact .inl ⟨g, p, h8⟩
            · exact .inl ⟨_, _, hρ⟩
          · cases hr
        | row => cases hr
        | obj => cases hr
    · cases hr
  · cases hr
theorem chkCallM {op : Op} {f' : XArg} {as : List XArg} (h : chkOp P op (.callM f' as) = true) : ∃ c f, op = .call c ∧ c.callee = .value f ∧ chkArg f f' = true ∧ chkArgs c.args.toList as = true := by
  cases op <;> simp only [chkOp, chkOp2, Bool.false_eq_true] at h
  rename_i c
  cases hcal : c.callee with
  | value f =>
    rw [hcal] at h
    simp only [Bool.and_eq_true] at h
    exact ⟨c, f, rfl, hcal, h.1, h.2⟩
  | invoke r m => rw [hcal] at h; cases h
  | builtin b => rw [hcal] at h; cases b <;> simp only [Bool.false_eq_true] at h

theorem chkCallA {op : Op} {f' : XArg} {as : List XArg} (h : chkOp P op (.callA f' as) = true) : ∃ c f, op = .call c ∧ c.callee = .value f ∧ chkArg f f' = true ∧ chkArgs c.args.toList as = true := by
  cases op <;> simp only [chkOp, chkOp2, Bool.false_eq_true] at h
  rename_i c
  cases hcal : c.callee with
  | value f =>
    rw [hcal] at h
    simp only [Bool.and_eq_true] at h
    exact ⟨c, f, rfl, hcal, h.1, h.2⟩
  | invoke r m => rw [hcal] at h; cases h
  | builtin b => rw [hcal] at h; cases b <;> simp only [Bool.false_eq_true] at h

theorem step_wp (ok : CfgOk P C) (hin : InlOk P B S0 inl) (hLd : Laid P S0.w0) {ops : Array Oper} {i : Nat} {o : Oper} {xo : XOper} (hi : ops[i]? = some o) (hc : chkOper P nt ops o xo = true) (hst : StOk nt B S0 st x a) (hkey : key.2 < st.nc) (hfresh : ∀ g, x.ρ key g = none)
    (hs : stepO C inl key xo st = some st') {K : Act → World → Prop} {Q : Exit → Act → World → Prop}
    (hK : ∀ a' y, StOk nt B S0 st' y a' → Step B x y → (∀ k g p, y.ρ k g = some p → (∃ g' p', x.ρ k g' = some p') ∨ k = key ∨ st.nc ≤ k.2) → st.nc ≤ st'.nc → K a' y.w) : wpOp P ops Q i K a x.w := by
  have hc' := hc
  unfold chkOper at hc'
  simp only [Bool.and_eq_true, decide_eq_true_eq] at hc'
  obtain ⟨⟨⟨hdst, hdlt⟩, _⟩, hop⟩ := hc'
  have hd : ∀ t, xo.dst = some t → t < nt := by
    intro t ht
    rw [hdst, ht] at hdlt
    simpa using hdlt
  unfold stepO progO at hs
  cases hg : goes st.tm xo.g with
  | none => rw [hg] at hs; cases hs
  | some b =>
    rw [hg] at hs
    have hw := wanted_of hst hc hg
    unfold wpOp
    rw [hi]
    simp only [hw]
    cases b with
    | false =>
      simp only [Bool.false_eq_true, if_false, runP, Rd.run_ret, Option.map_some, Option.some.injEq] at hs ⊢
      subst hs
      rw [hdst]
      exact hK _ x (hst.put hst.sim (Grow.refl x) (by simp only [V]) hd) (Step.refl B x) (fun k g p hp => .inl ⟨g, p, hp⟩) (Nat.le_refl _)
    | true =>
      simp only [if_true] at hs ⊢
      refine .inl ?_
      have hcall : ∀ c : Call, ∀ f : Operand, ∀ f' : XArg, ∀ as : List XArg, o.op = .call c → xo.op = .call f' as → c.callee = .value f → chkArg f f' = true → chkArgs c.args.toList as = true → o.wp P a x.w K Q := by
        intro c f f' as ho hx hcal hf hargs
        have hfv := hst.args f f' hf
        have hav := chkArgs_ok hst.args hargs
        rw [hx] at hs
        simp only [rdOf] at hs
        cases htg : target (arg st.tm f') (as.map (arg st.tm)) with
        | none => rw [htg] at hs; cases hs
        | some q =>
          obtain ⟨g, vs⟩ := q
          unfold target at htg
          split at htg
          · rename_i g' first cap e1
            simp only [Option.some.injEq, Prod.mk.injEq] at htg
            obtain ⟨rfl, rfl⟩ := htg
            rw [e1] at hfv
            simp only [V] at hfv
            obtain ⟨fs, cs, hfe, hfs, hcs⟩ := hfv
            have hall : VL x (first ++ as.map (arg st.tm) ++ cap) (fs ++ c.args.toList.map a.eval ++ cs) := (hfs.append hav).append hcs
            have hrun := run_call (P := P) (w := x.w) ho hcal hfe
            rw [e1] at hs
            simp only [target] at hs
            cases hΓ : C.Γ g' with
            | some F =>
              rw [hΓ] at hs
              simp only [runP] at hs
              cases hrr : (callR F (first ++ as.map (arg st.tm) ++ cap)).run st.hp with
              | none => rw [hrr] at hs; cases hs
              | some rr =>
                rw [hrr] at hs
                simp only [Option.map_some, Option.some.injEq] at hs
                subst hs
                refine wp_of_gives hrun (callR_ok (ok.Γ g' F hΓ) hLd hst.sim hall hrr) ?_
                rintro v w' ⟨y, rfl, hs', hv, hstp, hρ⟩
                rw [hdst]
                exact hK _ y (hst.put hs' hstp.grow hv hd) hstp (fun k g p hp => .inl (hρ k g p hp)) (Nat.le_refl _)
            | none =>
              rw [hΓ] at hs
              simp only [runP] at hs
              cases hrr : inl g' (first ++ as.map (arg st.tm) ++ cap) st.hp st.nc with
              | none => rw [hrr] at hs; cases hs
              | some rr =>
                obtain ⟨v, h', nc'⟩ := rr
                rw [hrr] at hs
                simp only [Option.map_some, Option.some.injEq] at hs
                subst hs
                refine wp_of_gives hrun (hin g' _ _ _ v h' nc' hrr x _ hst.sim hall) ?_
                rintro u w' ⟨y, rfl, hs', hv, hstp, hnc, hρ⟩
                rw [hdst]
                refine hK _ y (hst.put hs' hstp.grow hv hd) hstp (fun k g p hp => ?_) hnc
                rcases hρ k g p hp with h1 | h1
                · exact .inl h1
                · exact .inr (.inr h1)
          · cases htg
      have hcallN : ∀ c : Call, ∀ f : Operand, ∀ f' : XArg, ∀ as : List XArg, o.op = .call c → xo.op = .callN f' as → c.callee = .value f → chkArg f f' = true → chkArgs c.args.toList as = true → o.wp P a x.w K Q := by
        intro c f f' as ho hx hcal hf hargs
        have hfv := hst.args f f' hf
        have hav := chkArgs_ok hst.args hargs
        rw [hx] at hs
        simp only [rdOf] at hs
        cases htg : target (arg st.tm f') (as.map (arg st.tm)) with
        | none => rw [htg] at hs; cases hs
        | some q =>
          obtain ⟨g, vs⟩ := q
          unfold target at htg
          split at htg
          · rename_i g' first cap e1
            simp only [Option.some.injEq, Prod.mk.injEq] at htg
            obtain ⟨rfl, rfl⟩ := htg
            rw [e1] at hfv
            simp only [V] at hfv
            obtain ⟨fs, cs, hfe, hfs, hcs⟩ := hfv
            have hall : VL x (first ++ as.map (arg st.tm) ++ cap) (fs ++ c.args.toList.map a.eval ++ cs) := (hfs.append hav).append hcs
            have hrun := run_call (P := P) (w := x.w) ho hcal hfe
            rw [e1] at hs
            simp only [target] at hs
            cases hΓ : C.Γn g' with
            | some F =>
              rw [hΓ] at hs
              simp only [runP] at hs
              cases hrr : (callNR key F (first ++ as.map (arg st.tm) ++ cap)).run st.hp with
              | none => rw [hrr] at hs; cases hs
              | some rr =>
                rw [hrr] at hs
                simp only [Option.map_some, Option.some.injEq] at hs
                subst hs
                refine wp_of_gives hrun (callNR_ok (ok.Γn g' F hΓ) hLd hst.sim hkey hfresh hall hrr) ?_
                rintro v w' ⟨y, rfl, hs', hv, hstp, hρ⟩
                rw [hdst]
                refine hK _ y (hst.put hs' hstp.grow hv hd) hstp (fun k g p hp => ?_) (Nat.le_refl _)
                rcases hρ k g p hp with h1 | h1
                · exact .inl h1
                · exact .inr (.inl h1)
            | none =>
              rw [hΓ] at hs
              cases hs
          · cases htg
      have hcallM : ∀ c : Call, ∀ f : Operand, ∀ f' : XArg, ∀ as : List XArg, o.op = .call c → xo.op = .callM f' as → c.callee = .value f → chkArg f f' = true → chkArgs c.args.toList as = true → o.wp P a x.w K Q := by
        intro c f f' as ho hx hcal hf hargs
        have hfv := hst.args f f' hf
        have hav := chkArgs_ok hst.args hargs
        rw [hx] at hs
        simp only [rdOf] at hs
        cases htg : target (arg st.tm f') (as.map (arg st.tm)) with
        | none => rw [htg] at hs; cases hs
        | some q =>
          obtain ⟨g, vs⟩ := q
          unfold target at htg
          split at htg
          · rename_i g' first cap e1
            simp only [Option.some.injEq, Prod.mk.injEq] at htg
            obtain ⟨rfl, rfl⟩ := htg
            rw [e1] at hfv
            simp only [V] at hfv
            obtain ⟨fs, cs, hfe, hfs, hcs⟩ := hfv
            have hall : VL x (first ++ as.map (arg st.tm) ++ cap) (fs ++ c.args.toList.map a.eval ++ cs) := (hfs.append hav).append hcs
            have hrun := run_call (P := P) (w := x.w) ho hcal hfe
            rw [e1] at hs
            simp only [target] at hs
            cases hΓ : C.Γm g' with
            | some F =>
              rw [hΓ] at hs
              simp only [runP] at hs
              cases hrr : (callMR key F (first ++ as.map (arg st.tm) ++ cap)).run st.hp with
              | none => rw [hrr] at hs; cases hs
              | some rr =>
                rw [hrr] at hs
                simp only [Option.map_some, Option.some.injEq] at hs
                subst hs
                refine wp_of_gives hrun (callMR_ok (ok.Γm g' F hΓ) hLd hst.sim hkey hfresh hall hrr) ?_
                rintro v w' ⟨y, rfl, hs', hv, hstp, hρ⟩
                rw [hdst]
                refine hK _ y (hst.put hs' hstp.grow hv hd) hstp (fun k g p hp => ?_) (Nat.le_refl _)
                rcases hρ k g p hp with h1 | h1
                · exact .inl h1
                · exact .inr (.inl h1)
            | none =>
              rw [hΓ] at hs
              cases hs
          · cases htg
      have hcallA : ∀ c : Call, ∀ f : Operand, ∀ f' : XArg, ∀ as : List XArg, o.op = .call c → xo.op = .callA f' as → c.callee = .value f → chkArg f f' = true → chkArgs c.args.toList as = true → o.wp P a x.w K Q := by
        intro c f f' as ho hx hcal hf hargs
        have hfv := hst.args f f' hf
        have hav := chkArgs_ok hst.args hargs
        rw [hx] at hs
        simp only [rdOf] at hs
        cases htg : target (arg st.tm f') (as.map (arg st.tm)) with
        | none => rw [htg] at hs; cases hs
        | some q =>
          obtain ⟨g, vs⟩ := q
          unfold target at htg
          split at htg
          · rename_i g' first cap e1
            simp only [Option.some.injEq, Prod.mk.injEq] at htg
            obtain ⟨rfl, rfl⟩ := htg
            rw [e1] at hfv
            simp only [V] at hfv
            obtain ⟨fs, cs, hfe, hfs, hcs⟩ := hfv
            have hall : VL x (first ++ as.map (arg st.tm) ++ cap) (fs ++ c.args.toList.map a.eval ++ cs) := (hfs.append hav).append hcs
            have hrun := run_call (P := P) (w := x.w) ho hcal hfe
            rw [e1] at hs
            simp only [target] at hs
            cases hΓ : C.Γa g' with
            | some q =>
              rw [hΓ] at hs
              simp only [runP] at hs
              cases hrr : (callAR q.1 q.2.1 q.2.2 (first ++ as.map (arg st.tm) ++ cap)).run st.hp with
              | none => rw [hrr] at hs; cases hs
              | some rr =>
                rw [hrr] at hs
                simp only [Option.map_some, Option.some.injEq] at hs
                subst hs
                refine wp_of_gives hrun (callAR_ok (key := key) (ok.Γa g' q hΓ) hLd hst.sim hall hrr) ?_
                rintro v w' ⟨y, rfl, hs', hv, hstp, hρ⟩
                rw [hdst]
                refine hK _ y (hst.put hs' hstp.grow hv hd) hstp (fun k g p hp => ?_) (Nat.le_refl _)
                rcases hρ k g p hp with h1 | h1
                · exact .inl h1
                · exact .inr (.inl h1)
            | none =>
              rw [hΓ] at hs
              cases hs
          · cases htg
      by_cases hcn : ∃ f' as, xo.op = .callN f' as
      · obtain ⟨f', as, hx⟩ := hcn
        rw [hx] at hop
        obtain ⟨c, f, ho, hcal, h1, h2⟩ := chkCallN hop
        exact hcallN c f f' as ho hx hcal h1 h2
      by_cases hcm : ∃ f' as, xo.op = .callM f' as
      · obtain ⟨f', as, hx⟩ := hcm
        rw [hx] at hop
        obtain ⟨c, f, ho, hcal, h1, h2⟩ := chkCallM hop
        exact hcallM c f f' as ho hx hcal h1 h2
      by_cases hca : ∃ f' as, xo.op = .callA f' as
      · obtain ⟨f', as, hx⟩ := hca
        rw [hx] at hop
        obtain ⟨c, f, ho, hcal, h1, h2⟩ := chkCallA hop
        exact hcallA c f f' as ho hx hcal h1 h2
      by_cases hcl : ∃ f' as, xo.op = .call f' as
      · obtain ⟨f', as, hx⟩ := hcl
        rw [hx] at hop
        obtain ⟨c, f, ho, hcal, h1, h2⟩ := chkCall hop
        exact hcall c f f' as ho hx hcal h1 h2
      · have hrd : rdOf C key xo.op (arg st.tm) = .inl (opR key xo.op (arg st.tm)) := by
          unfold rdOf
          split
          · rename_i f as e
            exact absurd ⟨f, as, e⟩ hcl
          · rename_i f as e
            exact absurd ⟨f, as, e⟩ hcn
          · rename_i f as e
            exact absurd ⟨f, as, e⟩ hcm
          · rename_i f as e
            exact absurd ⟨f, as, e⟩ hca
          · rfl
        rw [hrd] at hs
        simp only [runP] at hs
        cases hrr : (opR key xo.op (arg st.tm)).run st.hp with
        | none => rw [hrr] at hs; cases hs
        | some rr =>
          obtain ⟨v, ws⟩ := rr
          rw [hrr] at hs
          simp only [Option.map_some, Option.some.injEq] at hs
          subst hs
          obtain ⟨u, y, hrun, hv, hs', hstp, hρ⟩ := op_ok (P := P) (o := o) (fun _ => rfl) (fun _ => rfl) hop hst.args hst.sim hkey hfresh hrr
          unfold Oper.wp
          rcases hrun with hrun | ⟨hrun, rfl⟩
          · rw [hrun, Oper.upon_value, hdst]
            refine hK _ y (hst.put hs' hstp.grow hv hd) hstp (fun k g p hp => ?_) (Nat.le_refl _)
            rcases hρ k g p hp with h1 | h1
            · exact .inl h1
            · exact .inr (.inl h1)
          · rw [hrun, Oper.upon_skip, hdst]
            refine hK _ y (hst.put hs' hstp.grow hv hd) hstp (fun k g p hp => ?_) (Nat.le_refl _)
            rcases hρ k g p hp with h1 | h1
            · exact .inl h1
            · exact .inr (.inl h1)

end
end Go.Xec
