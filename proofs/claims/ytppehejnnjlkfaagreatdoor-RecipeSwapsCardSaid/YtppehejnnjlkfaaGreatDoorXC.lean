/-
  The heap of names and a world: when they fit, and how they go on together.
-/
import Derived.Test.YtppehejnnjlkfaaGreatDoorXB
namespace Go.Xec
open Go

/-- Where it began: what is seen of the world that there was, and that world. -/
structure Base where
  S : Nat → Prop
  w0 : World
instance : CoeFun Base (fun _ => Nat → Prop) := ⟨Base.S⟩

/-- The entries of a map. -/
def EL (x : Ctx) : List (AVal × AVal × Nat) → List MapEntry → Prop
  | [], es => es = []
  | a :: as, es => ∃ e r, es = e :: r ∧ V x a.1 e.key ∧ V x a.2.1 e.val ∧ e.born = a.2.2 ∧ EL x as r
def OO (x : Ctx) : AObj → Obj → Prop
  | .iter s pos, ob => ob = .stringIter s pos
  | .map es cl, ob => ∃ arr : Array MapEntry, ob = .map arr cl ∧ EL x es arr.toList
theorem EL_grow {x y : Ctx} (g : Grow x y) : ∀ (as : List (AVal × AVal × Nat)) (es : List MapEntry), EL x as es → EL y as es
  | [], es, h => h
  | a :: as, es, h => by
    obtain ⟨e, r, h1, h2, h3, h4, h5⟩ := h
    exact ⟨e, r, h1, V_grow g _ _ h2, V_grow g _ _ h3, h4, EL_grow g as r h5⟩
theorem OO_grow {x y : Ctx} (g : Grow x y) {a : AObj} {ob : Obj} (h : OO x a ob) : OO y a ob := by
  cases a with
  | iter s pos => exact h
  | map es cl =>
    obtain ⟨arr, h1, h2⟩ := h
    exact ⟨arr, h1, EL_grow g _ _ h2⟩

def BlkOk (x : Ctx) (b o : Nat) : Blk → Prop
  | .var cells => o = 0 ∧ ∃ c e, x.w.heap[b]? = some (.cells c e (0, 0)) ∧ c.size = cells.length ∧ VC x cells b 0
  | .row _ es elems => ∃ c e, x.w.heap[b]? = some (.cells c e (0, 0)) ∧ o + elems.length * es ≤ c.size ∧ VR x es elems b o
  | .obj a => o = 0 ∧ ∃ ob, x.w.heap[b]? = some ob ∧ OO x a ob

def mkS (B : Nat) (S0 : Base) (h : Heap) (w : World) (ρ : Key → Nat → Option (Nat × Nat)) : Nat → Prop :=
  fun b => S0 b ∨ (B ≤ b ∧ b < w.heap.size ∧ ∀ k blk o, h k = some blk → ρ k blk.gen ≠ some (b, o))

/-- What is beside the heap. -/
def SameEnv (w w' : World) : Prop := w'.os = w.os ∧ w'.tape = w.tape ∧ w'.output = w.output
/-- A world that goes on from where it began. -/
def From (B : Nat) (S0 : Base) (w : World) : Prop := S0.w0.heap.size = B ∧ (∀ b, b < B → w.heap[b]? = S0.w0.heap[b]?) ∧ SameEnv S0.w0 w

structure Sim (B : Nat) (S0 : Base) (h : Heap) (nc : Nat) (x : Ctx) : Prop where
  s0 : ∀ b, S0 b → b < B
  sz : B ≤ x.w.heap.size
  live : ∀ k blk, h k = some blk → ∃ b o, x.ρ k blk.gen = some (b, o) ∧ B ≤ b ∧ b < x.w.heap.size ∧ BlkOk x b o blk
  inj : ∀ k k' blk blk' b o o', h k = some blk → h k' = some blk' → x.ρ k blk.gen = some (b, o) → x.ρ k' blk'.gen = some (b, o') → k = k'
  S : x.S = mkS B S0 h x.w x.ρ
  dom : ∀ k g p, x.ρ k g = some p → k.2 < nc
  gen : ∀ k blk g p, h k = some blk → x.ρ k g = some p → g ≤ blk.gen
  inv : From B S0 x.w

theorem SameEnv.refl (w : World) : SameEnv w w := ⟨rfl, rfl, rfl⟩
theorem SameEnv.trans {a b c : World} (h : SameEnv a b) (h' : SameEnv b c) : SameEnv a c := ⟨h'.1.trans h.1, h'.2.1.trans h.2.1, h'.2.2.trans h.2.2⟩

/-- What is below B stays; the rest grows. -/
structure Step (B : Nat) (x y : Ctx) : Prop where
  grow : Grow x y
  below : ∀ b, b < B → y.w.heap[b]? = x.w.heap[b]?
  size : x.w.heap.size ≤ y.w.heap.size
  env : SameEnv x.w y.w

theorem From.step {B : Nat} {S0 : Base} {x y : Ctx} (h : From B S0 x.w) (hs : Step B x y) : From B S0 y.w :=
  ⟨h.1, fun b hb => (hs.below b hb).trans (h.2.1 b hb), h.2.2.trans hs.env⟩

theorem Step.refl (B : Nat) (x : Ctx) : Step B x x := ⟨Grow.refl x, fun _ _ => rfl, Nat.le_refl _, SameEnv.refl _⟩
theorem Step.trans {B : Nat} {x y z : Ctx} (h : Step B x y) (h' : Step B y z) : Step B x z :=
  ⟨h.grow.trans h'.grow, fun b hb => (h'.below b hb).trans (h.below b hb), Nat.le_trans h.size h'.size, h.env.trans h'.env⟩

theorem upd_same (h : Heap) (k : Key) (b : Option Blk) : upd h k b k = b := by simp [upd]
theorem upd_ne (h : Heap) {k k' : Key} (b : Option Blk) (hne : k' ≠ k) : upd h k b k' = h k' := by simp [upd, hne]

theorem BlkOk_grow {x y : Ctx} (g : Grow x y) {b o : Nat} {blk : Blk} (hs : y.w.heap[b]? = x.w.heap[b]?) (h : BlkOk x b o blk) : BlkOk y b o blk := by
  cases blk with
  | var cells =>
    obtain ⟨ho, c, e, hb, hc, hv⟩ := h
    exact ⟨ho, c, e, hs.trans hb, hc, VC_grow g cells b 0 hs hv⟩
  | row gg es elems =>
    obtain ⟨c, e, hb, hc, hv⟩ := h
    exact ⟨c, e, hs.trans hb, hc, VR_grow g es elems b o hs hv⟩
  | obj a =>
    obtain ⟨ho, ob, hb, hv⟩ := h
    exact ⟨ho, ob, hs.trans hb, OO_grow g hv⟩

theorem heap_lt {w : World} {b : Nat} {o : Obj} (h : w.heap[b]? = some o) : b < w.heap.size := by
  rcases Nat.lt_or_ge b w.heap.size with h' | h'
  · exact h'
  · rw [Array.getElem?_eq_none h'] at h; cases h

/-- A name gets a block: a new one, or its own of before. -/
structure Puts (B : Nat) (S0 : Base) (h : Heap) (k : Key) (gn b o : Nat) (blk : Blk) (x y : Ctx) : Prop where
  ρx : ∀ k g p, x.ρ k g = some p → y.ρ k g = some p
  ρy : ∀ k' g p, y.ρ k' g = some p → x.ρ k' g = some p ∨ (k' = k ∧ g ≤ gn)
  at_ : y.ρ k gn = some (b, o)
  gen : blk.gen = gn
  lo : B ≤ b
  hi : b < y.w.heap.size
  own : x.w.heap.size ≤ b ∨ ∃ blk0 o0, h k = some blk0 ∧ x.ρ k blk0.gen = some (b, o0)
  same : ∀ b', b' < x.w.heap.size → b' ≠ b → y.w.heap[b']? = x.w.heap[b']?
  size : x.w.heap.size ≤ y.w.heap.size
  bsz : bsz x.w b ≤ bsz y.w b
  S : y.S = mkS B S0 (upd h k (some blk)) y.w y.ρ
  old : ∀ g p, x.ρ k g = some p → g ≤ gn
  env : SameEnv x.w y.w

theorem bsz_ge {w : World} {b : Nat} (h : w.heap.size ≤ b) : bsz w b = 0 := by
  simp only [Go.Xec.bsz, Array.getElem?_eq_none h]
theorem bsz_congr {w w' : World} {b : Nat} (h : w'.heap[b]? = w.heap[b]?) : bsz w' b = bsz w b := by
  simp only [Go.Xec.bsz, h]

theorem Puts.step {B : Nat} {S0 : Base} {h : Heap} {nc : Nat} {k : Key} {gn b o : Nat} {blk : Blk} {x y : Ctx} (hs : Sim B S0 h nc x) (hp : Puts B S0 h k gn b o blk x y) : Step B x y := by
  have hlive : ∀ b', x.S b' → b' ≠ b := by
    intro b' hS e
    subst e
    rw [hs.S] at hS
    rcases hS with hS | ⟨h1, h2, h3⟩
    · have := hs.s0 _ hS; have := hp.lo; omega
    · rcases hp.own with ho | ⟨blk0, o0, ho, hρ⟩
      · omega
      · exact h3 k blk0 o0 ho hρ
  have hin : ∀ b', x.S b' → b' < x.w.heap.size := by
    intro b' hS
    rw [hs.S] at hS
    rcases hS with hS | ⟨_, h2, _⟩
    · have := hs.s0 _ hS; have := hs.sz; omega
    · exact h2
  refine ⟨⟨?_, ?_, hp.ρx, ?_⟩, ?_, hp.size, hp.env⟩
  · intro b' hS
    have hne := hlive b' hS
    have hlt := hin b' hS
    rw [hs.S] at hS
    rw [hp.S]
    rcases hS with hS | ⟨h1, h2, h3⟩
    · exact .inl hS
    · refine .inr ⟨h1, Nat.lt_of_lt_of_le h2 hp.size, ?_⟩
      intro k' blk' o' hk' hρ
      by_cases e : k' = k
      · subst e
        rw [upd_same] at hk'
        cases hk'
        rw [hp.gen, hp.at_] at hρ
        cases hρ
        exact hne rfl
      · rw [upd_ne _ _ e] at hk'
        obtain ⟨b2, o2, h4, _⟩ := hs.live k' blk' hk'
        have := hp.ρx _ _ _ h4
        rw [this] at hρ
        cases hρ
        exact h3 k' blk' o' hk' h4
  · intro b' hS
    exact hp.same b' (hin b' hS) (hlive b' hS)
  · intro b'
    by_cases e : b' = b
    · subst e; exact hp.bsz
    · rcases Nat.lt_or_ge b' x.w.heap.size with hl | hl
      · rw [bsz_congr (hp.same b' hl e)]; exact Nat.le_refl _
      · rw [bsz_ge hl]; exact Nat.zero_le _
  · intro b' hb'
    have := hs.sz
    have := hp.lo
    exact hp.same b' (by omega) (by omega)

theorem Puts.sim {B : Nat} {S0 : Base} {h : Heap} {nc : Nat} {k : Key} {gn b o : Nat} {blk : Blk} {x y : Ctx} (hs : Sim B S0 h nc x) (hp : Puts B S0 h k gn b o blk x y) (hk : k.2 < nc)
    (hb : BlkOk y b o blk) : Sim B S0 (upd h k (some blk)) nc y := by
  have hst := hp.step hs
  refine ⟨hs.s0, Nat.le_trans hs.sz hp.size, ?_, ?_, hp.S, ?_, ?_, hs.inv.step hst⟩
  · intro k' blk' hk'
    by_cases e : k' = k
    · subst e
      rw [upd_same] at hk'
      cases hk'
      exact ⟨b, o, by rw [hp.gen]; exact hp.at_, hp.lo, hp.hi, hb⟩
    · rw [upd_ne _ _ e] at hk'
      obtain ⟨b2, o2, h1, h2, h3, h4⟩ := hs.live k' blk' hk'
      have hne : b2 ≠ b := by
        intro e2
        subst e2
        rcases hp.own with ho | ⟨blk0, o0, ho, hρ⟩
        · omega
        · exact e (hs.inj k' k blk' blk0 _ _ _ hk' ho h1 hρ)
      exact ⟨b2, o2, hp.ρx _ _ _ h1, h2, Nat.lt_of_lt_of_le h3 hp.size, BlkOk_grow hst.grow (hp.same b2 h3 hne) h4⟩
  · intro k1 k2 blk1 blk2 b' o1 o2 h1 h2 r1 r2
    have key : ∀ k' blk', k' ≠ k → h k' = some blk' → ∀ o', y.ρ k' blk'.gen ≠ some (b, o') := by
      intro k' blk' hne hk' o' hρ
      obtain ⟨b2, o2, h5, _, h6, _⟩ := hs.live k' blk' hk'
      rw [hp.ρx _ _ _ h5] at hρ
      cases hρ
      rcases hp.own with ho | ⟨blk0, o0, ho, hρ0⟩
      · omega
      · exact hne (hs.inj k' k blk' blk0 _ _ _ hk' ho h5 hρ0)
    by_cases e1 : k1 = k <;> by_cases e2 : k2 = k
    · rw [e1, e2]
    · subst e1
      rw [upd_same] at h1
      cases h1
      rw [hp.gen, hp.at_] at r1
      cases r1
      rw [upd_ne _ _ e2] at h2
      exact absurd r2 (key k2 blk2 e2 h2 _)
    · subst e2
      rw [upd_same] at h2
      cases h2
      rw [hp.gen, hp.at_] at r2
      cases r2
      rw [upd_ne _ _ e1] at h1
      exact absurd r1 (key k1 blk1 e1 h1 _)
    · rw [upd_ne _ _ e1] at h1
      rw [upd_ne _ _ e2] at h2
      obtain ⟨b3, o3, h5, _⟩ := hs.live k1 blk1 h1
      obtain ⟨b4, o4, h6, _⟩ := hs.live k2 blk2 h2
      rw [hp.ρx _ _ _ h5] at r1
      rw [hp.ρx _ _ _ h6] at r2
      cases r1; cases r2
      exact hs.inj k1 k2 blk1 blk2 _ _ _ h1 h2 h5 h6
  · intro k' g p hρ
    rcases hp.ρy k' g p hρ with h1 | ⟨rfl, _⟩
    · exact hs.dom _ _ _ h1
    · exact hk
  · intro k' blk' g p hk' hρ
    by_cases e : k' = k
    · subst e
      rw [upd_same] at hk'
      cases hk'
      rw [hp.gen]
      rcases hp.ρy k' g p hρ with h1 | ⟨_, h1⟩
      · exact hp.old g p h1
      · exact h1
    · rw [upd_ne _ _ e] at hk'
      rcases hp.ρy k' g p hρ with h1 | ⟨e', _⟩
      · exact hs.gen k' blk' g p hk' h1
      · exact absurd e' e


/-! ### the four ways on -/
/-- A name is let go. -/
theorem Sim.drop {B : Nat} {S0 : Base} {h : Heap} {nc : Nat} {x : Ctx} (hs : Sim B S0 h nc x) (k : Key) :
    ∃ y, y.w = x.w ∧ y.ρ = x.ρ ∧ Sim B S0 (upd h k none) nc y ∧ Step B x y := by
  refine ⟨{ x with S := mkS B S0 (upd h k none) x.w x.ρ }, rfl, rfl, ?_, ?_⟩
  case refine_2 =>
    refine ⟨⟨?_, fun _ _ => rfl, fun _ _ _ h => h, fun _ => Nat.le_refl _⟩, fun _ _ => rfl, Nat.le_refl _, SameEnv.refl _⟩
    intro b hb
    rw [hs.S] at hb
    rcases hb with hb | ⟨h1, h2, h3⟩
    · exact .inl hb
    · refine .inr ⟨h1, h2, fun k' blk o hk' => ?_⟩
      by_cases e : k' = k
      · subst e; rw [upd_same] at hk'; cases hk'
      · rw [upd_ne _ _ e] at hk'; exact h3 k' blk o hk'
  case refine_1 =>
    have hg : Grow x { x with S := mkS B S0 (upd h k none) x.w x.ρ } := by
      refine ⟨?_, fun _ _ => rfl, fun _ _ _ h => h, fun _ => Nat.le_refl _⟩
      intro b hb
      rw [hs.S] at hb
      rcases hb with hb | ⟨h1, h2, h3⟩
      · exact .inl hb
      · refine .inr ⟨h1, h2, fun k' blk o hk' => ?_⟩
        by_cases e : k' = k
        · subst e; rw [upd_same] at hk'; cases hk'
        · rw [upd_ne _ _ e] at hk'; exact h3 k' blk o hk'
    have up : ∀ k' blk, upd h k none k' = some blk → h k' = some blk := by
      intro k' blk hk'
      by_cases e : k' = k
      · subst e; rw [upd_same] at hk'; cases hk'
      · rw [upd_ne _ _ e] at hk'; exact hk'
    refine ⟨hs.s0, hs.sz, ?_, ?_, rfl, hs.dom, fun k' blk g p hk' => hs.gen k' blk g p (up k' blk hk'), hs.inv⟩
    · intro k' blk hk'
      obtain ⟨b, o, h1, h2, h3, h4⟩ := hs.live k' blk (up k' blk hk')
      exact ⟨b, o, h1, h2, h3, BlkOk_grow hg rfl h4⟩
    · intro k1 k2 blk1 blk2 b o1 o2 h1 h2
      exact hs.inj k1 k2 blk1 blk2 b o1 o2 (up _ _ h1) (up _ _ h2)

theorem applyW_append (h : Heap) : ∀ (a b : Wr), applyW h (a ++ b) = applyW (applyW h a) b
  | [], _ => rfl
  | (k, x) :: a, b => by simp only [List.cons_append, applyW]; exact applyW_append (upd h k x) a b
theorem applyW_none : ∀ (ks : List Key) (h : Heap) (k : Key), applyW h (ks.map fun k => (k, none)) k = if k ∈ ks then none else h k
  | [], h, k => by simp [applyW]
  | a :: ks, h, k => by
    simp only [List.map_cons, applyW]
    rw [applyW_none ks]
    by_cases e : k = a
    · subst e; simp [upd_same]
    · simp [upd_ne _ _ e, e]
theorem Sim.drops {B : Nat} {S0 : Base} {nc : Nat} : ∀ (ks : List Key) {h : Heap} {x : Ctx}, Sim B S0 h nc x →
    ∃ y, y.w = x.w ∧ y.ρ = x.ρ ∧ Sim B S0 (applyW h (ks.map fun k => (k, none))) nc y ∧ Step B x y ∧ (∀ k ∈ ks, ∀ blk b o, h k = some blk → x.ρ k blk.gen = some (b, o) → y.S b) := by
  have go : ∀ (ks : List Key) {h : Heap} {x : Ctx}, Sim B S0 h nc x → ∃ y, y.w = x.w ∧ y.ρ = x.ρ ∧ Sim B S0 (applyW h (ks.map fun k => (k, none))) nc y ∧ Step B x y := by
    intro ks
    induction ks with
    | nil => intro h x hs; exact ⟨x, rfl, rfl, hs, Step.refl B x⟩
    | cons k ks ih =>
      intro h x hs
      obtain ⟨y, h1, h2, h3, h4⟩ := hs.drop k
      obtain ⟨z, h5, h6, h7, h8⟩ := ih h3
      exact ⟨z, h5.trans h1, h6.trans h2, h7, h4.trans h8⟩
  intro ks h x hs
  obtain ⟨y, h1, h2, h3, h4⟩ := go ks hs
  refine ⟨y, h1, h2, h3, h4, ?_⟩
  intro k hk blk b o hb hρ
  obtain ⟨b', o', e1, e2, e3, _⟩ := hs.live k blk hb
  rw [hρ] at e1
  cases e1
  rw [h3.S]
  refine .inr ⟨e2, by rw [h1]; exact e3, fun k' blk' o'' hk' hρ' => ?_⟩
  rw [applyW_none] at hk'
  split at hk'
  · cases hk'
  · rename_i hne
    rw [h2] at hρ'
    have := hs.inj k k' blk blk' _ _ _ hb hk' hρ hρ'
    subst this
    exact hne hk

/-- The world's count of draws alone is another one. -/
def Ctx.draw (x : Ctx) (n : Nat) : Ctx := { x with w := { x.w with drawn := n } }
theorem Step.draw (B : Nat) (x : Ctx) (n : Nat) : Step B x (x.draw n) :=
  ⟨⟨fun _ h => h, fun _ _ => rfl, fun _ _ _ h => h, fun _ => Nat.le_refl _⟩, fun _ _ => rfl, Nat.le_refl _, ⟨rfl, rfl, rfl⟩⟩
theorem Sim.draw {B : Nat} {S0 : Base} {h : Heap} {nc : Nat} {x : Ctx} (hs : Sim B S0 h nc x) (n : Nat) : Sim B S0 h nc (x.draw n) := by
  have hg := (Step.draw B x n).grow
  refine ⟨hs.s0, hs.sz, ?_, hs.inj, ?_, hs.dom, hs.gen, hs.inv⟩
  · intro k blk hk
    obtain ⟨b, o, h1, h2, h3, h4⟩ := hs.live k blk hk
    exact ⟨b, o, h1, h2, h3, BlkOk_grow hg rfl h4⟩
  · exact hs.S

theorem Sim.more {B : Nat} {S0 : Base} {h : Heap} {nc : Nat} {x : Ctx} (hs : Sim B S0 h nc x) (nc' : Nat) (hn : nc ≤ nc') : Sim B S0 h nc' x :=
  ⟨hs.s0, hs.sz, hs.live, hs.inj, hs.S, fun k g p hp => Nat.lt_of_lt_of_le (hs.dom k g p hp) hn, hs.gen, hs.inv⟩

def ρset (ρ : Key → Nat → Option (Nat × Nat)) (k : Key) (g : Nat) (p : Nat × Nat) : Key → Nat → Option (Nat × Nat) :=
  fun k' g' => if k' = k ∧ g' = g then some p else ρ k' g'
theorem ρset_same (ρ : Key → Nat → Option (Nat × Nat)) (k : Key) (g : Nat) (p : Nat × Nat) : ρset ρ k g p k g = some p := by simp [ρset]
theorem ρset_old (ρ : Key → Nat → Option (Nat × Nat)) (k : Key) (g : Nat) (p : Nat × Nat) (h : ρ k g = none) {k' : Key} {g' : Nat} {q : Nat × Nat} (hq : ρ k' g' = some q) : ρset ρ k g p k' g' = some q := by
  simp only [ρset]
  split
  · rename_i e; obtain ⟨rfl, rfl⟩ := e; rw [h] at hq; cases hq
  · exact hq
theorem ρset_inv (ρ : Key → Nat → Option (Nat × Nat)) (k : Key) (g : Nat) (p : Nat × Nat) {k' : Key} {g' : Nat} {q : Nat × Nat} (hq : ρset ρ k g p k' g' = some q) : ρ k' g' = some q ∨ (k' = k ∧ g' = g) := by
  simp only [ρset] at hq
  split at hq
  · rename_i e; exact .inr e
  · exact .inl hq

/-- A new block under a name. 'gn' is the row's count. -/
theorem Sim.freshO {B : Nat} {S0 : Base} {h : Heap} {nc : Nat} {x : Ctx} (hs : Sim B S0 h nc x) (k : Key) (gn : Nat) (blk : Blk) (w' : World) (ob : Obj)
    (hk : k.2 < nc) (hg : blk.gen = gn) (hnew : ∀ g p, x.ρ k g = some p → g < gn) (hw : w'.heap = x.w.heap.push ob) (henv : SameEnv x.w w') :
    ∃ y, y.w = w' ∧ y.ρ = ρset x.ρ k gn (x.w.heap.size, 0) ∧ y.S = mkS B S0 (upd h k (some blk)) w' y.ρ ∧ Step B x y ∧ y.w.heap[x.w.heap.size]? = some ob ∧
      (BlkOk y x.w.heap.size 0 blk → Sim B S0 (upd h k (some blk)) nc y) := by
  have hn : x.ρ k gn = none := by
    cases hc : x.ρ k gn with
    | none => rfl
    | some p => exact absurd (hnew _ _ hc) (Nat.lt_irrefl _)
  have hp : Puts B S0 h k gn x.w.heap.size 0 blk x { w := w', S := mkS B S0 (upd h k (some blk)) w' (ρset x.ρ k gn (x.w.heap.size, 0)), ρ := ρset x.ρ k gn (x.w.heap.size, 0) } := by
    refine ⟨fun k' g' p => ρset_old _ _ _ _ hn, ?_, ρset_same _ _ _ _, hg, hs.sz, ?_, .inl (Nat.le_refl _), ?_, ?_, ?_, rfl, fun g p hp => Nat.le_of_lt (hnew g p hp), henv⟩
    · intro k' g p hq
      rcases ρset_inv _ _ _ _ hq with h1 | ⟨h1, h2⟩
      · exact .inl h1
      · exact .inr ⟨h1, Nat.le_of_eq h2⟩
    · simp [hw]
    · intro b' hb' _
      simp only [hw]
      rw [Array.getElem?_push]
      rw [if_neg (by omega)]
    · simp [hw]
    · rw [bsz_ge (Nat.le_refl _)]; exact Nat.zero_le _
  exact ⟨_, rfl, rfl, rfl, hp.step hs, by simp [hw], fun hb => hp.sim hs hk hb⟩

theorem Sim.fresh {B : Nat} {S0 : Base} {h : Heap} {nc : Nat} {x : Ctx} (hs : Sim B S0 h nc x) (k : Key) (gn : Nat) (blk : Blk) (w' : World) (c : Array Value) (e : TypeId)
    (hk : k.2 < nc) (hg : blk.gen = gn) (hnew : ∀ g p, x.ρ k g = some p → g < gn) (hw : w'.heap = x.w.heap.push (.cells c e (0, 0))) (henv : SameEnv x.w w') :
    ∃ y, y.w = w' ∧ y.ρ = ρset x.ρ k gn (x.w.heap.size, 0) ∧ y.S = mkS B S0 (upd h k (some blk)) w' y.ρ ∧ Step B x y ∧ y.w.heap[x.w.heap.size]? = some (.cells c e (0, 0)) ∧
      (BlkOk y x.w.heap.size 0 blk → Sim B S0 (upd h k (some blk)) nc y) := hs.freshO k gn blk w' _ hk hg hnew hw henv

/-- How many cells an object has. -/
def osz : Obj → Nat
  | .cells c _ _ => c.size
  | _ => 0
theorem bsz_osz {w : World} {b : Nat} {ob : Obj} (h : w.heap[b]? = some ob) : bsz w b = osz ob := by
  simp only [Go.Xec.bsz, h]
  cases ob <;> rfl
/-- A name's own block is written; its row may begin further on. -/
theorem Sim.writeO {B : Nat} {S0 : Base} {h : Heap} {nc : Nat} {x : Ctx} (hs : Sim B S0 h nc x) (k : Key) (blk0 : Blk) (b o : Nat) (hk : h k = some blk0) (hρ : x.ρ k blk0.gen = some (b, o))
    (gn o' : Nat) (blk : Blk) (w' : World) (ob ob' : Obj) (hb : x.w.heap[b]? = some ob) (hc : osz ob ≤ osz ob') (hg : blk.gen = gn)
    (hgn : (gn = blk0.gen ∧ o' = o) ∨ gn = blk0.gen + 1) (hw : w'.heap = x.w.heap.setIfInBounds b ob') (henv : SameEnv x.w w') :
    ∃ y, y.w = w' ∧ (∀ k' g p, x.ρ k' g = some p → y.ρ k' g = some p) ∧ y.ρ k gn = some (b, o') ∧ (∀ k' g p, y.ρ k' g = some p → x.ρ k' g = some p ∨ k' = k) ∧ Step B x y ∧ y.w.heap[b]? = some ob' ∧
      (BlkOk y b o' blk → Sim B S0 (upd h k (some blk)) nc y) := by
  have hlt := heap_lt hb
  have hn : gn = blk0.gen + 1 → x.ρ k gn = none := by
    intro e1
    cases hc : x.ρ k gn with
    | none => rfl
    | some p => have := hs.gen k blk0 gn p hk hc; omega
  have hget : w'.heap[b]? = some ob' := by rw [hw]; simp [hlt]
  have hold : ∀ g p, x.ρ k g = some p → g ≤ gn := by
    intro g p hp
    have := hs.gen k blk0 g p hk hp
    rcases hgn with ⟨h1, _⟩ | h1 <;> omega
  obtain ⟨b1, o1, h1, h2, h3, _⟩ := hs.live k blk0 hk
  rw [hρ] at h1
  cases h1
  have hp : Puts B S0 h k gn b o' blk x { w := w', S := mkS B S0 (upd h k (some blk)) w' (ρset x.ρ k gn (b, o')), ρ := ρset x.ρ k gn (b, o') } := by
    refine ⟨?_, ?_, ρset_same _ _ _ _, hg, h2, ?_, .inr ⟨blk0, o, hk, hρ⟩, ?_, ?_, ?_, rfl, hold, henv⟩
    · intro k' g' p hq
      rcases hgn with ⟨e1, e2⟩ | e1
      · simp only [ρset]
        split
        · rename_i e3; obtain ⟨rfl, rfl⟩ := e3; rw [e1, hρ] at hq; cases hq; rw [e2]
        · exact hq
      · exact ρset_old _ _ _ _ (hn e1) hq
    · intro k' g p hq
      rcases ρset_inv _ _ _ _ hq with h4 | ⟨h4, h5⟩
      · exact .inl h4
      · exact .inr ⟨h4, Nat.le_of_eq h5⟩
    · simp [hw, hlt]
    · intro b' hb' hne
      simp only [hw]
      rw [Array.getElem?_setIfInBounds_ne (Ne.symm hne)]
    · simp [hw]
    · rw [bsz_osz hb, bsz_osz (w := w') hget]; exact hc
  refine ⟨_, rfl, hp.ρx, hp.at_, ?_, hp.step hs, hget, fun hb' => hp.sim hs (hs.dom k _ _ hρ) hb'⟩
  intro k' g p hq
  rcases hp.ρy k' g p hq with h4 | ⟨h4, _⟩
  · exact .inl h4
  · exact .inr h4

theorem Sim.write {B : Nat} {S0 : Base} {h : Heap} {nc : Nat} {x : Ctx} (hs : Sim B S0 h nc x) (k : Key) (blk0 : Blk) (b o : Nat) (hk : h k = some blk0) (hρ : x.ρ k blk0.gen = some (b, o))
    (gn o' : Nat) (blk : Blk) (w' : World) (c c' : Array Value) (e : TypeId) (hb : x.w.heap[b]? = some (.cells c e (0, 0))) (hc : c'.size = c.size) (hg : blk.gen = gn)
    (hgn : (gn = blk0.gen ∧ o' = o) ∨ gn = blk0.gen + 1) (hw : w'.heap = x.w.heap.setIfInBounds b (.cells c' e (0, 0))) (henv : SameEnv x.w w') :
    ∃ y, y.w = w' ∧ (∀ k' g p, x.ρ k' g = some p → y.ρ k' g = some p) ∧ y.ρ k gn = some (b, o') ∧ (∀ k' g p, y.ρ k' g = some p → x.ρ k' g = some p ∨ k' = k) ∧ Step B x y ∧ y.w.heap[b]? = some (.cells c' e (0, 0)) ∧
      (BlkOk y b o' blk → Sim B S0 (upd h k (some blk)) nc y) :=
  hs.writeO k blk0 b o hk hρ gn o' blk w' _ _ hb (by simp [osz, hc]) hg hgn hw henv

end Go.Xec
