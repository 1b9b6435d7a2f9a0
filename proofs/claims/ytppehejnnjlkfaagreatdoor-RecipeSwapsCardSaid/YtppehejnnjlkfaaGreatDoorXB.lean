/-
  What an abstract value says of a value in a world; that it stays so as the world grows.
-/
import Derived.Test.YtppehejnnjlkfaaGreatDoorXA
namespace Go.Xec
open Go

def bsz (w : World) (b : Nat) : Nat :=
  match w.heap[b]? with
  | some (.cells c _ _) => c.size
  | _ => 0

structure Ctx where
  w : World
  S : Nat → Prop
  ρ : Key → Nat → Option (Nat × Nat)

def ρ0 : Key → Nat → Option (Nat × Nat) := fun _ _ => none
/-- No names at all. -/
def Ctx.bare (x : Ctx) : Ctx := { x with ρ := ρ0 }

mutual
def V : Ctx → AVal → Value → Prop
  | _, .undef, v => v = Go.undef
  | _, .any, _ => True
  | _, .bool b, v => v = .bool b
  | _, .int k n, v => v = .int k n
  | _, .str s, v => v = .string s
  | x, .agg xs, v => ∃ cs : List Value, v = .agg cs.toArray ∧ VL x xs cs
  | x, .tup xs, v => ∃ cs : List Value, v = .tuple cs.toArray ∧ VL x xs cs
  | _, .nilp, v => v = .pointer none
  | x, .ptr k g i es off, v => ∃ b o, x.ρ k g = some (b, o) ∧ v = .pointer (some ⟨b, o + i * es + off, none⟩)
  | x, .pvo cs off, v => ∃ b o, v = .pointer (some ⟨b, o + off, none⟩) ∧ x.S b ∧ VC x.bare cs b o
  | _, .nils, v => v = .slice none 0 0
  | _, .emp, v => ∃ a, v = .slice (some a) 0 0
  | x, .slc es xs, v => ∃ b o cap, v = .slice (some ⟨b, o, none⟩) xs.length cap ∧ xs.length ≤ cap ∧ (xs = [] ∨ x.S b) ∧ VR x.bare es xs b o
  | x, .sl k g es off len, v => ∃ b o a cap, x.ρ k g = some (b, o) ∧ v = .slice (some a) len cap ∧ len ≤ cap ∧
      (cap = 0 ∨ a = ⟨b, o + off * es, none⟩) ∧ o + (off + cap) * es ≤ bsz x.w b ∧ a.spot = none
  | _, .nili, v => v = .nilIface
  | x, .ifc t y, v => ∃ u, v = .iface t u ∧ V x y u
  | _, .nilf, v => v = .nilFunc
  | x, .fn f first cap, v => ∃ fs cs : List Value, v = .func f fs.toArray cs.toArray ∧ VL x first fs ∧ VL x cap cs
  | x, .mp k, v => ∃ b, x.ρ k 0 = some (b, 0) ∧ v = .map (some b)
  termination_by _ a _ => (SizeOf.sizeOf a, 0)
def VL : Ctx → List AVal → List Value → Prop
  | _, [], vs => vs = []
  | x, a :: as, vs => ∃ v r, vs = v :: r ∧ V x a v ∧ VL x as r
  termination_by _ as _ => (SizeOf.sizeOf as, 0)
def VC : Ctx → List AVal → Nat → Nat → Prop
  | _, [], _, _ => True
  | x, a :: as, b, o => (∃ v, x.w.cell? ⟨b, o, none⟩ = some v ∧ V x a v) ∧ VC x as b (o + 1)
  termination_by _ as _ _ => (SizeOf.sizeOf as, 0)
/-- one element's cells -/
def VE : Ctx → Nat → AVal → Nat → Nat → Prop
  | x, es, .agg ys, b, o => ys.length = es ∧ VC x ys b o
  | x, es, a, b, o => es = 1 ∧ ∃ v, x.w.cell? ⟨b, o, none⟩ = some v ∧ V x a v
  termination_by _ _ a _ _ => (SizeOf.sizeOf a, 1)
def VR : Ctx → Nat → List AVal → Nat → Nat → Prop
  | _, _, [], _, _ => True
  | x, es, a :: as, b, o => VE x es a b o ∧ VR x es as b (o + es)
  termination_by _ _ as _ _ => (SizeOf.sizeOf as, 0)
end

structure Grow (x y : Ctx) : Prop where
  S : ∀ b, x.S b → y.S b
  keep : ∀ b, x.S b → y.w.heap[b]? = x.w.heap[b]?
  ρ : ∀ k g p, x.ρ k g = some p → y.ρ k g = some p
  sz : ∀ b, bsz x.w b ≤ bsz y.w b

theorem Grow.refl (x : Ctx) : Grow x x := ⟨fun _ h => h, fun _ _ => rfl, fun _ _ _ h => h, fun _ => Nat.le_refl _⟩
theorem Grow.trans {x y z : Ctx} (h : Grow x y) (h' : Grow y z) : Grow x z :=
  ⟨fun b hb => h'.S b (h.S b hb), fun b hb => (h'.keep b (h.S b hb)).trans (h.keep b hb), fun k g p hp => h'.ρ k g p (h.ρ k g p hp), fun b => Nat.le_trans (h.sz b) (h'.sz b)⟩

theorem Grow.bare {x y : Ctx} (h : Grow x y) : Grow x.bare y.bare := ⟨h.S, h.keep, fun _ _ _ hp => hp, h.sz⟩
theorem Grow.unbare (x : Ctx) : Grow x.bare x := ⟨fun _ h => h, fun _ _ => rfl, (fun _ _ _ hp => by cases hp), fun _ => Nat.le_refl _⟩

theorem cell_of_heap {w w' : World} {b o : Nat} (h : w'.heap[b]? = w.heap[b]?) : w'.cell? ⟨b, o, none⟩ = w.cell? ⟨b, o, none⟩ := by
  simp only [World.cell?, h]

/-- cells of one world are those of the other, wherever it matters -/
def SameAt (x y : Ctx) (b : Nat) : Prop := y.w.heap[b]? = x.w.heap[b]?

mutual
theorem V_grow {x y : Ctx} (g : Grow x y) : ∀ (a : AVal) (v : Value), V x a v → V y a v
  | .undef, v, h => by simpa only [V] using h
  | .any, _, _ => by simp only [V]
  | .bool _, v, h => by simpa only [V] using h
  | .int _ _, v, h => by simpa only [V] using h
  | .str _, v, h => by simpa only [V] using h
  | .agg xs, v, h => by
    simp only [V] at h ⊢
    obtain ⟨cs, hv, hl⟩ := h
    exact ⟨cs, hv, VL_grow g xs cs hl⟩
  | .tup xs, v, h => by
    simp only [V] at h ⊢
    obtain ⟨cs, hv, hl⟩ := h
    exact ⟨cs, hv, VL_grow g xs cs hl⟩
  | .nilp, v, h => by simpa only [V] using h
  | .ptr k gg i es off, v, h => by
    simp only [V] at h ⊢
    obtain ⟨b, o, hr, hv⟩ := h
    exact ⟨b, o, g.ρ _ _ _ hr, hv⟩
  | .pvo cs off, v, h => by
    simp only [V] at h ⊢
    obtain ⟨b, o, hv, hS, hc⟩ := h
    exact ⟨b, o, hv, g.S b hS, VC_grow g.bare cs b o (g.keep b hS) hc⟩
  | .nils, v, h => by simpa only [V] using h
  | .emp, v, h => by simpa only [V] using h
  | .slc es xs, v, h => by
    simp only [V] at h ⊢
    obtain ⟨b, o, cap, hv, hc, hS, hr⟩ := h
    refine ⟨b, o, cap, hv, hc, hS.imp id (g.S b), ?_⟩
    rcases hS with rfl | hS
    · simp only [VR]
    · exact VR_grow g.bare es xs b o (g.keep b hS) hr
  | .sl k gg es off len, v, h => by
    simp only [V] at h ⊢
    obtain ⟨b, o, a, cap, hr, hv, hc, ha, hz, hsp⟩ := h
    exact ⟨b, o, a, cap, g.ρ _ _ _ hr, hv, hc, ha, Nat.le_trans hz (g.sz b), hsp⟩
  | .nili, v, h => by simpa only [V] using h
  | .ifc t a, v, h => by
    simp only [V] at h ⊢
    obtain ⟨u, hv, hu⟩ := h
    exact ⟨u, hv, V_grow g a u hu⟩
  | .nilf, v, h => by simpa only [V] using h
  | .fn f first cap, v, h => by
    simp only [V] at h ⊢
    obtain ⟨fs, cs, hv, h1, h2⟩ := h
    exact ⟨fs, cs, hv, VL_grow g first fs h1, VL_grow g cap cs h2⟩
  | .mp k, v, h => by
    simp only [V] at h ⊢
    obtain ⟨b, hr, hv⟩ := h
    exact ⟨b, g.ρ _ _ _ hr, hv⟩
  termination_by a _ _ => (SizeOf.sizeOf a, 0)
theorem VL_grow {x y : Ctx} (g : Grow x y) : ∀ (as : List AVal) (vs : List Value), VL x as vs → VL y as vs
  | [], vs, h => by simpa only [VL] using h
  | a :: as, vs, h => by
    simp only [VL] at h ⊢
    obtain ⟨v, r, hv, h1, h2⟩ := h
    exact ⟨v, r, hv, V_grow g a v h1, VL_grow g as r h2⟩
  termination_by as _ _ => (SizeOf.sizeOf as, 0)
theorem VC_grow {x y : Ctx} (g : Grow x y) : ∀ (as : List AVal) (b o : Nat), SameAt x y b → VC x as b o → VC y as b o
  | [], _, _, _, _ => by simp only [VC]
  | a :: as, b, o, hs, h => by
    simp only [VC] at h ⊢
    obtain ⟨⟨v, hv, h1⟩, h2⟩ := h
    exact ⟨⟨v, (cell_of_heap hs).trans hv, V_grow g a v h1⟩, VC_grow g as b (o + 1) hs h2⟩
  termination_by as _ _ _ _ => (SizeOf.sizeOf as, 0)
theorem VE_grow {x y : Ctx} (g : Grow x y) (es : Nat) : ∀ (a : AVal) (b o : Nat), SameAt x y b → VE x es a b o → VE y es a b o
  | .agg ys, b, o, hs, h => by
    simp only [VE] at h ⊢
    exact ⟨h.1, VC_grow g ys b o hs h.2⟩
  | .undef, b, o, hs, h => by simp only [VE] at h ⊢; obtain ⟨h0, v, hv, h1⟩ := h; exact ⟨h0, v, (cell_of_heap hs).trans hv, V_grow g .undef v h1⟩
  | .any, b, o, hs, h => by simp only [VE] at h ⊢; obtain ⟨h0, v, hv, h1⟩ := h; exact ⟨h0, v, (cell_of_heap hs).trans hv, V_grow g .any v h1⟩
  | .bool c, b, o, hs, h => by simp only [VE] at h ⊢; obtain ⟨h0, v, hv, h1⟩ := h; exact ⟨h0, v, (cell_of_heap hs).trans hv, V_grow g (.bool c) v h1⟩
  | .int k n, b, o, hs, h => by simp only [VE] at h ⊢; obtain ⟨h0, v, hv, h1⟩ := h; exact ⟨h0, v, (cell_of_heap hs).trans hv, V_grow g (.int k n) v h1⟩
  | .str s, b, o, hs, h => by simp only [VE] at h ⊢; obtain ⟨h0, v, hv, h1⟩ := h; exact ⟨h0, v, (cell_of_heap hs).trans hv, V_grow g (.str s) v h1⟩
  | .tup ts, b, o, hs, h => by simp only [VE] at h ⊢; obtain ⟨h0, v, hv, h1⟩ := h; exact ⟨h0, v, (cell_of_heap hs).trans hv, V_grow g (.tup ts) v h1⟩
  | .nilp, b, o, hs, h => by simp only [VE] at h ⊢; obtain ⟨h0, v, hv, h1⟩ := h; exact ⟨h0, v, (cell_of_heap hs).trans hv, V_grow g .nilp v h1⟩
  | .ptr k gg i es off, b, o, hs, h => by simp only [VE] at h ⊢; obtain ⟨h0, v, hv, h1⟩ := h; exact ⟨h0, v, (cell_of_heap hs).trans hv, V_grow g (.ptr k gg i es off) v h1⟩
  | .pvo cs off, b, o, hs, h => by simp only [VE] at h ⊢; obtain ⟨h0, v, hv, h1⟩ := h; exact ⟨h0, v, (cell_of_heap hs).trans hv, V_grow g (.pvo cs off) v h1⟩
  | .nils, b, o, hs, h => by simp only [VE] at h ⊢; obtain ⟨h0, v, hv, h1⟩ := h; exact ⟨h0, v, (cell_of_heap hs).trans hv, V_grow g .nils v h1⟩
  | .emp, b, o, hs, h => by simp only [VE] at h ⊢; obtain ⟨h0, v, hv, h1⟩ := h; exact ⟨h0, v, (cell_of_heap hs).trans hv, V_grow g .emp v h1⟩
  | .slc e xs, b, o, hs, h => by simp only [VE] at h ⊢; obtain ⟨h0, v, hv, h1⟩ := h; exact ⟨h0, v, (cell_of_heap hs).trans hv, V_grow g (.slc e xs) v h1⟩
  | .sl k gg es off len, b, o, hs, h => by simp only [VE] at h ⊢; obtain ⟨h0, v, hv, h1⟩ := h; exact ⟨h0, v, (cell_of_heap hs).trans hv, V_grow g (.sl k gg es off len) v h1⟩
  | .nili, b, o, hs, h => by simp only [VE] at h ⊢; obtain ⟨h0, v, hv, h1⟩ := h; exact ⟨h0, v, (cell_of_heap hs).trans hv, V_grow g .nili v h1⟩
  | .ifc t a, b, o, hs, h => by simp only [VE] at h ⊢; obtain ⟨h0, v, hv, h1⟩ := h; exact ⟨h0, v, (cell_of_heap hs).trans hv, V_grow g (.ifc t a) v h1⟩
  | .nilf, b, o, hs, h => by simp only [VE] at h ⊢; obtain ⟨h0, v, hv, h1⟩ := h; exact ⟨h0, v, (cell_of_heap hs).trans hv, V_grow g .nilf v h1⟩
  | .mp k, b, o, hs, h => by simp only [VE] at h ⊢; obtain ⟨h0, v, hv, h1⟩ := h; exact ⟨h0, v, (cell_of_heap hs).trans hv, V_grow g (.mp k) v h1⟩
  | .fn f first cap, b, o, hs, h => by simp only [VE] at h ⊢; obtain ⟨h0, v, hv, h1⟩ := h; exact ⟨h0, v, (cell_of_heap hs).trans hv, V_grow g (.fn f first cap) v h1⟩
  termination_by a _ _ _ _ => (SizeOf.sizeOf a, 1)
theorem VR_grow {x y : Ctx} (g : Grow x y) (es : Nat) : ∀ (as : List AVal) (b o : Nat), SameAt x y b → VR x es as b o → VR y es as b o
  | [], _, _, _, _ => by simp only [VR]
  | a :: as, b, o, hs, h => by
    simp only [VR] at h ⊢
    exact ⟨VE_grow g es a b o hs h.1, VR_grow g es as b (o + es) hs h.2⟩
  termination_by as _ _ _ _ => (SizeOf.sizeOf as, 0)
end

/-! ### lists -/
theorem VL.length {x : Ctx} : ∀ {as : List AVal} {vs : List Value}, VL x as vs → vs.length = as.length
  | [], vs, h => by simp only [VL] at h; subst h; rfl
  | a :: as, vs, h => by
    simp only [VL] at h
    obtain ⟨v, r, rfl, _, h2⟩ := h
    simp [VL.length h2]
theorem VL.get {x : Ctx} : ∀ {as : List AVal} {vs : List Value} {i : Nat} {a : AVal}, VL x as vs → as[i]? = some a → ∃ v, vs[i]? = some v ∧ V x a v
  | [], vs, i, a, _, h => by simp at h
  | b :: bs, vs, i, a, h, hi => by
    simp only [VL] at h
    obtain ⟨v, r, rfl, h1, h2⟩ := h
    cases i with
    | zero => simp at hi; subst hi; exact ⟨v, rfl, h1⟩
    | succ i => simp at hi ⊢; exact VL.get h2 hi
theorem VL.append {x : Ctx} : ∀ {as bs : List AVal} {vs us : List Value}, VL x as vs → VL x bs us → VL x (as ++ bs) (vs ++ us)
  | [], bs, vs, us, h, h' => by simp only [VL] at h; subst h; simpa using h'
  | a :: as, bs, vs, us, h, h' => by
    simp only [VL] at h
    obtain ⟨v, r, rfl, h1, h2⟩ := h
    simp only [List.cons_append, VL]
    exact ⟨v, r ++ us, rfl, h1, VL.append h2 h'⟩
theorem VL.drop {x : Ctx} : ∀ {as : List AVal} {vs : List Value} (n : Nat), VL x as vs → VL x (as.drop n) (vs.drop n)
  | [], vs, n, h => by simp only [VL] at h; subst h; simp [VL]
  | a :: as, vs, 0, h => by simpa using h
  | a :: as, vs, n + 1, h => by
    simp only [VL] at h
    obtain ⟨v, r, rfl, h1, h2⟩ := h
    simpa using VL.drop n h2
theorem VL.take {x : Ctx} : ∀ {as : List AVal} {vs : List Value} (n : Nat), VL x as vs → VL x (as.take n) (vs.take n)
  | [], vs, n, h => by simp only [VL] at h; subst h; simp [VL]
  | a :: as, vs, 0, h => by simp [VL]
  | a :: as, vs, n + 1, h => by
    simp only [VL] at h
    obtain ⟨v, r, rfl, h1, h2⟩ := h
    simp only [List.take_succ_cons, VL]
    exact ⟨v, _, rfl, h1, VL.take n h2⟩

theorem VC.get {x : Ctx} : ∀ {as : List AVal} {b o i : Nat} {a : AVal}, VC x as b o → as[i]? = some a → ∃ v, x.w.cell? ⟨b, o + i, none⟩ = some v ∧ V x a v
  | [], b, o, i, a, _, h => by simp at h
  | c :: cs, b, o, i, a, h, hi => by
    simp only [VC] at h
    cases i with
    | zero => simp at hi; subst hi; exact h.1
    | succ i =>
      simp at hi
      obtain ⟨v, hv, h2⟩ := VC.get h.2 hi
      exact ⟨v, by rw [← hv]; congr 2; omega, h2⟩
theorem VC.drop {x : Ctx} : ∀ {as : List AVal} {b o : Nat} (n : Nat), VC x as b o → VC x (as.drop n) b (o + n)
  | [], b, o, n, _ => by simp [VC]
  | c :: cs, b, o, 0, h => by simpa using h
  | c :: cs, b, o, n + 1, h => by
    simp only [VC] at h
    have := VC.drop n h.2
    simp only [List.drop_succ_cons]
    rw [show o + (n + 1) = o + 1 + n by omega]
    exact this
theorem VC.take {x : Ctx} : ∀ {as : List AVal} {b o : Nat} (n : Nat), VC x as b o → VC x (as.take n) b o
  | [], b, o, n, _ => by simp [VC]
  | c :: cs, b, o, 0, h => by simp [VC]
  | c :: cs, b, o, n + 1, h => by
    simp only [VC] at h
    simp only [List.take_succ_cons, VC]
    exact ⟨h.1, VC.take n h.2⟩
theorem VC.append {x : Ctx} : ∀ {as bs : List AVal} {b o : Nat}, VC x as b o → VC x bs b (o + as.length) → VC x (as ++ bs) b o
  | [], bs, b, o, _, h => by simpa using h
  | c :: cs, bs, b, o, h, h' => by
    simp only [VC] at h
    simp only [List.cons_append, VC]
    refine ⟨h.1, VC.append h.2 ?_⟩
    rw [show o + 1 + cs.length = o + (c :: cs).length by simp; omega]
    exact h'

/-- what an element's cells are -/
theorem VE_cells {x : Ctx} {es : Nat} {a : AVal} {b o : Nat} (h : VE x es a b o) : (cellsOf a).length = es ∧ VC x (cellsOf a) b o := by
  cases a <;> first
    | (simp only [VE] at h; exact h)
    | (simp only [VE] at h; obtain ⟨rfl, h⟩ := h; simp only [cellsOf, VC, List.length_singleton]; exact ⟨trivial, h, trivial⟩)
theorem VE_of_cells {x : Ctx} {es : Nat} {a : AVal} {b o : Nat} (hl : (cellsOf a).length = es) (h : VC x (cellsOf a) b o) : VE x es a b o := by
  cases a <;> first
    | (simp only [VE]; exact ⟨hl, h⟩)
    | (simp only [VE]; simp only [cellsOf, VC, List.length_singleton] at h hl; exact ⟨hl.symm, h.1⟩)

theorem VR.get {x : Ctx} {es : Nat} : ∀ {as : List AVal} {b o i : Nat} {a : AVal}, VR x es as b o → as[i]? = some a → VE x es a b (o + i * es)
  | [], b, o, i, a, _, h => by simp at h
  | c :: cs, b, o, i, a, h, hi => by
    simp only [VR] at h
    cases i with
    | zero => simp at hi; subst hi; simpa using h.1
    | succ i =>
      simp at hi
      have := VR.get h.2 hi
      rw [show o + (i + 1) * es = o + es + i * es by rw [Nat.succ_mul]; omega]
      exact this
theorem VR.drop {x : Ctx} {es : Nat} : ∀ {as : List AVal} {b o : Nat} (n : Nat), VR x es as b o → VR x es (as.drop n) b (o + n * es)
  | [], b, o, n, _ => by simp [VR]
  | c :: cs, b, o, 0, h => by simpa using h
  | c :: cs, b, o, n + 1, h => by
    simp only [VR] at h
    have := VR.drop n h.2
    simp only [List.drop_succ_cons]
    rw [show o + (n + 1) * es = o + es + n * es by rw [Nat.succ_mul]; omega]
    exact this
theorem VR.take {x : Ctx} {es : Nat} : ∀ {as : List AVal} {b o : Nat} (n : Nat), VR x es as b o → VR x es (as.take n) b o
  | [], b, o, n, _ => by simp [VR]
  | c :: cs, b, o, 0, h => by simp [VR]
  | c :: cs, b, o, n + 1, h => by
    simp only [VR] at h
    simp only [List.take_succ_cons, VR]
    exact ⟨h.1, VR.take n h.2⟩
theorem VR.append {x : Ctx} {es : Nat} : ∀ {as bs : List AVal} {b o : Nat}, VR x es as b o → VR x es bs b (o + as.length * es) → VR x es (as ++ bs) b o
  | [], bs, b, o, _, h => by simpa using h
  | c :: cs, bs, b, o, h, h' => by
    simp only [VR] at h
    simp only [List.cons_append, VR]
    refine ⟨h.1, VR.append h.2 ?_⟩
    rw [show o + es + cs.length * es = o + (c :: cs).length * es by simp [Nat.succ_mul]; omega]
    exact h'

/-- rows of cells -/
theorem VR_flat {x : Ctx} {es : Nat} : ∀ {as : List AVal} {b o : Nat}, VR x es as b o → VC x (as.flatMap cellsOf) b o ∧ (as.flatMap cellsOf).length = as.length * es
  | [], b, o, _ => by simp [VC]
  | c :: cs, b, o, h => by
    simp only [VR] at h
    obtain ⟨h1, h2⟩ := VE_cells h.1
    obtain ⟨h3, h4⟩ := VR_flat h.2
    simp only [List.flatMap_cons]
    exact ⟨VC.append h2 (by rw [h1]; exact h3), by simp [h1, h4, Nat.succ_mul]; omega⟩
theorem VR_of_flat {x : Ctx} {es : Nat} : ∀ {as : List AVal} {b o : Nat}, (∀ a, a ∈ as → (cellsOf a).length = es) → VC x (as.flatMap cellsOf) b o → VR x es as b o
  | [], b, o, _, _ => by simp [VR]
  | c :: cs, b, o, hl, h => by
    simp only [List.flatMap_cons] at h
    simp only [VR]
    have hc := hl c (by simp)
    refine ⟨VE_of_cells hc ?_, VR_of_flat (fun a ha => hl a (by simp [ha])) ?_⟩
    · have := VC.take (cellsOf c).length h; simpa using this
    · have := VC.drop (cellsOf c).length h; rw [hc] at this; simpa [← hc] using this

end Go.Xec
