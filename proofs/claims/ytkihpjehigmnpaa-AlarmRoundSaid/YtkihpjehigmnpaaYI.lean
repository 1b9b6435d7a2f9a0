/-
  Rows of alarms by their states.
-/
import Derived.Test.YtkihpjehigmnpaaYC
set_option linter.unusedVariables false
set_option linter.unusedSimpArgs false
namespace Go.Proofs.Ytkihpjehigmnpaa
open Go Go.Xec

/-- All that are open, up to a key. -/
def pre (f : Int → Int → Int) : Nat → List Al
  | 0 => []
  | i + 1 => pre f i ++ (if f (i / 16 : Nat) (i % 16 : Nat) = 0 then [] else [⟨(i / 16 : Nat), (i % 16 : Nat), f (i / 16 : Nat) (i % 16 : Nat)⟩])
def fullL (f : Int → Int → Int) : List Al := pre f 64
def up (f : Int → Int → Int) (c k s : Int) : Int → Int → Int := fun c' k' => if c' = c ∧ k' = k then s else f c' k'
theorem pre_len (f : Int → Int → Int) : ∀ i, (pre f i).length ≤ i
  | 0 => Nat.le_refl _
  | i + 1 => by
    have := pre_len f i
    rw [pre, List.length_append]
    split <;> simp <;> omega
theorem mem_pre {f : Int → Int → Int} {a : Al} : ∀ {i : Nat}, a ∈ pre f i ↔ ∃ j, j < i ∧ a.c = (j / 16 : Nat) ∧ a.k = (j % 16 : Nat) ∧ a.s = f a.c a.k ∧ a.s ≠ 0
  | 0 => by simp [pre]
  | i + 1 => by
    rw [pre, List.mem_append, mem_pre]
    constructor
    · rintro (⟨j, h1, h2⟩ | h)
      · exact ⟨j, by omega, h2⟩
      · split at h
        · cases h
        · rename_i h0
          obtain rfl := List.mem_singleton.1 h
          exact ⟨i, by omega, rfl, rfl, rfl, h0⟩
    · rintro ⟨j, h1, h2, h3, h4, h5⟩
      rcases Nat.lt_or_ge j i with h | h
      · exact .inl ⟨j, h, h2, h3, h4, h5⟩
      · obtain rfl : j = i := by omega
        rw [h2, h3] at h4
        rw [h4] at h5
        right
        rw [if_neg h5]
        obtain ⟨c, k, s⟩ := a
        simp only at h2 h3 h4
        rw [h2, h3, h4]
        exact List.mem_singleton.2 rfl
theorem num_pre {f : Int → Int → Int} {a : Al} {i : Nat} (h : a ∈ pre f i) : num a < i := by
  obtain ⟨j, h1, h2, h3, _⟩ := mem_pre.1 h
  unfold num
  rw [h2, h3]
  omega
theorem pre_pw (f : Int → Int → Int) : ∀ i, (pre f i).Pairwise fun a b => num a < num b
  | 0 => List.Pairwise.nil
  | i + 1 => by
    rw [pre, List.pairwise_append]
    refine ⟨pre_pw f i, by split <;> simp, fun a ha b hb => ?_⟩
    have := num_pre ha
    split at hb
    · cases hb
    · obtain rfl := List.mem_singleton.1 hb
      simp only [num] at *
      omega
theorem mem_full {f : Int → Int → Int} {a : Al} : a ∈ fullL f ↔ kOk a.c a.k ∧ a.s = f a.c a.k ∧ a.s ≠ 0 := by
  unfold fullL
  rw [mem_pre]
  simp only [kOk]
  constructor
  · rintro ⟨j, h1, h2, h3, h4, h5⟩
    exact ⟨by omega, h4, h5⟩
  · rintro ⟨h1, h4, h5⟩
    exact ⟨(16 * a.c + a.k).toNat, by omega, by omega, by omega, h4, h5⟩
theorem full_ok {f : Int → Int → Int} (h : ∀ c k, kOk c k → 0 ≤ f c k ∧ f c k ≤ 2) : alOk (fullL f) := by
  refine ⟨fun a ha => ?_, pre_pw f 64⟩
  obtain ⟨h1, h2, h3⟩ := mem_full.1 ha
  have := h _ _ h1
  exact ⟨h1, by omega, by omega⟩
/-- One key alone. -/
theorem num_inj {a b : Al} (ha : kOk a.c a.k) (hb : kOk b.c b.k) (h : num a = num b) : a.c = b.c ∧ a.k = b.k := by
  simp only [kOk, num] at *
  omega
theorem stL_ne {l : List Al} {c k : Int} (h : stL l c k ≠ 0) : ⟨c, k, stL l c k⟩ ∈ l := by
  induction l with
  | nil => exact absurd rfl h
  | cons a l ih =>
    rw [stL] at h ⊢
    by_cases hk : a.c = c ∧ a.k = k
    · rw [if_pos hk] at h ⊢
      obtain ⟨rfl, rfl⟩ := hk
      exact List.mem_cons_self
    · rw [if_neg hk] at h ⊢
      exact List.mem_cons_of_mem _ (ih h)
theorem stL_mem {l : List Al} (hp : l.Pairwise fun a b => num a < num b) {a : Al} (ha : a ∈ l) : stL l a.c a.k = a.s := by
  induction l with
  | nil => cases ha
  | cons b l ih =>
    rw [List.pairwise_cons] at hp
    rw [stL]
    rcases List.mem_cons.1 ha with rfl | ha
    · rw [if_pos ⟨rfl, rfl⟩]
    · rw [if_neg (fun e => by have := hp.1 a ha; simp only [num] at this; omega)]
      exact ih hp.2 ha
theorem mem_st {l : List Al} (h : alOk l) {a : Al} : a ∈ l ↔ a.s = stL l a.c a.k ∧ a.s ≠ 0 := by
  constructor
  · intro ha
    have := (h.1 a ha).2
    exact ⟨(stL_mem h.2 ha).symm, by omega⟩
  · rintro ⟨h1, h2⟩
    have := stL_ne (l := l) (c := a.c) (k := a.k) (by omega)
    rw [← h1] at this
    exact this
theorem st_rng {l : List Al} (h : alOk l) (c k : Int) : 0 ≤ stL l c k ∧ stL l c k ≤ 2 := by
  by_cases h0 : stL l c k = 0
  · omega
  · have := (h.1 _ (stL_ne h0)).2
    simp only at this
    omega
theorem st_key {l : List Al} (h : alOk l) {c k : Int} (hk : ¬ kOk c k) : stL l c k = 0 :=
  Classical.byContradiction fun h0 => hk (h.1 _ (stL_ne h0)).1
theorem st_full {f : Int → Int → Int} {c k : Int} (hk : kOk c k) : stL (fullL f) c k = f c k := by
  by_cases h0 : f c k = 0
  · rw [h0]
    refine Classical.byContradiction fun h => ?_
    have h1 := mem_full.1 (stL_ne h)
    simp only at h1
    omega
  · exact stL_mem (pre_pw f 64) (a := ⟨c, k, f c k⟩) (mem_full.2 ⟨hk, rfl, h0⟩)
theorem pw_nodup {l : List Al} (h : l.Pairwise fun a b => num a < num b) : l.Nodup := h.imp fun h e => by subst e; omega
theorem pw_ext {l m : List Al} (hl : l.Pairwise fun a b => num a < num b) (hm : m.Pairwise fun a b => num a < num b) (h : ∀ a, a ∈ l ↔ a ∈ m) : l = m := by
  refine List.Perm.eq_of_pairwise (le := fun x y => num x < num y) ?_ hl hm ((List.perm_ext_iff_of_nodup (pw_nodup hl) (pw_nodup hm)).2 h)
  intro a b _ _ h1 h2
  omega
theorem full_st {l : List Al} (h : alOk l) : fullL (stL l) = l := by
  refine pw_ext (pre_pw _ 64) h.2 fun a => ?_
  rw [mem_full, mem_st h]
  constructor
  · rintro ⟨_, h1⟩; exact h1
  · rintro h1
    exact ⟨(h.1 a ((mem_st h).2 h1)).1, h1⟩
theorem full_ext {f g : Int → Int → Int} (h : ∀ c k, kOk c k → f c k = g c k) : fullL f = fullL g := by
  refine pw_ext (pre_pw _ 64) (pre_pw _ 64) fun a => ?_
  rw [mem_full, mem_full]
  constructor
  · rintro ⟨h1, h2, h3⟩; exact ⟨h1, by rw [h2, h _ _ h1], h3⟩
  · rintro ⟨h1, h2, h3⟩; exact ⟨h1, by rw [h2, h _ _ h1], h3⟩
theorem up_rng {l : List Al} (h : alOk l) {c k s : Int} (hs : 0 ≤ s ∧ s ≤ 2) (c' k' : Int) : 0 ≤ up (stL l) c k s c' k' ∧ up (stL l) c k s c' k' ≤ 2 := by
  unfold up
  split
  · exact hs
  · exact st_rng h _ _
theorem upd_ok {l : List Al} (h : alOk l) {c k s : Int} (hs : 0 ≤ s ∧ s ≤ 2) : alOk (fullL (up (stL l) c k s)) := full_ok fun c' k' _ => up_rng h hs c' k'
/-- All but a channel's. -/
def noC (f : Int → Int → Int) (c : Int) : Int → Int → Int := fun c' k' => if c' = c then 0 else f c' k'
theorem noC_full {l : List Al} (h : alOk l) (c : Int) : l.filter (fun a => decide (a.c ≠ c)) = fullL (noC (stL l) c) := by
  refine pw_ext (h.2.sublist List.filter_sublist) (pre_pw _ 64) fun a => ?_
  rw [List.mem_filter, mem_full, mem_st h, decide_eq_true_eq]
  unfold noC
  constructor
  · rintro ⟨⟨h1, h2⟩, h3⟩
    rw [if_neg h3]
    exact ⟨(h.1 a ((mem_st h).2 ⟨h1, h2⟩)).1, h1, h2⟩
  · rintro ⟨h1, h2, h3⟩
    split at h2
    · omega
    · rename_i hc
      exact ⟨⟨h2, h3⟩, hc⟩
theorem noC_ok {l : List Al} (h : alOk l) (c : Int) : alOk (fullL (noC (stL l) c)) := full_ok fun c' k' _ => by
  have := st_rng h c' k'
  unfold noC
  split <;> omega
end Go.Proofs.Ytkihpjehigmnpaa
