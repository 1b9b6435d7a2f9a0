/-
  The program's list, as the interpreter calls it.
-/
import Derived.Test.YtkihpjehigmnpaaYG
set_option linter.unusedVariables false
set_option linter.unusedSimpArgs false
namespace Go.Proofs.Ytkihpjehigmnpaa
open Go Go.Shelf Go.Sort

theorem VR_al {y : Go.Xec.Ctx} {b : Nat} : ∀ {l : List Al} {o : Nat}, (∀ j (h : j < l.length), y.w.cell? ⟨b, o + j * 3, none⟩ = some (.int .i64 l[j].c) ∧ y.w.cell? ⟨b, o + j * 3 + 1, none⟩ = some (.int .i64 l[j].k) ∧ y.w.cell? ⟨b, o + j * 3 + 2, none⟩ = some (.int .i64 l[j].s)) →
    Go.Xec.VR y 3 (l.map AK) b o
  | [], _, _ => by simp only [List.map_nil, Go.Xec.VR]
  | a :: l, o, h => by
    rw [List.map_cons]
    have h0 := h 0 (by simp)
    simp only [Nat.zero_mul, Nat.add_zero, List.getElem_cons_zero] at h0
    simp only [Go.Xec.VR, Go.Xec.VE, Go.Xec.VC, Go.Xec.V, List.length_cons, List.length_nil]
    refine ⟨⟨trivial, ⟨_, h0.1, rfl⟩, ⟨_, h0.2.1, rfl⟩, ⟨_, h0.2.2, rfl⟩, trivial⟩, VR_al fun j hj => ?_⟩
    have h1 := h (j + 1) (by simp; omega)
    rw [show o + (j + 1) * 3 = o + 3 + j * 3 by omega] at h1
    simpa using h1
theorem ord_num {l : List Al} (hk : ∀ a ∈ l, kOk a.c a.k) (h : l.Pairwise fun x y => ¬ ordA y x < 0) : l.Pairwise fun x y => num x ≤ num y := by
  rw [List.pairwise_iff_getElem] at *
  intro i j hi hj hij
  have h1 := h i j hi hj hij
  rw [ordA_num (hk _ (List.getElem_mem hj)) (hk _ (List.getElem_mem hi))] at h1
  omega
/-- One sorted row alone. -/
theorem sorted_one {l ds : List Al} (hk : ∀ a ∈ l, kOk a.c a.k) (hl : l.Pairwise fun x y => num x < num y) (hp : ds.Perm l) (h : ds.Pairwise fun x y => ¬ ordA y x < 0) : ds = l := by
  have hn := ord_num (fun a ha => hk a (hp.mem_iff.1 ha)) h
  refine List.Perm.eq_of_pairwise (le := fun x y => num x ≤ num y) ?_ hn (hl.imp fun h => by omega) hp
  intro a b ha hb h1 h2
  obtain ⟨i, hi, rfl⟩ := List.mem_iff_getElem.1 (hp.mem_iff.1 ha)
  obtain ⟨j, hj, rfl⟩ := List.mem_iff_getElem.1 hb
  rw [List.pairwise_iff_getElem] at hl
  rcases Nat.lt_trichotomy i j with h3 | h3 | h3
  · have := hl i j hi hj h3; omega
  · subst h3; rfl
  · have := hl j i hj hi h3; omega
/-- Which entries the list may be asked of, and what it answers. -/
def ListAsk (es : List (Go.Xec.AVal × Go.Xec.AVal × Nat)) (cl : Nat) (l : List Al) : Prop :=
  (∀ a ∈ l, kOk a.c a.k) ∧ (l.Pairwise fun x y => num x < num y) ∧ ∃ m : List (Al × Nat), es = entM m ∧ (m.map (·.1)).Perm l ∧ (m.map (·.2)).Nodup ∧ (∀ p ∈ m, p.2 < cl) ∧ m.length ≤ 200000
open Classical in
noncomputable def F23m (es : List (Go.Xec.AVal × Go.Xec.AVal × Nat)) (cl : Nat) : Option (Option (Nat × List Go.Xec.AVal)) :=
  if h : ∃ l, ListAsk es cl l then some (if h.choose = [] then none else some (3, h.choose.map AK)) else none
theorem ME_inj : ∀ {m m' : List (Al × Nat)}, entM m = entM m' → m = m'
  | [], [], _ => rfl
  | [], _ :: _, h => by cases h
  | _ :: _, [], h => by cases h
  | p :: m, q :: m', h => by
    simp only [entM, List.map_cons, List.cons.injEq, Prod.mk.injEq, Go.Xec.AVal.agg.injEq, Go.Xec.AVal.int.injEq, true_and, and_true] at h
    obtain ⟨⟨⟨h1, h2⟩, h3, h4⟩, h5⟩ := h
    rw [ME_inj h5]
    obtain ⟨⟨a, b, c⟩, n⟩ := p
    obtain ⟨⟨a', b', c'⟩, n'⟩ := q
    simp only at h1 h2 h3 h4
    subst h1 h2 h3 h4
    rfl
theorem ask_one {es : List (Go.Xec.AVal × Go.Xec.AVal × Nat)} {cl : Nat} {l l' : List Al} (h : ListAsk es cl l) (h' : ListAsk es cl l') : l = l' := by
  obtain ⟨a1, a2, m, rfl, a3, a4, a5, a6⟩ := h
  obtain ⟨b1, b2, m', e, b3, b4, b5, b6⟩ := h'
  obtain rfl := ME_inj e
  refine (sorted_one b1 b2 (a3.symm.trans b3) ?_)
  rw [List.pairwise_iff_getElem] at *
  intro i j hi hj hij
  rw [ordA_num (a1 _ (List.getElem_mem hj)) (a1 _ (List.getElem_mem hi))]
  have := a2 i j hi hj hij
  omega
theorem F23m_eq {es : List (Go.Xec.AVal × Go.Xec.AVal × Nat)} {cl : Nat} {l : List Al} (h : ListAsk es cl l) : F23m es cl = some (if l = [] then none else some (3, l.map AK)) := by
  have he : ∃ l, ListAsk es cl l := ⟨l, h⟩
  unfold F23m
  rw [dif_pos he, ask_one he.choose_spec h]
theorem sound23 : Go.Xec.SoundM Try.prog 23 F23m := by
  intro es cl r hF x b arr hL hb hEL
  by_cases hx : ∃ l, ListAsk es cl l
  · obtain ⟨l, hl⟩ := hx
    rw [F23m_eq hl] at hF
    obtain rfl := Option.some.inj hF
    obtain ⟨a1, a2, m, rfl, a3, a4, a5, a6⟩ := hl
    have harr : arr = (m.map ME).toArray := by
      apply Array.toList_inj.1
      rw [EL_ent hEL]
    subst harr
    refine .inl ⟨enters_of Try.func23 (by kernel_rfl) rfl _ _, (list_calls m cl b x.w a4 a5 a6 hb).mono ?_⟩
    rintro e w' ⟨v, rfl, hbw, ds, hp, hs, hv⟩
    obtain rfl := sorted_one a1 a2 (hp.trans a3) hs
    refine ⟨v, rfl, hbw.size, fun b hb => hbw.block b hb, ⟨hbw.os, hbw.tape, hbw.output⟩, ?_⟩
    rcases hv with ⟨rfl, rfl⟩ | ⟨hne, g, cap, cur, rfl, hg, hc, h1, h3, hH⟩
    · rw [if_pos rfl]
    · rw [if_neg hne]
      have hgl := (Array.getElem?_eq_some_iff.1 hc).1
      refine ⟨g, 0, ⟨g, 0, none⟩, cap, cur, 51, by rw [List.length_map], .inr rfl, rfl, hg, hgl, hc, by rw [List.length_map]; exact h1, by omega, fun _ y hy => ?_⟩
      refine VR_al fun j hj => ?_
      rw [hy]
      have h0 := (hH.cell (i := j) (c := 0) (by simpa using hj) (by omega)).1
      have h1 := (hH.cell (i := j) (c := 1) (by simpa using hj) (by omega)).1
      have h2 := (hH.cell (i := j) (c := 2) (by simpa using hj) (by omega)).1
      rw [getElem!_pos ds.toArray j (by simpa using hj), List.getElem_toArray] at h0 h1 h2
      exact ⟨h0, h1, h2⟩
  · unfold F23m at hF
    rw [dif_neg hx] at hF
    cases hF
end Go.Proofs.Ytkihpjehigmnpaa
