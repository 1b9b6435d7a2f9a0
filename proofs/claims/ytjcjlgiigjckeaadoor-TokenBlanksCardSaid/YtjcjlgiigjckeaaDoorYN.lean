/-
  What is printed is scanned: the plain law.
-/
import Derived.Test.YtjcjlgiigjckeaaDoorYL
set_option linter.unusedVariables false
set_option linter.unusedSimpArgs false
namespace Go.Proofs.YtjcjlgiigjckeaaDoor
open Go Go.Xec

set_option maxRecDepth 10000
/-- Nothing of a token goes on here. -/
def Stop (r : List UInt8) : Prop := ∀ b ∈ r.head?, ¬ letB b ∧ ¬ digB b
theorem tw_app {p : UInt8 → Bool} {w r : List UInt8} (hw : ∀ b ∈ w, p b = true) (hr : ∀ b ∈ r.head?, p b = false) : (w ++ r).takeWhile p = w := by
  rw [List.takeWhile_append_of_pos hw]
  cases r with
  | nil => simp
  | cons c r => rw [List.takeWhile_cons, if_neg (by rw [hr c (by simp)]; simp), List.append_nil]
theorem stop_let {r : List UInt8} (h : Stop r) : ∀ b ∈ r.head?, ltB b = false := fun b hb => decide_eq_false (h b hb).1
theorem stop_dig {r : List UInt8} (h : Stop r) : ∀ b ∈ r.head?, dgB b = false := fun b hb => decide_eq_false (h b hb).2
theorem one_word {w r : List UInt8} (hw : wordOk w) (hr : Stop r) : oneR (w ++ r) = .ok (⟨1, w, 0, 0⟩, w.length) ∧ blk (w ++ r) = 0 := by
  obtain ⟨h1, h2, h3⟩ := hw
  have ht := tw_app (p := ltB) (fun b hb => decide_eq_true (h1 b hb)) (stop_let hr)
  cases w with
  | nil => simp at h2
  | cons b w =>
    have hb := h1 b (by simp)
    simp only [letB, lett] at hb
    constructor
    · rw [List.cons_append] at ht ⊢
      rw [oneR, if_neg (by simp only [signB]; omega), if_neg (by simp only [digB, digi]; omega), ht, if_neg (by simp), if_neg (by omega)]
    · rw [List.cons_append, blk, if_neg (by simp only [spB]; omega), if_neg (by omega)]
theorem one_num {n : Int} {r : List UInt8} (hn : numOk n) (hr : Stop r) : oneR (its n ++ r) = .ok (⟨2, [], n, 0⟩, (its n).length) ∧ blk (its n ++ r) = 0 ∧ 1 ≤ (its n).length := by
  simp only [numOk] at hn
  have key : ∀ m : Nat, ((dd m) ++ r).takeWhile dgB = dd m := fun m => tw_app (fun b hb => decide_eq_true (dd_digs m b hb)) (stop_dig hr)
  by_cases h0 : n < 0
  · have e : its n = 45 :: dd n.natAbs := by unfold its Lib.itoa; rw [if_pos h0]
    have hbad : ¬ numBad true (dd n.natAbs) := by
      rintro (⟨h1, _⟩ | h1)
      · have := dd_head _ h1; omega
      · rw [dd_vl] at h1; omega
    rw [e]
    refine ⟨?_, rfl, by simp⟩
    rw [List.cons_append, oneR, if_neg (by simp [signB]), if_pos (.inl rfl), numR, if_pos (by rfl), key, numN, if_neg (dd_ne _), if_neg hbad, dd_vl]
    simp only [if_true, Except.ok.injEq, Prod.mk.injEq, Tok.mk.injEq, List.length_cons, true_and, and_true]
    omega
  · have e : its n = dd n.toNat := by unfold its Lib.itoa; rw [if_neg h0]
    have hbad : ¬ numBad false (dd n.toNat) := by
      rintro (⟨h1, h2 | h2⟩ | h1)
      · have := dd_head _ h1
        rw [this, dd_small (by decide)] at h2
        simp at h2
      · cases h2
      · rw [dd_vl] at h1; omega
    rw [e]
    have hk := key n.toNat
    have hdg := dd_digs n.toNat
    have hvl := dd_vl n.toNat
    have hne := dd_ne n.toNat
    generalize dd n.toNat = w at *
    cases w with
    | nil => exact absurd rfl hne
    | cons b w =>
      have hb := hdg b (by simp)
      simp only [digB, digi] at hb
      refine ⟨?_, ?_, by simp⟩
      · rw [List.cons_append] at hk ⊢
        rw [oneR, if_neg (by simp only [signB]; omega), if_pos (.inr (by simp only [digB, digi]; omega)), numR, if_neg (by omega), hk, numN, if_neg hne, if_neg hbad, hvl]
        simp only [Bool.false_eq_true, if_false, Except.ok.injEq, Prod.mk.injEq, Tok.mk.injEq, true_and, and_true]
        omega
      · rw [List.cons_append, blk, if_neg (by simp only [spB]; omega), if_neg (by omega)]
theorem one_txt {t : Tok} {r : List UInt8} (h : tokOk t) (hr : Stop r) : oneR (txt t ++ r) = .ok (at0 t, (txt t).length) ∧ blk (txt t ++ r) = 0 ∧ 1 ≤ (txt t).length := by
  obtain ⟨k, s, n, p⟩ := t
  simp only [tokOk] at h
  rcases h with ⟨rfl, hw, rfl⟩ | ⟨rfl, rfl, hn⟩ | ⟨hk, rfl, rfl⟩
  · obtain ⟨h1, h2⟩ := one_word hw hr
    exact ⟨h1, h2, hw.2.1⟩
  · obtain ⟨h1, h2, h3⟩ := one_num hn hr
    exact ⟨h1, h2, h3⟩
  · rcases hk with rfl | rfl | rfl
    · exact ⟨rfl, rfl, Nat.le_refl 1⟩
    · exact ⟨rfl, rfl, Nat.le_refl 1⟩
    · exact ⟨rfl, rfl, Nat.le_refl 1⟩
/-- Blanks. -/
def Bk (b : List UInt8) : Prop := (∀ r i, scan (b ++ r) i = scan r (i + b.length)) ∧ ∀ c ∈ b.head?, ¬ letB c ∧ ¬ digB c
def good : List (Tok × List UInt8) → Prop
  | [] => True
  | (t, b) :: ps => tokOk t ∧ Bk b ∧ (b = [] → ps = []) ∧ good ps
def lay : List (Tok × List UInt8) → List UInt8
  | [] => []
  | (t, b) :: ps => txt t ++ (b ++ lay ps)
def places : List (Tok × List UInt8) → Nat → List Tok
  | [], _ => []
  | (t, b) :: ps, i => { t with at' := i } :: places ps (i + (txt t).length + b.length)
theorem scan_lay : ∀ (ps : List (Tok × List UInt8)) (i : Nat), good ps → scan (lay ps) i = .ok (places ps i)
  | [], i, _ => scan_nil i
  | (t, b) :: ps, i, ⟨h1, h2, h3, h4⟩ => by
    have hst : Stop (b ++ lay ps) := by
      cases b with
      | nil => rw [h3 rfl]; intro c hc; simp [lay] at hc
      | cons c b => intro d hd; exact h2.2 d (by simpa using hd)
    obtain ⟨e1, e2, e3⟩ := one_txt h1 hst
    have hne : txt t ++ (b ++ lay ps) ≠ [] := fun h => by have := congrArg List.length h; simp only [List.length_append, List.length_nil] at this; omega
    rw [lay, scan_one hne e2 e1 (by omega), List.drop_left, h2.1, scan_lay ps _ h4]
    rfl
theorem places_at0 : ∀ (ps : List (Tok × List UInt8)) (i : Nat), (places ps i).map at0 = (ps.map (·.1)).map at0
  | [], i => rfl
  | (t, b) :: ps, i => by simp only [places, List.map_cons, places_at0 ps]; rfl
theorem places_len (ps : List (Tok × List UInt8)) : ∀ i, (places ps i).length = ps.length := by
  induction ps with
  | nil => intro i; rfl
  | cons x ps ih => intro i; obtain ⟨t, b⟩ := x; simp [places, ih]
theorem txt_pos {t : Tok} (h : tokOk t) : 1 ≤ (txt t).length := (one_txt h (r := []) (fun b hb => by simp at hb)).2.2
theorem places_in : ∀ (ps : List (Tok × List UInt8)) (i : Nat), good ps → ∀ t ∈ places ps i, (i : Int) ≤ t.at' ∧ t.at' < (i + (lay ps).length : Nat)
  | [], i, _, t, ht => by simp [places] at ht
  | (u, b) :: ps, i, ⟨h1, h2, h3, h4⟩, t, ht => by
    have hp := txt_pos h1
    rw [places] at ht
    simp only [lay, List.length_append]
    rcases List.mem_cons.1 ht with rfl | ht
    · simp; omega
    · have := places_in ps _ h4 t ht
      omega
theorem places_rise : ∀ (ps : List (Tok × List UInt8)) (i : Nat), good ps → ∀ j (h : j + 1 < (places ps i).length), (places ps i)[j].at' + 2 ≤ (places ps i)[j + 1].at'
  | [], i, _, j, h => by simp [places] at h
  | (u, b) :: ps, i, ⟨h1, h2, h3, h4⟩, 0, h => by
    have hp := txt_pos h1
    simp only [places, List.getElem_cons_zero, List.getElem_cons_succ]
    have hps : ps ≠ [] := fun e => by rw [e] at h; simp [places] at h
    have hb : 1 ≤ b.length := by
      rcases Nat.lt_or_ge 0 b.length with h' | h'
      · exact h'
      · exact absurd (h3 (List.length_eq_zero_iff.1 (by omega))) hps
    have hl0 : 0 < (places ps (i + (txt u).length + b.length)).length := by simpa [places] using h
    have := places_in ps (i + (txt u).length + b.length) h4 ((places ps (i + (txt u).length + b.length))[0]'hl0) (List.getElem_mem _)
    omega
  | (u, b) :: ps, i, ⟨h1, h2, h3, h4⟩, j + 1, h => by
    simp only [places, List.getElem_cons_succ]
    exact places_rise ps _ h4 j (by simpa [places] using h)
/-- A text of tokens, as pairs. -/
def prs : List Tok → List (Tok × List UInt8)
  | [] => []
  | [t] => [(t, [])]
  | t :: u :: l => (t, [32]) :: prs (u :: l)
theorem prs_fst : ∀ l : List Tok, (prs l).map (·.1) = l
  | [] => rfl
  | [t] => rfl
  | t :: u :: l => by rw [prs, List.map_cons, prs_fst]
theorem prs_lay : ∀ l : List Tok, lay (prs l) = prt l
  | [] => rfl
  | [t] => by simp [prs, lay, prt, Lib.join_one]
  | t :: u :: l => by
    rw [prs, lay, prs_lay (u :: l)]
    simp [prt, Lib.join, List.intercalate]
theorem bk_one {c : UInt8} (h : spB c) : Bk [c] := by
  refine ⟨fun r i => ?_, fun d hd => ?_⟩
  · have hb : blk ([c] ++ r) = 1 := by rw [List.singleton_append, blk, if_pos h]
    rw [scan_blk (by omega), hb]
    rfl
  · simp at hd
    subst hd
    simp only [spB] at h
    simp only [letB, lett, digB, digi]
    omega
theorem bk_nil : Bk [] := ⟨fun r i => rfl, fun d hd => by simp at hd⟩
theorem prs_good : ∀ l : List Tok, allOk l → good (prs l)
  | [], _ => trivial
  | [t], h => ⟨h t (by simp), bk_nil, fun _ => rfl, trivial⟩
  | t :: u :: l, h => ⟨h t (by simp), bk_one (by decide), fun e => by simp at e, prs_good (u :: l) fun x hx => h x (by simp [hx])⟩
/-- What is printed is scanned as it was, but for places, which rise. -/
theorem back_scan {l : List Tok} (h : allOk l) (h4 : (prt l).length ≤ 4000) : ∃ m, text (prt l) = .ok m ∧ m.map at0 = l.map at0 ∧ (∀ t ∈ m, 0 ≤ t.at' ∧ t.at' < (prt l).length) ∧ ∀ j (h : j + 1 < m.length), m[j].at' + 2 ≤ m[j + 1].at' := by
  have hg := prs_good l h
  refine ⟨places (prs l) 0, ?_, ?_, ?_, ?_⟩
  · unfold text
    rw [if_pos h4, ← prs_lay, scan_lay _ _ hg]
  · rw [places_at0, prs_fst]
  · intro t ht
    have := places_in _ _ hg t ht
    rw [prs_lay] at this
    omega
  · exact places_rise _ _ hg
theorem at0_ok {l m : List Tok} (h : m.map at0 = l.map at0) : (allOk m ↔ allOk l) ∧ prt m = prt l := by
  have hl : ∀ l : List Tok, (allOk l ↔ allOk (l.map at0)) ∧ prt l = prt (l.map at0) := by
    intro l
    constructor
    · constructor
      · intro ho t ht
        obtain ⟨u, hu, rfl⟩ := List.mem_map.1 ht
        exact ho u hu
      · intro ho t ht
        exact ho (at0 t) (List.mem_map_of_mem ht)
    · unfold prt
      rw [List.map_map]
      rfl
  rw [(hl m).1, (hl l).1, (hl m).2, (hl l).2, h]
  exact ⟨Iff.rfl, rfl⟩
end Go.Proofs.YtjcjlgiigjckeaaDoor
