/-
  A journal and its text: each is the other's.
-/
import Derived.Test.YtaoodcnhmjokoaaGreatDoorYI
set_option linter.unusedVariables false
set_option linter.unusedSimpArgs false
namespace Go.Proofs.YtaoodcnhmjokoaaGreatDoor
open Go Go.Xec

theorem seal_no10 {l : List UInt8} (h : L.lineOk l) : (10 : UInt8) ∉ L.sealV l := by
  intro hm
  unfold L.sealV at hm
  rcases List.mem_append.1 hm with h1 | h1
  · exact h.1 10 h1 rfl
  · rcases List.mem_cons.1 h1 with h1 | h1
    · exact absurd h1 (by decide)
    · have := L.lowd_hexB _ _ 10 h1
      simp [L.hexB] at this
theorem rdS_head {cap first : Int} {j : JS} (hc : numOk cap) (hf : numOk first) : rdS true j (L.sealV (headT cap first)) = .ok (cap, first, j.2.2) := by
  have hc' : -1000000000 ≤ cap ∧ cap ≤ 1000000000 := hc
  have hf' : -1000000000 ≤ first ∧ first ≤ 1000000000 := hf
  have hl := head_ok (cap := cap) (first := first) (by
    intro n hn
    simp only [List.mem_cons, List.not_mem_nil, or_false] at hn
    rcases hn with rfl | rfl <;> omega)
  obtain ⟨h1, h2⟩ := op_seal hl
  have h3 : Lib.hasPrefix (headT cap first) [108, 111, 103, 32] = true := by
    unfold Lib.hasPrefix headT
    rw [List.isPrefixOf_iff_prefix]
    exact List.prefix_append _ _
  have h4 : Lib.trimPrefix (headT cap first) [108, 111, 103, 32] = rowT [cap, first] := by
    unfold Lib.trimPrefix
    rw [if_pos h3]
    rfl
  unfold rdS
  rw [h1, h2, if_neg (by simp), if_pos rfl, if_pos h3, h4, cnt_row (by simp) (by simp) (by
    intro n hn
    simp only [List.mem_cons, List.not_mem_nil, or_false] at hn
    rcases hn with rfl | rfl <;> assumption)]
theorem rdS_ent {c f : Int} {es : List En} {e : En} (hf0 : 0 ≤ f) (hf1 : f + es.length ≤ 1000000000) (he : enOk e) : rdS false (c, f, es) (L.sealV (entT (f + es.length) e)) = .ok (c, f, es ++ [e]) := by
  obtain ⟨h1, h2⟩ := op_seal (ent_ok (i64Ok_ent (by omega) hf1 he))
  unfold rdS
  rw [h1, h2, if_neg (by simp), if_neg (by simp)]
  have h3 : cntN (entT (f + es.length) e) = some [f + es.length, e.k, e.c, e.s, e.v] := cnt_row (by simp) (by simp) (by
    intro n hn
    simp only [List.mem_cons, List.not_mem_nil, or_false] at hn
    show -1000000000 ≤ n ∧ n ≤ 1000000000
    rcases hn with rfl | rfl | rfl | rfl | rfl <;> omega)
  rw [h3]
  simp only [if_true]
/-- A journal's lines. -/
def entL (f : Int) : List En → List (List UInt8)
  | [] => []
  | e :: r => L.sealV (entT f e) :: entL (f + 1) r
theorem entL_text : ∀ (l : List En) (f : Int), linesT (entL f l) = rowsT f l
  | [], _ => rfl
  | e :: l, f => by rw [entL, linesT_cons, rowsT, entL_text l]; rfl
theorem rdL_ents : ∀ (l : List En) (c f : Int) (es : List En), 0 ≤ f → f + es.length + l.length ≤ 1000000000 → (∀ e ∈ l, enOk e) → rdL false (c, f, es) (entL (f + es.length) l) = .ok (c, f, es ++ l)
  | [], c, f, es, _, _, _ => by simp [entL, rdL]
  | e :: l, c, f, es, h0, h1, h => by
    simp only [List.length_cons] at h1
    have h2 := rdL_ents l c f (es ++ [e]) h0 (by simp; omega) (fun x hx => h x (by simp [hx]))
    rw [entL, rdL, rdS_ent h0 (by omega) (h e (by simp))]
    simp only
    rw [show f + (es.length : Int) + 1 = f + ((es ++ [e]).length : Int) by simp; omega, h2]
    simp
theorem rdL_enough {c f : Int} {l : List En} (hj : jOk c f l) : rdL true (0, 0, []) (L.sealV (headT c f) :: entL f l) = .ok (c, f, l) := by
  obtain ⟨h1, h2, h3, h4, h5, h6, h7⟩ := hj
  rw [rdL, rdS_head (show -1000000000 ≤ c ∧ c ≤ 1000000000 by omega) (show -1000000000 ≤ f ∧ f ≤ 1000000000 by omega)]
  simp only
  have := rdL_ents l c f [] h4 (by simp; omega) h7
  simpa using this
theorem entL_no10 : ∀ (l : List En) (f : Int), 0 ≤ f → f + l.length ≤ 1000000000 → (∀ e ∈ l, enOk e) → ∀ p ∈ entL f l, (10 : UInt8) ∉ p
  | [], _, _, _, _, p, hp => by simp [entL] at hp
  | e :: l, f, h0, h1, h, p, hp => by
    simp only [List.length_cons] at h1
    rw [entL] at hp
    rcases List.mem_cons.1 hp with rfl | hp
    · exact seal_no10 (ent_ok (i64Ok_ent h0 (by omega) (h e (by simp))))
    · exact entL_no10 l (f + 1) (by omega) (by omega) (fun x hx => h x (by simp [hx])) p hp
theorem expT_lines (c f : Int) (l : List En) : expT c f l = linesT (L.sealV (headT c f) :: entL f l) := by
  rw [linesT_cons, entL_text]
  rfl
theorem trimS_take {s : List UInt8} (h : Lib.hasSuffix s [10] = true) : Lib.trimSuffix s [10] = s.take (s.length - 1) := by
  unfold Lib.trimSuffix
  rw [if_pos h]
  rfl
/-- What is written is read as it was. -/
theorem exp_imp {c f : Int} {l : List En} (hj : jOk c f l) : impS (expT c f l) = .ok (c, f, l) := by
  have hj' := hj
  obtain ⟨h1, h2, h3, h4, h5, h6, h7⟩ := hj'
  have hne : L.sealV (headT c f) :: entL f l ≠ [] := by simp
  have hsuf := linesT_suf hne
  have hno : ∀ p ∈ L.sealV (headT c f) :: entL f l, (10 : UInt8) ∉ p := by
    intro p hp
    rcases List.mem_cons.1 hp with rfl | hp
    · exact seal_no10 (head_ok (by
        intro n hn
        simp only [List.mem_cons, List.not_mem_nil, or_false] at hn
        rcases hn with rfl | rfl <;> omega))
    · exact entL_no10 l f h4 h5 h7 p hp
  unfold impS
  rw [expT_lines, if_pos hsuf, trimS_take hsuf, linesT_parts hne hno, rdL_enough hj]
  simp only
  rw [if_pos hj]
theorem rdS_back1 {c f : Int} {j : JS} {es : List En} {l : List UInt8} (h : rdS true j l = .ok (c, f, es)) : l = L.sealV (headT c f) ∧ es = j.2.2 := by
  unfold rdS at h
  split at h
  · cases h
  · rename_i h0
    rw [if_pos rfl] at h
    split at h
    · rename_i hp
      split at h
      · rename_i hc
        cases h
        refine ⟨?_, rfl⟩
        rcases op_or l with ⟨_, _, h3⟩ | ⟨h3, _⟩
        · rw [← h3]
          congr 1
          unfold headT
          rw [row_cnt hc]
          unfold Lib.hasPrefix at hp
          rw [List.isPrefixOf_iff_prefix] at hp
          obtain ⟨t, ht⟩ := hp
          unfold Lib.trimPrefix Lib.hasPrefix
          rw [if_pos (by rw [List.isPrefixOf_iff_prefix]; exact ⟨t, ht⟩), ← ht]
          rfl
        · exact absurd h3 (by simpa using h0)
      · cases h
    · cases h
theorem rdS_back2 {c f c' f' : Int} {es es' : List En} {l : List UInt8} (h : rdS false (c, f, es) l = .ok (c', f', es')) : c' = c ∧ f' = f ∧ ∃ e, es' = es ++ [e] ∧ l = L.sealV (entT (f + es.length) e) := by
  unfold rdS at h
  split at h
  · cases h
  · rename_i h0
    rw [if_neg (by simp)] at h
    split at h
    · rename_i n k q s v hc
      split at h
      · rename_i hn
        cases h
        refine ⟨rfl, rfl, _, rfl, ?_⟩
        rcases op_or l with ⟨_, _, h3⟩ | ⟨h3, _⟩
        · rw [← h3]
          congr 1
          unfold entT
          simp only at hn
          rw [← hn]
          exact (row_cnt hc).symm
        · exact absurd h3 (by simpa using h0)
      · cases h
    · cases h
theorem rdL_back : ∀ (ls : List (List UInt8)) (c f c' f' : Int) (es es' : List En), rdL false (c, f, es) ls = .ok (c', f', es') → c' = c ∧ f' = f ∧ ∃ m, es' = es ++ m ∧ linesT ls = rowsT (f + es.length) m
  | [], c, f, c', f', es, es', h => by
    cases h
    exact ⟨rfl, rfl, [], by simp, rfl⟩
  | l :: ls, c, f, c', f', es, es', h => by
    rw [rdL] at h
    cases hs : rdS false (c, f, es) l with
    | error e => rw [hs] at h; cases h
    | ok j =>
      obtain ⟨c1, f1, es1⟩ := j
      rw [hs] at h
      obtain ⟨rfl, rfl, e, rfl, rfl⟩ := rdS_back2 hs
      obtain ⟨rfl, rfl, m, rfl, hm⟩ := rdL_back ls _ _ _ _ _ _ h
      refine ⟨rfl, rfl, e :: m, by simp, ?_⟩
      rw [linesT_cons, hm, rowsT]
      simp only [List.length_append, List.length_cons, List.length_nil]
      rw [show f' + ((es.length + 1 : Nat) : Int) = f' + es.length + 1 by omega]
      rfl
/-- What is read is written as it was. -/
theorem imp_exp {s : List UInt8} {c f : Int} {l : List En} (h : impS s = .ok (c, f, l)) : jOk c f l ∧ expT c f l = s := by
  unfold impS at h
  split at h
  · rename_i hsuf
    split at h
    · rename_i c1 f1 es1 hr
      split at h
      · rename_i hj
        cases h
        refine ⟨hj, ?_⟩
        have hpl := parts_lines _ (Lib.trimSuffix s [10]) (Nat.le_refl _)
        have hs2 : Lib.trimSuffix s [10] ++ [10] = s := by
          have h2 := hsuf
          unfold Lib.hasSuffix at h2
          rw [List.isSuffixOf_iff_suffix] at h2
          obtain ⟨t, ht⟩ := h2
          rw [trimS_take hsuf, ← ht]
          simp
        rw [hs2] at hpl
        cases hq : parts 10 (Lib.trimSuffix s [10]) with
        | nil => exact absurd hq (parts_ne _ _)
        | cons q qs =>
          rw [hq] at hr hpl
          rw [rdL] at hr
          cases hs : rdS true (0, 0, []) q with
          | error e => rw [hs] at hr; cases hr
          | ok j =>
            obtain ⟨c2, f2, es2⟩ := j
            rw [hs] at hr
            obtain ⟨rfl, he⟩ := rdS_back1 hs
            simp only at he
            subst he
            obtain ⟨rfl, rfl, m, rfl, hm⟩ := rdL_back qs _ _ _ _ _ _ hr
            rw [linesT_cons, hm] at hpl
            rw [← hpl]
            simp [expT, lineT]
      · cases h
    · cases h
  · cases h
end Go.Proofs.YtaoodcnhmjokoaaGreatDoor
