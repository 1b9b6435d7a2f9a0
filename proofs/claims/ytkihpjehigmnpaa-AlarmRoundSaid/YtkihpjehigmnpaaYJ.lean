/-
  A map of alarms: what it answers, and what it is behind a store.
-/
import Derived.Test.YtkihpjehigmnpaaYD
import Derived.Test.YtkihpjehigmnpaaYI
set_option linter.unusedVariables false
set_option linter.unusedSimpArgs false
namespace Go.Proofs.Ytkihpjehigmnpaa
open Go Go.Xec

set_option maxRecDepth 10000
theorem ents_zip : ∀ (l : List Al) (n : Nat), entsN n l = entM (l.zipIdx n)
  | [], _ => rfl
  | a :: l, n => by
    rw [entsN, ents_zip l (n + 1), List.zipIdx_cons]
    rfl
theorem ents_set : ∀ (l : List Al) (n j : Nat) (a : Al), (entsN n l).set j (KV a.c a.k, .int .i64 a.s, n + j) = entsN n (l.set j a)
  | [], _, _, _ => rfl
  | b :: l, n, 0, a => by rw [List.set_cons_zero, entsN, entsN, List.set_cons_zero, Nat.add_zero]
  | b :: l, n, j + 1, a => by
    rw [List.set_cons_succ, entsN, entsN, List.set_cons_succ, ← ents_set l (n + 1) j a, show n + 1 + j = n + (j + 1) by omega]
theorem findE_spec {c k : Int} : ∀ {l : List Al}, (∀ a ∈ l, a.s ≠ 0) → ∀ i n : Nat, (stL l c k = 0 ∧ findE l c k i n = none) ∨ (stL l c k ≠ 0 ∧ ∃ j, ∃ h : j < l.length, l[j].c = c ∧ l[j].k = k ∧ l[j].s = stL l c k ∧ findE l c k i n = some (i + j, .int .i64 (stL l c k), n + j) ∧
    ∀ s, findE (l.set j ⟨c, k, s⟩) c k i n = some (i + j, .int .i64 s, n + j))
  | [], _, _, _ => .inl ⟨rfl, rfl⟩
  | a :: l, hs, i, n => by
    rw [stL, findE]
    by_cases h : a.c = c ∧ a.k = k
    · rw [if_pos h, if_pos ⟨h.1.symm, h.2.symm⟩]
      refine .inr ⟨hs a (by simp), 0, by simp, h.1, h.2, rfl, rfl, fun s => ?_⟩
      rw [List.set_cons_zero, findE, if_pos ⟨rfl, rfl⟩]
      rfl
    · have h' : ¬ (c = a.c ∧ k = a.k) := fun e => h ⟨e.1.symm, e.2.symm⟩
      rw [if_neg h, if_neg h']
      rcases findE_spec (l := l) (c := c) (k := k) (fun b hb => hs b (by simp [hb])) (i + 1) (n + 1) with h1 | ⟨h1, j, hj, h2, h3, h4, h5, h6⟩
      · exact .inl h1
      · refine .inr ⟨h1, j + 1, by simp; omega, h2, h3, h4, by rw [h5, show i + 1 + j = i + (j + 1) by omega, show n + 1 + j = n + (j + 1) by omega], fun s => ?_⟩
        rw [List.set_cons_succ, findE, if_neg h', h6 s, show i + 1 + j = i + (j + 1) by omega, show n + 1 + j = n + (j + 1) by omega]
theorem zip_good (l : List Al) : (l.zipIdx.map (·.1)) = l ∧ (l.zipIdx.map (·.2)) = List.range' 0 l.length := ⟨List.zipIdx_map_fst _ _, List.zipIdx_map_snd _ _⟩
theorem nodup_range' (n : Nat) : (List.range' 0 n).Nodup := List.nodup_range'
theorem lt_zip {l : List Al} {p : Al × Nat} (h : p ∈ l.zipIdx) : p.2 < l.length := by
  have : p.2 ∈ l.zipIdx.map (·.2) := List.mem_map.2 ⟨p, h, rfl⟩
  rw [(zip_good l).2, List.mem_range'_1] at this
  omega
theorem alOk_len {l : List Al} (h : alOk l) : l.length ≤ 64 := by
  rw [← full_st h]
  exact pre_len _ 64
theorem ask_ents {l : List Al} (hk : ∀ a ∈ l, kOk a.c a.k) (hp : l.Pairwise fun x y => num x < num y) (hl : l.length ≤ 1000) : ListAsk (entsN 0 l) l.length l := by
  refine ⟨hk, hp, l.zipIdx, ents_zip l 0, by rw [(zip_good l).1], by rw [(zip_good l).2]; exact nodup_range' _, fun p hp => lt_zip hp, by simp; omega⟩
/-- One more. -/
theorem ask_add {l : List Al} (h : alOk l) {c k s : Int} (hk : kOk c k) (hs : 1 ≤ s ∧ s ≤ 2) (h0 : stL l c k = 0) : ListAsk (entsN 0 l ++ [(KV c k, .int .i64 s, l.length)]) (l.length + 1) (fullL (up (stL l) c k s)) := by
  have hok := upd_ok h (c := c) (k := k) (s := s) ⟨by omega, hs.2⟩
  have hll := alOk_len h
  refine ⟨fun a ha => (hok.1 a ha).1, hok.2, l.zipIdx ++ [(⟨c, k, s⟩, l.length)], ?_, ?_, ?_, ?_, ?_⟩
  · rw [ents_zip, entM, entM, List.map_append]
    rfl
  · rw [List.map_append, (zip_good l).1]
    refine (List.perm_ext_iff_of_nodup ?_ (pw_nodup hok.2)).2 fun a => ?_
    · rw [List.nodup_append]
      refine ⟨pw_nodup h.2, by simp, fun a ha b hb e => ?_⟩
      subst e
      obtain rfl := List.mem_singleton.1 hb
      have := stL_mem h.2 ha
      simp only at this
      omega
    · rw [mem_full, List.mem_append, mem_st h, List.mem_map]
      unfold up
      constructor
      · rintro (h1 | ⟨p, hp, rfl⟩)
        · have hka := (h.1 a ((mem_st h).2 h1)).1
          refine ⟨hka, ?_, h1.2⟩
          rw [if_neg (fun e => by rw [e.1, e.2] at h1; omega)]
          exact h1.1
        · obtain rfl := List.mem_singleton.1 hp
          exact ⟨hk, by rw [if_pos ⟨rfl, rfl⟩], by show s ≠ 0; omega⟩
      · rintro ⟨h1, h2, h3⟩
        by_cases e : a.c = c ∧ a.k = k
        · rw [if_pos e] at h2
          right
          refine ⟨(⟨c, k, s⟩, l.length), List.mem_singleton.2 rfl, ?_⟩
          obtain ⟨x, y, z⟩ := a
          simp only at e h2
          rw [e.1, e.2, h2]
        · rw [if_neg e] at h2
          exact .inl ⟨h2, h3⟩
  · rw [List.map_append, (zip_good l).2, List.nodup_append]
    refine ⟨nodup_range' _, by simp, fun a ha b hb e => ?_⟩
    rw [List.mem_range'_1] at ha
    simp only [List.map_cons, List.map_nil, List.mem_singleton] at hb
    omega
  · intro p hp
    rcases List.mem_append.1 hp with hp | hp
    · have := lt_zip hp; omega
    · obtain rfl := List.mem_singleton.1 hp
      show l.length < l.length + 1
      omega
  · simp; omega
theorem set_pw {l : List Al} (h : l.Pairwise fun x y => num x < num y) {j : Nat} (hj : j < l.length) {a : Al} (ha : num a = num l[j]) : (l.set j a).Pairwise fun x y => num x < num y := by
  rw [List.pairwise_iff_getElem] at *
  intro p q hp hq hpq
  have := h p q (by simpa using hp) (by simpa using hq) hpq
  rw [List.getElem_set, List.getElem_set]
  split <;> split
  · omega
  · rename_i h1 h2; subst h1; rw [ha]; exact this
  · rename_i h1 h2; subst h2; rw [ha]; exact this
  · exact this
/-- One set anew. -/
theorem set_full {l : List Al} (h : alOk l) {c k s : Int} (hs : 1 ≤ s ∧ s ≤ 2) {j : Nat} (hj : j < l.length) (h1 : l[j].c = c) (h2 : l[j].k = k) : l.set j ⟨c, k, s⟩ = fullL (up (stL l) c k s) := by
  have hn : num (⟨c, k, s⟩ : Al) = num l[j] := by simp only [num, h1, h2]
  have hjk := (h.1 _ (List.getElem_mem hj)).1
  refine pw_ext (set_pw h.2 hj hn) (pre_pw _ 64) fun a => ?_
  rw [mem_full]
  unfold up
  constructor
  · intro ha
    obtain ⟨i, hi, rfl⟩ := List.mem_iff_getElem.1 ha
    rw [List.length_set] at hi
    rw [List.getElem_set]
    by_cases e : j = i
    · rw [if_pos e]
      refine ⟨by rw [h1, h2] at hjk; exact hjk, by rw [if_pos ⟨rfl, rfl⟩], by show s ≠ 0; omega⟩
    · rw [if_neg e]
      have hm := List.getElem_mem hi
      have h3 := h.1 _ hm
      have h4 := (mem_st h).1 hm
      refine ⟨h3.1, ?_, h4.2⟩
      rw [if_neg (fun e' => ?_)]
      · exact h4.1
      · have h5 := List.pairwise_iff_getElem.1 h.2
        have h6 : num l[i] = num l[j] := by simp only [num, e'.1, e'.2, h1, h2]
        rcases Nat.lt_or_ge i j with h7 | h7
        · have := h5 i j hi hj h7; omega
        · have := h5 j i hj hi (by omega); omega
  · rintro ⟨h3, h4, h5⟩
    by_cases e : a.c = c ∧ a.k = k
    · rw [if_pos e] at h4
      have : a = ⟨c, k, s⟩ := by
        obtain ⟨x, y, z⟩ := a
        simp only at e h4
        rw [e.1, e.2, h4]
      rw [this]
      exact List.mem_iff_getElem.2 ⟨j, by simpa using hj, by simp⟩
    · rw [if_neg e] at h4
      obtain ⟨i, hi, he⟩ := List.mem_iff_getElem.1 ((mem_st h).2 ⟨h4, h5⟩)
      refine List.mem_iff_getElem.2 ⟨i, by simpa using hi, ?_⟩
      rw [List.getElem_set, if_neg (fun e' => e (by subst e'; rw [← he]; exact ⟨h1, h2⟩)), he]
/-- One taken out. -/
theorem erase_full {l : List Al} (h : alOk l) {c k : Int} {j : Nat} (hj : j < l.length) (h1 : l[j].c = c) (h2 : l[j].k = k) : l.eraseIdx j = fullL (up (stL l) c k 0) := by
  refine pw_ext (h.2.sublist (List.eraseIdx_sublist _ _)) (pre_pw _ 64) fun a => ?_
  rw [mem_full, List.mem_eraseIdx_iff_getElem]
  unfold up
  constructor
  · rintro ⟨i, hi, hij, rfl⟩
    have hm := List.getElem_mem hi
    have h3 := h.1 _ hm
    have h4 := (mem_st h).1 hm
    refine ⟨h3.1, ?_, h4.2⟩
    rw [if_neg (fun e' => ?_)]
    · exact h4.1
    · have h5 := List.pairwise_iff_getElem.1 h.2
      have h6 : num l[i] = num l[j] := by simp only [num, e'.1, e'.2, h1, h2]
      rcases Nat.lt_or_ge i j with h7 | h7
      · have := h5 i j hi hj h7; omega
      · have := h5 j i hj hi (by omega); omega
  · rintro ⟨h3, h4, h5⟩
    split at h4
    · omega
    · rename_i e
      obtain ⟨i, hi, he⟩ := List.mem_iff_getElem.1 ((mem_st h).2 ⟨h4, h5⟩)
      exact ⟨i, hi, fun e' => e (by subst e'; rw [← he]; exact ⟨h1, h2⟩), he⟩
theorem ask_set {l : List Al} (h : alOk l) {c k s : Int} (hs : 1 ≤ s ∧ s ≤ 2) {j : Nat} (hj : j < l.length) (h1 : l[j].c = c) (h2 : l[j].k = k) : ListAsk (entsN 0 (l.set j ⟨c, k, s⟩)) l.length (fullL (up (stL l) c k s)) := by
  have hok := upd_ok h (c := c) (k := k) (s := s) ⟨by omega, hs.2⟩
  have hll := alOk_len h
  have := ask_ents (l := l.set j ⟨c, k, s⟩) (fun a ha => (hok.1 a (by rw [← set_full h hs hj h1 h2]; exact ha)).1) (by rw [set_full h hs hj h1 h2]; exact hok.2) (by simp; omega)
  rw [List.length_set, ← set_full h hs hj h1 h2] at *
  exact this
theorem map_erase {α β : Type} (f : α → β) : ∀ (l : List α) (j : Nat), (l.map f).eraseIdx j = (l.eraseIdx j).map f
  | [], _ => rfl
  | _ :: _, 0 => rfl
  | a :: l, j + 1 => by rw [List.map_cons, List.eraseIdx_cons_succ, List.eraseIdx_cons_succ, List.map_cons, map_erase f l j]
theorem ents_erase : ∀ (l : List Al) (n j : Nat), (entsN n l).eraseIdx j = entM ((l.zipIdx n).eraseIdx j) := by
  intro l n j
  rw [ents_zip, entM, entM, map_erase]
theorem zip_erase (l : List Al) (j : Nat) : (l.zipIdx.eraseIdx j).map (·.1) = l.eraseIdx j := by
  rw [← map_erase, (zip_good l).1]
theorem ask_erase {l : List Al} (h : alOk l) {c k s : Int} {j : Nat} (hj : j < l.length) (h1 : l[j].c = c) (h2 : l[j].k = k) : ListAsk ((entsN 0 (l.set j ⟨c, k, s⟩)).eraseIdx j) l.length (fullL (up (stL l) c k 0)) := by
  have hok := upd_ok h (c := c) (k := k) (s := 0) ⟨by omega, by omega⟩
  have hll := alOk_len h
  refine ⟨fun a ha => (hok.1 a ha).1, hok.2, _, ents_erase _ _ _, ?_, ?_, ?_, ?_⟩
  · rw [zip_erase, ← erase_full h hj h1 h2, List.eraseIdx_set_eq]
  · have := (zip_good (l.set j ⟨c, k, s⟩)).2
    refine List.Nodup.sublist (List.Sublist.map _ (List.eraseIdx_sublist _ _)) ?_
    rw [this]
    exact nodup_range' _
  · intro p hp
    have := lt_zip ((List.eraseIdx_sublist _ _).subset hp)
    simpa using this
  · have := (List.eraseIdx_sublist ((l.set j ⟨c, k, s⟩).zipIdx) j).length_le
    simp at this ⊢
    omega
/-- The row that the list answers. -/
abbrev rowA (l : List Al) : AVal := rowN 3 (l.map AK)
theorem rowA_RA (l : List Al) : RA (rowA l) l := by
  cases l with
  | nil => exact Rg.nils
  | cons a l => exact Rg.slc (a :: l)
end Go.Proofs.Ytkihpjehigmnpaa
