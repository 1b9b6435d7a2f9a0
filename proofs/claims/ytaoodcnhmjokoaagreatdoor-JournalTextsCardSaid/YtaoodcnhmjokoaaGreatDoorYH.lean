/-
  Texts that are cut at a byte; what is cut off ahead and behind.
-/
import Derived.Test.YtaoodcnhmjokoaaGreatDoorYG
set_option linter.unusedVariables false
set_option linter.unusedSimpArgs false
namespace Go.Proofs.YtaoodcnhmjokoaaGreatDoor
open Go Go.Xec Go.RowKit

/-- A text, between the places of a byte. -/
def parts (c : UInt8) : List UInt8 → List (List UInt8)
  | [] => [[]]
  | b :: l => if b = c then [] :: parts c l else match parts c l with
    | p :: ps => (b :: p) :: ps
    | [] => [[b]]
theorem parts_ne (c : UInt8) : ∀ l, parts c l ≠ []
  | [] => by simp [parts]
  | b :: l => by
    unfold parts
    split
    · simp
    · split <;> simp
theorem parts_none {c : UInt8} : ∀ {l : List UInt8}, c ∉ l → parts c l = [l]
  | [], _ => rfl
  | b :: l, h => by
    simp only [List.mem_cons, not_or] at h
    rw [parts, if_neg (fun e => h.1 e.symm), parts_none h.2]
theorem parts_at {c : UInt8} : ∀ {u : List UInt8} (l : List UInt8), c ∉ u → parts c (u ++ c :: l) = u :: parts c l
  | [], l, _ => by rw [List.nil_append, parts, if_pos rfl]
  | b :: u, l, h => by
    simp only [List.mem_cons, not_or] at h
    rw [List.cons_append, parts, if_neg (fun e => h.1 e.symm), parts_at l h.2]
theorem indexByte_cut (c : UInt8) : ∀ l : List UInt8, (Lib.indexByte l c = -1 ∧ c ∉ l) ∨ ∃ i : Nat, Lib.indexByte l c = i ∧ i < l.length ∧ c ∉ l.take i ∧ l = l.take i ++ c :: l.drop (i + 1)
  | [] => .inl ⟨rfl, by simp⟩
  | b :: l => by
    simp only [Lib.indexByte]
    by_cases h : b = c
    · subst h
      exact .inr ⟨0, by simp, by simp, by simp, by simp⟩
    · have h1 : (b == c) = false := by simpa using h
      rw [h1]
      simp only [Bool.false_eq_true, if_false]
      rcases indexByte_cut c l with ⟨h2, h3⟩ | ⟨i, h2, h3, h4, h5⟩
      · rw [h2]
        exact .inl ⟨rfl, by simp only [List.mem_cons, not_or]; exact ⟨fun e => h e.symm, h3⟩⟩
      · rw [h2]
        refine .inr ⟨i + 1, ?_, by simp; omega, ?_, ?_⟩
        · have : ((i : Int) == -1) = false := by simp
          rw [this]
          simp
        · simp only [List.take_succ_cons, List.mem_cons, not_or]
          exact ⟨fun e => h e.symm, h4⟩
        · simp only [List.take_succ_cons, List.drop_succ_cons, List.cons_append]
          rw [← h5]
theorem split_parts (c : UInt8) : ∀ (k : Nat) (s : List UInt8), Lib.count s [c] = k → Lib.splitK [c] 0 k s = parts c s
  | k, s, hk => by
    rcases indexByte_cut c s with ⟨h1, h2⟩ | ⟨i, h1, h2, h3, h4⟩
    · have h5 : Lib.index s [c] = -1 := by rw [Lib.index_one, h1]
      rw [Lib.count_miss h5] at hk
      subst hk
      rw [parts_none h2]
      rfl
    · have h5 : Lib.index s [c] = (i : Int) := by rw [Lib.index_one, h1]
      have h6 := Lib.count_hit (sub := [c]) (by simp) h5
      rw [hk] at h6
      obtain ⟨j, rfl⟩ : ∃ j, k = j + 1 := ⟨k - 1, by omega⟩
      have h7 : Lib.count (s.drop (i + 1)) [c] = j := by simp only [List.length_cons, List.length_nil, Nat.zero_add] at h6; omega
      have ih := split_parts c j (s.drop (i + 1)) h7
      have hm : ¬ (Lib.index s [c] == -1) = true := by rw [h5]; simp
      rw [Lib.splitK, if_neg hm, h5, Int.toNat_natCast, Nat.add_zero]
      simp only [List.length_cons, List.length_nil, Nat.zero_add]
      rw [ih]
      conv => rhs; rw [h4]
      rw [parts_at _ h3]
theorem VR_strs {x : Ctx} {b : Nat} : ∀ (ls : List (List UInt8)) (o : Nat), (∀ (j : Nat) l, ls[j]? = some l → x.w.cell? ⟨b, o + j, none⟩ = some (.string (bs l))) → VR x 1 (ls.map sv) b o
  | [], o, _ => by simp only [List.map_nil, VR]
  | l :: ls, o, h => by
    simp only [List.map_cons, VR]
    refine ⟨?_, VR_strs ls (o + 1) fun j m hj => ?_⟩
    · simp only [VE]
      exact ⟨trivial, _, h 0 l rfl, by simp only [V]⟩
    · have := h (j + 1) m (by simpa using hj)
      rwa [show o + 1 + j = o + (j + 1) by omega]
def F_split : List AVal → Option AVal
  | [.str s, .str sep] => match sep.data.toList with
    | [c] => if s.size ≤ 1000000 then some (.slc 1 ((parts c s.data.toList).map sv)) else none
    | _ => none
  | _ => none
theorem F_split_eq {c : UInt8} {l : List UInt8} (h : l.length ≤ 1000000) : F_split [sv l, sv [c]] = some (.slc 1 ((parts c l).map sv)) := by
  have h' : (bs l).size ≤ 1000000 := by rw [bs_size]; exact h
  simp only [F_split, bs_data, if_pos h']
theorem gMax : Tryz.prog.globalNamed "internal/bytealg.MaxLen" = some 0 := by kernel_rfl
theorem sound32 : Sound Tryz.prog 32 F_split := by
  refine sound_calls Tryz.func32 (by kernel_rfl) (by kernel_rfl) ?_
  intro ys r hr w S vs hS hL hl
  unfold F_split at hr
  split at hr
  · rename_i s sep
    split at hr
    · rename_i c hc
      split at hr
      · rename_i hsz
        cases hr
        obtain ⟨u, v, rfl, hu, hv⟩ := VL_2 hl
        have hu := V_str hu
        have hv := V_str hv
        subst hu
        subst hv
        obtain ⟨m, hm⟩ := hL.2.2 0 gMax
        have h1 : 1 ≤ sep.size := by rw [bs_of sep, bs_size, hc]; simp
        refine (Tryz.strings_Split s sep m w (by omega) hm h1).mono ?_
        rintro e w' ⟨rfl, rfl⟩
        have hdat := Lib.splitB_data sep 0 (Lib.countB s sep) s
        rw [hc, split_parts c (Lib.countB s sep) s.data.toList (by rw [← hc])] at hdat
        have hlen : (parts c s.data.toList).length = Lib.countB s sep + 1 := by
          rw [← hdat, List.length_map]
          exact Lib.splitB_all sep h1 0 _ s rfl
        have hcells : ∀ (j : Nat) l, (parts c s.data.toList)[j]? = some l → (w.alloc (.cells ((Lib.splitB sep 0 (Lib.countB s sep) s).map Value.string).toArray 9)).cell? ⟨w.heap.size, 0 + j, none⟩ = some (.string (bs l)) := by
          intro j l hj
          rw [World.cell?_alloc_new, Nat.zero_add]
          rw [← hdat, List.getElem?_map] at hj
          cases hq : (Lib.splitB sep 0 (Lib.countB s sep) s)[j]? with
          | none => rw [hq] at hj; cases hj
          | some q =>
            rw [hq] at hj
            cases hj
            rw [List.getElem?_toArray, List.getElem?_map, hq, ← bs_of]
            rfl
        refine ⟨_, rfl, ?_, ?_, ⟨rfl, rfl, rfl⟩, ?_⟩
        · rw [World.size_alloc]; omega
        · intro b hb
          simp only [World.alloc]
          rw [Array.getElem?_push, if_neg (by omega)]
        · simp only [V]
          refine ⟨_, _, _, by rw [List.length_map, hlen], by rw [List.length_map, hlen]; exact Nat.le_refl _, .inr (.inr ⟨Nat.le_refl _, by rw [World.size_alloc]; omega⟩), ?_⟩
          exact VR_strs _ 0 hcells
      · cases hr
    · cases hr
  · cases hr
def F_cutp : List AVal → Option AVal
  | [.str s, .str p] => some (.tup [sv (Lib.trimPrefix s.data.toList p.data.toList), .bool (Lib.hasPrefix s.data.toList p.data.toList)])
  | _ => none
theorem F_cutp_eq (l p : List UInt8) : F_cutp [sv l, sv p] = some (.tup [sv (Lib.trimPrefix l p), .bool (Lib.hasPrefix l p)]) := by simp only [F_cutp, bs_data]
theorem sound48 : Sound Tryz.prog 48 F_cutp := by
  refine sound_calls Tryz.func48 (by kernel_rfl) (by kernel_rfl) ?_
  intro ys r hr w S vs hS hL hl
  unfold F_cutp at hr
  split at hr
  · rename_i s p
    cases hr
    obtain ⟨u, v, rfl, hu, hv⟩ := VL_2 hl
    have hu := V_str hu
    have hv := V_str hv
    subst hu
    subst hv
    refine (Tryz.strings_CutPrefix s p w).mono ?_
    rintro e w' ⟨rfl, rfl⟩
    refine ⟨_, rfl, Nat.le_refl _, fun _ _ => rfl, SameEnv.refl _, ?_⟩
    simp only [V, VL]
    exact ⟨_, rfl, _, _, rfl, rfl, _, _, rfl, rfl, rfl⟩
  · cases hr
def F_cuts : List AVal → Option AVal
  | [.str s, .str p] => if s.size ≤ 1000000 then some (.tup [sv (Lib.trimSuffix s.data.toList p.data.toList), .bool (Lib.hasSuffix s.data.toList p.data.toList)]) else none
  | _ => none
theorem F_cuts_eq {l p : List UInt8} (h : l.length ≤ 1000000) : F_cuts [sv l, sv p] = some (.tup [sv (Lib.trimSuffix l p), .bool (Lib.hasSuffix l p)]) := by
  have h' : (bs l).size ≤ 1000000 := by rw [bs_size]; exact h
  simp only [F_cuts, bs_data, if_pos h']
theorem sound31 : Sound Tryz.prog 31 F_cuts := by
  refine sound_calls Tryz.func31 (by kernel_rfl) (by kernel_rfl) ?_
  intro ys r hr w S vs hS hL hl
  unfold F_cuts at hr
  split at hr
  · rename_i s p
    split at hr
    · rename_i hsz
      cases hr
      obtain ⟨u, v, rfl, hu, hv⟩ := VL_2 hl
      have hu := V_str hu
      have hv := V_str hv
      subst hu
      subst hv
      refine (Tryz.strings_CutSuffix s p w (by omega)).mono ?_
      rintro e w' ⟨rfl, rfl⟩
      refine ⟨_, rfl, Nat.le_refl _, fun _ _ => rfl, SameEnv.refl _, ?_⟩
      simp only [V, VL]
      exact ⟨_, rfl, _, _, rfl, rfl, _, _, rfl, rfl, rfl⟩
    · cases hr
  · cases hr
end Go.Proofs.YtaoodcnhmjokoaaGreatDoor
