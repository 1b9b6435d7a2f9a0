/-
  Numbers, as they stand in a line: the document's.
-/
import Derived.Test.YtaoodcnhmjokoaaGreatDoorYP
import Derived.Test.YtaoodcnhmjokoaaGreatDoorYH
set_option linter.unusedVariables false
set_option linter.unusedSimpArgs false
namespace Go.Proofs.YtaoodcnhmjokoaaGreatDoor
open Go Go.Xec
attribute [local go_sem] tm0 ne_eq not_false_eq_true List.length_append List.length_replicate List.replicate_succ List.replicate_zero Int.cast_ofNat_Int not_true_eq_false decide_true decide_false ite_self beq_self_eq_true Bool.true_beq Bool.false_beq Bool.not_true Bool.not_false
open Nat renaming reduceAdd → Nra, reduceMul → Nrb, reduceSub → Nrc, reduceLeDiff → Nrd, reduceLT → Nre, reduceEqDiff → Nrf, reducePow → Nrr
open Int renaming reduceLT → Irg, reduceLE → Irh, reduceAdd → Iri, reduceSub → Irj, reduceMul → Irk, reduceToNat → Irl, reducePow → Irm, reduceNe → Irn, reduceMod → Iro, reduceDiv → Irp, reduceEq → Irq, reduceNeg → Irs

set_option maxRecDepth 10000
abbrev its (n : Int) : List UInt8 := T.its n
abbrev numOk (n : Int) : Prop := T.numOk n
theorem numN_ok {neg : Bool} {ds : List UInt8} {n : Int} {k : Nat} (h : T.numN neg ds = .ok (n, k)) : numOk n := by
  unfold T.numN at h
  split at h
  · cases h
  · split at h
    · cases h
    · rename_i h1 h2
      have hv : T.vl ds ≤ 1000000000 := by
        rcases Nat.lt_or_ge 1000000000 (T.vl ds) with h3 | h3
        · exact absurd (.inr h3) h2
        · exact h3
      simp only [Except.ok.injEq, Prod.mk.injEq] at h
      obtain ⟨rfl, _⟩ := h
      show -1000000000 ≤ _ ∧ _ ≤ (1000000000 : Int)
      split <;> omega
theorem numR_ok {r : List UInt8} {n : Int} {k : Nat} (h : T.numR r = .ok (n, k)) : numOk n := by
  cases r with
  | nil => cases h
  | cons b r =>
    simp only [T.numR] at h
    split at h
    · exact numN_ok h
    · exact numN_ok h
theorem oneR_ok {r : List UInt8} {t : T.Tok} {k : Nat} (h : T.oneR r = .ok (t, k)) : T.tokOk t := by
  cases r with
  | nil => cases h
  | cons b r =>
    simp only [T.oneR] at h
    split at h
    · rename_i hb
      simp only [Except.ok.injEq, Prod.mk.injEq] at h
      obtain ⟨rfl, _⟩ := h
      refine .inr (.inr ⟨?_, rfl, rfl⟩)
      simp only [T.sgk]
      split
      · exact .inl rfl
      · split
        · exact .inr (.inl rfl)
        · exact .inr (.inr rfl)
    · split at h
      · cases hn : T.numR (b :: r) with
        | error e => rw [hn] at h; cases h
        | ok q =>
          obtain ⟨n, k'⟩ := q
          rw [hn] at h
          simp only [Except.ok.injEq, Prod.mk.injEq] at h
          obtain ⟨rfl, _⟩ := h
          exact .inr (.inl ⟨rfl, rfl, numR_ok hn⟩)
      · split at h
        · cases h
        · rename_i h0
          split at h
          · cases h
          · rename_i h1
            simp only [Except.ok.injEq, Prod.mk.injEq] at h
            obtain ⟨rfl, _⟩ := h
            have h2 : ((b :: r).takeWhile T.ltB).length ≤ 12 := by omega
            refine .inl ⟨rfl, ⟨fun c hc => ?_, ?_, h2⟩, rfl⟩
            · have := List.all_takeWhile (l := b :: r) (p := T.ltB)
              rw [List.all_eq_true] at this
              exact of_decide_eq_true (this c hc)
            · exact List.length_pos_iff.2 h0
theorem scan_ok : ∀ (n : Nat) (r : List UInt8) (i : Nat) (l : List T.Tok), r.length ≤ n → T.scan r i = .ok l → ∀ t ∈ l, T.tokOk t
  | n, r, i, l, hn, h => by
    by_cases h0 : r = []
    · subst h0
      rw [T.scan_nil] at h
      cases h
      intro t ht
      simp at ht
    · have hp := List.length_pos_iff.2 h0
      obtain ⟨m, rfl⟩ : ∃ m, n = m + 1 := ⟨n - 1, by omega⟩
      by_cases hb : 0 < T.blk r
      · rw [T.scan_blk hb] at h
        exact scan_ok m _ _ l (by rw [List.length_drop]; omega) h
      · cases ho : T.oneR r with
        | error e => rw [T.scan_bad h0 (by omega) ho] at h; cases h
        | ok q =>
          obtain ⟨t, k⟩ := q
          have hk := T.oneR_len ho
          rw [T.scan_one h0 (by omega) ho hk.1] at h
          cases hs : T.scan (r.drop k) (i + k) with
          | error e => rw [hs] at h; cases h
          | ok l' =>
            rw [hs] at h
            simp only [Except.ok.injEq] at h
            subst h
            intro u hu
            rcases List.mem_cons.1 hu with rfl | hu
            · have := oneR_ok ho
              exact this
            · exact scan_ok m _ _ l' (by rw [List.length_drop]; omega) hs u hu
theorem its_inj {m n : Int} (hm : numOk m) (hn : numOk n) (h : its m = its n) : m = n := by
  have h1 := (T.one_num (r := []) hm (fun b hb => by simp at hb)).1
  have h2 := (T.one_num (r := []) hn (fun b hb => by simp at hb)).1
  rw [show T.its m = T.its n from h, h2] at h1
  simp only [Except.ok.injEq, Prod.mk.injEq, T.Tok.mk.injEq] at h1
  exact h1.1.2.2.1.symm
theorem its_len {n : Int} (h : numOk n) : (its n).length ≤ 21 := T.its_len (by have h : -1000000000 ≤ n ∧ n ≤ 1000000000 := h; omega)
theorem scan_its {n : Int} (h : numOk n) : T.text (its n) = .ok [⟨2, [], n, 0⟩] := by
  have hl := its_len h
  obtain ⟨h1, h2, h3⟩ := T.one_num (r := []) h (fun b hb => by simp at hb)
  rw [List.append_nil] at h1 h2
  have hne : its n ≠ [] := fun e => by rw [show T.its n = its n from rfl, e] at h3; simp at h3
  unfold T.text
  rw [if_pos (by show (its n).length ≤ 4000; omega), T.scan_one hne h2 h1 (by omega), List.drop_length, T.scan_nil]
  rfl
open Classical in
/-- The number that a text is, as it stands in a line. -/
noncomputable def numOf (s : List UInt8) : Option Int := if h : ∃ n, numOk n ∧ its n = s then some h.choose else none
theorem numOf_its {n : Int} (h : numOk n) : numOf (its n) = some n := by
  have h1 : ∃ m, numOk m ∧ its m = its n := ⟨n, h, rfl⟩
  unfold numOf
  rw [dif_pos h1]
  have h2 := h1.choose_spec
  rw [its_inj h2.1 h h2.2]
theorem numOf_some {s : List UInt8} {n : Int} (h : numOf s = some n) : numOk n ∧ its n = s := by
  unfold numOf at h
  split at h
  · rename_i h1
    cases h
    exact h1.choose_spec
  · cases h
theorem numOf_none {s : List UInt8} (h : ∀ n, numOk n → its n ≠ s) : numOf s = none := by
  unfold numOf
  rw [dif_neg]
  rintro ⟨n, h1, h2⟩
  exact h n h1 h2
def tryN : Option Int → AVal
  | some n => .tup [.int .i64 n, .bool true]
  | none => .tup [.int .i64 0, .bool false]
noncomputable def C6 : Cfg := (C5.add 71 T.F71).add 51 T.F51
theorem ok6 : CfgOk Tryz.prog C6 := (ok5.add T.sound71).add T.sound51
noncomputable def F53 : List AVal → Option AVal := pureF C6 1 53
theorem sound53 : Sound Tryz.prog 53 F53 := sound_self ok6 1 53
theorem F53_eq {s : List UInt8} (hs : s.length ≤ 100000) : F53 [sv s] = some (tryN (numOf s)) := by
  have e71 := T.F71_eq hs
  unfold F53
  refine pureF_of (x := x53) rfl rfl ?_
  rw [x53_eq.1, x53_eq.2.1]
  cases ht : T.text s with
  | error q =>
    obtain ⟨i, e⟩ := q
    rw [ht] at e71
    simp only [T.scanV] at e71
    rw [numOf_none (fun n hn h => by rw [← h, scan_its hn] at ht; cases ht)]
    by_cases h0 : e = 0
    · have d1 : decide (¬ e = 0) = false := decide_eq_false (fun h => h h0)
      simp (disch := first | omega | simp only [go_sem, ↓reduceIte, Nra, Nrb, Nrc, Nrd, Nre, Nrf, Irg, Irh, Iri, Irj, Irk, Irl, Irm, Irn, Iro, Irp, Irq, Nrr, Irs, dropK_eq]) only [x53b, go_sem, ↓reduceIte, Nra, Nrb, Nrc, Nrd, Nre, Nrf, Irg, Irh, Iri, Irj, Irk, Irl, Irm, Irn, Iro, Irp, Irq, Nrr, Irs, dropK_eq, callX_known (C := C6) (g := 71) rfl, ft_call (C := C6) (g := 71) rfl, e71, d1]
      exact Ends_plain rfl rfl
    · have d1 := decide_eq_true h0
      simp (disch := first | omega | simp only [go_sem, ↓reduceIte, Nra, Nrb, Nrc, Nrd, Nre, Nrf, Irg, Irh, Iri, Irj, Irk, Irl, Irm, Irn, Iro, Irp, Irq, Nrr, Irs, dropK_eq]) only [x53b, go_sem, ↓reduceIte, Nra, Nrb, Nrc, Nrd, Nre, Nrf, Irg, Irh, Iri, Irj, Irk, Irl, Irm, Irn, Iro, Irp, Irq, Nrr, Irs, dropK_eq, callX_known (C := C6) (g := 71) rfl, ft_call (C := C6) (g := 71) rfl, e71, d1]
      exact Ends_plain rfl rfl
  | ok l =>
    rw [ht] at e71
    simp only [T.scanV] at e71
    have hok : ∀ t ∈ l, T.tokOk t := by
      unfold T.text at ht
      split at ht
      · exact scan_ok _ s 0 l (Nat.le_refl _) ht
      · cases ht
    by_cases h1 : l.length = 1
    · obtain ⟨t, rfl⟩ := List.length_eq_one_iff.1 h1
      have htk := hok t (by simp)
      by_cases h2 : t.k = 2
      · have hn : numOk t.n := by
          rcases htk with ⟨h, _⟩ | ⟨_, _, h⟩ | ⟨h, _⟩
          · omega
          · exact h
          · omega
        have e51 := T.F51_eq (n := t.n) (by have hn : -1000000000 ≤ t.n ∧ t.n ≤ 1000000000 := hn; omega)
        have d2 : decide (¬ t.k = 2) = false := decide_eq_false (fun h => h h2)
        by_cases h3 : its t.n = s
        · have d3 : decide (¬ its t.n = s) = false := decide_eq_false (fun h => h h3)
          rw [← h3, numOf_its hn, h3]
          simp (disch := first | omega | simp only [go_sem, ↓reduceIte, Nra, Nrb, Nrc, Nrd, Nre, Nrf, Irg, Irh, Iri, Irj, Irk, Irl, Irm, Irn, Iro, Irp, Irq, Nrr, Irs, dropK_eq]) only [x53b, go_sem, ↓reduceIte, Nra, Nrb, Nrc, Nrd, Nre, Nrf, Irg, Irh, Iri, Irj, Irk, Irl, Irm, Irn, Iro, Irp, Irq, Nrr, Irs, dropK_eq, callX_known (C := C6) (g := 71) rfl, ft_call (C := C6) (g := 71) rfl, callX_known (C := C6) (g := 51) rfl, ft_call (C := C6) (g := 51) rfl, e71, e51, d2, d3, List.map_cons, List.map_nil, List.length_cons, List.length_nil]
          exact Ends_plain rfl rfl
        · have d3 : decide (¬ its t.n = s) = true := decide_eq_true h3
          rw [numOf_none (fun n hn' h => by
            have h4 := ht
            rw [← h, scan_its hn'] at h4
            simp only [Except.ok.injEq, List.cons.injEq, and_true] at h4
            rw [← h4] at h3
            exact h3 h)]
          simp (disch := first | omega | simp only [go_sem, ↓reduceIte, Nra, Nrb, Nrc, Nrd, Nre, Nrf, Irg, Irh, Iri, Irj, Irk, Irl, Irm, Irn, Iro, Irp, Irq, Nrr, Irs, dropK_eq]) only [x53b, go_sem, ↓reduceIte, Nra, Nrb, Nrc, Nrd, Nre, Nrf, Irg, Irh, Iri, Irj, Irk, Irl, Irm, Irn, Iro, Irp, Irq, Nrr, Irs, dropK_eq, callX_known (C := C6) (g := 71) rfl, ft_call (C := C6) (g := 71) rfl, callX_known (C := C6) (g := 51) rfl, ft_call (C := C6) (g := 51) rfl, e71, e51, d2, d3, List.map_cons, List.map_nil, List.length_cons, List.length_nil]
          exact Ends_plain rfl rfl
      · have d2 : decide (¬ t.k = 2) = true := decide_eq_true h2
        rw [numOf_none (fun n hn' h => by
          have h4 := ht
          rw [← h, scan_its hn'] at h4
          simp only [Except.ok.injEq, List.cons.injEq, and_true] at h4
          rw [← h4] at h2
          exact h2 rfl)]
        simp (disch := first | omega | simp only [go_sem, ↓reduceIte, Nra, Nrb, Nrc, Nrd, Nre, Nrf, Irg, Irh, Iri, Irj, Irk, Irl, Irm, Irn, Iro, Irp, Irq, Nrr, Irs, dropK_eq]) only [x53b, go_sem, ↓reduceIte, Nra, Nrb, Nrc, Nrd, Nre, Nrf, Irg, Irh, Iri, Irj, Irk, Irl, Irm, Irn, Iro, Irp, Irq, Nrr, Irs, dropK_eq, callX_known (C := C6) (g := 71) rfl, ft_call (C := C6) (g := 71) rfl, callX_known (C := C6) (g := 51) rfl, ft_call (C := C6) (g := 51) rfl, e71, d2, List.map_cons, List.map_nil, List.length_cons, List.length_nil]
        exact Ends_plain rfl rfl
    · have d1 : decide (¬ (((l.map T.TK).length : Nat) : Int) = 1) = true := decide_eq_true (by rw [List.length_map]; omega)
      rw [numOf_none (fun n hn' h => by
        have h4 := ht
        rw [← h, scan_its hn'] at h4
        simp only [Except.ok.injEq] at h4
        rw [← h4] at h1
        exact h1 rfl)]
      simp (disch := first | omega | simp only [go_sem, ↓reduceIte, Nra, Nrb, Nrc, Nrd, Nre, Nrf, Irg, Irh, Iri, Irj, Irk, Irl, Irm, Irn, Iro, Irp, Irq, Nrr, Irs, dropK_eq]) only [x53b, go_sem, ↓reduceIte, Nra, Nrb, Nrc, Nrd, Nre, Nrf, Irg, Irh, Iri, Irj, Irk, Irl, Irm, Irn, Iro, Irp, Irq, Nrr, Irs, dropK_eq, callX_known (C := C6) (g := 71) rfl, ft_call (C := C6) (g := 71) rfl, e71, d1]
      exact Ends_plain rfl rfl
end Go.Proofs.YtaoodcnhmjokoaaGreatDoor
