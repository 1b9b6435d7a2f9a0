/-
  Texts of an earlier seat, with this seat's numbers.
-/
import Derived.Test.YtaoodcnhmjokoaaGreatDoorYG
set_option linter.unusedVariables false
set_option linter.unusedSimpArgs false
-- port.tmp.in
namespace Go.Proofs.YtaoodcnhmjokoaaGreatDoor.L
open Go Go.Xec
attribute [local go_sem] tm0 ne_eq not_false_eq_true List.length_append List.length_replicate List.replicate_succ List.replicate_zero Int.cast_ofNat_Int not_true_eq_false decide_true decide_false ite_self beq_self_eq_true Bool.true_beq Bool.false_beq Bool.not_true Bool.not_false
open Nat renaming reduceAdd → Nra, reduceMul → Nrb, reduceSub → Nrc, reduceLeDiff → Nrd, reduceLT → Nre, reduceEqDiff → Nrf, reducePow → Nrr
open Int renaming reduceLT → Irg, reduceLE → Irh, reduceAdd → Iri, reduceSub → Irj, reduceMul → Irk, reduceToNat → Irl, reducePow → Irm, reduceNe → Irn, reduceMod → Iro, reduceDiv → Irp, reduceEq → Irq, reduceNeg → Irs
set_option maxRecDepth 10000
theorem take_snoc {l : List UInt8} {i : Nat} (h : i < l.length) : l.take (i + 1) = l.take i ++ [l.getD i 0] := by
  rw [take_next h]
  congr 2
  simp [List.getD_eq_getElem?_getD, List.getElem?_eq_getElem h]
theorem getB_mem {l : List UInt8} {i : Nat} (hi : i < l.length) : l.getD i 0 ∈ l := by
  rw [List.getD_eq_getElem?_getD, List.getElem?_eq_getElem hi]
  exact List.getElem_mem hi
theorem all_getB {p : UInt8 → Prop} {l : List UInt8} (h : ∀ j, j < l.length → p (l.getD j 0)) : ∀ b ∈ l, p b := by
  intro b hb
  obtain ⟨i, hi, rfl⟩ := List.getElem_of_mem hb
  have := h i hi
  simpa [List.getD_eq_getElem?_getD, List.getElem?_eq_getElem hi] using this
/-- Both parts of a sum, behind a byte. -/
def st1 (p : Nat × Nat) (x : UInt8) : Nat × Nat := ((p.1 + x.toNat) % 65521, (p.2 + (p.1 + x.toNat) % 65521) % 65521)
def sm (p : Nat × Nat) (l : List UInt8) : Nat × Nat := l.foldl st1 p
theorem sm_nil (p : Nat × Nat) : sm p [] = p := rfl
theorem sm_snoc (p : Nat × Nat) (l : List UInt8) (x : UInt8) : sm p (l ++ [x]) = st1 (sm p l) x := by simp [sm]
theorem sm_app (p : Nat × Nat) (l m : List UInt8) : sm p (l ++ m) = sm (sm p l) m := by simp [sm]
theorem sm_cons (p : Nat × Nat) (x : UInt8) (l : List UInt8) : sm p (x :: l) = sm (st1 p x) l := rfl
theorem st1_lt (p : Nat × Nat) (x : UInt8) : (st1 p x).1 < 65521 ∧ (st1 p x).2 < 65521 := ⟨Nat.mod_lt _ (by decide), Nat.mod_lt _ (by decide)⟩
theorem sm_lt {p : Nat × Nat} (h : p.1 < 65521 ∧ p.2 < 65521) (l : List UInt8) : (sm p l).1 < 65521 ∧ (sm p l).2 < 65521 := by
  induction l generalizing p with
  | nil => exact h
  | cons x l ih => rw [sm_cons]; exact ih (st1_lt p x)
abbrev s10 (l : List UInt8) : Nat × Nat := sm (1, 0) l
theorem s10_lt (l : List UInt8) : (s10 l).1 < 65521 ∧ (s10 l).2 < 65521 := sm_lt (by decide) l
abbrev sumN (l : List UInt8) : Nat := 65536 * (s10 l).2 + (s10 l).1
theorem tmodN (n m : Nat) : (n : Int).tmod (m : Int) = ((n % m : Nat) : Int) := by
  rw [Int.tmod_eq_emod_of_nonneg (by omega)]; omega
def F69 : List AVal → Option AVal := pureF C0 1 69
theorem sound69 : Sound Tryz.prog 69 F69 := sound_self ok0 1 69
theorem F69_eq {l : List UInt8} (hl : l.length ≤ 100000) : F69 [sv l] = some (.int .i64 (sumN l : Nat)) := by
  unfold F69
  refine pureF_of (x := x69) rfl rfl ?_
  rw [x69_eq.1, x69_eq.2.1]
  simp (disch := first | omega | simp only [go_sem, ↓reduceIte, Nra, Nrb, Nrc, Nrd, Nre, Nrf, Irg, Irh, Iri, Irj, Irk, Irl, Irm, Irn, Iro, Irp, Irq, Nrr, Irs, dropK_eq]) only [x69b, go_sem, ↓reduceIte, Nra, Nrb, Nrc, Nrd, Nre, Nrf, Irg, Irh, Iri, Irj, Irk, Irl, Irm, Irn, Iro, Irp, Irq, Nrr, Irs, dropK_eq]
  refine Ev_range (ti := 5) (len := l.length) (J := fun i tm hp nc => tm 3 = .int .i64 ((s10 (l.take i)).1 : Nat) ∧ tm 4 = .int .i64 ((s10 (l.take i)).2 : Nat)) (by omega) (by simp only [go_sem, ↓reduceIte, Nra, Nrb, Nrc, Nrd, Nre, Nrf, Irg, Irh, Iri, Irj, Irk, Irl, Irm, Irn, Iro, Irp, Irq, Nrr, Irs, dropK_eq]) ⟨by simp only [go_sem, ↓reduceIte, Nra, Nrb, Nrc, Nrd, Nre, Nrf, Irg, Irh, Iri, Irj, Irk, Irl, Irm, Irn, Iro, Irp, Irq, Nrr, Irs, dropK_eq]; rfl, by simp only [go_sem, ↓reduceIte, Nra, Nrb, Nrc, Nrd, Nre, Nrf, Irg, Irh, Iri, Irj, Irk, Irl, Irm, Irn, Iro, Irp, Irq, Nrr, Irs, dropK_eq]; rfl⟩ ?_
  intro i tm hp nc hi hc k5 hJ
  obtain ⟨k3, k4⟩ := hJ
  have k0 := hc 0 rfl; simp only [go_sem, ↓reduceIte, Nra, Nrb, Nrc, Nrd, Nre, Nrf, Irg, Irh, Iri, Irj, Irk, Irl, Irm, Irn, Iro, Irp, Irq, Nrr, Irs, dropK_eq] at k0
  have hb := s10_lt (l.take i)
  rcases Nat.lt_or_ge i l.length with hlt | hge
  · have d1 : decide ((i : Int) < (l.length : Int)) = true := decide_eq_true (by omega)
    have ix := str_ixN .i64 hlt
    have e : s10 (l.take (i + 1)) = st1 (s10 (l.take i)) (l.getD i 0) := by
      have := sm_snoc (1, 0) (l.take i) (l.getD i 0)
      rwa [← take_snoc hlt] at this
    have hx := (l.getD i 0).toNat_lt
    have e1 : (((s10 (l.take i)).1 : Int) + ((l.getD i 0).toNat : Int)).tmod 65521 = ((((s10 (l.take i)).1 + (l.getD i 0).toNat) % 65521 : Nat) : Int) := by
      have := tmodN ((s10 (l.take i)).1 + (l.getD i 0).toNat) 65521
      rw [Int.natCast_add] at this
      exact this
    have e2 : (((s10 (l.take i)).2 : Int) + ((((s10 (l.take i)).1 + (l.getD i 0).toNat) % 65521 : Nat) : Int)).tmod 65521 = ((((s10 (l.take i)).2 + ((s10 (l.take i)).1 + (l.getD i 0).toNat) % 65521) % 65521 : Nat) : Int) := by
      have := tmodN ((s10 (l.take i)).2 + ((s10 (l.take i)).1 + (l.getD i 0).toNat) % 65521) 65521
      rw [Int.natCast_add] at this
      exact this
    have hlt2 : ((s10 (l.take i)).1 + (l.getD i 0).toNat) % 65521 < 65521 := Nat.mod_lt _ (by decide)
    simp (disch := first | omega | simp only [go_sem, ↓reduceIte, Nra, Nrb, Nrc, Nrd, Nre, Nrf, Irg, Irh, Iri, Irj, Irk, Irl, Irm, Irn, Iro, Irp, Irq, Nrr, Irs, dropK_eq]) only [x69l4, go_sem, ↓reduceIte, Nra, Nrb, Nrc, Nrd, Nre, Nrf, Irg, Irh, Iri, Irj, Irk, Irl, Irm, Irn, Iro, Irp, Irq, Nrr, Irs, dropK_eq, k0, k3, k4, k5, d1, ix, e1, e2]
    exact ⟨hlt, by simp, by rw [e]; rfl, by rw [e]; rfl⟩
  · obtain rfl : i = l.length := by omega
    have d1 : decide ((l.length : Int) < (l.length : Int)) = false := decide_eq_false (by omega)
    rw [List.take_length] at k3 k4 hb
    simp (disch := first | omega | simp only [go_sem, ↓reduceIte, Nra, Nrb, Nrc, Nrd, Nre, Nrf, Irg, Irh, Iri, Irj, Irk, Irl, Irm, Irn, Iro, Irp, Irq, Nrr, Irs, dropK_eq]) only [x69l4, go_sem, ↓reduceIte, Nra, Nrb, Nrc, Nrd, Nre, Nrf, Irg, Irh, Iri, Irj, Irk, Irl, Irm, Irn, Iro, Irp, Irq, Nrr, Irs, dropK_eq, k0, k3, k4, k5, d1]
    refine Ends_plain rfl ?_
    simp [sumN]
abbrev no10 (l : List UInt8) : Prop := ∀ b ∈ l, ¬ (b.toNat : Int) = 10
abbrev lineOk (l : List UInt8) : Prop := no10 l ∧ l.length ≤ 200
def F52 : List AVal → Option AVal := pureF C0 1 52
theorem sound52 : Sound Tryz.prog 52 F52 := sound_self ok0 1 52
theorem F52_eq {l : List UInt8} (hl : l.length ≤ 100000) : F52 [sv l] = some (.bool (decide (lineOk l))) := by
  unfold F52
  refine pureF_of (x := x52) rfl rfl ?_
  rw [x52_eq.1, x52_eq.2.1]
  simp (disch := first | omega | simp only [go_sem, ↓reduceIte, Nra, Nrb, Nrc, Nrd, Nre, Nrf, Irg, Irh, Iri, Irj, Irk, Irl, Irm, Irn, Iro, Irp, Irq, Nrr, Irs, dropK_eq]) only [x52b, go_sem, ↓reduceIte, Nra, Nrb, Nrc, Nrd, Nre, Nrf, Irg, Irh, Iri, Irj, Irk, Irl, Irm, Irn, Iro, Irp, Irq, Nrr, Irs, dropK_eq]
  refine Ev_range (ti := 3) (len := l.length) (J := fun i tm hp nc => ∀ j, j < i → ¬ ((l.getD j 0).toNat : Int) = 10) (by omega) (by simp only [go_sem, ↓reduceIte, Nra, Nrb, Nrc, Nrd, Nre, Nrf, Irg, Irh, Iri, Irj, Irk, Irl, Irm, Irn, Iro, Irp, Irq, Nrr, Irs, dropK_eq]) (by simp) ?_
  intro i tm hp nc hi hc k3 hj
  have k0 := hc 0 rfl; simp only [go_sem, ↓reduceIte, Nra, Nrb, Nrc, Nrd, Nre, Nrf, Irg, Irh, Iri, Irj, Irk, Irl, Irm, Irn, Iro, Irp, Irq, Nrr, Irs, dropK_eq] at k0
  rcases Nat.lt_or_ge i l.length with hlt | hge
  · have d1 : decide ((i : Int) < (l.length : Int)) = true := decide_eq_true (by omega)
    have ix := str_ixN .i64 hlt
    by_cases h10 : ((l.getD i 0).toNat : Int) = 10
    · have d2 := decide_eq_true h10
      have hno : decide (lineOk l) = false := decide_eq_false fun h => h.1 _ (getB_mem hlt) h10
      rw [hno]
      simp (disch := first | omega | simp only [go_sem, ↓reduceIte, Nra, Nrb, Nrc, Nrd, Nre, Nrf, Irg, Irh, Iri, Irj, Irk, Irl, Irm, Irn, Iro, Irp, Irq, Nrr, Irs, dropK_eq]) only [x52l2, go_sem, ↓reduceIte, Nra, Nrb, Nrc, Nrd, Nre, Nrf, Irg, Irh, Iri, Irj, Irk, Irl, Irm, Irn, Iro, Irp, Irq, Nrr, Irs, dropK_eq, k0, k3, d1, ix, d2]
      exact Ends_plain rfl rfl
    · have d2 := decide_eq_false h10
      simp (disch := first | omega | simp only [go_sem, ↓reduceIte, Nra, Nrb, Nrc, Nrd, Nre, Nrf, Irg, Irh, Iri, Irj, Irk, Irl, Irm, Irn, Iro, Irp, Irq, Nrr, Irs, dropK_eq]) only [x52l2, go_sem, ↓reduceIte, Nra, Nrb, Nrc, Nrd, Nre, Nrf, Irg, Irh, Iri, Irj, Irk, Irl, Irm, Irn, Iro, Irp, Irq, Nrr, Irs, dropK_eq, k0, k3, d1, ix, d2]
      refine ⟨hlt, by simp, fun j hj' => ?_⟩
      by_cases e : j = i
      · subst e; exact h10
      · exact hj j (by omega)
  · obtain rfl : i = l.length := by omega
    have d1 : decide ((l.length : Int) < (l.length : Int)) = false := decide_eq_false (by omega)
    have hall : no10 l := all_getB hj
    simp (disch := first | omega | simp only [go_sem, ↓reduceIte, Nra, Nrb, Nrc, Nrd, Nre, Nrf, Irg, Irh, Iri, Irj, Irk, Irl, Irm, Irn, Iro, Irp, Irq, Nrr, Irs, dropK_eq]) only [x52l2, go_sem, ↓reduceIte, Nra, Nrb, Nrc, Nrd, Nre, Nrf, Irg, Irh, Iri, Irj, Irk, Irl, Irm, Irn, Iro, Irp, Irq, Nrr, Irs, dropK_eq, k0, k3, d1]
    refine Ends_plain rfl ?_
    congr 1
    exact decide_eq_decide.2 ⟨fun h => ⟨hall, by omega⟩, fun h => by have := h.2; omega⟩
theorem index_mem (c : UInt8) : ∀ l : List UInt8, 0 ≤ Lib.indexByte l c ↔ c ∈ l
  | [] => by simp [Lib.indexByte]
  | b :: l => by
    have ih := index_mem c l
    simp only [Lib.indexByte]
    by_cases h : b = c
    · subst h
      simp
    · have h1 : (b == c) = false := by simpa using h
      rw [h1]
      simp only [Bool.false_eq_true, if_false, List.mem_cons]
      by_cases h2 : Lib.indexByte l c = -1
      · have h3 : (Lib.indexByte l c == -1) = true := by simpa using h2
        rw [if_pos h3]
        constructor
        · intro h; omega
        · rintro (h' | h')
          · exact absurd h'.symm h
          · have := ih.2 h'; omega
      · have h3 : (Lib.indexByte l c == -1) = false := by simpa using h2
        rw [h3]
        simp only [Bool.false_eq_true, if_false]
        have hge : -1 ≤ Lib.indexByte l c := by
          clear ih h1 h3 h2
          induction l with
          | nil => simp [Lib.indexByte]
          | cons d l ihl =>
            simp only [Lib.indexByte]
            split
            · omega
            · split
              · omega
              · omega
        constructor
        · intro _; exact .inr (ih.1 (by omega))
        · intro _; omega
def C1 : Cfg := ((((C0.add 54 F_contains).add 57 F_repeat).add 65 F_trim).add 132 F_tz).add 69 F69
theorem ok1 : CfgOk Tryz.prog C1 := ((((ok0.add sound54).add sound57).add sound65).add sound132).add sound69
def C2 : Cfg := C1.add 52 F52
theorem ok2 : CfgOk Tryz.prog C2 := ok1.add sound52
def F40 : List AVal → Option AVal := pureF C2 1 40
theorem sound40 : Sound Tryz.prog 40 F40 := sound_self ok2 1 40
theorem F40_eq {l : List UInt8} (hl : l.length ≤ 100000) : F40 [sv l] = some (.bool (decide (lineOk l))) := by
  have e21 : F_contains [sv l, sv [10]] = some (.bool (decide (0 ≤ Lib.indexByte l 10))) := by simp only [F_contains, bs_data]
  have hm : (0 ≤ Lib.indexByte l 10) ↔ ¬ no10 l := by
    rw [index_mem]
    constructor
    · intro h h'; exact h' _ h (by rfl)
    · intro h
      have : ∃ b, b ∈ l ∧ (b.toNat : Int) = 10 := by
        rcases Classical.em (∃ b, b ∈ l ∧ (b.toNat : Int) = 10) with h' | h'
        · exact h'
        · exact absurd (fun b hb e => h' ⟨b, hb, e⟩) h
      obtain ⟨b, hb, e⟩ := this
      have : b = 10 := UInt8.toNat_inj.1 (by have : (10 : UInt8).toNat = 10 := rfl; omega)
      rw [← this]
      exact hb
  unfold F40
  refine pureF_of (x := x40) rfl rfl ?_
  rw [x40_eq.1, x40_eq.2.1]
  by_cases h2 : l.length ≤ 200
  · have d1 : decide ((l.length : Int) ≤ 200) = true := decide_eq_true (by omega)
    simp (disch := first | omega | simp only [go_sem, ↓reduceIte, Nra, Nrb, Nrc, Nrd, Nre, Nrf, Irg, Irh, Iri, Irj, Irk, Irl, Irm, Irn, Iro, Irp, Irq, Nrr, Irs, dropK_eq]) only [x40b, go_sem, ↓reduceIte, Nra, Nrb, Nrc, Nrd, Nre, Nrf, Irg, Irh, Iri, Irj, Irk, Irl, Irm, Irn, Iro, Irp, Irq, Nrr, Irs, dropK_eq, d1, callX_known (C := C2) (g := 54) rfl, ft_call (C := C2) (g := 54) rfl, e21]
    refine Ends_plain rfl ?_
    congr 1
    by_cases h : no10 l
    · rw [decide_eq_false (fun e => hm.1 e h), decide_eq_true (show lineOk l from ⟨h, h2⟩)]; rfl
    · rw [decide_eq_true (hm.2 h), decide_eq_false (fun e : lineOk l => h e.1)]; rfl
  · have d1 : decide ((l.length : Int) ≤ 200) = false := decide_eq_false (by omega)
    simp (disch := first | omega | simp only [go_sem, ↓reduceIte, Nra, Nrb, Nrc, Nrd, Nre, Nrf, Irg, Irh, Iri, Irj, Irk, Irl, Irm, Irn, Iro, Irp, Irq, Nrr, Irs, dropK_eq]) only [x40b, go_sem, ↓reduceIte, Nra, Nrb, Nrc, Nrd, Nre, Nrf, Irg, Irh, Iri, Irj, Irk, Irl, Irm, Irn, Iro, Irp, Irq, Nrr, Irs, dropK_eq, d1]
    refine Ends_plain rfl ?_
    rw [decide_eq_false (fun e : lineOk l => h2 e.2)]
def hexs : List UInt8 := [48, 49, 50, 51, 52, 53, 54, 55, 56, 57, 97, 98, 99, 100, 101, 102]
def hd (d : Nat) : UInt8 := hexs.getD d 0
theorem hd_cut : ∀ d < 16, (hexs.drop d).take 1 = [hd d] := by decide
/-- The lowest digits. -/
def lowd (n : Nat) : Nat → List UInt8
  | 0 => []
  | i + 1 => hd (n / 16 ^ i % 16) :: lowd n i
theorem lowd_len (n : Nat) : ∀ i, (lowd n i).length = i
  | 0 => rfl
  | i + 1 => by simp [lowd, lowd_len n i]
noncomputable def F68 : List AVal → Option AVal := pureF C2 1 68
theorem sound68 : Sound Tryz.prog 68 F68 := sound_self ok2 1 68
theorem F68_eq {n : Nat} (hn : n < 9223372036854775808) : F68 [.int .i64 n] = some (sv (lowd n 8)) := by
  unfold F68
  refine pureF_of (x := x68) rfl rfl ?_
  rw [x68_eq.1, x68_eq.2.1]
  simp (disch := first | omega | simp only [go_sem, ↓reduceIte, Nra, Nrb, Nrc, Nrd, Nre, Nrf, Irg, Irh, Iri, Irj, Irk, Irl, Irm, Irn, Iro, Irp, Irq, Nrr, Irs, dropK_eq]) only [x68b, go_sem, ↓reduceIte, Nra, Nrb, Nrc, Nrd, Nre, Nrf, Irg, Irh, Iri, Irj, Irk, Irl, Irm, Irn, Iro, Irp, Irq, Nrr, Irs, dropK_eq]
  refine Ev_range (ti := 4) (len := 8) (J := fun i tm hp nc => tm 3 = sv (lowd n i) ∧ tm 0 = .int .i64 (n / 16 ^ i : Nat)) (by omega) (by simp only [go_sem, ↓reduceIte, Nra, Nrb, Nrc, Nrd, Nre, Nrf, Irg, Irh, Iri, Irj, Irk, Irl, Irm, Irn, Iro, Irp, Irq, Nrr, Irs, dropK_eq]) ⟨by simp only [go_sem, ↓reduceIte, Nra, Nrb, Nrc, Nrd, Nre, Nrf, Irg, Irh, Iri, Irj, Irk, Irl, Irm, Irn, Iro, Irp, Irq, Nrr, Irs, dropK_eq]; rfl, by simp only [go_sem, ↓reduceIte, Nra, Nrb, Nrc, Nrd, Nre, Nrf, Irg, Irh, Iri, Irj, Irk, Irl, Irm, Irn, Iro, Irp, Irq, Nrr, Irs, dropK_eq]; simp⟩ ?_
  intro i tm hp nc hi hc k4 hJ
  obtain ⟨k3, k0⟩ := hJ
  rcases Nat.lt_or_ge i 8 with hlt | hge
  · have d1 : decide ((i : Int) < 8) = true := decide_eq_true (by omega)
    have hle : n / 16 ^ i ≤ n := Nat.div_le_self _ _
    have hpow : n / 16 ^ (i + 1) = n / 16 ^ i / 16 := by rw [Nat.pow_succ, Nat.div_div_eq_div_mul]
    have hlow : lowd n (i + 1) = [hd (n / 16 ^ i % 16)] ++ lowd n i := rfl
    have hll := lowd_len n i
    rw [hpow, hlow]
    generalize n / 16 ^ i = m at *
    generalize lowd n i = w at *
    have e1 : (m : Int).tmod 16 = ((m % 16 : Nat) : Int) := tmodN m 16
    have e2 : (m : Int).tdiv 16 = ((m / 16 : Nat) : Int) := by rw [Int.tdiv_eq_ediv_of_nonneg (by omega)]; omega
    have hm : m % 16 < 16 := Nat.mod_lt _ (by decide)
    have hs : slSA (sv hexs) (some (.int .i64 ((m % 16 : Nat) : Int))) (some (.int .i64 (((m % 16 : Nat) : Int) + 1))) = some (sv [hd (m % 16)]) := by
      have := str_slice (l := hexs) (lo := m % 16) (hi := m % 16 + 1) (by omega) (by show m % 16 + 1 ≤ 16; omega)
      rw [Nat.add_sub_cancel_left, hd_cut _ hm, Int.natCast_add, Int.natCast_one] at this
      exact this
    simp only [hexs] at hs
    have hl1 : 1 + w.length < 9223372036854775808 := by omega
    simp (disch := first | omega | simp only [go_sem, ↓reduceIte, Nra, Nrb, Nrc, Nrd, Nre, Nrf, Irg, Irh, Iri, Irj, Irk, Irl, Irm, Irn, Iro, Irp, Irq, Nrr, Irs, dropK_eq]) only [x68l3, go_sem, ↓reduceIte, Nra, Nrb, Nrc, Nrd, Nre, Nrf, Irg, Irh, Iri, Irj, Irk, Irl, Irm, Irn, Iro, Irp, Irq, Nrr, Irs, dropK_eq, k0, k3, k4, d1, e1, e2, hs, if_pos hl1]
    exact ⟨hlt, by simp⟩
  · obtain rfl : i = 8 := by omega
    have d1 : decide (((8 : Nat) : Int) < 8) = false := by decide
    simp (disch := first | omega | simp only [go_sem, ↓reduceIte, Nra, Nrb, Nrc, Nrd, Nre, Nrf, Irg, Irh, Iri, Irj, Irk, Irl, Irm, Irn, Iro, Irp, Irq, Nrr, Irs, dropK_eq]) only [x68l3, go_sem, ↓reduceIte, Nra, Nrb, Nrc, Nrd, Nre, Nrf, Irg, Irh, Iri, Irj, Irk, Irl, Irm, Irn, Iro, Irp, Irq, Nrr, Irs, dropK_eq, k0, k3, k4, d1]
    exact Ends_plain rfl rfl
/-- A numeral of no more digits than it wants. -/
def hexT (n : Nat) : List UInt8 := if h : n < 16 then [hd n] else hexT (n / 16) ++ [hd (n % 16)]
termination_by n
decreasing_by omega
theorem hexT_small {n : Nat} (h : n < 16) : hexT n = [hd n] := by rw [hexT, dif_pos h]
theorem hexT_step {n : Nat} (h : 16 ≤ n) : hexT n = hexT (n / 16) ++ [hd (n % 16)] := by rw [hexT, dif_neg (by omega)]
theorem hexT_len : ∀ (k n : Nat), n < 16 ^ (k + 1) → 1 ≤ (hexT n).length ∧ (hexT n).length ≤ k + 1
  | 0, n, h => by rw [hexT_small (by simpa using h)]; simp
  | k + 1, n, h => by
    by_cases h1 : n < 16
    · rw [hexT_small h1]; simp
    · have := hexT_len k (n / 16) (by rw [Nat.div_lt_iff_lt_mul (by decide)]; rw [Nat.pow_succ] at h; exact h)
      rw [hexT_step (by omega)]
      simp; omega
theorem lowd_zero (i : Nat) : lowd 0 i = List.replicate i 48 := by
  induction i with
  | zero => rfl
  | succ i ih => rw [lowd, ih, List.replicate_succ]; simp [hd, hexs]
theorem lowd_shift (n : Nat) : ∀ i, lowd n (i + 1) = lowd (n / 16) i ++ [hd (n % 16)]
  | 0 => by simp [lowd]
  | i + 1 => by
    rw [lowd, lowd_shift n i, lowd]
    rw [List.cons_append, Nat.div_div_eq_div_mul, ← Nat.pow_succ']
/-- Eight digits: nulls ahead of it. -/
theorem lowd_hex : ∀ (k n : Nat), n < 16 ^ (k + 1) → lowd n (k + 1) = List.replicate (k + 1 - (hexT n).length) 48 ++ hexT n
  | 0, n, h => by
    have hn : n < 16 := by simpa using h
    rw [hexT_small hn]
    simp [lowd, Nat.mod_eq_of_lt hn]
  | k + 1, n, h => by
    rw [lowd_shift]
    by_cases h1 : n < 16
    · rw [Nat.div_eq_of_lt h1, lowd_zero, hexT_small h1, Nat.mod_eq_of_lt h1]
      simp
    · have hd16 : n / 16 < 16 ^ (k + 1) := by rw [Nat.div_lt_iff_lt_mul (by decide)]; rw [Nat.pow_succ] at h; exact h
      have hl := hexT_len k (n / 16) hd16
      rw [lowd_hex k (n / 16) hd16, hexT_step (n := n) (by omega), List.length_append, List.append_assoc]
      congr 2
      simp
def F122 : List AVal → Option AVal := pureF C2 1 122
theorem sound122 : Sound Tryz.prog 122 F122 := sound_self ok2 1 122
theorem and16 : binA .and (.int .i64 16) (.int .i64 15) = some (.int .i64 0) := by rfl
theorem F122_eq : F122 [.int .i64 16] = some (.bool true) := by
  unfold F122
  refine pureF_of (x := x122) rfl rfl ?_
  rw [x122_eq.1, x122_eq.2.1]
  simp (disch := first | omega | simp only [go_sem, ↓reduceIte, Nra, Nrb, Nrc, Nrd, Nre, Nrf, Irg, Irh, Iri, Irj, Irk, Irl, Irm, Irn, Iro, Irp, Irq, Nrr, Irs, dropK_eq]) only [x122b, go_sem, ↓reduceIte, Nra, Nrb, Nrc, Nrd, Nre, Nrf, Irg, Irh, Iri, Irj, Irk, Irl, Irm, Irn, Iro, Irp, Irq, Nrr, Irs, dropK_eq, and16]
  exact Ends_plain rfl rfl
def F123 : List AVal → Option AVal := pureF C2 1 123
theorem sound123 : Sound Tryz.prog 123 F123 := sound_self ok2 1 123
theorem F123_eq : F123 [.int .u64 16] = some (.int .i64 4) := by
  have e : F_tz [.int .u64 16] = some (.int .i64 4) := by rfl
  unfold F123
  refine pureF_of (x := x123) rfl rfl ?_
  rw [x123_eq.1, x123_eq.2.1]
  simp (disch := first | omega | simp only [go_sem, ↓reduceIte, Nra, Nrb, Nrc, Nrd, Nre, Nrf, Irg, Irh, Iri, Irj, Irk, Irl, Irm, Irn, Iro, Irp, Irq, Nrr, Irs, dropK_eq]) only [x123b, go_sem, ↓reduceIte, Nra, Nrb, Nrc, Nrd, Nre, Nrf, Irg, Irh, Iri, Irj, Irk, Irl, Irm, Irn, Iro, Irp, Irq, Nrr, Irs, dropK_eq, callX_known (C := C2) (g := 132) rfl, ft_call (C := C2) (g := 132) rfl, e]
  exact Ends_plain rfl rfl
def C3 : Cfg := (C2.add 122 F122).add 123 F123
theorem ok3 : CfgOk Tryz.prog C3 := (ok2.add sound122).add sound123
/-- The digits that are there. -/
abbrev encB (b : UInt8) : AVal := .int .u8 b.toNat
def dig36 : List UInt8 := [48, 49, 50, 51, 52, 53, 54, 55, 56, 57, 97, 98, 99, 100, 101, 102, 103, 104, 105, 106, 107, 108, 109, 110, 111, 112, 113, 114, 115, 116, 117, 118, 119, 120, 121, 122]
theorem dig_hd : ∀ d < 16, dig36.getD d 0 = hd d := by decide
theorem dig_ix {d : Nat} (h : d < 16) : ixSA (sv dig36) (.int .u64 (d : Nat)) = some (.int .u8 ((hd d).toNat : Int)) := by
  rw [str_ixN .u64 (show d < dig36.length by show d < 36; omega), dig_hd d h]
theorem drop_splice {cs : List AVal} {i : Nat} {v : AVal} {D : List AVal} (hl : i + 1 ≤ cs.length) (h : cs.drop (i + 1) = D) : (splice cs i [v]).drop i = v :: D := by
  rw [splice_eq, List.drop_append_of_le_length (by simp; omega)]
  have : (cs.take i).drop i = [] := List.drop_of_length_le (by simp; omega)
  rw [this]
  simp [h]
theorem splice_len {cs : List AVal} {i : Nat} {v : AVal} (hl : i + 1 ≤ cs.length) : (splice cs i [v]).length = cs.length := by
  rw [splice_eq]
  simp; omega
theorem bytesOf_enc : ∀ D : List UInt8, bytesOf (D.map encB) = some D
  | [] => rfl
  | b :: D => by
    have := b.toNat_lt
    simp [bytesOf_cons, bytesOf_enc D]
def F97 : List AVal → Option AVal := pureF C3 1 97
theorem sound97 : Sound Tryz.prog 97 F97 := sound_self ok3 1 97
theorem F97_eq {n : Nat} (hn : n < 4294967296) : F97 [.nils, .int .u64 n, .int .i64 16, .bool false, .bool false] = some (.tup [.nils, sv (hexT n)]) := by
  have hnl := hexT_len 7 n (by simpa using hn)
  unfold F97
  refine pureF_of (x := x97) rfl rfl ?_
  rw [x97_eq.1, x97_eq.2.1]
  simp (disch := first | omega | simp only [go_sem, ↓reduceIte, Nra, Nrb, Nrc, Nrd, Nre, Nrf, Irg, Irh, Iri, Irj, Irk, Irl, Irm, Irn, Iro, Irp, Irq, Nrr, Irs, dropK_eq]) only [x97b, go_sem, ↓reduceIte, Nra, Nrb, Nrc, Nrd, Nre, Nrf, Irg, Irh, Iri, Irj, Irk, Irl, Irm, Irn, Iro, Irp, Irq, Nrr, Irs, dropK_eq, callX_known (C := C3) (g := 122) rfl, ft_call (C := C3) (g := 122) rfl, callX_known (C := C3) (g := 123) rfl, ft_call (C := C3) (g := 123) rfl, F122_eq, F123_eq]
  refine Ev_loopW (I := fun m tm hp nc => ∃ (u : Nat) (D : List UInt8) (cs : List AVal), m = u ∧ tm 1 = .int .u64 u ∧ tm 13 = .int .i64 ((65 - D.length : Nat) : Int) ∧ hp (97003000, 2) = some (.var cs) ∧ cs.length = 65 ∧ cs.drop (65 - D.length) = D.map encB ∧ hexT n = hexT u ++ D ∧ u < 4294967296) (n := n) ?_ (by omega) ?_
  · refine ⟨n, [], _, rfl, ?_, ?_, upd_same _ _ _, rfl, rfl, by simp, hn⟩ <;> simp only [go_sem, ↓reduceIte, Nra, Nrb, Nrc, Nrd, Nre, Nrf, Irg, Irh, Iri, Irj, Irk, Irl, Irm, Irn, Iro, Irp, Irq, Nrr, Irs, dropK_eq] <;> rfl
  · rintro u tm hp nc hc ⟨_, D, cs, rfl, k1, k13, hk, hcs, hdr, hh, hu⟩
    have k0 := hc 0 rfl; have k3 := hc 3 rfl; have k4 := hc 4 rfl; have k10 := hc 10 rfl; have k12 := hc 12 rfl; have k14 := hc 14 rfl; have k15 := hc 15 rfl; have k16 := hc 16 rfl; simp only [go_sem, ↓reduceIte, Nra, Nrb, Nrc, Nrd, Nre, Nrf, Irg, Irh, Iri, Irj, Irk, Irl, Irm, Irn, Iro, Irp, Irq, Nrr, Irs, dropK_eq] at k0 k3 k4 k10 k12 k14 k15 k16
    have hul := hexT_len 7 u (by simpa using hu)
    have hD : D.length ≤ 7 := by rw [hh, List.length_append] at hnl; omega
    have e13 : ((65 - D.length : Nat) : Int) - 1 = ((64 - D.length : Nat) : Int) := by omega
    have hidx : 64 - D.length + 1 = 65 - D.length := by omega
    have hle : 64 - D.length + 1 ≤ cs.length := by omega
    by_cases h16 : 16 ≤ u
    · have d1 : decide ((16 : Int) ≤ (u : Int)) = true := decide_eq_true (by omega)
      have ea : binA .and (.int .u64 u) (.int .u64 15) = some (.int .u64 ((u % 16 : Nat) : Int)) := (binA_and_u64 (a := u) 4 (by decide)).trans (by simp)
      have es : binA .shr (.int .u64 u) (.int .u64 4) = some (.int .u64 ((u / 16 : Nat) : Int)) := by have := binA_shr_u64 (a := (u : Int)) (b := 4) (by decide) (by decide); simpa using this
      have eix := dig_ix (d := u % 16) (Nat.mod_lt _ (by decide))
      simp only [dig36] at eix
      have hs := drop_splice (v := encB (hd (u % 16))) (D := D.map encB) hle (by rw [hidx]; exact hdr)
      have hsl := splice_len (v := encB (hd (u % 16))) hle
      simp only [splice_eq] at hs hsl
      simp (disch := first | omega | simp only [go_sem, ↓reduceIte, Nra, Nrb, Nrc, Nrd, Nre, Nrf, Irg, Irh, Iri, Irj, Irk, Irl, Irm, Irn, Iro, Irp, Irq, Nrr, Irs, dropK_eq]) only [x97l11, go_sem, ↓reduceIte, Nra, Nrb, Nrc, Nrd, Nre, Nrf, Irg, Irh, Iri, Irj, Irk, Irl, Irm, Irn, Iro, Irp, Irq, Nrr, Irs, dropK_eq, k1, k13, k12, k14, k15, k16, hk, d1, e13, ea, es, eix, Int.toNat_natCast, Nat.zero_add, Nat.mul_one]
      have hlen : 65 - (hd (u % 16) :: D).length = 64 - D.length := by simp
      refine ⟨u / 16, by omega, u / 16, hd (u % 16) :: D, _, rfl, rfl, by rw [hlen], rfl, by simpa using hsl.trans hcs, by rw [hlen]; simpa using hs, by rw [hh, hexT_step h16]; simp, by omega⟩
    · have d1 : decide ((16 : Int) ≤ (u : Int)) = false := decide_eq_false (by omega)
      have eix := dig_ix (d := u) (by omega)
      simp only [dig36] at eix
      have hs := drop_splice (v := encB (hd u)) (D := D.map encB) hle (by rw [hidx]; exact hdr)
      have hsl := (splice_len (v := encB (hd u)) hle).trans hcs
      simp only [splice_eq] at hs hsl
      simp only [List.length_cons, List.length_nil, Nat.zero_add, List.singleton_append] at hs hsl
      have hlen : 65 - (64 - D.length) = (hd u :: D).length := by simp; omega
      have hx : hexT n = hd u :: D := by rw [hh, hexT_small (by omega)]; rfl
      have hsa : slAH 65 1 (.ptr (97003000, 2) 0 0 0 0) (some (.int .i64 ((64 - D.length : Nat) : Int))) none (upd hp (97003000, 2) (some (.var (cs.take (64 - D.length) ++ .int .u8 ((hd u).toNat : Nat) :: cs.drop (64 - D.length + 1))))) =
          some (.sl (97003000, 2) 0 1 (64 - D.length) (65 - (64 - D.length))) := by
        simp only [slAH, upd_same]
        rw [if_pos (by rw [hsl]; omega)]
        simp [slAA, bnd]
        omega
      have hels : (Blk.var (cs.take (64 - D.length) ++ .int .u8 ((hd u).toNat : Nat) :: cs.drop (64 - D.length + 1))).els 0 1 (64 - D.length) (65 - (64 - D.length)) = some ((hd u :: D).map encB) := by
        have ht : ((cs.take (64 - D.length) ++ .int .u8 ((hd u).toNat : Nat) :: cs.drop (64 - D.length + 1)).drop (64 - D.length)).take (65 - (64 - D.length)) = (hd u :: D).map encB := by
          rw [hs, hlen]
          rw [List.take_of_length_le (by simp)]
          rfl
        have hsc : ((hd u :: D).map encB).all isSc = true := by
          rw [List.all_eq_true]
          intro x hx
          obtain ⟨b, _, rfl⟩ := List.mem_map.1 hx
          rfl
        unfold Blk.els
        dsimp only
        rw [ht, if_pos ⟨rfl, rfl, by rw [hsl]; omega, hsc⟩]
      have hby := bytesOf_enc D
      rw [hx]
      simp (disch := first | omega | simp only [go_sem, ↓reduceIte, Nra, Nrb, Nrc, Nrd, Nre, Nrf, Irg, Irh, Iri, Irj, Irk, Irl, Irm, Irn, Iro, Irp, Irq, Nrr, Irs, dropK_eq]) only [x97l11, go_sem, ↓reduceIte, Nra, Nrb, Nrc, Nrd, Nre, Nrf, Irg, Irh, Iri, Irj, Irk, Irl, Irm, Irn, Iro, Irp, Irq, Nrr, Irs, dropK_eq, k1, k13, k12, k14, k15, k16, k3, k4, k10, hk, d1, e13, eix, Int.toNat_natCast, Nat.zero_add, Nat.mul_one, hsa, hels, hby, UInt8.ofNat_toNat]
      exact Ends_plain rfl rfl
def C4 : Cfg := C3.add 97 F97
theorem ok4 : CfgOk Tryz.prog C4 := ok3.add sound97
def F72 : List AVal → Option AVal := pureF C4 1 72
theorem sound72 : Sound Tryz.prog 72 F72 := sound_self ok4 1 72
theorem F72_eq {n : Nat} (hn : n < 4294967296) : F72 [.int .i64 n, .int .i64 16] = some (sv (hexT n)) := by
  have e49 := F97_eq hn
  have e1 : (n : Int) % 18446744073709551616 = n := by omega
  have d1 : decide ((n : Int) < 0) = false := decide_eq_false (by omega)
  unfold F72
  refine pureF_of (x := x72) rfl rfl ?_
  rw [x72_eq.1, x72_eq.2.1]
  simp (disch := first | omega | simp only [go_sem, ↓reduceIte, Nra, Nrb, Nrc, Nrd, Nre, Nrf, Irg, Irh, Iri, Irj, Irk, Irl, Irm, Irn, Iro, Irp, Irq, Nrr, Irs, dropK_eq]) only [x72b, go_sem, ↓reduceIte, Nra, Nrb, Nrc, Nrd, Nre, Nrf, Irg, Irh, Iri, Irj, Irk, Irl, Irm, Irn, Iro, Irp, Irq, Nrr, Irs, dropK_eq, e1, d1, callX_known (C := C4) (g := 97) rfl, ft_call (C := C4) (g := 97) rfl, e49]
  exact Ends_plain rfl rfl
def C5 : Cfg := C4.add 72 F72
theorem ok5 : CfgOk Tryz.prog C5 := ok4.add sound72
def F55 : List AVal → Option AVal := pureF C5 1 55
theorem sound55 : Sound Tryz.prog 55 F55 := sound_self ok5 1 55
theorem F55_eq {n : Nat} (hn : n < 4294967296) : F55 [.int .i64 n, .int .i64 16] = some (sv (hexT n)) := by
  have e34 := F72_eq hn
  unfold F55
  refine pureF_of (x := x55) rfl rfl ?_
  rw [x55_eq.1, x55_eq.2.1]
  simp (disch := first | omega | simp only [go_sem, ↓reduceIte, Nra, Nrb, Nrc, Nrd, Nre, Nrf, Irg, Irh, Iri, Irj, Irk, Irl, Irm, Irn, Iro, Irp, Irq, Nrr, Irs, dropK_eq]) only [x55b, go_sem, ↓reduceIte, Nra, Nrb, Nrc, Nrd, Nre, Nrf, Irg, Irh, Iri, Irj, Irk, Irl, Irm, Irn, Iro, Irp, Irq, Nrr, Irs, dropK_eq, callX_known (C := C5) (g := 72) rfl, ft_call (C := C5) (g := 72) rfl, e34]
  exact Ends_plain rfl rfl
noncomputable def C6 : Cfg := (((C5.add 55 F55).add 40 F40).add 68 F68)
theorem ok6 : CfgOk Tryz.prog C6 := ((ok5.add sound55).add sound40).add sound68
theorem ft_slA {C : Cfg} {key : Key} {tm : Nat → AVal} {hp : Heap} {n es : Nat} {x : XArg} {lo hi : Option XArg} {k : Key} {cs : List AVal} {es' : Nat} {v : AVal} (hx : arg tm x = .ptr k 0 0 es' 0) (hk : hp k = some (.var cs)) (hn : n * es ≤ cs.length)
    (hs : slAA n es (.ptr k 0 0 es' 0) (lo.map (arg tm)) (hi.map (arg tm)) = some v) : ftV C key (.slA n es x lo hi) tm hp = (some [k], []) := by
  simp only [ftV, rdOf, opR, footP, hx, Rd.run, Rd.reads, hk, if_pos hn, hs, Rd.ofO, Rd.bind, List.map_nil]
theorem elemsA_sv (r : List UInt8) (hp : Heap) : elemsA 1 (sv r) hp = some (r.map encB) := by
  simp [elemsA, elemsR, Rd.run]
  rw [bs_data]
theorem enc_sc (w : List UInt8) : (w.map encB).all isSc = true := by
  rw [List.all_eq_true]
  intro x hx
  obtain ⟨b, _, rfl⟩ := List.mem_map.1 hx
  rfl
theorem add24 {d : Nat} {κ : Key} {hp : Heap} {nc : Nat} {p : Nat × Nat} {x : UInt8} {s : AVal} {K : AVal × Heap × Nat → Prop} (hp1 : p.1 < 65521 ∧ p.2 < 65521) (hk : hp κ = some (.var [.int .i64 p.1, .int .i64 p.2, s]))
    (hK : ∀ hp' nc', hp' κ = some (.var [.int .i64 (st1 p x).1, .int .i64 (st1 p x).2, s]) → (∀ k, k ≠ κ → hp' k = hp k) → K (.tup [], hp', nc')) :
    Bd (inlD C6 (d + 1) 98 [.ptr κ 0 0 0 0, .int .u8 x.toNat] hp nc) K := by
  obtain ⟨a, b⟩ := p
  simp only at hp1 hk
  have hx := x.toNat_lt
  have e1 : ((a : Int) + (x.toNat : Int)).tmod 65521 = (((a + x.toNat) % 65521 : Nat) : Int) := by
    have := tmodN (a + x.toNat) 65521
    rw [Int.natCast_add] at this
    exact this
  have hlt2 : (a + x.toNat) % 65521 < 65521 := Nat.mod_lt _ (by decide)
  have e2 : ((b : Int) + (((a + x.toNat) % 65521 : Nat) : Int)).tmod 65521 = (((b + (a + x.toNat) % 65521) % 65521 : Nat) : Int) := by
    have := tmodN (b + (a + x.toNat) % 65521) 65521
    rw [Int.natCast_add] at this
    exact this
  refine inl_of (x := x98) rfl rfl ?_
  rw [x98_eq.1, x98_eq.2.1]
  simp (disch := first | omega | simp only [go_sem, ↓reduceIte, Nra, Nrb, Nrc, Nrd, Nre, Nrf, Irg, Irh, Iri, Irj, Irk, Irl, Irm, Irn, Iro, Irp, Irq, Nrr, Irs, dropK_eq]) only [x98b, go_sem, ↓reduceIte, Nra, Nrb, Nrc, Nrd, Nre, Nrf, Irg, Irh, Iri, Irj, Irk, Irl, Irm, Irn, Iro, Irp, Irq, Nrr, Irs, dropK_eq, hk, e1, e2]
  refine hK _ _ (upd_same _ _ _) fun k h => ?_
  rw [upd_ne _ _ h, upd_ne _ _ h]
theorem or_sum {a b : Nat} (ha : a < 65521) (hb : b < 65521) : binA .or (.int .i64 ((65536 * b : Nat) : Int)) (.int .i64 (a : Nat)) = some (.int .i64 ((65536 * b + a : Nat) : Int)) := by
  have h1 : ∀ n : Nat, n < 18446744073709551616 → (BitVec.ofInt IntKind.i64.bits (n : Int)).toNat = n := by
    intro n hn
    have : IntKind.i64.bits = 64 := rfl
    rw [this, BitVec.toNat_ofInt]
    omega
  have hor : 65536 * b ||| a = 65536 * b + a := (Nat.two_pow_add_eq_or_of_lt (i := 16) (show a < 2 ^ 16 by omega) b).symm
  have e : binA .or (.int .i64 ((65536 * b : Nat) : Int)) (.int .i64 (a : Nat)) = some (.int .i64 (IntKind.i64.wrap ((BitVec.ofInt IntKind.i64.bits ((65536 * b : Nat) : Int) ||| BitVec.ofInt IntKind.i64.bits (a : Nat)).toNat : Int))) := rfl
  rw [e, BitVec.toNat_or, h1 _ (by omega), h1 _ (by omega), hor, wrap_i64 (by omega) (by omega)]
theorem whole25 {d : Nat} {κ : Key} {hp : Heap} {nc : Nat} {p : Nat × Nat} {s : AVal} {K : AVal × Heap × Nat → Prop} (hp1 : p.1 < 65521 ∧ p.2 < 65521) (hk : hp κ = some (.var [.int .i64 p.1, .int .i64 p.2, s]))
    (hK : ∀ nc', K (.int .i64 ((65536 * p.2 + p.1 : Nat) : Int), hp, nc')) :
    Bd (inlD C6 (d + 1) 99 [.ptr κ 0 0 0 0] hp nc) K := by
  obtain ⟨a, b⟩ := p
  simp only at hp1 hk hK
  have eo := or_sum hp1.1 hp1.2
  have es : binA .shl (.int .i64 (b : Int)) (.int .u64 16) = some (.int .i64 ((65536 * b : Nat) : Int)) := by
    have e : binA .shl (.int .i64 (b : Int)) (.int .u64 16) = some (.int .i64 (IntKind.i64.wrap ((b : Int) * 2 ^ 16))) := rfl
    rw [e, wrap_i64 (by omega) (by omega)]
    congr 2
    omega
  refine inl_of (x := x99) rfl rfl ?_
  rw [x99_eq.1, x99_eq.2.1]
  simp (disch := first | omega | simp only [go_sem, ↓reduceIte, Nra, Nrb, Nrc, Nrd, Nre, Nrf, Irg, Irh, Iri, Irj, Irk, Irl, Irm, Irn, Iro, Irp, Irq, Nrr, Irs, dropK_eq]) only [x99b, go_sem, ↓reduceIte, Nra, Nrb, Nrc, Nrd, Nre, Nrf, Irg, Irh, Iri, Irj, Irk, Irl, Irm, Irn, Iro, Irp, Irq, Nrr, Irs, dropK_eq, hk, es, eo]
  exact hK _
theorem all18 {d : Nat} {κ : Key} {hp : Heap} {nc : Nat} {l : List UInt8} {K : AVal × Heap × Nat → Prop} (hκ : κ.1 < 73000000) (hl : l.length ≤ 100000) (hk : hp κ = some (.var [.int .i64 1, .int .i64 0, sv l]))
    (hK : ∀ hp' nc', K (.int .i64 (sumN l : Nat), hp', nc')) :
    Bd (inlD C6 (d + 2) 73 [.ptr κ 0 0 0 0] hp nc) K := by
  have hkn : ∀ c, κ ≠ (73001000, c) := fun c e => by rw [e] at hκ; simp at hκ
  refine inl_of (x := x73) rfl rfl ?_
  rw [x73_eq.1, x73_eq.2.1]
  simp (disch := first | omega | simp only [go_sem, ↓reduceIte, Nra, Nrb, Nrc, Nrd, Nre, Nrf, Irg, Irh, Iri, Irj, Irk, Irl, Irm, Irn, Iro, Irp, Irq, Nrr, Irs, dropK_eq]) only [x73b, go_sem, ↓reduceIte, Nra, Nrb, Nrc, Nrd, Nre, Nrf, Irg, Irh, Iri, Irj, Irk, Irl, Irm, Irn, Iro, Irp, Irq, Nrr, Irs, dropK_eq]
  refine Ev_loopW (I := fun m tm hp nc' => ∃ (p : Nat × Nat) (r : List UInt8) (cs : List AVal), m = r.length ∧ p.1 < 65521 ∧ p.2 < 65521 ∧ hp κ = some (.var [.int .i64 p.1, .int .i64 p.2, sv r]) ∧ hp (73001000, nc + 1) = some (.var cs) ∧ cs.length = 64 ∧ sm p r = s10 l ∧ r.length ≤ 100000) (n := l.length) ?_ (by omega) ?_
  · refine ⟨(1, 0), l, _, rfl, by decide, by decide, ?_, upd_same _ _ _, rfl, rfl, hl⟩
    exact (upd_ne _ _ (hkn _)).trans hk
  · rintro m tm hp1 nc1 hc ⟨p, r, cs, rfl, b1, b2, hk1, hk2, hcs, hsm, hrl⟩
    have k0 := hc 0 rfl; have k3 := hc 3 rfl; simp only [go_sem, ↓reduceIte, Nra, Nrb, Nrc, Nrd, Nre, Nrf, Irg, Irh, Iri, Irj, Irk, Irl, Irm, Irn, Iro, Irp, Irq, Nrr, Irs, dropK_eq] at k0 k3
    by_cases h0 : r = []
    · have d1 : decide (¬ r = []) = false := decide_eq_false (by simpa using h0)
      simp (disch := first | omega | simp only [go_sem, ↓reduceIte, Nra, Nrb, Nrc, Nrd, Nre, Nrf, Irg, Irh, Iri, Irj, Irk, Irl, Irm, Irn, Iro, Irp, Irq, Nrr, Irs, dropK_eq]) only [x73l2, go_sem, ↓reduceIte, Nra, Nrb, Nrc, Nrd, Nre, Nrf, Irg, Irh, Iri, Irj, Irk, Irl, Irm, Irn, Iro, Irp, Irq, Nrr, Irs, dropK_eq, k0, k3, hk1, d1, call_inl (C := C6) (g := 99) rfl]
      refine whole25 ⟨b1, b2⟩ hk1 fun nc' => ?_
      simp (disch := first | omega | simp only [go_sem, ↓reduceIte, Nra, Nrb, Nrc, Nrd, Nre, Nrf, Irg, Irh, Iri, Irj, Irk, Irl, Irm, Irn, Iro, Irp, Irq, Nrr, Irs, dropK_eq]) only [go_sem, ↓reduceIte, Nra, Nrb, Nrc, Nrd, Nre, Nrf, Irg, Irh, Iri, Irj, Irk, Irl, Irm, Irn, Iro, Irp, Irq, Nrr, Irs, dropK_eq]
      rw [h0] at hsm
      rw [sm_nil] at hsm
      have := hK hp1 nc'
      rw [sumN, ← hsm] at this
      exact this
    · have d1 : decide (¬ r = []) = true := decide_eq_true h0
      have hsa : ∀ hp' : Heap, hp' (73001000, nc + 1) = some (.var cs) → slAH 64 1 (.ptr (73001000, nc + 1) 0 0 0 0) none none hp' = some (.sl (73001000, nc + 1) 0 1 0 64) := by
        intro hp' h
        simp only [slAH, h]
        rw [if_pos (by rw [hcs]; decide)]
        rfl
      have hft : ∀ (key : Key) (tm' : Nat → AVal), tm' 3 = .ptr (73001000, nc + 1) 0 0 0 0 → ftV C6 key (.slA 64 1 (.t 3) none none) tm' hp1 = (some [(73001000, nc + 1)], []) := fun key tm' h => ft_slA (v := .sl (73001000, nc + 1) 0 1 0 64) h hk2 (by rw [hcs]; decide) rfl
      have hwl : (r.take 64).length ≤ 64 := by simp; omega
      have hwr : (r.take 64).length ≤ r.length := by simp; omega
      have hwp : 1 ≤ (r.take 64).length := by have := List.length_pos_iff.2 h0; simp; omega
      have hdr : r = r.take 64 ++ r.drop (r.take 64).length := by
        rw [List.length_take]
        have : r.drop (min 64 r.length) = r.drop 64 := by
          rcases Nat.lt_or_ge 64 r.length with h | h
          · rw [Nat.min_eq_left (by omega)]
          · rw [Nat.min_eq_right h, List.drop_length, List.drop_of_length_le h]
        rw [this, List.take_append_drop]
      have hcp : copied 1 (73001000, nc + 1) 0 0 64 (r.map encB) (.var cs) hp1 = some (.int .i64 ((r.take 64).length : Nat), upd hp1 (73001000, nc + 1) (some (.var (splice cs 0 ((r.take 64).map encB))))) := by
        simp only [copied]
        rw [← List.map_take, if_pos ⟨trivial, trivial, by omega, enc_sc _⟩, List.length_map]
      have hcl : (splice cs 0 ((r.take 64).map encB)).length = 64 := by
        rw [splice_eq]; simp; omega
      have hcg : ∀ j, j < (r.take 64).length → (splice cs 0 ((r.take 64).map encB))[j]? = some (encB ((r.take 64).getD j 0)) := by
        intro j hj
        rw [splice_eq, List.take_zero, List.nil_append, List.getElem?_append_left (by simpa using hj), List.getElem?_map]
        rw [List.getElem?_eq_getElem hj, List.getD_eq_getElem?_getD, List.getElem?_eq_getElem hj]
        rfl
      have hsm2 : sm p r = sm (sm p (r.take 64)) (r.drop (r.take 64).length) := by
        conv => lhs; rw [hdr]
        exact sm_app _ _ _
      have hrd : (r.drop (r.take 64).length).length < r.length := by rw [List.length_drop]; omega
      have hsl2 := str_sliceFrom (l := r) (lo := (r.take 64).length) hwr
      generalize hw : r.take 64 = w at *
      generalize splice cs 0 (w.map encB) = cs' at *
      clear hdr
      have hsa2 : slAH 64 1 (.ptr (73001000, nc + 1) 0 0 0 0) none (some (.int .i64 (w.length : Nat))) (upd hp1 (73001000, nc + 1) (some (.var cs'))) = some (.sl (73001000, nc + 1) 0 1 0 w.length) := by
        simp only [slAH, upd_same]
        rw [if_pos (by rw [hcl]; decide)]
        simp [slAA, bnd]
        omega
      have hk1' : upd hp1 (73001000, nc + 1) (some (.var cs')) κ = some (.var [.int .i64 p.1, .int .i64 p.2, sv r]) := (upd_ne _ _ (hkn _)).trans hk1
      simp (disch := first | omega | simp only [go_sem, ↓reduceIte, Nra, Nrb, Nrc, Nrd, Nre, Nrf, Irg, Irh, Iri, Irj, Irk, Irl, Irm, Irn, Iro, Irp, Irq, Nrr, Irs, dropK_eq, k3]) only [x73l2, go_sem, ↓reduceIte, Nra, Nrb, Nrc, Nrd, Nre, Nrf, Irg, Irh, Iri, Irj, Irk, Irl, Irm, Irn, Iro, Irp, Irq, Nrr, Irs, dropK_eq, k0, k3, hk1, hk2, d1, hsa hp1 hk2, hft, elemsA_sv, hcp, hsa2]
      clear hft hcp hsa hsa2
      refine Ev_range (ti := 21) (len := w.length) (J := fun i tm hp' nc' => hp' κ = some (.var [.int .i64 (sm p (w.take i)).1, .int .i64 (sm p (w.take i)).2, sv r]) ∧ hp' (73001000, nc + 1) = some (.var cs')) (by omega) ?_ ?_ ?_
      · simp only [go_sem, ↓reduceIte, Nra, Nrb, Nrc, Nrd, Nre, Nrf, Irg, Irh, Iri, Irj, Irk, Irl, Irm, Irn, Iro, Irp, Irq, Nrr, Irs, dropK_eq]
      · exact ⟨hk1', upd_same _ _ _⟩
      intro i tm2 hp2 nc2 hi hc2 k21 hJ
      obtain ⟨j1, j2⟩ := hJ
      have hc := hc2
      have q0 := k0
      have q3 := k3
      have k0 := hc 0 rfl; have k3 := hc 3 rfl; have k4 := hc 4 rfl; have k19 := hc 19 rfl; have k20 := hc 20 rfl; simp only [go_sem, ↓reduceIte, Nra, Nrb, Nrc, Nrd, Nre, Nrf, Irg, Irh, Iri, Irj, Irk, Irl, Irm, Irn, Iro, Irp, Irq, Nrr, Irs, dropK_eq] at k0 k3 k4 k19 k20
      rw [q0] at k0
      rw [q3] at k3
      have hbb := sm_lt ⟨b1, b2⟩ (w.take i)
      rcases Nat.lt_or_ge i w.length with hlt | hge
      · have d2 : decide ((i : Int) < (w.length : Int)) = true := decide_eq_true (by omega)
        have hg : (cs'.drop i)[0]? = some (encB (w.getD i 0)) := by have := hcg i hlt; simpa using this
        have hbc : (Blk.var cs').cs 0 i 1 = some (cs'.drop i) := by simp [Blk.cs]
        simp (disch := first | omega | simp only [go_sem, ↓reduceIte, Nra, Nrb, Nrc, Nrd, Nre, Nrf, Irg, Irh, Iri, Irj, Irk, Irl, Irm, Irn, Iro, Irp, Irq, Nrr, Irs, dropK_eq]) only [x73l5, go_sem, ↓reduceIte, Nra, Nrb, Nrc, Nrd, Nre, Nrf, Irg, Irh, Iri, Irj, Irk, Irl, Irm, Irn, Iro, Irp, Irq, Nrr, Irs, dropK_eq, k0, k3, k19, k20, k21, j1, j2, d2, hbc, hg, Int.toNat_natCast, Nat.zero_add, Nat.mul_one, call_inl (C := C6) (g := 98) rfl]
        refine add24 hbb j1 fun hp3 nc3 g1 g2 => ?_
        simp (disch := first | omega | simp only [go_sem, ↓reduceIte, Nra, Nrb, Nrc, Nrd, Nre, Nrf, Irg, Irh, Iri, Irj, Irk, Irl, Irm, Irn, Iro, Irp, Irq, Nrr, Irs, dropK_eq]) only [go_sem, ↓reduceIte, Nra, Nrb, Nrc, Nrd, Nre, Nrf, Irg, Irh, Iri, Irj, Irk, Irl, Irm, Irn, Iro, Irp, Irq, Nrr, Irs, dropK_eq, k21]
        refine ⟨hlt, by simp, ?_, (g2 _ (fun e => hkn _ e.symm)).trans j2⟩
        rw [g1]
        have e : sm p (w.take (i + 1)) = st1 (sm p (w.take i)) (w.getD i 0) := by rw [take_snoc hlt, sm_snoc]
        rw [e]
      · obtain rfl : i = w.length := by omega
        have d2 : decide ((w.length : Int) < (w.length : Int)) = false := decide_eq_false (by omega)
        rw [List.take_length] at j1 hbb
        simp (disch := first | omega | simp only [go_sem, ↓reduceIte, Nra, Nrb, Nrc, Nrd, Nre, Nrf, Irg, Irh, Iri, Irj, Irk, Irl, Irm, Irn, Iro, Irp, Irq, Nrr, Irs, dropK_eq]) only [x73l5, go_sem, ↓reduceIte, Nra, Nrb, Nrc, Nrd, Nre, Nrf, Irg, Irh, Iri, Irj, Irk, Irl, Irm, Irn, Iro, Irp, Irq, Nrr, Irs, dropK_eq, k0, k3, k19, k20, k21, k4, j1, j2, d2, hsl2]
        have hb3 := sm_lt ⟨b1, b2⟩ w
        exact ⟨(r.drop w.length).length, hrd, sm p w, r.drop w.length, cs', rfl, hb3.1, hb3.2, rfl, by rw [if_neg (fun e => hkn _ e.symm)], hcl, by rw [← hsm2]; exact hsm, by omega⟩
noncomputable def F56 : List AVal → Option AVal := pureF C6 5 56
theorem sound56 : Sound Tryz.prog 56 F56 := sound_self ok6 5 56
theorem F56_eq {l : List UInt8} (hl : l.length ≤ 100000) : F56 [sv l] = some (.int .i64 (sumN l : Nat)) := by
  unfold F56
  refine pureF_of (x := x56) rfl rfl ?_
  rw [x56_eq.1, x56_eq.2.1]
  simp (disch := first | omega | simp only [go_sem, ↓reduceIte, Nra, Nrb, Nrc, Nrd, Nre, Nrf, Irg, Irh, Iri, Irj, Irk, Irl, Irm, Irn, Iro, Irp, Irq, Nrr, Irs, dropK_eq]) only [x56b, go_sem, ↓reduceIte, Nra, Nrb, Nrc, Nrd, Nre, Nrf, Irg, Irh, Iri, Irj, Irk, Irl, Irm, Irn, Iro, Irp, Irq, Nrr, Irs, dropK_eq, call_inl (C := C6) (g := 73) rfl]
  refine all18 (by decide) hl (upd_same _ _ _) fun hp' nc' => ?_
  simp (disch := first | omega | simp only [go_sem, ↓reduceIte, Nra, Nrb, Nrc, Nrd, Nre, Nrf, Irg, Irh, Iri, Irj, Irk, Irl, Irm, Irn, Iro, Irp, Irq, Nrr, Irs, dropK_eq]) only [go_sem, ↓reduceIte, Nra, Nrb, Nrc, Nrd, Nre, Nrf, Irg, Irh, Iri, Irj, Irk, Irl, Irm, Irn, Iro, Irp, Irq, Nrr, Irs, dropK_eq]
  exact Ends_plain rfl rfl
theorem sumN_lt (l : List UInt8) : sumN l < 4294967296 := by
  have := s10_lt l
  simp only [sumN]
  omega
/-- A line with its sum. -/
def sealV (l : List UInt8) : List UInt8 := l ++ 32 :: lowd (sumN l) 8
theorem sealV_len (l : List UInt8) : (sealV l).length = l.length + 9 := by simp [sealV, lowd_len]
noncomputable def C7 : Cfg := C6.add 56 F56
theorem ok7 : CfgOk Tryz.prog C7 := ok6.add sound56
noncomputable def F50 : List AVal → Option AVal := pureF C7 1 50
theorem sound50 : Sound Tryz.prog 50 F50 := sound_self ok7 1 50
theorem F50_eq {l : List UInt8} (hl : l.length ≤ 100000) : F50 [sv l] = some (sv (sealV l)) := by
  have e10 := F69_eq hl
  have e19 := F68_eq (n := sumN l) (by have := sumN_lt l; omega)
  have hd8 := lowd_len (sumN l) 8
  have e : sealV l = l ++ [32] ++ lowd (sumN l) 8 := by simp [sealV]
  rw [e]
  generalize lowd (sumN l) 8 = w at *
  have l1 : l.length + 1 < 9223372036854775808 := by omega
  have l2 : l.length + 1 + w.length < 9223372036854775808 := by omega
  unfold F50
  refine pureF_of (x := x50) rfl rfl ?_
  rw [x50_eq.1, x50_eq.2.1]
  simp (disch := first | omega | simp only [go_sem, ↓reduceIte, Nra, Nrb, Nrc, Nrd, Nre, Nrf, Irg, Irh, Iri, Irj, Irk, Irl, Irm, Irn, Iro, Irp, Irq, Nrr, Irs, dropK_eq]) only [x50b, go_sem, ↓reduceIte, Nra, Nrb, Nrc, Nrd, Nre, Nrf, Irg, Irh, Iri, Irj, Irk, Irl, Irm, Irn, Iro, Irp, Irq, Nrr, Irs, dropK_eq, callX_known (C := C7) (g := 69) rfl, ft_call (C := C7) (g := 69) rfl, callX_known (C := C7) (g := 68) rfl, ft_call (C := C7) (g := 68) rfl, e10, e19, if_pos l1, if_pos l2]
  exact Ends_plain rfl rfl
theorem repeat48 : ∀ k, Lib.repeatL [48] k = List.replicate k 48
  | 0 => rfl
  | k + 1 => by rw [Lib.repeatL, repeat48 k]; rfl
noncomputable def F41 : List AVal → Option AVal := pureF C7 1 41
theorem sound41 : Sound Tryz.prog 41 F41 := sound_self ok7 1 41
theorem F41_eq {l : List UInt8} (hl : l.length ≤ 100000) : F41 [sv l] = some (sv (sealV l)) := by
  have hs := sumN_lt l
  have e9 := F56_eq hl
  have e22 := F55_eq hs
  have hxl := hexT_len 7 (sumN l) (by simpa using hs)
  have hlow := lowd_hex 7 (sumN l) (by simpa using hs)
  have e : sealV l = l ++ [32] ++ List.replicate (8 - (hexT (sumN l)).length) 48 ++ hexT (sumN l) := by
    rw [sealV, show (8 : Nat) = 7 + 1 by rfl, hlow]; simp
  rw [e]
  generalize hexT (sumN l) = h at *
  have er : F_repeat [sv [48], .int .i64 (8 - (h.length : Int))] = some (sv (List.replicate (8 - h.length) 48)) := by
    have ek : (8 - (h.length : Int)).toNat = 8 - h.length := by omega
    have hsz : (bs [48]).size ≤ 1000000 := by rw [bs_size]; simp
    have hc : 0 ≤ 8 - (h.length : Int) ∧ 8 - (h.length : Int) ≤ 1000000 ∧ (bs [48]).size ≤ 1000000 := ⟨by omega, by omega, hsz⟩
    have e0 : F_repeat [sv [48], .int .i64 (8 - (h.length : Int))] = if 0 ≤ 8 - (h.length : Int) ∧ 8 - (h.length : Int) ≤ 1000000 ∧ (bs [48]).size ≤ 1000000 then some (sv (Lib.repeatL (bs [48]).data.toList (8 - (h.length : Int)).toNat)) else none := rfl
    rw [e0, if_pos hc, bs_data, ek, repeat48]
  have l1 : l.length + 1 < 9223372036854775808 := by omega
  have l2 : l.length + 1 + (List.replicate (8 - h.length) (48 : UInt8)).length < 9223372036854775808 := by simp; omega
  have l3 : l.length + 1 + (List.replicate (8 - h.length) (48 : UInt8)).length + h.length < 9223372036854775808 := by simp; omega
  generalize List.replicate (8 - h.length) (48 : UInt8) = z at *
  unfold F41
  refine pureF_of (x := x41) rfl rfl ?_
  rw [x41_eq.1, x41_eq.2.1]
  simp (disch := first | omega | simp only [go_sem, ↓reduceIte, Nra, Nrb, Nrc, Nrd, Nre, Nrf, Irg, Irh, Iri, Irj, Irk, Irl, Irm, Irn, Iro, Irp, Irq, Nrr, Irs, dropK_eq]) only [x41b, go_sem, ↓reduceIte, Nra, Nrb, Nrc, Nrd, Nre, Nrf, Irg, Irh, Iri, Irj, Irk, Irl, Irm, Irn, Iro, Irp, Irq, Nrr, Irs, dropK_eq, callX_known (C := C7) (g := 56) rfl, ft_call (C := C7) (g := 56) rfl, callX_known (C := C7) (g := 55) rfl, ft_call (C := C7) (g := 55) rfl, callX_known (C := C7) (g := 57) rfl, ft_call (C := C7) (g := 57) rfl, e9, e22, er, if_pos l1, if_pos l2, if_pos l3]
  exact Ends_plain rfl rfl
noncomputable def C8 : Cfg := (C7.add 50 F50).add 41 F41
theorem ok8 : CfgOk Tryz.prog C8 := (ok7.add sound50).add sound41
noncomputable def F27 : List AVal → Option AVal := pureF C8 1 27
theorem sound27 : Sound Tryz.prog 27 F27 := sound_self ok8 1 27
/-- What comes of a line. -/
def tellV (l : List UInt8) : AVal := if lineOk l then .tup [sv (sealV l), .int .i64 0] else .tup [sv [], .int .i64 1]
theorem F27_eq {l : List UInt8} (hl : l.length ≤ 100000) : F27 [sv l] = some (tellV l) := by
  have e16 := F40_eq hl
  have e17 := F41_eq hl
  unfold F27
  refine pureF_of (x := x27) rfl rfl ?_
  rw [x27_eq.1, x27_eq.2.1]
  unfold tellV
  by_cases h : lineOk l
  · rw [decide_eq_true h] at e16
    rw [if_pos h]
    simp (disch := first | omega | simp only [go_sem, ↓reduceIte, Nra, Nrb, Nrc, Nrd, Nre, Nrf, Irg, Irh, Iri, Irj, Irk, Irl, Irm, Irn, Iro, Irp, Irq, Nrr, Irs, dropK_eq]) only [x27b, go_sem, ↓reduceIte, Nra, Nrb, Nrc, Nrd, Nre, Nrf, Irg, Irh, Iri, Irj, Irk, Irl, Irm, Irn, Iro, Irp, Irq, Nrr, Irs, dropK_eq, callX_known (C := C8) (g := 40) rfl, ft_call (C := C8) (g := 40) rfl, callX_known (C := C8) (g := 41) rfl, ft_call (C := C8) (g := 41) rfl, e16, e17]
    exact Ends_plain rfl rfl
  · rw [decide_eq_false h] at e16
    rw [if_neg h]
    simp (disch := first | omega | simp only [go_sem, ↓reduceIte, Nra, Nrb, Nrc, Nrd, Nre, Nrf, Irg, Irh, Iri, Irj, Irk, Irl, Irm, Irn, Iro, Irp, Irq, Nrr, Irs, dropK_eq]) only [x27b, go_sem, ↓reduceIte, Nra, Nrb, Nrc, Nrd, Nre, Nrf, Irg, Irh, Iri, Irj, Irk, Irl, Irm, Irn, Iro, Irp, Irq, Nrr, Irs, dropK_eq, callX_known (C := C8) (g := 40) rfl, ft_call (C := C8) (g := 40) rfl, callX_known (C := C8) (g := 41) rfl, ft_call (C := C8) (g := 41) rfl, e16, e17]
    exact Ends_plain rfl rfl
noncomputable def C9 : Cfg := C8.add 27 F27
theorem ok9 : CfgOk Tryz.prog C9 := ok8.add sound27
noncomputable def C10 : Cfg := C9
theorem ok10 : CfgOk Tryz.prog C10 := ok9
abbrev hexB (b : UInt8) : Prop := (48 ≤ (b.toNat : Int) ∧ (b.toNat : Int) ≤ 57) ∨ (97 ≤ (b.toNat : Int) ∧ (b.toNat : Int) ≤ 102)
theorem drop_head {p : UInt8 → Bool} : ∀ {l : List UInt8} {h : UInt8} {t : List UInt8}, l.dropWhile p = h :: t → p h = false
  | [], h, t, e => by simp at e
  | b :: l, h, t, e => by
    rw [List.dropWhile_cons] at e
    split at e
    · exact drop_head e
    · rename_i hp
      cases e
      simpa using hp
theorem drop_nil {p : UInt8 → Bool} : ∀ {l : List UInt8}, l.dropWhile p = [] ↔ ∀ b ∈ l, p b = true
  | [] => by simp
  | b :: l => by
    rw [List.dropWhile_cons]
    split
    · rename_i hp
      rw [drop_nil]
      simp [hp]
    · rename_i hp
      constructor
      · intro e; cases e
      · intro h; exact absurd (h b (by simp)) hp
theorem trim_nil (l cs : List UInt8) : Lib.trimS l cs = [] ↔ ∀ b ∈ l, cs.contains b = true := by
  unfold Lib.trimS Lib.trimLeftS Lib.trimRightS
  rw [drop_nil]
  constructor
  · intro h
    cases hr : l.reverse.dropWhile (cs.contains ·) with
    | nil =>
      intro b hb
      exact drop_nil.1 hr b (List.mem_reverse.2 hb)
    | cons c r =>
      have h1 := drop_head hr
      have h2 := h c (by rw [hr]; simp)
      rw [h2] at h1
      cases h1
  · intro h
    have : l.reverse.dropWhile (cs.contains ·) = [] := drop_nil.2 fun b hb => h b (List.mem_reverse.1 hb)
    rw [this]
    intro b hb
    simp at hb
theorem hex_mem (b : UInt8) : hexs.contains b = decide (hexB b) := by
  have h : ∀ n : Fin 256, hexs.contains (UInt8.ofNat n.val) = decide (hexB (UInt8.ofNat n.val)) := by decide
  have := h ⟨b.toNat, b.toNat_lt⟩
  simpa using this
/-- A text that may be a line and its sum. -/
abbrev formed (s : List UInt8) (n : Nat) : Prop := ((s.getD n 0).toNat : Int) = 32 ∧ lineOk (s.take n) ∧ ∀ b ∈ s.drop (n + 1), hexB b
def openN (s : List UInt8) (n : Nat) : AVal :=
  if ¬ formed s n then .tup [sv [], .int .i64 14] else if ¬ sealV (s.take n) = s then .tup [sv [], .int .i64 13] else .tup [sv (s.take n), .int .i64 0]
def openV (s : List UInt8) : AVal := if s.length < 9 then .tup [sv [], .int .i64 14] else openN s (s.length - 9)
noncomputable def F47 : List AVal → Option AVal := pureF C10 1 47
theorem sound47 : Sound Tryz.prog 47 F47 := sound_self ok10 1 47
theorem F47_eq {s : List UInt8} (hs : s.length ≤ 100000) : F47 [sv s] = some (openV s) := by
  unfold F47
  refine pureF_of (x := x47) rfl rfl ?_
  rw [x47_eq.1, x47_eq.2.1]
  unfold openV
  by_cases h9 : s.length < 9
  · have d1 : decide ((s.length : Int) - 9 < 0) = true := decide_eq_true (by omega)
    rw [if_pos h9]
    simp (disch := first | omega | simp only [go_sem, ↓reduceIte, Nra, Nrb, Nrc, Nrd, Nre, Nrf, Irg, Irh, Iri, Irj, Irk, Irl, Irm, Irn, Iro, Irp, Irq, Nrr, Irs, dropK_eq]) only [x47b, go_sem, ↓reduceIte, Nra, Nrb, Nrc, Nrd, Nre, Nrf, Irg, Irh, Iri, Irj, Irk, Irl, Irm, Irn, Iro, Irp, Irq, Nrr, Irs, dropK_eq, d1]
    exact Ends_plain rfl rfl
  · rw [if_neg h9]
    obtain ⟨n, hn⟩ : ∃ n, s.length = n + 9 := ⟨s.length - 9, by omega⟩
    have en : s.length - 9 = n := by omega
    have ei : (s.length : Int) - 9 = (n : Int) := by omega
    have d1 : decide ((n : Int) < 0) = false := decide_eq_false (by omega)
    have ix := str_ixN .i64 (l := s) (i := n) (by omega)
    have hs1 := str_sliceTo (l := s) (hi := n) (by omega)
    have hs2 := str_sliceFrom (l := s) (lo := n + 1) (by omega)
    rw [Int.natCast_add, Int.natCast_one] at hs2
    have hl : (s.take n).length ≤ 100000 := by simp; omega
    have e16 := F40_eq hl
    have e17 := F41_eq hl
    have ht := trim_nil (s.drop (n + 1)) hexs
    have e20 : F_trim [sv (s.drop (n + 1)), sv hexs] = some (sv (Lib.trimS (s.drop (n + 1)) hexs)) := by
      have e0 : F_trim [sv (s.drop (n + 1)), sv hexs] = if (bs (s.drop (n + 1))).size ≤ 1000000 ∧ (bs hexs).size ≤ 1000000 ∧ (bs hexs).data.toList.all (fun b => decide (b.toNat < 128)) = true then some (sv (Lib.trimS (bs (s.drop (n + 1))).data.toList (bs hexs).data.toList)) else none := rfl
      have hc : (bs (s.drop (n + 1))).size ≤ 1000000 ∧ (bs hexs).size ≤ 1000000 ∧ (bs hexs).data.toList.all (fun b => decide (b.toNat < 128)) = true := ⟨by rw [bs_size, List.length_drop]; omega, by rw [bs_size]; decide, by rw [bs_data]; decide⟩
      rw [e0, if_pos hc, bs_data, bs_data]
    rw [en]
    unfold openN
    have hall : (∀ b ∈ s.drop (n + 1), hexB b) ↔ Lib.trimS (s.drop (n + 1)) hexs = [] := by
      rw [ht]
      constructor
      · intro h b hb; rw [hex_mem]; exact decide_eq_true (h b hb)
      · intro h b hb; have := h b hb; rw [hex_mem] at this; exact of_decide_eq_true this
    simp only [hexs] at e20
    by_cases c1 : ((s.getD n 0).toNat : Int) = 32
    · have d2 : decide (¬ ((s.getD n 0).toNat : Int) = 32) = false := decide_eq_false (by simpa using c1)
      by_cases c2 : lineOk (s.take n)
      · rw [decide_eq_true c2] at e16
        by_cases c3 : ∀ b ∈ s.drop (n + 1), hexB b
        · have d3 : (Lib.trimS (s.drop (n + 1)) hexs = []) = True := eq_true (hall.1 c3)
          simp only [hexs] at d3
          rw [if_neg (fun h => h ⟨c1, c2, c3⟩)]
          by_cases c4 : sealV (s.take n) = s
          · have d4 : decide (¬ sealV (s.take n) = s) = false := decide_eq_false (by simpa using c4)
            rw [if_neg (by simpa using c4)]
            simp (disch := first | omega | simp only [go_sem, ↓reduceIte, Nra, Nrb, Nrc, Nrd, Nre, Nrf, Irg, Irh, Iri, Irj, Irk, Irl, Irm, Irn, Iro, Irp, Irq, Nrr, Irs, dropK_eq]) only [x47b, go_sem, ↓reduceIte, Nra, Nrb, Nrc, Nrd, Nre, Nrf, Irg, Irh, Iri, Irj, Irk, Irl, Irm, Irn, Iro, Irp, Irq, Nrr, Irs, dropK_eq, ei, d1, ix, d2, hs1, hs2, d3, not_true_eq_false, not_false_eq_true, decide_true, decide_false, d4, callX_known (C := C10) (g := 40) rfl, ft_call (C := C10) (g := 40) rfl, callX_known (C := C10) (g := 41) rfl, ft_call (C := C10) (g := 41) rfl, callX_known (C := C10) (g := 65) rfl, ft_call (C := C10) (g := 65) rfl, e16, e17, e20]
            exact Ends_plain rfl rfl
          · have d4 : decide (¬ sealV (s.take n) = s) = true := decide_eq_true c4
            rw [if_pos c4]
            simp (disch := first | omega | simp only [go_sem, ↓reduceIte, Nra, Nrb, Nrc, Nrd, Nre, Nrf, Irg, Irh, Iri, Irj, Irk, Irl, Irm, Irn, Iro, Irp, Irq, Nrr, Irs, dropK_eq]) only [x47b, go_sem, ↓reduceIte, Nra, Nrb, Nrc, Nrd, Nre, Nrf, Irg, Irh, Iri, Irj, Irk, Irl, Irm, Irn, Iro, Irp, Irq, Nrr, Irs, dropK_eq, ei, d1, ix, d2, hs1, hs2, d3, not_true_eq_false, not_false_eq_true, decide_true, decide_false, d4, callX_known (C := C10) (g := 40) rfl, ft_call (C := C10) (g := 40) rfl, callX_known (C := C10) (g := 41) rfl, ft_call (C := C10) (g := 41) rfl, callX_known (C := C10) (g := 65) rfl, ft_call (C := C10) (g := 65) rfl, e16, e17, e20]
            exact Ends_plain rfl rfl
        · have d3 : (Lib.trimS (s.drop (n + 1)) hexs = []) = False := eq_false (fun e => c3 (hall.2 e))
          simp only [hexs] at d3
          rw [if_pos (fun h => c3 h.2.2)]
          simp (disch := first | omega | simp only [go_sem, ↓reduceIte, Nra, Nrb, Nrc, Nrd, Nre, Nrf, Irg, Irh, Iri, Irj, Irk, Irl, Irm, Irn, Iro, Irp, Irq, Nrr, Irs, dropK_eq]) only [x47b, go_sem, ↓reduceIte, Nra, Nrb, Nrc, Nrd, Nre, Nrf, Irg, Irh, Iri, Irj, Irk, Irl, Irm, Irn, Iro, Irp, Irq, Nrr, Irs, dropK_eq, ei, d1, ix, d2, hs1, hs2, d3, not_true_eq_false, not_false_eq_true, decide_true, decide_false, callX_known (C := C10) (g := 40) rfl, ft_call (C := C10) (g := 40) rfl, callX_known (C := C10) (g := 41) rfl, ft_call (C := C10) (g := 41) rfl, callX_known (C := C10) (g := 65) rfl, ft_call (C := C10) (g := 65) rfl, e16, e17, e20]
          exact Ends_plain rfl rfl
      · rw [decide_eq_false c2] at e16
        rw [if_pos (fun h => c2 h.2.1)]
        simp (disch := first | omega | simp only [go_sem, ↓reduceIte, Nra, Nrb, Nrc, Nrd, Nre, Nrf, Irg, Irh, Iri, Irj, Irk, Irl, Irm, Irn, Iro, Irp, Irq, Nrr, Irs, dropK_eq]) only [x47b, go_sem, ↓reduceIte, Nra, Nrb, Nrc, Nrd, Nre, Nrf, Irg, Irh, Iri, Irj, Irk, Irl, Irm, Irn, Iro, Irp, Irq, Nrr, Irs, dropK_eq, ei, d1, ix, d2, hs1, callX_known (C := C10) (g := 40) rfl, ft_call (C := C10) (g := 40) rfl, e16]
        exact Ends_plain rfl rfl
    · have d2 : decide (¬ ((s.getD n 0).toNat : Int) = 32) = true := decide_eq_true c1
      rw [if_pos (fun h => c1 h.1)]
      simp (disch := first | omega | simp only [go_sem, ↓reduceIte, Nra, Nrb, Nrc, Nrd, Nre, Nrf, Irg, Irh, Iri, Irj, Irk, Irl, Irm, Irn, Iro, Irp, Irq, Nrr, Irs, dropK_eq]) only [x47b, go_sem, ↓reduceIte, Nra, Nrb, Nrc, Nrd, Nre, Nrf, Irg, Irh, Iri, Irj, Irk, Irl, Irm, Irn, Iro, Irp, Irq, Nrr, Irs, dropK_eq, ei, d1, ix, d2]
      exact Ends_plain rfl rfl
noncomputable def F37 : List AVal → Option AVal := pureF C10 1 37
theorem sound37 : Sound Tryz.prog 37 F37 := sound_self ok10 1 37
theorem F37_eq {s : List UInt8} (hs : s.length ≤ 100000) : F37 [sv s] = some (openV s) := by
  unfold F37
  refine pureF_of (x := x37) rfl rfl ?_
  rw [x37_eq.1, x37_eq.2.1]
  unfold openV
  by_cases h9 : s.length < 9
  · have d1 : decide ((s.length : Int) - 9 < 0) = true := decide_eq_true (by omega)
    rw [if_pos h9]
    simp (disch := first | omega | simp only [go_sem, ↓reduceIte, Nra, Nrb, Nrc, Nrd, Nre, Nrf, Irg, Irh, Iri, Irj, Irk, Irl, Irm, Irn, Iro, Irp, Irq, Nrr, Irs, dropK_eq]) only [x37b, go_sem, ↓reduceIte, Nra, Nrb, Nrc, Nrd, Nre, Nrf, Irg, Irh, Iri, Irj, Irk, Irl, Irm, Irn, Iro, Irp, Irq, Nrr, Irs, dropK_eq, d1]
    exact Ends_plain rfl rfl
  · rw [if_neg h9]
    obtain ⟨n, hn⟩ : ∃ n, s.length = n + 9 := ⟨s.length - 9, by omega⟩
    have en : s.length - 9 = n := by omega
    have ei : (s.length : Int) - 9 = (n : Int) := by omega
    have d1 : decide ((n : Int) < 0) = false := decide_eq_false (by omega)
    have ix := str_ixN .i64 (l := s) (i := n) (by omega)
    have hs1 := str_sliceTo (l := s) (hi := n) (by omega)
    have hl : (s.take n).length ≤ 100000 := by simp; omega
    have e12 := F52_eq hl
    have e13 := F50_eq hl
    rw [en]
    unfold openN
    by_cases c1 : ((s.getD n 0).toNat : Int) = 32
    · have d2 : decide (¬ ((s.getD n 0).toNat : Int) = 32) = false := decide_eq_false (by simpa using c1)
      by_cases c2 : lineOk (s.take n)
      · rw [decide_eq_true c2] at e12
        simp (disch := first | omega | simp only [go_sem, ↓reduceIte, Nra, Nrb, Nrc, Nrd, Nre, Nrf, Irg, Irh, Iri, Irj, Irk, Irl, Irm, Irn, Iro, Irp, Irq, Nrr, Irs, dropK_eq]) only [x37b, go_sem, ↓reduceIte, Nra, Nrb, Nrc, Nrd, Nre, Nrf, Irg, Irh, Iri, Irj, Irk, Irl, Irm, Irn, Iro, Irp, Irq, Nrr, Irs, dropK_eq, ei, d1, ix, d2, hs1, callX_known (C := C10) (g := 52) rfl, ft_call (C := C10) (g := 52) rfl, e12]
        refine Ev_loopW (I := fun m tm hp nc => ∃ e : Nat, n + 1 ≤ e ∧ e ≤ s.length ∧ m = s.length - e ∧ tm 5 = .int .i64 e ∧ ∀ j, n + 1 ≤ j → j < e → hexB (s.getD j 0)) (n := s.length - (n + 1)) ?_ (by omega) ?_
        · refine ⟨n + 1, by omega, by omega, rfl, ?_, fun j h1 h2 => by omega⟩
          simp only [go_sem, ↓reduceIte, Nra, Nrb, Nrc, Nrd, Nre, Nrf, Irg, Irh, Iri, Irj, Irk, Irl, Irm, Irn, Iro, Irp, Irq, Nrr, Irs, dropK_eq]
          rfl
        · rintro m tm hp nc hc ⟨e, h1, h2, rfl, k5, hj⟩
          have k0 := hc 0 rfl; have k4 := hc 4 rfl; simp only [go_sem, ↓reduceIte, Nra, Nrb, Nrc, Nrd, Nre, Nrf, Irg, Irh, Iri, Irj, Irk, Irl, Irm, Irn, Iro, Irp, Irq, Nrr, Irs, dropK_eq] at k0 k4
          rcases Nat.lt_or_ge e s.length with hlt | hge
          · have d3 : decide ((e : Int) < (s.length : Int)) = true := decide_eq_true (by omega)
            have ix2 := str_ixN .i64 hlt
            have hstep : hexB (s.getD e 0) → ∀ j, n + 1 ≤ j → j < e + 1 → hexB (s.getD j 0) := by
              intro hb j g1 g2
              by_cases ee : j = e
              · rw [ee]; exact hb
              · exact hj j g1 (by omega)
            have hbad : ¬ hexB (s.getD e 0) → ¬ formed s n := by
              intro hb hf
              refine hb (hf.2.2 _ ?_)
              rw [List.getD_eq_getElem?_getD, List.getElem?_eq_getElem hlt]
              have : s[e] = (s.drop (n + 1))[e - (n + 1)]'(by simp; omega) := by
                rw [List.getElem_drop]
                congr 1
                omega
              simp only [Option.getD_some]
              rw [this]
              exact List.getElem_mem _
            generalize hbv : ((s.getD e 0).toNat : Int) = bv at *
            by_cases a1 : 48 ≤ bv
            · have f1 := decide_eq_true a1
              by_cases a2 : bv ≤ 57
              · have f2 := decide_eq_true a2
                have HB : hexB (s.getD e 0) := by simp only [hexB, hbv]; omega
                simp (disch := first | omega | simp only [go_sem, ↓reduceIte, Nra, Nrb, Nrc, Nrd, Nre, Nrf, Irg, Irh, Iri, Irj, Irk, Irl, Irm, Irn, Iro, Irp, Irq, Nrr, Irs, dropK_eq]) only [x37l5, go_sem, ↓reduceIte, Nra, Nrb, Nrc, Nrd, Nre, Nrf, Irg, Irh, Iri, Irj, Irk, Irl, Irm, Irn, Iro, Irp, Irq, Nrr, Irs, dropK_eq, k0, k4, k5, d3, ix2, f1, f2]
                exact ⟨s.length - (e + 1), by omega, e + 1, by omega, by omega, rfl, by simp, hstep HB⟩
              · have f2 := decide_eq_false a2
                by_cases a3 : 97 ≤ bv
                · have f3 := decide_eq_true a3
                  by_cases a4 : bv ≤ 102
                  · have f4 := decide_eq_true a4
                    have HB : hexB (s.getD e 0) := by simp only [hexB, hbv]; omega
                    simp (disch := first | omega | simp only [go_sem, ↓reduceIte, Nra, Nrb, Nrc, Nrd, Nre, Nrf, Irg, Irh, Iri, Irj, Irk, Irl, Irm, Irn, Iro, Irp, Irq, Nrr, Irs, dropK_eq]) only [x37l5, go_sem, ↓reduceIte, Nra, Nrb, Nrc, Nrd, Nre, Nrf, Irg, Irh, Iri, Irj, Irk, Irl, Irm, Irn, Iro, Irp, Irq, Nrr, Irs, dropK_eq, k0, k4, k5, d3, ix2, f1, f2, f3, f4]
                    exact ⟨s.length - (e + 1), by omega, e + 1, by omega, by omega, rfl, by simp, hstep HB⟩
                  · have f4 := decide_eq_false a4
                    rw [if_pos (hbad (by simp only [hexB, hbv]; omega))]
                    simp (disch := first | omega | simp only [go_sem, ↓reduceIte, Nra, Nrb, Nrc, Nrd, Nre, Nrf, Irg, Irh, Iri, Irj, Irk, Irl, Irm, Irn, Iro, Irp, Irq, Nrr, Irs, dropK_eq]) only [x37l5, go_sem, ↓reduceIte, Nra, Nrb, Nrc, Nrd, Nre, Nrf, Irg, Irh, Iri, Irj, Irk, Irl, Irm, Irn, Iro, Irp, Irq, Nrr, Irs, dropK_eq, k0, k4, k5, d3, ix2, f1, f2, f3, f4]
                    exact Ends_plain rfl rfl
                · have f3 := decide_eq_false a3
                  rw [if_pos (hbad (by simp only [hexB, hbv]; omega))]
                  simp (disch := first | omega | simp only [go_sem, ↓reduceIte, Nra, Nrb, Nrc, Nrd, Nre, Nrf, Irg, Irh, Iri, Irj, Irk, Irl, Irm, Irn, Iro, Irp, Irq, Nrr, Irs, dropK_eq]) only [x37l5, go_sem, ↓reduceIte, Nra, Nrb, Nrc, Nrd, Nre, Nrf, Irg, Irh, Iri, Irj, Irk, Irl, Irm, Irn, Iro, Irp, Irq, Nrr, Irs, dropK_eq, k0, k4, k5, d3, ix2, f1, f2, f3]
                  exact Ends_plain rfl rfl
            · have f1 := decide_eq_false a1
              have f3 : decide ((97 : Int) ≤ bv) = false := decide_eq_false (by omega)
              rw [if_pos (hbad (by simp only [hexB, hbv]; omega))]
              simp (disch := first | omega | simp only [go_sem, ↓reduceIte, Nra, Nrb, Nrc, Nrd, Nre, Nrf, Irg, Irh, Iri, Irj, Irk, Irl, Irm, Irn, Iro, Irp, Irq, Nrr, Irs, dropK_eq]) only [x37l5, go_sem, ↓reduceIte, Nra, Nrb, Nrc, Nrd, Nre, Nrf, Irg, Irh, Iri, Irj, Irk, Irl, Irm, Irn, Iro, Irp, Irq, Nrr, Irs, dropK_eq, k0, k4, k5, d3, ix2, f1, f3]
              exact Ends_plain rfl rfl
          · obtain rfl : e = s.length := by omega
            have d3 : decide ((s.length : Int) < (s.length : Int)) = false := decide_eq_false (by omega)
            have c3 : ∀ b ∈ s.drop (n + 1), hexB b := by
              intro b hb
              obtain ⟨i, hi, rfl⟩ := List.getElem_of_mem hb
              rw [List.length_drop] at hi
              have := hj (n + 1 + i) (by omega) (by omega)
              rw [List.getElem_drop]
              simpa [List.getD_eq_getElem?_getD, List.getElem?_eq_getElem (show n + 1 + i < s.length by omega)] using this
            rw [if_neg (fun h => h ⟨c1, c2, c3⟩)]
            by_cases c4 : sealV (s.take n) = s
            · have d4 : decide (¬ sealV (s.take n) = s) = false := decide_eq_false (by simpa using c4)
              rw [if_neg (by simpa using c4)]
              simp (disch := first | omega | simp only [go_sem, ↓reduceIte, Nra, Nrb, Nrc, Nrd, Nre, Nrf, Irg, Irh, Iri, Irj, Irk, Irl, Irm, Irn, Iro, Irp, Irq, Nrr, Irs, dropK_eq]) only [x37l5, go_sem, ↓reduceIte, Nra, Nrb, Nrc, Nrd, Nre, Nrf, Irg, Irh, Iri, Irj, Irk, Irl, Irm, Irn, Iro, Irp, Irq, Nrr, Irs, dropK_eq, k0, k4, k5, d3, d4, hs1, callX_known (C := C10) (g := 50) rfl, ft_call (C := C10) (g := 50) rfl, e13]
              exact Ends_plain rfl rfl
            · have d4 : decide (¬ sealV (s.take n) = s) = true := decide_eq_true c4
              rw [if_pos c4]
              simp (disch := first | omega | simp only [go_sem, ↓reduceIte, Nra, Nrb, Nrc, Nrd, Nre, Nrf, Irg, Irh, Iri, Irj, Irk, Irl, Irm, Irn, Iro, Irp, Irq, Nrr, Irs, dropK_eq]) only [x37l5, go_sem, ↓reduceIte, Nra, Nrb, Nrc, Nrd, Nre, Nrf, Irg, Irh, Iri, Irj, Irk, Irl, Irm, Irn, Iro, Irp, Irq, Nrr, Irs, dropK_eq, k0, k4, k5, d3, d4, hs1, callX_known (C := C10) (g := 50) rfl, ft_call (C := C10) (g := 50) rfl, e13]
              exact Ends_plain rfl rfl
      · rw [decide_eq_false c2] at e12
        rw [if_pos (fun h => c2 h.2.1)]
        simp (disch := first | omega | simp only [go_sem, ↓reduceIte, Nra, Nrb, Nrc, Nrd, Nre, Nrf, Irg, Irh, Iri, Irj, Irk, Irl, Irm, Irn, Iro, Irp, Irq, Nrr, Irs, dropK_eq]) only [x37b, go_sem, ↓reduceIte, Nra, Nrb, Nrc, Nrd, Nre, Nrf, Irg, Irh, Iri, Irj, Irk, Irl, Irm, Irn, Iro, Irp, Irq, Nrr, Irs, dropK_eq, ei, d1, ix, d2, hs1, callX_known (C := C10) (g := 52) rfl, ft_call (C := C10) (g := 52) rfl, e12]
        exact Ends_plain rfl rfl
    · have d2 : decide (¬ ((s.getD n 0).toNat : Int) = 32) = true := decide_eq_true c1
      rw [if_pos (fun h => c1 h.1)]
      simp (disch := first | omega | simp only [go_sem, ↓reduceIte, Nra, Nrb, Nrc, Nrd, Nre, Nrf, Irg, Irh, Iri, Irj, Irk, Irl, Irm, Irn, Iro, Irp, Irq, Nrr, Irs, dropK_eq]) only [x37b, go_sem, ↓reduceIte, Nra, Nrb, Nrc, Nrd, Nre, Nrf, Irg, Irh, Iri, Irj, Irk, Irl, Irm, Irn, Iro, Irp, Irq, Nrr, Irs, dropK_eq, ei, d1, ix, d2]
      exact Ends_plain rfl rfl
/-- What is opened, as a pair. -/
theorem openV_tup (s : List UInt8) : ∃ (o : List UInt8) (e : Int), openV s = .tup [sv o, .int .i64 e] ∧ ((e = 0 ∧ lineOk o ∧ sealV o = s) ∨ (¬ e = 0 ∧ o = [])) := by
  unfold openV openN
  by_cases h9 : s.length < 9
  · rw [if_pos h9]; exact ⟨_, _, rfl, .inr ⟨by decide, rfl⟩⟩
  · rw [if_neg h9]
    by_cases h1 : formed s (s.length - 9)
    · rw [if_neg (fun h => h h1)]
      by_cases h2 : sealV (s.take (s.length - 9)) = s
      · rw [if_neg (fun h => h h2)]; exact ⟨_, _, rfl, .inl ⟨rfl, h1.2.1, h2⟩⟩
      · rw [if_pos h2]; exact ⟨_, _, rfl, .inr ⟨by decide, rfl⟩⟩
    · rw [if_pos h1]; exact ⟨_, _, rfl, .inr ⟨by decide, rfl⟩⟩
theorem hd_hex : ∀ d < 16, hexB (hd d) := by decide
theorem lowd_hexB (n : Nat) : ∀ i, ∀ b ∈ lowd n i, hexB b
  | 0, b, h => by simp [lowd] at h
  | i + 1, b, h => by
    rw [lowd] at h
    rcases List.mem_cons.1 h with rfl | h
    · exact hd_hex _ (Nat.mod_lt _ (by decide))
    · exact lowd_hexB n i b h
theorem open_back {l : List UInt8} (h : lineOk l) : openV (sealV l) = .tup [sv l, .int .i64 0] := by
  have hlen := sealV_len l
  have hn : (sealV l).length - 9 = l.length := by omega
  have ht : (sealV l).take l.length = l := by unfold sealV; exact List.take_left
  have hg : (sealV l).getD l.length 0 = 32 := by unfold sealV; simp [List.getD_eq_getElem?_getD]
  have hd' : (sealV l).drop (l.length + 1) = lowd (sumN l) 8 := by
    unfold sealV
    rw [← List.drop_drop, List.drop_left]
    rfl
  unfold openV openN
  rw [if_neg (by omega), hn, if_neg, ht, if_neg (fun h => h rfl)]
  intro hf
  refine hf ⟨by rw [hg]; rfl, by rw [ht]; exact h, ?_⟩
  rw [hd']
  exact lowd_hexB _ _

end Go.Proofs.YtaoodcnhmjokoaaGreatDoor.L
