/-
  Texts that are cut; rows of numbers; what a journal's text is: the document's.
-/
import Derived.Test.YtaoodcnhmjokoaaGreatDoorYU
set_option linter.unusedVariables false
set_option linter.unusedSimpArgs false
namespace Go.Proofs.YtaoodcnhmjokoaaGreatDoor
open Go Go.Xec
attribute [local go_sem] tm0 ne_eq not_false_eq_true List.length_append List.length_replicate List.replicate_succ List.replicate_zero Int.cast_ofNat_Int not_true_eq_false decide_true decide_false ite_self beq_self_eq_true Bool.true_beq Bool.false_beq Bool.not_true Bool.not_false
open Nat renaming reduceAdd → Nra, reduceMul → Nrb, reduceSub → Nrc, reduceLeDiff → Nrd, reduceLT → Nre, reduceEqDiff → Nrf, reducePow → Nrr
open Int renaming reduceLT → Irg, reduceLE → Irh, reduceAdd → Iri, reduceSub → Irj, reduceMul → Irk, reduceToNat → Irl, reducePow → Irm, reduceNe → Irn, reduceMod → Iro, reduceDiv → Irp, reduceEq → Irq, reduceNeg → Irs

set_option maxRecDepth 10000
theorem sv_plain (d : Nat) (l : List UInt8) : plain d (sv l) = true := by cases d <;> rfl
theorem sv_sc (l : List UInt8) : (cellsOf (sv l)).all isSc = true := rfl
theorem svs_plainL (d : Nat) (ls : List (List UInt8)) : plainL d (ls.map sv) = true := plainL_map d (fun l => sv_plain d l) ls
noncomputable def F36 : List AVal → Option AVal := pureF C6 1 36
theorem sound36 : Sound Tryz.prog 36 F36 := sound_self ok6 1 36
theorem F36_eq {s : List UInt8} {c : UInt8} (hs : s.length ≤ 100000) : F36 [sv s, .int .u8 (c.toNat : Int)] = some (.slc 1 ((parts c s).map sv)) := by
  unfold F36
  refine pureF_of (x := x36) rfl rfl ?_
  rw [x36_eq.1, x36_eq.2.1]
  simp (disch := first | omega | simp only [go_sem, ↓reduceIte, Nra, Nrb, Nrc, Nrd, Nre, Nrf, Irg, Irh, Iri, Irj, Irk, Irl, Irm, Irn, Iro, Irp, Irq, Nrr, Irs, dropK_eq]) only [x36b, go_sem, ↓reduceIte, Nra, Nrb, Nrc, Nrd, Nre, Nrf, Irg, Irh, Iri, Irj, Irk, Irl, Irm, Irn, Iro, Irp, Irq, Nrr, Irs, dropK_eq]
  refine Ev_range (ti := 7) (len := s.length) (J := fun i tm hp nc => ∃ (f : Nat) (o : List (List UInt8)) (v : AVal), f ≤ i ∧ o.length ≤ i ∧ c ∉ (s.drop f).take (i - f) ∧ parts c s = o ++ parts c (s.drop f) ∧ tm 6 = .int .i64 f ∧ tm 5 = v ∧ v ≠ .nils ∧ Own [36001000, 36007006, 36009005] 1 hp v (o.map sv)) (by omega) ?_ ?_ ?_
  · simp only [go_sem, ↓reduceIte, Nra, Nrb, Nrc, Nrd, Nre, Nrf, Irg, Irh, Iri, Irj, Irk, Irl, Irm, Irn, Iro, Irp, Irq, Nrr, Irs, dropK_eq]
  · refine ⟨0, [], _, Nat.le_refl _, Nat.le_refl _, by simp, by simp, by simp only [go_sem, ↓reduceIte, Nra, Nrb, Nrc, Nrd, Nre, Nrf, Irg, Irh, Iri, Irj, Irk, Irl, Irm, Irn, Iro, Irp, Irq, Nrr, Irs, dropK_eq], rfl, ?_, ?_⟩
    · simp only [go_sem, ↓reduceIte, Nra, Nrb, Nrc, Nrd, Nre, Nrf, Irg, Irh, Iri, Irj, Irk, Irl, Irm, Irn, Iro, Irp, Irq, Nrr, Irs, dropK_eq]
      intro h; cases h
    · simp only [go_sem, ↓reduceIte, Nra, Nrb, Nrc, Nrd, Nre, Nrf, Irg, Irh, Iri, Irj, Irk, Irl, Irm, Irn, Iro, Irp, Irq, Nrr, Irs, dropK_eq]
      exact Own.sl (by simp) rfl (by simp only [go_sem, ↓reduceIte, Nra, Nrb, Nrc, Nrd, Nre, Nrf, Irg, Irh, Iri, Irj, Irk, Irl, Irm, Irn, Iro, Irp, Irq, Nrr, Irs, dropK_eq])
  · rintro i tm hp nc hi hc k7 ⟨f, o, v, hf, hol, hno, hp', k6, k5, hv, ho⟩
    have k0 := hc 0 rfl; have k1 := hc 1 rfl; simp only [go_sem, ↓reduceIte, Nra, Nrb, Nrc, Nrd, Nre, Nrf, Irg, Irh, Iri, Irj, Irk, Irl, Irm, Irn, Iro, Irp, Irq, Nrr, Irs, dropK_eq] at k0 k1
    rcases Nat.lt_or_ge i s.length with hlt | hge
    · have d1 : decide ((i : Int) < (s.length : Int)) = true := decide_eq_true (by omega)
      have ix := str_ixN .i64 hlt
      have htk : (s.drop f).take (i + 1 - f) = (s.drop f).take (i - f) ++ [s.getD i 0] := T.run_snoc hf hlt
      by_cases hb : s.getD i 0 = c
      · have d2 : decide (((s.getD i 0).toNat : Int) = (c.toNat : Int)) = true := decide_eq_true (by rw [hb])
        have hsl := str_slice (l := s) (lo := f) (hi := i) hf (by omega)
        obtain ⟨V, H, hA, hO⟩ := ho.push (s0 := 36007006) (s1 := 36007005) (z := sv ((s.drop f).take (i - f))) (bytes := 16) (by simp) (by simp) (sv_plain _ _) rfl (by rw [List.length_map]; omega)
        simp (disch := first | omega | simp only [*, go_sem, ↓reduceIte, Nra, Nrb, Nrc, Nrd, Nre, Nrf, Irg, Irh, Iri, Irj, Irk, Irl, Irm, Irn, Iro, Irp, Irq, Nrr, Irs, dropK_eq]) only [x36l4, go_sem, ↓reduceIte, Nra, Nrb, Nrc, Nrd, Nre, Nrf, Irg, Irh, Iri, Irj, Irk, Irl, Irm, Irn, Iro, Irp, Irq, Nrr, Irs, dropK_eq, k0, k1, k5, k6, k7, d1, ix, d2, hsl, hA]
        refine ⟨hlt, by simp, i + 1, o ++ [(s.drop f).take (i - f)], _, Nat.le_refl _, by simp; omega, by simp, ?_, by simp, rfl, T.own_ne (hO _ _).1 (by simp), ?_⟩
        · have e1 : s.drop f = (s.drop f).take (i - f) ++ c :: s.drop (i + 1) := by
            have h1 := (List.take_append_drop (i - f) (s.drop f)).symm
            rw [List.drop_drop, show f + (i - f) = i by omega, T.drop_cons hlt, hb] at h1
            exact h1
          rw [hp']
          conv => lhs; rw [e1]
          rw [parts_at _ hno]
          simp
        · rw [List.map_append]
          exact (hO _ _).1
      · have d2 : decide (((s.getD i 0).toNat : Int) = (c.toNat : Int)) = false := decide_eq_false (fun h => hb (UInt8.toNat_inj.1 (by omega)))
        simp (disch := first | omega | simp only [*, go_sem, ↓reduceIte, Nra, Nrb, Nrc, Nrd, Nre, Nrf, Irg, Irh, Iri, Irj, Irk, Irl, Irm, Irn, Iro, Irp, Irq, Nrr, Irs, dropK_eq]) only [x36l4, go_sem, ↓reduceIte, Nra, Nrb, Nrc, Nrd, Nre, Nrf, Irg, Irh, Iri, Irj, Irk, Irl, Irm, Irn, Iro, Irp, Irq, Nrr, Irs, dropK_eq, k0, k1, k5, k6, k7, d1, ix, d2]
        refine ⟨hlt, by simp, f, o, v, by omega, by omega, ?_, hp', rfl, rfl, hv, ho⟩
        rw [htk, List.mem_append, not_or]
        exact ⟨hno, by simp; exact fun h => hb h.symm⟩
    · obtain rfl : i = s.length := by omega
      have d1 : decide ((s.length : Int) < (s.length : Int)) = false := decide_eq_false (by omega)
      have hsl := str_sliceFrom (l := s) (lo := f) hf
      have hno2 : c ∉ s.drop f := by rwa [List.take_of_length_le (by rw [List.length_drop]; omega)] at hno
      rw [parts_none hno2] at hp'
      obtain ⟨V, H, hA, hO⟩ := ho.push (s0 := 36009005) (s1 := 36009004) (z := sv (s.drop f)) (bytes := 16) (by simp) (by simp) (sv_plain _ _) rfl (by rw [List.length_map]; omega)
      simp (disch := first | omega | simp only [*, go_sem, ↓reduceIte, Nra, Nrb, Nrc, Nrd, Nre, Nrf, Irg, Irh, Iri, Irj, Irk, Irl, Irm, Irn, Iro, Irp, Irq, Nrr, Irs, dropK_eq]) only [x36l4, go_sem, ↓reduceIte, Nra, Nrb, Nrc, Nrd, Nre, Nrf, Irg, Irh, Iri, Irj, Irk, Irl, Irm, Irn, Iro, Irp, Irq, Nrr, Irs, dropK_eq, k0, k1, k5, k6, k7, d1, hsl, hA]
      rw [Ends_eq, hp', List.map_append]
      have h1 := fun c c' => (hO c c').1.lend 63 (by have := svs_plainL 63 (o ++ [s.drop f]); rwa [List.map_append] at this)
      refine (h1 _ _).trans ?_
      rw [T.own_slc (T.own_ne (hO _ _).1 (by simp))]
      rfl
/-- All numbers of texts. -/
noncomputable def allN : List (List UInt8) → Option (List Int)
  | [] => some []
  | s :: r => match numOf s, allN r with
    | some n, some ns => some (n :: ns)
    | _, _ => none
theorem allN_snoc : ∀ (l : List (List UInt8)) (s : List UInt8), allN (l ++ [s]) = match allN l, numOf s with
    | some ns, some n => some (ns ++ [n])
    | _, _ => none
  | [], s => by
    simp only [List.nil_append, allN]
    cases numOf s <;> rfl
  | x :: l, s => by
    rw [List.cons_append, allN, allN, allN_snoc l s]
    cases numOf x <;> cases allN l <;> cases numOf s <;> rfl
theorem allN_bad : ∀ {l : List (List UInt8)} {s : List UInt8}, s ∈ l → numOf s = none → allN l = none
  | x :: l, s, h, hn => by
    rw [allN]
    rcases List.mem_cons.1 h with rfl | h
    · rw [hn]
    · rw [allN_bad h hn]
      cases numOf x <;> rfl
def tryL : Option (List Int) → AVal
  | some ns => .tup [.slc 1 (i64s ns), .bool true]
  | none => .tup [.nils, .bool false]
abbrev RS (a : AVal) (l : List (List UInt8)) : Prop := Rg 1 sv a l
noncomputable def C7 : Cfg := (C6.add 53 F53).add 36 F36
theorem ok7 : CfgOk Tryz.prog C7 := (ok6.add sound53).add sound36
noncomputable def F38 : List AVal → Option AVal := pureF C7 1 38
theorem sound38 : Sound Tryz.prog 38 F38 := sound_self ok7 1 38
theorem F38_eq {a : AVal} {ls : List (List UInt8)} (ha : RS a ls) (hl : ls.length ≤ 100000) (hs : ∀ s ∈ ls, s.length ≤ 100000) : F38 [a] = some (tryL (allN ls)) := by
  have hpl := ha.plain
  unfold F38
  refine pureF_of (x := x38) rfl rfl ?_
  rw [x38_eq.1, x38_eq.2.1]
  simp (disch := first | omega | simp only [*, go_sem, ↓reduceIte, Nra, Nrb, Nrc, Nrd, Nre, Nrf, Irg, Irh, Iri, Irj, Irk, Irl, Irm, Irn, Iro, Irp, Irq, Nrr, Irs, dropK_eq]) only [x38b, go_sem, ↓reduceIte, Nra, Nrb, Nrc, Nrd, Nre, Nrf, Irg, Irh, Iri, Irj, Irk, Irl, Irm, Irn, Iro, Irp, Irq, Nrr, Irs, dropK_eq, ha.len]
  refine Ev_range (ti := 12) (len := ls.length) (J := fun i tm hp nc => ∃ (ns : List Int) (v : AVal), allN (ls.take i) = some ns ∧ ns.length = i ∧ tm 4 = v ∧ v ≠ .nils ∧ Own [38001000, 38008003] 1 hp v (i64s ns)) (by omega) ?_ ?_ ?_
  · simp only [go_sem, ↓reduceIte, Nra, Nrb, Nrc, Nrd, Nre, Nrf, Irg, Irh, Iri, Irj, Irk, Irl, Irm, Irn, Iro, Irp, Irq, Nrr, Irs, dropK_eq]
  · refine ⟨[], _, rfl, rfl, rfl, ?_, ?_⟩
    · simp only [go_sem, ↓reduceIte, Nra, Nrb, Nrc, Nrd, Nre, Nrf, Irg, Irh, Iri, Irj, Irk, Irl, Irm, Irn, Iro, Irp, Irq, Nrr, Irs, dropK_eq]
      intro h; cases h
    · simp only [go_sem, ↓reduceIte, Nra, Nrb, Nrc, Nrd, Nre, Nrf, Irg, Irh, Iri, Irj, Irk, Irl, Irm, Irn, Iro, Irp, Irq, Nrr, Irs, dropK_eq]
      exact Own.sl (by simp) rfl (by simp only [go_sem, ↓reduceIte, Nra, Nrb, Nrc, Nrd, Nre, Nrf, Irg, Irh, Iri, Irj, Irk, Irl, Irm, Irn, Iro, Irp, Irq, Nrr, Irs, dropK_eq])
  · rintro i tm hp nc hi hc k12 ⟨ns, v, hn, hnl, k4, hv, ho⟩
    have k0 := hc 0 rfl; have k10 := hc 10 rfl; have k11 := hc 11 rfl; simp only [go_sem, ↓reduceIte, Nra, Nrb, Nrc, Nrd, Nre, Nrf, Irg, Irh, Iri, Irj, Irk, Irl, Irm, Irn, Iro, Irp, Irq, Nrr, Irs, dropK_eq] at k0 k10 k11
    rcases Nat.lt_or_ge i ls.length with hlt | hge
    · have d1 : decide ((i : Int) < (ls.length : Int)) = true := decide_eq_true (by omega)
      have ia := ha.ia hlt
      have e53 := F53_eq (s := ls[i]) (hs _ (List.getElem_mem hlt))
      have hsn := allN_snoc (ls.take i) ls[i]
      rw [← take_next hlt, hn] at hsn
      cases hq : numOf ls[i] with
      | none =>
        rw [hq] at e53
        simp only [tryN] at e53
        rw [allN_bad (List.getElem_mem hlt) hq]
        simp (disch := first | omega | simp only [*, go_sem, ↓reduceIte, Nra, Nrb, Nrc, Nrd, Nre, Nrf, Irg, Irh, Iri, Irj, Irk, Irl, Irm, Irn, Iro, Irp, Irq, Nrr, Irs, dropK_eq]) only [x38l3, go_sem, ↓reduceIte, Nra, Nrb, Nrc, Nrd, Nre, Nrf, Irg, Irh, Iri, Irj, Irk, Irl, Irm, Irn, Iro, Irp, Irq, Nrr, Irs, dropK_eq, k0, k4, k10, k11, k12, d1, ia, callX_known (C := C7) (g := 53) rfl, ft_call (C := C7) (g := 53) rfl, e53]
        exact Ends_plain rfl rfl
      | some n =>
        rw [hq] at e53 hsn
        simp only [tryN] at e53
        obtain ⟨V, H, hA, hO⟩ := ho.push (s0 := 38008003) (s1 := 38008002) (z := .int .i64 n) (bytes := 8) (by simp) (by simp) rfl rfl (by rw [List.length_map]; omega)
        simp (disch := first | omega | simp only [*, go_sem, ↓reduceIte, Nra, Nrb, Nrc, Nrd, Nre, Nrf, Irg, Irh, Iri, Irj, Irk, Irl, Irm, Irn, Iro, Irp, Irq, Nrr, Irs, dropK_eq]) only [x38l3, go_sem, ↓reduceIte, Nra, Nrb, Nrc, Nrd, Nre, Nrf, Irg, Irh, Iri, Irj, Irk, Irl, Irm, Irn, Iro, Irp, Irq, Nrr, Irs, dropK_eq, k0, k4, k10, k11, k12, d1, ia, callX_known (C := C7) (g := 53) rfl, ft_call (C := C7) (g := 53) rfl, e53, hA]
        refine ⟨hlt, by simp, ns ++ [n], _, hsn, by simp [hnl], rfl, T.own_ne (hO _ _).1 (by simp), ?_⟩
        rw [show i64s (ns ++ [n]) = i64s ns ++ [.int .i64 n] from List.map_append]
        exact (hO _ _).1
    · obtain rfl : i = ls.length := by omega
      have d1 : decide ((ls.length : Int) < (ls.length : Int)) = false := decide_eq_false (by omega)
      rw [List.take_length] at hn
      rw [hn]
      simp (disch := first | omega | simp only [*, go_sem, ↓reduceIte, Nra, Nrb, Nrc, Nrd, Nre, Nrf, Irg, Irh, Iri, Irj, Irk, Irl, Irm, Irn, Iro, Irp, Irq, Nrr, Irs, dropK_eq]) only [x38l3, go_sem, ↓reduceIte, Nra, Nrb, Nrc, Nrd, Nre, Nrf, Irg, Irh, Iri, Irj, Irk, Irl, Irm, Irn, Iro, Irp, Irq, Nrr, Irs, dropK_eq, k0, k4, k10, k11, k12, d1]
      have h1 := ho.lend 62 (plainL_map 62 (fun n => rfl) ns)
      rw [T.own_slc hv] at h1
      have hb : ∀ b, lendV 63 (.bool b) hp = some (.bool b) := fun b => lendV_plain rfl
      rw [Ends_eq]
      simp only [lendV_tup, lendVL_cons, lendVL_nil, h1, hb, Option.bind_some, Option.map_some, tryL]
end Go.Proofs.YtaoodcnhmjokoaaGreatDoor
