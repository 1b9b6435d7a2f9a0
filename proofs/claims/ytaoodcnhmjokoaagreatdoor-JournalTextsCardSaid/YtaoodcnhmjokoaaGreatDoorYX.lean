/-
  A row, as the program writes it.
-/
import Derived.Test.YtaoodcnhmjokoaaGreatDoorYW
set_option linter.unusedVariables false
set_option linter.unusedSimpArgs false
namespace Go.Proofs.YtaoodcnhmjokoaaGreatDoor
open Go Go.Xec
attribute [local go_sem] tm0 ne_eq not_false_eq_true List.length_append List.length_replicate List.replicate_succ List.replicate_zero Int.cast_ofNat_Int not_true_eq_false decide_true decide_false ite_self beq_self_eq_true Bool.true_beq Bool.false_beq Bool.not_true Bool.not_false
open Nat renaming reduceAdd → Nra, reduceMul → Nrb, reduceSub → Nrc, reduceLeDiff → Nrd, reduceLT → Nre, reduceEqDiff → Nrf, reducePow → Nrr
open Int renaming reduceLT → Irg, reduceLE → Irh, reduceAdd → Iri, reduceSub → Irj, reduceMul → Irk, reduceToNat → Irl, reducePow → Irm, reduceNe → Irn, reduceMod → Iro, reduceDiv → Irp, reduceEq → Irq, reduceNeg → Irs

set_option maxRecDepth 10000
noncomputable def C10 : Cfg := ((C9.add 19 F19).add 43 F_itoa).add 44 F_join
theorem ok10 : CfgOk Tryz.prog C10 := ((ok9.add sound19).add sound43).add sound44
noncomputable def F29 : List AVal → Option AVal := pureF C10 1 29
theorem sound29 : Sound Tryz.prog 29 F29 := sound_self ok10 1 29
theorem F29_eq {a : AVal} {l : List Int} (ha : RI a l) (hl : l.length ≤ 1000) (h : i64Ok l) : F29 [a] = some (sv (rowT l)) := by
  unfold F29
  refine pureF_of (x := x29) rfl rfl ?_
  rw [x29_eq.1, x29_eq.2.1]
  simp (disch := first | omega | simp only [go_sem, ↓reduceIte, Nra, Nrb, Nrc, Nrd, Nre, Nrf, Irg, Irh, Iri, Irj, Irk, Irl, Irm, Irn, Iro, Irp, Irq, Nrr, Irs, dropK_eq]) only [x29b, go_sem, ↓reduceIte, Nra, Nrb, Nrc, Nrd, Nre, Nrf, Irg, Irh, Iri, Irj, Irk, Irl, Irm, Irn, Iro, Irp, Irq, Nrr, Irs, dropK_eq, ha.len]
  refine Ev_range (ti := 8) (len := l.length) (J := fun i tm hp nc => (i = 0 → tm 3 = .nils) ∧ Own [29005004] 1 hp (tm 3) (((l.take i).map fun n => its n).map sv)) (by omega) (by simp only [go_sem, ↓reduceIte, Nra, Nrb, Nrc, Nrd, Nre, Nrf, Irg, Irh, Iri, Irj, Irk, Irl, Irm, Irn, Iro, Irp, Irq, Nrr, Irs, dropK_eq]) ?_ ?_
  · refine ⟨fun _ => by simp only [go_sem, ↓reduceIte, Nra, Nrb, Nrc, Nrd, Nre, Nrf, Irg, Irh, Iri, Irj, Irk, Irl, Irm, Irn, Iro, Irp, Irq, Nrr, Irs, dropK_eq], ?_⟩
    exact .inl ⟨by simp only [go_sem, ↓reduceIte, Nra, Nrb, Nrc, Nrd, Nre, Nrf, Irg, Irh, Iri, Irj, Irk, Irl, Irm, Irn, Iro, Irp, Irq, Nrr, Irs, dropK_eq], by simp⟩
  · rintro i tm hp nc hi hc k8 ⟨h0, ho⟩
    have k0 := hc 0 rfl; have k6 := hc 6 rfl; have k7 := hc 7 rfl; simp only [go_sem, ↓reduceIte, Nra, Nrb, Nrc, Nrd, Nre, Nrf, Irg, Irh, Iri, Irj, Irk, Irl, Irm, Irn, Iro, Irp, Irq, Nrr, Irs, dropK_eq] at k0 k6 k7
    rcases Nat.lt_or_ge i l.length with hlt | hge
    · have d1 : decide ((i : Int) < (l.length : Int)) = true := decide_eq_true (by omega)
      have ia := ha.ia hlt
      have hm : l[i] ∈ l := List.getElem_mem _
      have e43 := F_itoa_eq (h _ hm)
      have hb16 : ((((l.take i).map fun n => its n).map sv).length + 1) * 16 ≤ 140737488355328 := by
        simp only [List.length_map, List.length_take]
        have h5 : min i l.length ≤ 1000 := by omega
        omega
      obtain ⟨V, H, hA, hO⟩ := ho.push (s0 := 29005004) (s1 := 29005003) (z := sv (its l[i])) (bytes := 16) (by simp) (by simp) (sv_plain _ _) rfl hb16
      simp (disch := first | omega | simp only [*, go_sem, ↓reduceIte, Nra, Nrb, Nrc, Nrd, Nre, Nrf, Irg, Irh, Iri, Irj, Irk, Irl, Irm, Irn, Iro, Irp, Irq, Nrr, Irs, dropK_eq]) only [x29l3, go_sem, ↓reduceIte, Nra, Nrb, Nrc, Nrd, Nre, Nrf, Irg, Irh, Iri, Irj, Irk, Irl, Irm, Irn, Iro, Irp, Irq, Nrr, Irs, dropK_eq, k6, k7, k8, d1, ia, callX_known (C := C10) (g := 43) rfl, ft_call (C := C10) (g := 43) rfl, e43, hA]
      refine ⟨hlt, by simp, fun h9 => h9.elim, ?_⟩
      rw [take_next hlt, List.map_append, List.map_append]
      exact (hO _ _).1
    · obtain rfl : i = l.length := by omega
      have d1 : decide ((l.length : Int) < (l.length : Int)) = false := decide_eq_false (by omega)
      rw [List.take_length] at ho
      have hpl := rowT_len h
      obtain ⟨ks, hks, hlx⟩ := ho.lendXs (fun e => h0 (by simpa using e)) 63 (svs_plainL _ _)
      have ej : F_join [rowN 1 ((l.map fun n => its n).map sv), sv [32]] = some (sv (rowT l)) := by
        cases l with
        | nil => rfl
        | cons t l' =>
          simp only [F_join, rowN, List.map_cons, bs_data]
          have := strsI_map (its t :: l'.map fun n => its n)
          simp only [List.map_cons] at this
          rw [this]
          simp only
          rw [if_pos ⟨by simp at hl ⊢; omega, by simp only [rowT, List.map_cons] at hpl; simp at hl hpl; omega⟩]
          rfl
      simp (disch := first | omega | simp only [*, go_sem, ↓reduceIte, Nra, Nrb, Nrc, Nrd, Nre, Nrf, Irg, Irh, Iri, Irj, Irk, Irl, Irm, Irn, Iro, Irp, Irq, Nrr, Irs, List.mem_cons, List.not_mem_nil, or_false, or_self]) only [x29l3, go_sem, ↓reduceIte, Nra, Nrb, Nrc, Nrd, Nre, Nrf, Irg, Irh, Iri, Irj, Irk, Irl, Irm, Irn, Iro, Irp, Irq, Nrr, Irs, k6, k7, k8, d1, callX_names (C := C10) (g := 44) rfl, ftC_names (C := C10) (g := 44) rfl]
      rw [hlx _ (fun k hk => rfl)]
      simp (disch := first | omega | simp only [*, go_sem, ↓reduceIte, Nra, Nrb, Nrc, Nrd, Nre, Nrf, Irg, Irh, Iri, Irj, Irk, Irl, Irm, Irn, Iro, Irp, Irq, Nrr, Irs, List.mem_cons, List.not_mem_nil, or_false, or_self]) only [go_sem, ↓reduceIte, Nra, Nrb, Nrc, Nrd, Nre, Nrf, Irg, Irh, Iri, Irj, Irk, Irl, Irm, Irn, Iro, Irp, Irq, Nrr, Irs, ej]
      exact Ends_plain rfl rfl
end Go.Proofs.YtaoodcnhmjokoaaGreatDoor
