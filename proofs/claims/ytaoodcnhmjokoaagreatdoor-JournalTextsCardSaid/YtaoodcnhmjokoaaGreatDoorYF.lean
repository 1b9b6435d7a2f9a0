/-
  Import: the document's.
-/
import Derived.Test.YtaoodcnhmjokoaaGreatDoorYE
set_option linter.unusedVariables false
set_option linter.unusedSimpArgs false
namespace Go.Proofs.YtaoodcnhmjokoaaGreatDoor
open Go Go.Xec
attribute [local go_sem] tm0 ne_eq not_false_eq_true List.length_append List.length_replicate List.replicate_succ List.replicate_zero Int.cast_ofNat_Int not_true_eq_false decide_true decide_false ite_self beq_self_eq_true Bool.true_beq Bool.false_beq Bool.not_true Bool.not_false
open Nat renaming reduceAdd → Nra, reduceMul → Nrb, reduceSub → Nrc, reduceLeDiff → Nrd, reduceLT → Nre, reduceEqDiff → Nrf, reducePow → Nrr
open Int renaming reduceLT → Irg, reduceLE → Irh, reduceAdd → Iri, reduceSub → Irj, reduceMul → Irk, reduceToNat → Irl, reducePow → Irm, reduceNe → Irn, reduceMod → Iro, reduceDiv → Irp, reduceEq → Irq, reduceNeg → Irs

set_option maxRecDepth 10000
theorem parts_head (c : UInt8) : ∀ (o : List UInt8), (parts c o = [o] ∧ c ∉ o) ∨ ∃ p r, c ∉ p ∧ o = p ++ c :: r ∧ parts c o = p :: parts c r
  | [] => .inl ⟨rfl, by simp⟩
  | b :: o => by
    by_cases h : b = c
    · subst h
      exact .inr ⟨[], o, by simp, rfl, by rw [parts, if_pos rfl]⟩
    · rcases parts_head c o with ⟨h1, h2⟩ | ⟨p, r, h1, h2, h3⟩
      · refine .inl ⟨?_, by simp only [List.mem_cons, not_or]; exact ⟨fun e => h e.symm, h2⟩⟩
        rw [parts, if_neg h, h1]
      · refine .inr ⟨b :: p, r, by simp only [List.mem_cons, not_or]; exact ⟨fun e => h e.symm, h1⟩, by rw [h2]; rfl, ?_⟩
        rw [parts, if_neg h, h3]
abbrev logT : List UInt8 := [108, 111, 103]
theorem log_yes {o : List UInt8} (h : Lib.hasPrefix o [108, 111, 103, 32] = true) : parts 32 o = logT :: parts 32 (Lib.trimPrefix o [108, 111, 103, 32]) := by
  have h2 : [108, 111, 103, 32] <+: o := by simpa [Lib.hasPrefix] using h
  obtain ⟨t, rfl⟩ := h2
  have e : Lib.trimPrefix ([108, 111, 103, 32] ++ t) [108, 111, 103, 32] = t := by
    unfold Lib.trimPrefix
    rw [if_pos h]
    rfl
  rw [e]
  exact parts_at (u := logT) t (by decide)
theorem log_no {o : List UInt8} (h : ¬ Lib.hasPrefix o [108, 111, 103, 32] = true) : parts 32 o = [logT] ∨ ∃ p r, parts 32 o = p :: r ∧ p ≠ logT := by
  rcases parts_head 32 o with ⟨h1, h2⟩ | ⟨p, r, h1, h2, h3⟩
  · by_cases e : o = logT
    · exact .inl (by rw [h1, e])
    · exact .inr ⟨o, [], h1, e⟩
  · refine .inr ⟨p, _, h3, ?_⟩
    rintro rfl
    apply h
    rw [h2]
    simp [Lib.hasPrefix]
theorem cntN_all {s : List UInt8} {ns : List Int} (h5 : ns.length ≤ 5) : cntN s = some ns ↔ allN (parts 32 s) = some ns := by
  rw [allN_good]
  unfold cntN
  constructor
  · intro h
    split at h
    · rename_i h1
      rw [if_pos h1.2]
      exact h
    · cases h
  · intro h
    split at h
    · rename_i h1
      cases h
      rw [if_pos ⟨by omega, h1⟩]
    · cases h
theorem suf_nil : Lib.hasSuffix [] [10] = false := by decide
theorem suf_last {s : List UInt8} (h : s ≠ []) : (Lib.hasSuffix s [10] = true ↔ ((s.getD (s.length - 1) 0).toNat : Int) = 10) ∧ (Lib.hasSuffix s [10] = true → Lib.trimSuffix s [10] = s.take (s.length - 1)) := by
  obtain ⟨t, b, rfl⟩ : ∃ t b, s = t ++ [b] := ⟨s.dropLast, s.getLast h, (List.dropLast_concat_getLast h).symm⟩
  have e1 : (t ++ [b]).getD ((t ++ [b]).length - 1) 0 = b := by simp [List.getD_eq_getElem?_getD]
  have e2 : (t ++ [b]).take ((t ++ [b]).length - 1) = t := by simp
  rw [e1, e2]
  have e3 : Lib.hasSuffix (t ++ [b]) [10] = true ↔ b = 10 := by
    simp only [Lib.hasSuffix]
    constructor
    · intro h1
      simp at h1
      exact h1.symm
    · rintro rfl
      simp
  refine ⟨e3.trans ⟨fun h1 => by rw [h1]; rfl, fun h1 => UInt8.toNat_inj.1 (by have : (10 : UInt8).toNat = 10 := rfl; omega)⟩, fun h1 => ?_⟩
  unfold Lib.trimSuffix
  rw [if_pos h1]
  simp
noncomputable def C13 : Cfg := ((C12.add 37 L.F37).add 38 F38).add 17 F17
theorem ok13 : CfgOk Tryz.prog C13 := ((ok12.add L.sound37).add sound38).add sound17
noncomputable def F20 : List AVal → Option AVal := pureF C13 1 20
theorem sound20 : Sound Tryz.prog 20 F20 := sound_self ok13 1 20
theorem F20_eq {s : List UInt8} (hs : s.length ≤ 90000) : F20 [sv s] = some (impV (impS s)) := by
  unfold F20
  refine pureF_of (x := x20) rfl rfl ?_
  rw [x20_eq.1, x20_eq.2.1]
  unfold impS
  by_cases h0 : s = []
  · subst h0
    rw [if_neg (by rw [suf_nil]; simp)]
    have d1 : decide (([] : List UInt8) = []) = true := decide_eq_true rfl
    simp (disch := first | omega | simp only [*, go_sem, ↓reduceIte, Nra, Nrb, Nrc, Nrd, Nre, Nrf, Irg, Irh, Iri, Irj, Irk, Irl, Irm, Irn, Iro, Irp, Irq, Nrr, Irs, dropK_eq]) only [x20b, go_sem, ↓reduceIte, Nra, Nrb, Nrc, Nrd, Nre, Nrf, Irg, Irh, Iri, Irj, Irk, Irl, Irm, Irn, Iro, Irp, Irq, Nrr, Irs, dropK_eq, d1]
    exact Ends_plain rfl rfl
  · have hp := List.length_pos_iff.2 h0
    have d1 : decide (s = []) = false := decide_eq_false h0
    obtain ⟨hl1, hl2⟩ := suf_last h0
    have ix := str_ixN .i64 (l := s) (i := s.length - 1) (by omega)
    rw [show ((s.length - 1 : Nat) : Int) = (s.length : Int) - 1 by omega] at ix
    by_cases h1 : Lib.hasSuffix s [10] = true
    · rw [if_pos h1, hl2 h1]
      have d2 : decide (¬ ((s.getD (s.length - 1) 0).toNat : Int) = 10) = false := decide_eq_false (fun h => h (hl1.1 h1))
      have hsl := str_sliceTo (l := s) (hi := s.length - 1) (by omega)
      rw [show ((s.length - 1 : Nat) : Int) = (s.length : Int) - 1 by omega] at hsl
      have htl : (s.take (s.length - 1)).length ≤ s.length := by rw [List.length_take]; omega
      have e36 : F36 [sv (s.take (s.length - 1)), .int .u8 10] = _ := F36_eq (s := s.take (s.length - 1)) (c := 10) (by omega)
      have hpc := parts_count (c := 10) (s.take (s.length - 1))
      have hlen : ∀ p ∈ parts 10 (s.take (s.length - 1)), p.length ≤ 90000 := fun p hp => Nat.le_trans (parts_len _ p hp) (by omega)
      simp (disch := first | omega | simp only [*, go_sem, ↓reduceIte, Nra, Nrb, Nrc, Nrd, Nre, Nrf, Irg, Irh, Iri, Irj, Irk, Irl, Irm, Irn, Iro, Irp, Irq, Nrr, Irs, dropK_eq]) only [x20b, go_sem, ↓reduceIte, Nra, Nrb, Nrc, Nrd, Nre, Nrf, Irg, Irh, Iri, Irj, Irk, Irl, Irm, Irn, Iro, Irp, Irq, Nrr, Irs, dropK_eq, d1, ix, d2, hsl, callX_known (C := C13) (g := 36) rfl, ft_call (C := C13) (g := 36) rfl, e36, lenVA_slc, List.length_map]
      generalize parts 10 (s.take (s.length - 1)) = ls at *
      have ha : RS (.slc 1 (ls.map sv)) ls := Rg.slc _
      refine Ev_range (ti := 33) (len := ls.length) (J := fun i tm hp nc => ∃ (c f : Int) (es : List En) (a : AVal), rdL true (0, 0, []) (ls.take i) = .ok (c, f, es) ∧ hp (20004001, 3) = some (.var [.int .i64 c, .int .i64 f, a]) ∧ hp (20000000, 0) = some (.var [.int .i64 0, .int .i64 0, .nils]) ∧ hp (20001001, 1) = some (.var [.int .i64 0, .int .i64 0, .nils]) ∧ Own [20024016] 4 hp a (es.map EK) ∧ (es = [] → a = .nils) ∧ numOk f ∧ es.length = i - 1) (by omega) ?_ ?_ ?_
      · simp only [go_sem, ↓reduceIte, Nra, Nrb, Nrc, Nrd, Nre, Nrf, Irg, Irh, Iri, Irj, Irk, Irl, Irm, Irn, Iro, Irp, Irq, Nrr, Irs, dropK_eq]
      · refine ⟨0, 0, [], .nils, rfl, ?_, ?_, ?_, .inl ⟨rfl, rfl⟩, fun _ => rfl, ⟨by decide, by decide⟩, rfl⟩
        · simp only [go_sem, ↓reduceIte, Nra, Nrb, Nrc, Nrd, Nre, Nrf, Irg, Irh, Iri, Irj, Irk, Irl, Irm, Irn, Iro, Irp, Irq, Nrr, Irs, dropK_eq]
        · simp only [go_sem, ↓reduceIte, Nra, Nrb, Nrc, Nrd, Nre, Nrf, Irg, Irh, Iri, Irj, Irk, Irl, Irm, Irn, Iro, Irp, Irq, Nrr, Irs, dropK_eq]
        · simp only [go_sem, ↓reduceIte, Nra, Nrb, Nrc, Nrd, Nre, Nrf, Irg, Irh, Iri, Irj, Irk, Irl, Irm, Irn, Iro, Irp, Irq, Nrr, Irs, dropK_eq]
      · rintro i tm hp nc hi hc k33 ⟨c, f, es, a, hr, h5, h2, h4, ho, h0, hf, hel⟩
        have k2 := hc 2 rfl; have k4 := hc 4 rfl; have k5 := hc 5 rfl; have k31 := hc 31 rfl; have k32 := hc 32 rfl; simp only [go_sem, ↓reduceIte, Nra, Nrb, Nrc, Nrd, Nre, Nrf, Irg, Irh, Iri, Irj, Irk, Irl, Irm, Irn, Iro, Irp, Irq, Nrr, Irs, dropK_eq] at k2 k4 k5 k31 k32
        rcases Nat.lt_or_ge i ls.length with hlt | hge
        · have d3 : decide ((i : Int) < (ls.length : Int)) = true := decide_eq_true (by omega)
          have ia := ha.ia hlt
          have hnx := rdL_next hlt hr
          have hll := hlen _ (List.getElem_mem hlt)
          have e37 := L.F37_eq (s := ls[i]) (by omega)
          rw [openV_op] at e37
          have hol := opT_len ls[i]
          unfold rdS at hnx
          by_cases c1 : opE ls[i] = 0
          · have d4 : decide (¬ opE ls[i] = 0) = false := decide_eq_false (fun h => h c1)
            rw [if_neg (fun h => h c1)] at hnx
            have e36' : F36 [sv (opT ls[i]), .int .u8 32] = _ := F36_eq (s := opT ls[i]) (c := 32) (by omega)
            have hpl : ∀ p ∈ parts 32 (opT ls[i]), p.length ≤ 100000 := fun p hp => Nat.le_trans (parts_len _ p hp) (by omega)
            have hpn := parts_count (c := 32) (opT ls[i])
            by_cases hi0 : i = 0
            · have d5 : decide ((i : Int) = 0) = true := decide_eq_true (by omega)
              have d5' : decide (0 < (i : Int)) = false := decide_eq_false (by omega)
              rw [d5, if_pos rfl] at hnx
              by_cases hpx : Lib.hasPrefix (opT ls[i]) [108, 111, 103, 32] = true
              · rw [if_pos hpx] at hnx
                rw [log_yes hpx] at e36' hpl hpn
                generalize hR : parts 32 (Lib.trimPrefix (opT ls[i]) [108, 111, 103, 32]) = R at *
                have e38 := F38_eq (Rg.slc (enc := sv) (es := 1) R) (by simp at hpn; omega) (fun p hp => hpl p (by simp [hp]))
                have ia0 : iaSA 1 (.slc 1 ((logT :: R).map sv)) (.int .i64 0) = some (.pvo [sv logT] 0) := (Rg.slc (enc := sv) (es := 1) (logT :: R)).ia (i := 0) (by simp)
                have sl1 : slVA 1 (.slc 1 ((logT :: R).map sv)) (some (.int .i64 1)) none none = some (.slc 1 (R.map sv)) := (Rg.slc (enc := sv) (es := 1) (logT :: R)).sliceFrom (n := 1) (by simp)
                have d6 : decide (¬ logT = logT) = false := by decide
                simp only [List.map_cons] at e36' ia0 sl1
                cases hq : allN R with
                | none =>
                  have hcn : ∀ c f, cntN (Lib.trimPrefix (opT ls[i]) [108, 111, 103, 32]) ≠ some [c, f] := fun c f h => by
                    rw [cntN_all (by simp), hR, hq] at h
                    cases h
                  have hbad : rdL true (0, 0, []) (ls.take (i + 1)) = .error 14 := by
                    rw [hnx]
                    split
                    · rename_i c' f' h
                      exact absurd h (hcn c' f')
                    · rfl
                  rw [rdL_bad hbad]
                  rw [hq] at e38
                  simp only [tryL] at e38
                  simp (disch := first | omega | simp only [*, go_sem, ↓reduceIte, Nra, Nrb, Nrc, Nrd, Nre, Nrf, Irg, Irh, Iri, Irj, Irk, Irl, Irm, Irn, Iro, Irp, Irq, Nrr, Irs, dropK_eq]) only [x20l6, go_sem, ↓reduceIte, Nra, Nrb, Nrc, Nrd, Nre, Nrf, Irg, Irh, Iri, Irj, Irk, Irl, Irm, Irn, Iro, Irp, Irq, Nrr, Irs, dropK_eq, k2, k4, k5, k31, k32, k33, d3, ia, callX_known (C := C13) (g := 37) rfl, ft_call (C := C13) (g := 37) rfl, callX_known (C := C13) (g := 36) rfl, ft_call (C := C13) (g := 36) rfl, callX_known (C := C13) (g := 38) rfl, ft_call (C := C13) (g := 38) rfl, e37, d4, h2, h4, h5, e36', d5, ia0, d6, sl1, e38]
                  exact Ends_plain rfl rfl
                | some ns =>
                  rw [hq] at e38
                  simp only [tryL] at e38
                  by_cases hn2 : ∃ c f, ns = [c, f]
                  · obtain ⟨c', f', rfl⟩ := hn2
                    have hcn := (cntN_all (s := Lib.trimPrefix (opT ls[i]) [108, 111, 103, 32]) (ns := [c', f']) (by simp)).2 (by rw [hR]; exact hq)
                    have hne : es = [] := List.length_eq_zero_iff.1 (by omega)
                    rw [hcn] at hnx
                    simp only at hnx
                    simp only [List.map_cons, List.map_nil] at e38
                    simp (disch := first | omega | simp only [*, go_sem, ↓reduceIte, Nra, Nrb, Nrc, Nrd, Nre, Nrf, Irg, Irh, Iri, Irj, Irk, Irl, Irm, Irn, Iro, Irp, Irq, Nrr, Irs, dropK_eq]) only [x20l6, go_sem, ↓reduceIte, Nra, Nrb, Nrc, Nrd, Nre, Nrf, Irg, Irh, Iri, Irj, Irk, Irl, Irm, Irn, Iro, Irp, Irq, Nrr, Irs, dropK_eq, k2, k4, k5, k31, k32, k33, d3, ia, callX_known (C := C13) (g := 37) rfl, ft_call (C := C13) (g := 37) rfl, callX_known (C := C13) (g := 36) rfl, ft_call (C := C13) (g := 36) rfl, callX_known (C := C13) (g := 38) rfl, ft_call (C := C13) (g := 38) rfl, e37, d4, h2, h4, h5, e36', d5, d5', ia0, d6, sl1, e38]
                    subst hne
                    have ha0 := h0 rfl
                    subst ha0
                    exact ⟨hlt, by simp, c', f', [], .nils, hnx, by first | rfl | simp only [go_sem, ↓reduceIte, Nra, Nrb, Nrc, Nrd, Nre, Nrf, Irg, Irh, Iri, Irj, Irk, Irl, Irm, Irn, Iro, Irp, Irq, Nrr, Irs, dropK_eq], .inl ⟨rfl, rfl⟩, fun _ => rfl, cntN_ok hcn _ (by simp), by simp; omega⟩
                  · have hl2' : ¬ (ns.length : Int) = 2 := fun h => hn2 (by
                      match ns, h with
                      | [c, f], _ => exact ⟨c, f, rfl⟩
                      | [], h => simp at h
                      | [_], h => simp at h
                      | _ :: _ :: _ :: _, h => simp at h; omega)
                    have d7 : decide (¬ (ns.length : Int) = 2) = true := decide_eq_true hl2'
                    have hcn : ∀ c f, cntN (Lib.trimPrefix (opT ls[i]) [108, 111, 103, 32]) ≠ some [c, f] := fun c f h => by
                      rw [cntN_all (by simp), hR, hq] at h
                      exact hn2 ⟨c, f, by simpa using h⟩
                    have hbad : rdL true (0, 0, []) (ls.take (i + 1)) = .error 14 := by
                      rw [hnx]
                      split
                      · rename_i c' f' h
                        exact absurd h (hcn c' f')
                      · rfl
                    rw [rdL_bad hbad]
                    simp (disch := first | omega | simp only [*, go_sem, ↓reduceIte, Nra, Nrb, Nrc, Nrd, Nre, Nrf, Irg, Irh, Iri, Irj, Irk, Irl, Irm, Irn, Iro, Irp, Irq, Nrr, Irs, dropK_eq]) only [x20l6, go_sem, ↓reduceIte, Nra, Nrb, Nrc, Nrd, Nre, Nrf, Irg, Irh, Iri, Irj, Irk, Irl, Irm, Irn, Iro, Irp, Irq, Nrr, Irs, dropK_eq, k2, k4, k5, k31, k32, k33, d3, ia, callX_known (C := C13) (g := 37) rfl, ft_call (C := C13) (g := 37) rfl, callX_known (C := C13) (g := 36) rfl, ft_call (C := C13) (g := 36) rfl, callX_known (C := C13) (g := 38) rfl, ft_call (C := C13) (g := 38) rfl, e37, d4, h2, h4, h5, e36', d5, ia0, d6, sl1, e38, lenVA_slc, List.length_map, d7]
                    exact Ends_plain rfl rfl
              · rw [if_neg hpx] at hnx
                rw [rdL_bad hnx]
                rcases log_no hpx with hW | ⟨p, r, hW, hpn'⟩
                · rw [hW] at e36'
                  have e38 := F38_eq (Rg.slc (enc := sv) (es := 1) []) (by simp) (fun p hp => by simp at hp)
                  have ia0 : iaSA 1 (.slc 1 ([logT].map sv)) (.int .i64 0) = some (.pvo [sv logT] 0) := (Rg.slc (enc := sv) (es := 1) [logT]).ia (i := 0) (by simp)
                  have sl1 : slVA 1 (.slc 1 ([logT].map sv)) (some (.int .i64 1)) none none = some (.slc 1 (([] : List (List UInt8)).map sv)) := (Rg.slc (enc := sv) (es := 1) [logT]).sliceFrom (n := 1) (by simp)
                  have d6 : decide (¬ logT = logT) = false := by decide
                  simp only [tryL, allN, i64s, List.map_nil] at e38
                  simp only [List.map_cons, List.map_nil] at e36' ia0 sl1
                  simp (disch := first | omega | simp only [*, go_sem, ↓reduceIte, Nra, Nrb, Nrc, Nrd, Nre, Nrf, Irg, Irh, Iri, Irj, Irk, Irl, Irm, Irn, Iro, Irp, Irq, Nrr, Irs, dropK_eq]) only [x20l6, go_sem, ↓reduceIte, Nra, Nrb, Nrc, Nrd, Nre, Nrf, Irg, Irh, Iri, Irj, Irk, Irl, Irm, Irn, Iro, Irp, Irq, Nrr, Irs, dropK_eq, k2, k4, k5, k31, k32, k33, d3, ia, callX_known (C := C13) (g := 37) rfl, ft_call (C := C13) (g := 37) rfl, callX_known (C := C13) (g := 36) rfl, ft_call (C := C13) (g := 36) rfl, callX_known (C := C13) (g := 38) rfl, ft_call (C := C13) (g := 38) rfl, e37, d4, h2, h4, h5, e36', d5, ia0, d6, sl1, e38, lenVA_slc, List.length_map, List.length_nil]
                  exact Ends_plain rfl rfl
                · rw [hW] at e36'
                  have ia0 : iaSA 1 (.slc 1 ((p :: r).map sv)) (.int .i64 0) = some (.pvo [sv p] 0) := (Rg.slc (enc := sv) (es := 1) (p :: r)).ia (i := 0) (by simp)
                  have d6 : decide (¬ p = logT) = true := decide_eq_true hpn'
                  simp only [List.map_cons] at e36' ia0
                  simp (disch := first | omega | simp only [*, go_sem, ↓reduceIte, Nra, Nrb, Nrc, Nrd, Nre, Nrf, Irg, Irh, Iri, Irj, Irk, Irl, Irm, Irn, Iro, Irp, Irq, Nrr, Irs, dropK_eq]) only [x20l6, go_sem, ↓reduceIte, Nra, Nrb, Nrc, Nrd, Nre, Nrf, Irg, Irh, Iri, Irj, Irk, Irl, Irm, Irn, Iro, Irp, Irq, Nrr, Irs, dropK_eq, k2, k4, k5, k31, k32, k33, d3, ia, callX_known (C := C13) (g := 37) rfl, ft_call (C := C13) (g := 37) rfl, callX_known (C := C13) (g := 36) rfl, ft_call (C := C13) (g := 36) rfl, callX_known (C := C13) (g := 38) rfl, ft_call (C := C13) (g := 38) rfl, e37, d4, h2, h4, h5, e36', d5, ia0, d6]
                  exact Ends_plain rfl rfl
            · have d5 : decide ((i : Int) = 0) = false := decide_eq_false (by omega)
              have d5' : decide (0 < (i : Int)) = true := decide_eq_true (by omega)
              rw [d5, if_neg (by simp)] at hnx
              have e38 := F38_eq (Rg.slc (enc := sv) (es := 1) (parts 32 (opT ls[i]))) (by omega) hpl
              have hcn : ∀ ns : List Int, ns.length ≤ 5 → (cntN (opT ls[i]) = some ns ↔ allN (parts 32 (opT ls[i])) = some ns) := fun ns h => cntN_all h
              have hf2 : -1000000000 ≤ f ∧ f ≤ 1000000000 := hf
              have hscl := ho.sc
              have hcel := ho.cells
              by_cases h5n : ∃ n k c s v, allN (parts 32 (opT ls[i])) = some [n, k, c, s, v]
              · obtain ⟨n, k, c', s', v, hq⟩ := h5n
                have hcq := (hcn [n, k, c', s', v] (by simp)).2 hq
                have hn : -1000000000 ≤ n ∧ n ≤ 1000000000 := cntN_ok hcq n (by simp)
                rw [hq] at e38
                simp only [tryL, i64s, List.map_cons, List.map_nil] at e38
                rw [hcq] at hnx
                simp only at hnx
                by_cases h6 : n = f + (es.length : Int)
                · have d6 : decide (¬ n = f + (i : Int) - 1) = false := decide_eq_false (fun h => h (by omega))
                  rw [if_pos h6] at hnx
                  obtain ⟨V, H, hA, hH⟩ := ho.push (s0 := 20024016) (s1 := 20024015) (z := .agg [.int .i64 k, .int .i64 c', .int .i64 s', .int .i64 v]) (bytes := 32) (by simp) (by simp) rfl rfl (by rw [List.length_map]; omega)
                  have hHk : ∀ q q' key, key.1 < 20024015 → H q q' key = hp key := fun q q' key hk => (hH q q').2 _ (by simp; omega) (by omega)
                  have g5 : ∀ q q', H q q' (20004001, 3) = some (.var [.int .i64 c, .int .i64 f, a]) := fun q q' => (hHk q q' _ (by simp)).trans h5
                  have g2 : ∀ q q', H q q' (20000000, 0) = some (.var [.int .i64 0, .int .i64 0, .nils]) := fun q q' => (hHk q q' _ (by simp)).trans h2
                  have g4 : ∀ q q', H q q' (20001001, 1) = some (.var [.int .i64 0, .int .i64 0, .nils]) := fun q q' => (hHk q q' _ (by simp)).trans h4
                  have hVs := fun q q' => (hH q q').1.sc
                  have hVc := fun q q' => (hH q q').1.cells
                  simp (disch := first | omega | simp only [*, go_sem, ↓reduceIte, Nra, Nrb, Nrc, Nrd, Nre, Nrf, Irg, Irh, Iri, Irj, Irk, Irl, Irm, Irn, Iro, Irp, Irq, Nrr, Irs, dropK_eq]) only [x20l6, go_sem, ↓reduceIte, Nra, Nrb, Nrc, Nrd, Nre, Nrf, Irg, Irh, Iri, Irj, Irk, Irl, Irm, Irn, Iro, Irp, Irq, Nrr, Irs, dropK_eq, k2, k4, k5, k31, k32, k33, d3, ia, callX_known (C := C13) (g := 37) rfl, ft_call (C := C13) (g := 37) rfl, callX_known (C := C13) (g := 36) rfl, ft_call (C := C13) (g := 36) rfl, callX_known (C := C13) (g := 38) rfl, ft_call (C := C13) (g := 38) rfl, e37, d4, h2, h4, h5, e36', d5, d5', e38, d6, hscl, hcel, hA, g5, g2, g4, hVs, hVc]
                  refine ⟨hlt, by simp, c, f, es ++ [⟨k, c', s', v⟩], _, hnx, rfl, ?_, by simp, hf, by simp; omega⟩
                  rw [List.map_append]
                  exact (hH _ _).1.keep (fun k hk' => by repeat rw [upd_ne _ _ (by rintro rfl; simp at hk')])
                · have d6 : decide (¬ n = f + (i : Int) - 1) = true := decide_eq_true (by omega)
                  rw [if_neg h6] at hnx
                  rw [rdL_bad hnx]
                  simp (disch := first | omega | simp only [*, go_sem, ↓reduceIte, Nra, Nrb, Nrc, Nrd, Nre, Nrf, Irg, Irh, Iri, Irj, Irk, Irl, Irm, Irn, Iro, Irp, Irq, Nrr, Irs, dropK_eq]) only [x20l6, go_sem, ↓reduceIte, Nra, Nrb, Nrc, Nrd, Nre, Nrf, Irg, Irh, Iri, Irj, Irk, Irl, Irm, Irn, Iro, Irp, Irq, Nrr, Irs, dropK_eq, k2, k4, k5, k31, k32, k33, d3, ia, callX_known (C := C13) (g := 37) rfl, ft_call (C := C13) (g := 37) rfl, callX_known (C := C13) (g := 36) rfl, ft_call (C := C13) (g := 36) rfl, callX_known (C := C13) (g := 38) rfl, ft_call (C := C13) (g := 38) rfl, e37, d4, h2, h4, h5, e36', d5, d5', e38, d6, hscl, hcel]
                  exact Ends_plain rfl rfl
              · have hbad : rdL true (0, 0, []) (ls.take (i + 1)) = .error 14 := by
                  rw [hnx]
                  split
                  · rename_i n k c s v h
                    exact absurd ⟨n, k, c, s, v, (hcn _ (by simp)).1 h⟩ h5n
                  · rfl
                rw [rdL_bad hbad]
                cases hq : allN (parts 32 (opT ls[i])) with
                | none =>
                  rw [hq] at e38
                  simp only [tryL] at e38
                  simp (disch := first | omega | simp only [*, go_sem, ↓reduceIte, Nra, Nrb, Nrc, Nrd, Nre, Nrf, Irg, Irh, Iri, Irj, Irk, Irl, Irm, Irn, Iro, Irp, Irq, Nrr, Irs, dropK_eq]) only [x20l6, go_sem, ↓reduceIte, Nra, Nrb, Nrc, Nrd, Nre, Nrf, Irg, Irh, Iri, Irj, Irk, Irl, Irm, Irn, Iro, Irp, Irq, Nrr, Irs, dropK_eq, k2, k4, k5, k31, k32, k33, d3, ia, callX_known (C := C13) (g := 37) rfl, ft_call (C := C13) (g := 37) rfl, callX_known (C := C13) (g := 36) rfl, ft_call (C := C13) (g := 36) rfl, callX_known (C := C13) (g := 38) rfl, ft_call (C := C13) (g := 38) rfl, e37, d4, h2, h4, h5, e36', d5, d5', e38]
                  exact Ends_plain rfl rfl
                | some ns =>
                  rw [hq] at e38 h5n
                  simp only [tryL] at e38
                  have hl5 : ¬ (ns.length : Int) = 5 := fun h => h5n (by
                    match ns, h with
                    | [n, k, c, s, v], _ => exact ⟨n, k, c, s, v, rfl⟩
                    | [], h => simp at h
                    | [_], h => simp at h
                    | [_, _], h => simp at h
                    | [_, _, _], h => simp at h
                    | [_, _, _, _], h => simp at h
                    | _ :: _ :: _ :: _ :: _ :: _ :: _, h => simp at h; omega)
                  have d7 : decide (¬ (ns.length : Int) = 5) = true := decide_eq_true hl5
                  simp (disch := first | omega | simp only [*, go_sem, ↓reduceIte, Nra, Nrb, Nrc, Nrd, Nre, Nrf, Irg, Irh, Iri, Irj, Irk, Irl, Irm, Irn, Iro, Irp, Irq, Nrr, Irs, dropK_eq]) only [x20l6, go_sem, ↓reduceIte, Nra, Nrb, Nrc, Nrd, Nre, Nrf, Irg, Irh, Iri, Irj, Irk, Irl, Irm, Irn, Iro, Irp, Irq, Nrr, Irs, dropK_eq, k2, k4, k5, k31, k32, k33, d3, ia, callX_known (C := C13) (g := 37) rfl, ft_call (C := C13) (g := 37) rfl, callX_known (C := C13) (g := 36) rfl, ft_call (C := C13) (g := 36) rfl, callX_known (C := C13) (g := 38) rfl, ft_call (C := C13) (g := 38) rfl, e37, d4, h2, h4, h5, e36', d5, d5', e38, lenVA_slc, List.length_map, d7]
                  exact Ends_plain rfl rfl
          · have d4 : decide (¬ opE ls[i] = 0) = true := decide_eq_true c1
            rw [if_pos c1] at hnx
            rw [rdL_bad hnx]
            simp (disch := first | omega | simp only [*, go_sem, ↓reduceIte, Nra, Nrb, Nrc, Nrd, Nre, Nrf, Irg, Irh, Iri, Irj, Irk, Irl, Irm, Irn, Iro, Irp, Irq, Nrr, Irs, dropK_eq]) only [x20l6, go_sem, ↓reduceIte, Nra, Nrb, Nrc, Nrd, Nre, Nrf, Irg, Irh, Iri, Irj, Irk, Irl, Irm, Irn, Iro, Irp, Irq, Nrr, Irs, dropK_eq, k2, k4, k5, k31, k32, k33, d3, ia, callX_known (C := C13) (g := 37) rfl, ft_call (C := C13) (g := 37) rfl, e37, d4, h2, h4, h5]
            exact Ends_plain rfl rfl
        · obtain rfl : i = ls.length := by omega
          have d3 : decide ((ls.length : Int) < (ls.length : Int)) = false := decide_eq_false (by omega)
          rw [List.take_length] at hr
          rw [hr]
          have hf2 : -1000000000 ≤ f ∧ f ≤ 1000000000 := hf
          have e11 := F11_eq (cap := c) (first := f) (rowE es) (by omega) (by omega)
          have hsc := ho.sc
          have hcl := ho.cells
          obtain ⟨ks, hks, hlx⟩ := ho.lendXs (fun e => h0 (List.map_eq_nil_iff.1 e)) 62 (plainL_map 62 (fun x => EK_plain 61 x) es)
          by_cases hj : jOk c f es
          · rw [decide_eq_true hj] at e11
            simp (disch := first | omega | simp only [*, go_sem, ↓reduceIte, Nra, Nrb, Nrc, Nrd, Nre, Nrf, Irg, Irh, Iri, Irj, Irk, Irl, Irm, Irn, Iro, Irp, Irq, Nrr, Irs, dropK_eq]) only [x20l6, go_sem, ↓reduceIte, Nra, Nrb, Nrc, Nrd, Nre, Nrf, Irg, Irh, Iri, Irj, Irk, Irl, Irm, Irn, Iro, Irp, Irq, Nrr, Irs, dropK_eq, k2, k4, k5, k31, k32, k33, d3, h5, h2, h4, hsc, hcl, callX_names (C := C13) (g := 11) rfl, ftC_names (C := C13) (g := 11) rfl]
            rw [hlx _ (fun k hk => rfl)]
            simp (disch := first | omega | simp only [*, go_sem, ↓reduceIte, Nra, Nrb, Nrc, Nrd, Nre, Nrf, Irg, Irh, Iri, Irj, Irk, Irl, Irm, Irn, Iro, Irp, Irq, Nrr, Irs, dropK_eq]) only [go_sem, ↓reduceIte, Nra, Nrb, Nrc, Nrd, Nre, Nrf, Irg, Irh, Iri, Irj, Irk, Irl, Irm, Irn, Iro, Irp, Irq, Nrr, Irs, dropK_eq, e11, hasRef, k2, k4, k5, h5, h2, h4, hsc, hcl]
            have h9 := ho.lendN (fun e => h0 (List.map_eq_nil_iff.1 e)) 61 (plainL_map 61 (fun x => EK_plain 60 x) es) (hp' := upd hp (20000000, 0) (some (.var [.int .i64 c, .int .i64 f, a]))) (fun k hk' => by repeat rw [upd_ne _ _ (by rintro rfl; simp at hk')])
            have hi : ∀ (d : Nat) (n : Int) (h : Heap), lendV d (.int .i64 n) h = some (.int .i64 n) := fun d n h => lendV_plain (by cases d <;> rfl)
            rw [Ends_eq, if_pos hj]
            simp only [lendV_tup, lendVL_cons, lendV_agg, lendVL_nil, Option.bind_some, Option.map_some, hi, h9, impV]
          · rw [decide_eq_false hj] at e11
            simp (disch := first | omega | simp only [*, go_sem, ↓reduceIte, Nra, Nrb, Nrc, Nrd, Nre, Nrf, Irg, Irh, Iri, Irj, Irk, Irl, Irm, Irn, Iro, Irp, Irq, Nrr, Irs, dropK_eq]) only [x20l6, go_sem, ↓reduceIte, Nra, Nrb, Nrc, Nrd, Nre, Nrf, Irg, Irh, Iri, Irj, Irk, Irl, Irm, Irn, Iro, Irp, Irq, Nrr, Irs, dropK_eq, k2, k4, k5, k31, k32, k33, d3, h5, h2, h4, hsc, hcl, callX_names (C := C13) (g := 11) rfl, ftC_names (C := C13) (g := 11) rfl]
            rw [hlx _ (fun k hk => rfl)]
            simp (disch := first | omega | simp only [*, go_sem, ↓reduceIte, Nra, Nrb, Nrc, Nrd, Nre, Nrf, Irg, Irh, Iri, Irj, Irk, Irl, Irm, Irn, Iro, Irp, Irq, Nrr, Irs, dropK_eq]) only [go_sem, ↓reduceIte, Nra, Nrb, Nrc, Nrd, Nre, Nrf, Irg, Irh, Iri, Irj, Irk, Irl, Irm, Irn, Iro, Irp, Irq, Nrr, Irs, dropK_eq, e11, hasRef, k2, k4, k5, h5, h2, h4, hsc, hcl]
            rw [if_neg hj]
            exact Ends_plain rfl rfl
    · rw [if_neg h1]
      have d2 : decide (¬ ((s.getD (s.length - 1) 0).toNat : Int) = 10) = true := decide_eq_true (fun h => h1 (hl1.2 h))
      simp (disch := first | omega | simp only [*, go_sem, ↓reduceIte, Nra, Nrb, Nrc, Nrd, Nre, Nrf, Irg, Irh, Iri, Irj, Irk, Irl, Irm, Irn, Iro, Irp, Irq, Nrr, Irs, dropK_eq]) only [x20b, go_sem, ↓reduceIte, Nra, Nrb, Nrc, Nrd, Nre, Nrf, Irg, Irh, Iri, Irj, Irk, Irl, Irm, Irn, Iro, Irp, Irq, Nrr, Irs, dropK_eq, d1, ix, d2]
      exact Ends_plain rfl rfl
end Go.Proofs.YtaoodcnhmjokoaaGreatDoor
