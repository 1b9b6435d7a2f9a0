/-
  A row of numbers, as the program reads it.
-/
import Derived.Test.YtaoodcnhmjokoaaGreatDoorYB
set_option linter.unusedVariables false
set_option linter.unusedSimpArgs false
namespace Go.Proofs.YtaoodcnhmjokoaaGreatDoor
open Go Go.Xec
attribute [local go_sem] tm0 ne_eq not_false_eq_true List.length_append List.length_replicate List.replicate_succ List.replicate_zero Int.cast_ofNat_Int not_true_eq_false decide_true decide_false ite_self beq_self_eq_true Bool.true_beq Bool.false_beq Bool.not_true Bool.not_false
open Nat renaming reduceAdd → Nra, reduceMul → Nrb, reduceSub → Nrc, reduceLeDiff → Nrd, reduceLT → Nre, reduceEqDiff → Nrf, reducePow → Nrr
open Int renaming reduceLT → Irg, reduceLE → Irh, reduceAdd → Iri, reduceSub → Irj, reduceMul → Irk, reduceToNat → Irl, reducePow → Irm, reduceNe → Irn, reduceMod → Iro, reduceDiv → Irp, reduceEq → Irq, reduceNeg → Irs

set_option maxRecDepth 10000
noncomputable def C11 : Cfg := (C10.add 32 F_split).add 67 (F_atoi 141)
theorem ok11 : CfgOk Tryz.prog C11 := (ok10.add sound32).add sound67
def padA (ns : List Int) : List AVal := [.int .i64 (ns.getD 0 0), .int .i64 (ns.getD 1 0), .int .i64 (ns.getD 2 0), .int .i64 (ns.getD 3 0), .int .i64 (ns.getD 4 0)]
theorem padA_len (ns : List Int) : (padA ns).length = 5 := rfl
theorem padA_take (ns : List Int) : List.take 5 (padA ns) = padA ns := rfl
theorem padA_sc (ns : List Int) : (padA ns).all isSc = true := rfl
theorem padA_drop (ns : List Int) : padA ns ++ List.drop 5 (padA ns) = padA ns := rfl
theorem padA_set {ns : List Int} {i : Nat} {v : Int} (h : i < ns.length) (h5 : i < 5) (hv : v = ns.getD i 0) : List.take (0 + (0 + (i : Int).toNat * 1)) (padA (ns.take i)) ++ AVal.int .i64 v :: List.drop (0 + (0 + (i : Int).toNat * 1) + 1) (padA (ns.take i)) = padA (ns.take (i + 1)) := by
  have e : 0 + (0 + (i : Int).toNat * 1) = i := by omega
  rw [e, hv]
  have hi : i = 0 ∨ i = 1 ∨ i = 2 ∨ i = 3 ∨ i = 4 := by omega
  rcases hi with rfl | rfl | rfl | rfl | rfl <;> simp [padA, List.getD_eq_getElem?_getD, List.getElem?_take]
noncomputable def F49 : List AVal → Option AVal := pureF C11 1 49
theorem sound49 : Sound Tryz.prog 49 F49 := sound_self ok11 1 49
theorem parts_len {c : UInt8} : ∀ (l : List UInt8), ∀ p ∈ parts c l, p.length ≤ l.length
  | [], p, h => by simp [parts] at h; simp [h]
  | b :: l, p, h => by
    unfold parts at h
    split at h
    · rcases List.mem_cons.1 h with rfl | h
      · simp
      · have := parts_len l p h
        simp; omega
    · split at h
      · rename_i q qs hq
        rcases List.mem_cons.1 h with rfl | h
        · have := parts_len l q (by rw [hq]; simp)
          simp; omega
        · have := parts_len l p (by rw [hq]; simp [h])
          simp; omega
      · simp at h
        simp [h]
theorem F49_long {s : List UInt8} (hs : s.length ≤ 100000) (h5 : 5 < (parts 32 s).length) : F49 [sv s] = some (.tup [.agg (padA []), .int .i64 (-1)]) := by
  have e32 := F_split_eq (c := 32) (l := s) (by omega)
  have d1 : decide (5 < ((parts 32 s).length : Int)) = true := decide_eq_true (by omega)
  unfold F49
  refine pureF_of (x := x49) rfl rfl ?_
  rw [x49_eq.1, x49_eq.2.1]
  simp (disch := first | omega | simp only [go_sem, ↓reduceIte, Nra, Nrb, Nrc, Nrd, Nre, Nrf, Irg, Irh, Iri, Irj, Irk, Irl, Irm, Irn, Iro, Irp, Irq, Nrr, Irs, dropK_eq]) only [x49b, go_sem, ↓reduceIte, Nra, Nrb, Nrc, Nrd, Nre, Nrf, Irg, Irh, Iri, Irj, Irk, Irl, Irm, Irn, Iro, Irp, Irq, Nrr, Irs, dropK_eq, callX_known (C := C11) (g := 32) rfl, ft_call (C := C11) (g := 32) rfl, e32, lenVA_slc, List.length_map, d1]
  exact Ends_plain rfl rfl
theorem F49_eq {s : List UInt8} (hs : s.length ≤ 100000) (h5 : (parts 32 s).length ≤ 5) : F49 [sv s] = some (.tup [.agg (padA (goodN (parts 32 s))), .int .i64 (if (goodN (parts 32 s)).length = (parts 32 s).length then (parts 32 s).length else -1)]) := by
  have e32 := F_split_eq (c := 32) (l := s) (by omega)
  have d1 : decide (5 < ((parts 32 s).length : Int)) = false := decide_eq_false (by omega)
  have hlen : ∀ p ∈ parts 32 s, p.length ≤ 100000 := fun p hp => Nat.le_trans (parts_len s p hp) hs
  have ha : RS (.slc 1 ((parts 32 s).map sv)) (parts 32 s) := Rg.slc _
  unfold F49
  refine pureF_of (x := x49) rfl rfl ?_
  rw [x49_eq.1, x49_eq.2.1]
  simp (disch := first | omega | simp only [go_sem, ↓reduceIte, Nra, Nrb, Nrc, Nrd, Nre, Nrf, Irg, Irh, Iri, Irj, Irk, Irl, Irm, Irn, Iro, Irp, Irq, Nrr, Irs, dropK_eq]) only [x49b, go_sem, ↓reduceIte, Nra, Nrb, Nrc, Nrd, Nre, Nrf, Irg, Irh, Iri, Irj, Irk, Irl, Irm, Irn, Iro, Irp, Irq, Nrr, Irs, dropK_eq, callX_known (C := C11) (g := 32) rfl, ft_call (C := C11) (g := 32) rfl, e32, lenVA_slc, List.length_map, d1]
  generalize hls : parts 32 s = ls at *
  have hgl := goodN_le ls
  refine Ev_range (ti := 17) (len := ls.length) (J := fun i tm hp nc => i ≤ (goodN ls).length ∧ hp (49000000, 0) = some (.var (padA ((goodN ls).take i)))) (by omega) ?_ ?_ ?_
  · simp only [go_sem, ↓reduceIte, Nra, Nrb, Nrc, Nrd, Nre, Nrf, Irg, Irh, Iri, Irj, Irk, Irl, Irm, Irn, Iro, Irp, Irq, Nrr, Irs, dropK_eq]
  · refine ⟨Nat.zero_le _, ?_⟩
    simp only [go_sem, ↓reduceIte, Nra, Nrb, Nrc, Nrd, Nre, Nrf, Irg, Irh, Iri, Irj, Irk, Irl, Irm, Irn, Iro, Irp, Irq, Nrr, Irs, dropK_eq]
    rfl
  · rintro i tm hp nc hi hc k17 ⟨hg, h0⟩
    have k2 := hc 2 rfl; have k4 := hc 4 rfl; have k15 := hc 15 rfl; have k16 := hc 16 rfl; simp only [go_sem, ↓reduceIte, Nra, Nrb, Nrc, Nrd, Nre, Nrf, Irg, Irh, Iri, Irj, Irk, Irl, Irm, Irn, Iro, Irp, Irq, Nrr, Irs, dropK_eq] at k2 k4 k15 k16
    rcases Nat.lt_or_ge i ls.length with hlt | hge
    · have d2 : decide ((i : Int) < (ls.length : Int)) = true := decide_eq_true (by omega)
      have ia := ha.ia hlt
      obtain ⟨v, x, e67, hx⟩ := atoi_val (hlen _ (List.getElem_mem hlt))
      have hga := goodN_at ls i hlt hg
      rcases hx with ⟨rfl, hv1, hv2, hx⟩ | ⟨rfl, hx⟩
      · have e43 := F_itoa_eq (n := v) ⟨hv1, hv2⟩
        have e23 := F23_eq (n := v) (lo := -1000000000) (hi := 1000000000)
        rcases hx with ⟨hn, hok, hits⟩ | ⟨hn, hno⟩
        · have d3 : decide (¬ Lib.itoa v = ls[i]) = false := decide_eq_false (fun h => h hits)
          rw [decide_eq_true (show -1000000000 ≤ v ∧ v ≤ 1000000000 from hok)] at e23
          rw [hn] at hga
          obtain ⟨hgi, hgv⟩ : i < (goodN ls).length ∧ v = (goodN ls).getD i 0 := by
            rcases hga with ⟨h1, h2⟩ | ⟨_, h2⟩
            · exact ⟨h1, by simpa using h2⟩
            · cases h2
          have hc5 : 0 + (0 + (i : Int).toNat * 1) + 1 ≤ (padA ((goodN ls).take i)).length := by rw [padA_len]; omega
          have hst := padA_set hgi (by omega) hgv
          simp (disch := first | omega | simp only [*, go_sem, ↓reduceIte, Nra, Nrb, Nrc, Nrd, Nre, Nrf, Irg, Irh, Iri, Irj, Irk, Irl, Irm, Irn, Iro, Irp, Irq, Nrr, Irs, dropK_eq]) only [x49l5, go_sem, ↓reduceIte, Nra, Nrb, Nrc, Nrd, Nre, Nrf, Irg, Irh, Iri, Irj, Irk, Irl, Irm, Irn, Iro, Irp, Irq, Nrr, Irs, dropK_eq, k2, k4, k15, k16, k17, h0, d2, ia, callX_known (C := C11) (g := 67) rfl, ft_call (C := C11) (g := 67) rfl, callX_known (C := C11) (g := 43) rfl, ft_call (C := C11) (g := 43) rfl, callX_known (C := C11) (g := 23) rfl, ft_call (C := C11) (g := 23) rfl, e67, nilA_nili, nilA_ifc1, e43, e23, d3, if_pos hc5, hst]
          first | omega | exact ⟨hlt, by simp, by omega⟩
        · have e9 : numOf ls[i] = none := hn
          rw [hn] at hga
          have hgi : i = (goodN ls).length := by
            rcases hga with ⟨_, h2⟩ | ⟨h1, _⟩
            · cases h2
            · exact h1
          have hne : ¬ (goodN ls).length = ls.length := by omega
          rw [if_neg hne]
          rw [hgi, List.take_length] at h0
          by_cases hits : its v = ls[i]
          · have hok : ¬ (-1000000000 ≤ v ∧ v ≤ 1000000000) := fun h => hno ⟨h, hits⟩
            rw [decide_eq_false hok] at e23
            have d3 : decide (¬ Lib.itoa v = ls[i]) = false := decide_eq_false (fun h => h hits)
            simp (disch := first | omega | simp only [*, go_sem, ↓reduceIte, Nra, Nrb, Nrc, Nrd, Nre, Nrf, Irg, Irh, Iri, Irj, Irk, Irl, Irm, Irn, Iro, Irp, Irq, Nrr, Irs, dropK_eq]) only [x49l5, go_sem, ↓reduceIte, Nra, Nrb, Nrc, Nrd, Nre, Nrf, Irg, Irh, Iri, Irj, Irk, Irl, Irm, Irn, Iro, Irp, Irq, Nrr, Irs, dropK_eq, k2, k4, k15, k16, k17, h0, d2, ia, callX_known (C := C11) (g := 67) rfl, ft_call (C := C11) (g := 67) rfl, callX_known (C := C11) (g := 43) rfl, ft_call (C := C11) (g := 43) rfl, callX_known (C := C11) (g := 23) rfl, ft_call (C := C11) (g := 23) rfl, e67, nilA_nili, nilA_ifc1, e43, e23, d3, padA_len, padA_take, padA_sc, padA_drop, Nat.le_refl, if_true]
            exact Ends_plain rfl rfl
          · have d3 : decide (¬ Lib.itoa v = ls[i]) = true := decide_eq_true hits
            simp (disch := first | omega | simp only [*, go_sem, ↓reduceIte, Nra, Nrb, Nrc, Nrd, Nre, Nrf, Irg, Irh, Iri, Irj, Irk, Irl, Irm, Irn, Iro, Irp, Irq, Nrr, Irs, dropK_eq]) only [x49l5, go_sem, ↓reduceIte, Nra, Nrb, Nrc, Nrd, Nre, Nrf, Irg, Irh, Iri, Irj, Irk, Irl, Irm, Irn, Iro, Irp, Irq, Nrr, Irs, dropK_eq, k2, k4, k15, k16, k17, h0, d2, ia, callX_known (C := C11) (g := 67) rfl, ft_call (C := C11) (g := 67) rfl, callX_known (C := C11) (g := 43) rfl, ft_call (C := C11) (g := 43) rfl, e67, nilA_nili, nilA_ifc1, e43, d3, padA_len, padA_take, padA_sc, padA_drop, Nat.le_refl, if_true]
            exact Ends_plain rfl rfl
      · rw [hx] at hga
        have hgi : i = (goodN ls).length := by
          rcases hga with ⟨_, h2⟩ | ⟨h1, _⟩
          · cases h2
          · exact h1
        have hne : ¬ (goodN ls).length = ls.length := by omega
        rw [if_neg hne]
        rw [hgi, List.take_length] at h0
        simp (disch := first | omega | simp only [*, go_sem, ↓reduceIte, Nra, Nrb, Nrc, Nrd, Nre, Nrf, Irg, Irh, Iri, Irj, Irk, Irl, Irm, Irn, Iro, Irp, Irq, Nrr, Irs, dropK_eq]) only [x49l5, go_sem, ↓reduceIte, Nra, Nrb, Nrc, Nrd, Nre, Nrf, Irg, Irh, Iri, Irj, Irk, Irl, Irm, Irn, Iro, Irp, Irq, Nrr, Irs, dropK_eq, k2, k4, k15, k16, k17, h0, d2, ia, callX_known (C := C11) (g := 67) rfl, ft_call (C := C11) (g := 67) rfl, e67, nilA_nili, nilA_ifc1, padA_len, padA_take, padA_sc, padA_drop, Nat.le_refl, if_true]
        exact Ends_plain rfl rfl
    · obtain rfl : i = ls.length := by omega
      have d2 : decide ((ls.length : Int) < (ls.length : Int)) = false := decide_eq_false (by omega)
      have hgl2 : (goodN ls).length = ls.length := by omega
      rw [if_pos hgl2]
      rw [← hgl2, List.take_length] at h0
      simp (disch := first | omega | simp only [*, go_sem, ↓reduceIte, Nra, Nrb, Nrc, Nrd, Nre, Nrf, Irg, Irh, Iri, Irj, Irk, Irl, Irm, Irn, Iro, Irp, Irq, Nrr, Irs, dropK_eq]) only [x49l5, go_sem, ↓reduceIte, Nra, Nrb, Nrc, Nrd, Nre, Nrf, Irg, Irh, Iri, Irj, Irk, Irl, Irm, Irn, Iro, Irp, Irq, Nrr, Irs, dropK_eq, k2, k4, k15, k16, k17, h0, d2, lenVA_slc, List.length_map, padA_len, padA_take, padA_sc, padA_drop, Nat.le_refl, if_true]
      exact Ends_plain rfl rfl
end Go.Proofs.YtaoodcnhmjokoaaGreatDoor
