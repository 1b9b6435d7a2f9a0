/-
  The reference's Print.
-/
import Derived.Test.YtppehejnnjlkfaaGreatDoorYCc
set_option linter.unusedVariables false
set_option linter.unusedSimpArgs false
namespace Go.Proofs.YtppehejnnjlkfaaGreatDoor
open Go Go.Xec
attribute [local go_sem] tm0 ne_eq not_false_eq_true List.length_append List.length_replicate List.replicate_succ List.replicate_zero Int.cast_ofNat_Int not_true_eq_false decide_true decide_false ite_self beq_self_eq_true Bool.true_beq Bool.false_beq Bool.not_true Bool.not_false
attribute [local go_sem_proc] Nat.reduceAdd Nat.reduceMul Nat.reduceSub Nat.reduceLeDiff Nat.reduceLT Nat.reduceEqDiff Int.reduceLT Int.reduceLE Int.reduceAdd Int.reduceSub Int.reduceMul Int.reduceToNat Int.reducePow Int.reduceNe Int.reduceMod Int.reduceDiv Int.reduceEq Nat.reducePow Int.reduceNeg

set_option maxRecDepth 10000
theorem range_next (p : Nat → Bool) (g : Nat → List UInt8) (i : Nat) : ((List.range (i + 1)).filter p).flatMap g = ((List.range i).filter p).flatMap g ++ (if p i then g i else []) := by
  rw [List.range_succ, List.filter_append, List.flatMap_append]
  congr 1
  by_cases h : p i = true
  · simp [h]
  · simp [h]
/-- The head of a channel's text. -/
def hdP (c : Ch) : List UInt8 := chanW ++ ([32] ++ (c.n ++ ([32] ++ (chW.getD c.t.toNat [] ++ [32, 123, 10]))))
theorem chP_eq (c : Ch) : chP c = hdP c ++ ((fl c).flatMap (fP c) ++ [125, 10]) := by simp [chP, hdP]
theorem flB_eq {c : Ch} {t i : Nat} (hc : chOk c) (hct : c.t = (t : Nat)) (hi : i < 12) : flB c i = (needB (fd i) (t : Nat) || (decide (10 ≤ i) && decide (c.f10 < c.f11))) := by
  unfold flB
  rw [hct]
  congr 2
  by_cases h : c.f10 = c.f11
  · rw [decide_eq_true h, decide_eq_false (by omega)]; rfl
  · have : c.f10 < c.f11 := by
      rcases hc.2.2.2.2 with h2 | h2
      · exact absurd (h2.1.trans h2.2.symm) h
      · exact h2.2.2
    rw [decide_eq_false h, decide_eq_true this]; rfl
theorem fls_len {c : Ch} (hc : chOk c) {i : Nat} (hi : i ≤ 12) : (((List.range i).filter (flB c)).flatMap (fP c)).length ≤ 400 := by
  have h7 : c.t = (c.t.toNat : Nat) := by have := hc.2.1; omega
  have h8 : c.t.toNat < 8 := by have := hc.2.1; omega
  have hf := fl_in hc h7 h8
  have := fP_len (c := c) ((List.range i).filter (flB c)) fun f hm => by
    have hm2 : f ∈ fl c := by
      rw [List.mem_filter, List.mem_range] at hm
      exact List.mem_filter.2 ⟨List.mem_range.2 (by omega), hm.2⟩
    exact ⟨(hf f hm2).1, inF_num (hf f hm2).1 (hf f hm2).2.2⟩
  have h2 := List.length_filter_le (flB c) (List.range i)
  rw [List.length_range] at h2
  omega
theorem vl_num {c : Ch} (hc : chOk c) {i : Nat} (hi : i < 12) (h : flB c i = true) : T.numOk (vl c i) := by
  have h7 : c.t = (c.t.toNat : Nat) := by have := hc.2.1; omega
  have h8 : c.t.toNat < 8 := by have := hc.2.1; omega
  have hf := fl_in hc h7 h8 i (List.mem_filter.2 ⟨List.mem_range.2 hi, h⟩)
  exact inF_num hi hf.2.2
noncomputable def F16 : List AVal → Option AVal := pureF C13 1 16
theorem sound16 : Sound Tryz.prog 16 F16 := sound_self ok13 1 16
set_option maxHeartbeats 4000000 in
theorem F16_eq {a : AVal} {r : List Ch} (ha : RC a r) (hr : rOk r) : F16 [.agg [a]] = some (sv (prtR r)) := by
  have hsc := ha.sc
  have hcl := ha.cells
  have hl4 := hr.2.2.2
  have e31 : F31 [] = some (.slc 1 (chW.map sv)) := F31_eq
  have hw : RS (.slc 1 (chW.map sv)) chW := Rg.slc _
  have e32 : F32 [] = some (.slc 1 (wdL.map sv)) := F32_eq
  have hd : RS (.slc 1 (wdL.map sv)) wdL := Rg.slc _
  generalize AVal.slc 1 (chW.map sv) = ca at *
  generalize AVal.slc 1 (wdL.map sv) = wa at *
  unfold F16
  refine pureF_of (x := x16) rfl rfl ?_
  rw [x16_eq.1, x16_eq.2.1]
  simp (disch := first | omega | simp only [*, go_sem, ↓reduceIte, dropK_eq]) only [x16b, go_sem, ↓reduceIte, dropK_eq, hsc, hcl, ha.len]
  refine Ev_range (ti := 11) (len := r.length) (J := fun i tm hp nc => hp (16000000, 0) = some (.var [a]) ∧ tm 3 = sv (prtR (r.take i))) (by omega) (by simp only [go_sem, ↓reduceIte, dropK_eq]) ?_ ?_
  · simp only [go_sem, ↓reduceIte, dropK_eq, List.take_zero]
    rfl
  · rintro i tm hp nc hi hc k11 ⟨hv, k3⟩
    have k1 := hc 1 rfl; have k9 := hc 9 rfl; have k10 := hc 10 rfl; simp only [go_sem, ↓reduceIte, dropK_eq] at k1 k9 k10
    rcases Nat.lt_or_ge i r.length with hlt | hge
    · have d1 : decide ((i : Int) < (r.length : Int)) = true := decide_eq_true (by omega)
      have ia := ha.ia hlt
      have hco := hr.1 _ (List.getElem_mem hlt)
      have hnx : prtR (r.take (i + 1)) = prtR (r.take i) ++ chP r[i] := by
        unfold prtR
        rw [take_next hlt, List.flatMap_append]
        simp
      have hpl := prtR_len (r := r.take i) fun c hc => hr.1 c (List.mem_of_mem_take hc)
      rw [List.length_take] at hpl
      generalize prtR (r.take i) = p at *
      generalize r[i] = c at *
      obtain ⟨t, hct⟩ : ∃ t : Nat, c.t = t := ⟨c.t.toNat, by have := hco.2.1; omega⟩
      have ht : t < 8 := by have := hco.2.1; omega
      have htn : c.t.toNat = t := by rw [hct]; rfl
      have hcn := hco.1.2.2
      have htw : t < chW.length := ht
      have iw := hw.ia htw
      have hcw : chW[t] = chW.getD t [] := by rw [List.getD_eq_getElem?_getD, List.getElem?_eq_getElem htw]; rfl
      rw [hcw, ← hct] at iw
      have h6 : ∀ t < 8, (chW.getD t []).length ≤ 6 := by decide
      have h6 := h6 t ht
      have hpp : p.length ≤ 1600 := by omega
      have hhd : p ++ hdP c = p ++ (chanW ++ ([32] ++ (c.n ++ ([32] ++ (chW.getD t [] ++ [32, 123, 10]))))) := by unfold hdP; rw [htn]
      simp (disch := first | omega | simp only [*, go_sem, ↓reduceIte, dropK_eq]) only [x16l3, go_sem, ↓reduceIte, dropK_eq, k1, k3, k9, k10, k11, d1, ia, hv, callX_known (C := C13) (g := 31) rfl, ft_call (C := C13) (g := 31) rfl, callX_known (C := C13) (g := 32) rfl, ft_call (C := C13) (g := 32) rfl, e31, e32, iw, hd.len]
      have hfb := fun j hj => flB_eq (i := j) hco hct hj
      have hhl : (hdP c).length ≤ 100 := by simp only [hdP, List.length_append, List.length_cons, List.length_nil, chanW, htn]; omega
      refine Ev_range (ti := 30) (len := wdL.length) (J := fun j tm' hp' nc' => hp' (16000000, 0) = some (.var [a]) ∧ hp' (16004002, nc + 1) = some (.var (cellsOf (CK c))) ∧ tm' 3 = sv (p ++ (hdP c ++ ((List.range j).filter (flB c)).flatMap (fP c)))) (by decide) (by simp only [go_sem, ↓reduceIte, dropK_eq]) ?_ ?_
      · refine ⟨?_, ?_, ?_⟩
        · repeat rw [upd_ne _ _ (by simp)]
          exact hv
        · rw [upd_same]
          rfl
        · simp only [go_sem, ↓reduceIte, dropK_eq]
          refine congrArg sv ?_
          simp [hdP, htn, chanW, List.range_zero]
      · rintro j tm2 hp2 nc2 hj hc k30 ⟨hv2, hd2, q3⟩
        have q1 := hc 1 rfl; have q5 := hc 5 rfl; have q9 := hc 9 rfl; have q10 := hc 10 rfl; have q11 := hc 11 rfl; have q28 := hc 28 rfl; have q29 := hc 29 rfl; simp only [go_sem, ↓reduceIte, dropK_eq, k1, k9, k10, k11] at q1 q5 q9 q10 q11 q28 q29
        have h12 : wdL.length = 12 := rfl
        rcases Nat.lt_or_ge j wdL.length with hlt2 | hge2
        · have hj12 : j < 12 := by omega
          have d2 : decide ((j : Int) < (wdL.length : Int)) = true := decide_eq_true (by omega)
          have id := hd.ia hlt2
          have hwj : wdL[j]'hlt2 = (fd j).w := by
            have := wd_fd hj12
            rw [List.getD_eq_getElem?_getD, List.getElem?_eq_getElem hlt2] at this
            exact this
          rw [hwj] at id
          have e33 := E33 (k := j) ht hj12 hct
          have e35 := F35_eq (c := c) hj12
          have hvl : c.fs[j]'hj12 = vl c j := by unfold vl; rw [List.getD_eq_getElem?_getD, List.getElem?_eq_getElem hj12]; rfl
          rw [hvl] at e35
          have hst := range_next (flB c) (fP c) j
          have hfl := fls_len hco (i := j) (by omega)
          have hfb := hfb j hj12
          have h6w : ∀ f < 12, (fd f).w.length ≤ 6 := by decide
          have h6w := h6w j hj12
          cases hb : flB c j with
          | true =>
            have hnum := vl_num hco hj12 hb
            have hil : (T.its (vl c j)).length ≤ 21 := T.its_len ⟨by have := hnum.1; omega, by have := hnum.2; omega⟩
            have e34 := T.F34_eq (n := vl c j) ⟨by have := hnum.1; omega, by have := hnum.2; omega⟩
            rw [hb] at hst hfb
            cases hnd : needB (fd j) (t : Nat) with
            | true =>
              rw [hnd] at e33
              clear hfb
              simp (disch := first | omega | simp only [*, go_sem, ↓reduceIte, dropK_eq]) only [x16l7, go_sem, ↓reduceIte, dropK_eq, q1, q3, q5, q9, q10, q11, q28, q29, k30, d2, id, hd2, hv2, callX_known (C := C13) (g := 33) rfl, ft_call (C := C13) (g := 33) rfl, callX_known (C := C13) (g := 35) rfl, ft_call (C := C13) (g := 35) rfl, callX_known (C := C13) (g := 34) rfl, ft_call (C := C13) (g := 34) rfl, e33, e35, e34]
              exact ⟨hlt2, by simp, by (first | rw [hst] | rw [← List.range_succ, hst]); simp [fP]⟩
            | false =>
              rw [hnd] at e33 hfb
              simp only [Bool.false_or, Bool.true_eq, Bool.and_eq_true, decide_eq_true_eq] at hfb
              have d10 : decide ((10 : Int) ≤ (j : Int)) = true := decide_eq_true (by omega)
              have dl := decide_eq_true hfb.2
              simp (disch := first | omega | simp only [*, go_sem, ↓reduceIte, dropK_eq]) only [x16l7, go_sem, ↓reduceIte, dropK_eq, q1, q3, q5, q9, q10, q11, q28, q29, k30, d2, id, hd2, hv2, d10, dl, callX_known (C := C13) (g := 33) rfl, ft_call (C := C13) (g := 33) rfl, callX_known (C := C13) (g := 35) rfl, ft_call (C := C13) (g := 35) rfl, callX_known (C := C13) (g := 34) rfl, ft_call (C := C13) (g := 34) rfl, e33, e35, e34]
              exact ⟨hlt2, by simp, by (first | rw [hst] | rw [← List.range_succ, hst]); simp [fP]⟩
          | false =>
            rw [hb] at hst hfb
            have hfb2 : needB (fd j) (t : Nat) = false ∧ (decide (10 ≤ j) && decide (c.f10 < c.f11)) = false := by
              simpa [Bool.or_eq_false_iff] using hfb.symm
            rw [hfb2.1] at e33
            by_cases h10 : 10 ≤ j
            · have d10 : decide ((10 : Int) ≤ (j : Int)) = true := decide_eq_true (by omega)
              have dl : decide (c.f10 < c.f11) = false := by
                have := hfb2.2
                rw [decide_eq_true h10] at this
                simpa using this
              simp (disch := first | omega | simp only [*, go_sem, ↓reduceIte, dropK_eq]) only [x16l7, go_sem, ↓reduceIte, dropK_eq, q1, q3, q5, q9, q10, q11, q28, q29, k30, d2, id, hd2, hv2, d10, dl, callX_known (C := C13) (g := 33) rfl, ft_call (C := C13) (g := 33) rfl, e33]
              exact ⟨hlt2, by simp, by (first | rw [hst] | rw [← List.range_succ, hst]); simp⟩
            · have d10 : decide ((10 : Int) ≤ (j : Int)) = false := decide_eq_false (by omega)
              simp (disch := first | omega | simp only [*, go_sem, ↓reduceIte, dropK_eq]) only [x16l7, go_sem, ↓reduceIte, dropK_eq, q1, q3, q5, q9, q10, q11, q28, q29, k30, d2, id, hd2, hv2, d10, callX_known (C := C13) (g := 33) rfl, ft_call (C := C13) (g := 33) rfl, e33]
              exact ⟨hlt2, by simp, by (first | rw [hst] | rw [← List.range_succ, hst]); simp⟩
        · obtain rfl : j = wdL.length := by omega
          have d2 : decide ((wdL.length : Int) < (wdL.length : Int)) = false := decide_eq_false (by omega)
          have hfl := fls_len hco (i := wdL.length) (by omega)
          have hflc : ((List.range wdL.length).filter (flB c)).flatMap (fP c) = (fl c).flatMap (fP c) := rfl
          rw [hflc] at q3 hfl
          simp (disch := first | omega | simp only [*, go_sem, ↓reduceIte, dropK_eq]) only [x16l7, go_sem, ↓reduceIte, dropK_eq, q1, q3, q5, q9, q10, q11, q28, q29, k30, d2, hv2]
          refine ⟨hlt, by simp, ?_⟩
          rw [hnx, chP_eq]
          simp
    · obtain rfl : i = r.length := by omega
      have d1 : decide ((r.length : Int) < (r.length : Int)) = false := decide_eq_false (by omega)
      rw [List.take_length] at k3
      simp (disch := first | omega | simp only [*, go_sem, ↓reduceIte, dropK_eq]) only [x16l3, go_sem, ↓reduceIte, dropK_eq, k1, k3, k9, k10, k11, d1]
      exact Ends_plain rfl rfl
end Go.Proofs.YtppehejnnjlkfaaGreatDoor
