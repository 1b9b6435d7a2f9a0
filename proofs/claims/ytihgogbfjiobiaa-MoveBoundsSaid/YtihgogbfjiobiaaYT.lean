/-
  MoveBounds, as the interpreter sees it.
-/
import Derived.Test.YtihgogbfjiobiaaYS
set_option linter.unusedVariables false
set_option linter.unusedSimpArgs false
namespace Go.Proofs.Ytihgogbfjiobiaa
open Go Go.Xec
attribute [local go_sem] tm0 ne_eq not_false_eq_true List.length_append List.length_replicate List.replicate_succ List.replicate_zero Int.cast_ofNat_Int not_true_eq_false decide_true decide_false ite_self beq_self_eq_true Bool.true_beq Bool.false_beq Bool.not_true Bool.not_false
open Nat renaming reduceAdd → Nra, reduceMul → Nrb, reduceSub → Nrc, reduceLeDiff → Nrd, reduceLT → Nre, reduceEqDiff → Nrf, reducePow → Nrr
open Int renaming reduceLT → Irg, reduceLE → Irh, reduceAdd → Iri, reduceSub → Irj, reduceMul → Irk, reduceToNat → Irl, reducePow → Irm, reduceNe → Irn, reduceMod → Iro, reduceDiv → Irp, reduceEq → Irq, reduceNeg → Irs

set_option maxRecDepth 10000
theorem law3 : ∀ xs, WTL [tS] xs → pureF C5 1 3 xs = some (.bool true) := by
  intro xs h
  simp only [WTL] at h
  obtain ⟨b, _, rfl, hb, rfl⟩ := h
  obtain ⟨l0, hb, hb8⟩ := wt_S hb
  have e6 := F6_eq hb (by omega)
  have bp := hb.plain
  obtain ⟨hx, hlen⟩ := some_ok l0
  generalize someL l0 = l at *
  have bt := rowN_rg (es := 1) (enc := AVal.int .i64) l
  have btp := bt.plain
  generalize rowN 1 (l.map (AVal.int .i64)) = bv at *
  refine pureF_of (x := x3) rfl rfl ?_
  rw [x3_eq.1, x3_eq.2.1]
  simp (disch := first | omega | simp only [*, go_sem, ↓reduceIte, Nra, Nrb, Nrc, Nrd, Nre, Nrf, Irg, Irh, Iri, Irj, Irk, Irl, Irm, Irn, Iro, Irp, Irq, Nrr, Irs, List.mem_cons, List.not_mem_nil, or_false, or_self]) only [x3b, go_sem, ↓reduceIte, Nra, Nrb, Nrc, Nrd, Nre, Nrf, Irg, Irh, Iri, Irj, Irk, Irl, Irm, Irn, Iro, Irp, Irq, Nrr, Irs, bt.len, e6, callX_known (C := C5) (g := 6) rfl, ft_call (C := C5) (g := 6) rfl, callX_known (C := C5) (g := 8) rfl, ft_call (C := C5) (g := 8) rfl, callX_names (C := C5) (g := 7) rfl, ftC_names (C := C5) (g := 7) rfl, F8_eq, Option.map_some, Option.map_none]
  refine Ev_loopW (I := fun n tm hp nc => n ≤ l.length ∧ tm 6 = .int .i64 ((n : Int) - 1) ∧ (n = l.length → tm 3 = .nils) ∧ Xec.Own [3007006] 1 hp (tm 3) ((l.drop n).reverse.map (AVal.int .i64)) ∧ tm 4 = .bool (upB (l.drop (n - 1))) ∧ tm 5 = .bool (dnB (l.drop (n - 1)))) (n := l.length) ?_ (by omega) ?_
  · simp only [go_sem, ↓reduceIte, Nra, Nrb, Nrc, Nrd, Nre, Nrf, Irg, Irh, Iri, Irj, Irk, Irl, Irm, Irn, Iro, Irp, Irq, Nrr, Irs, dropK_eq]
    obtain ⟨u1, u2⟩ := up_end (l := l) (i := l.length - 1) (by omega)
    exact ⟨Nat.le_refl _, fun _ => trivial, .inl ⟨rfl, by simp⟩, by rw [u1], by rw [u2]⟩
  · rintro n tm hp nc hc ⟨hn, k6, k3, ho, k4, k5⟩
    have k0 := hc 0 rfl; simp only [go_sem, ↓reduceIte, Nra, Nrb, Nrc, Nrd, Nre, Nrf, Irg, Irh, Iri, Irj, Irk, Irl, Irm, Irn, Iro, Irp, Irq, Nrr, Irs, dropK_eq] at k0
    rcases Nat.eq_zero_or_pos n with rfl | hp0
    · have d1 : decide ((0 : Int) ≤ ((0 : Nat) : Int) - 1) = false := by decide
      rw [List.drop_zero] at ho
      simp only [Nat.zero_sub, List.drop_zero] at k4 k5
      have hln : (l.reverse).length = l.length := List.length_reverse
      have xr : allX l.reverse := fun x h => hx x (List.mem_reverse.1 h)
      have m0 : mvOk ⟨0, 0, 0⟩ := by simp [mvOk, mOk]
      have e7 : F7 [MA ⟨0, 0, 0⟩, bv] = some (.tup [MA (runM ⟨0, 0, 0⟩ l).1, rowN 1 ((runM ⟨0, 0, 0⟩ l).2.map (AVal.int .i64)), .int .i64 0]) := F7_0 (by decide) bt (by omega) m0 hx (by simp only; omega)
      have e7b : F7 [MA ⟨0, 0, 0⟩, rowN 1 (l.reverse.map (AVal.int .i64))] = some (.tup [MA (runM ⟨0, 0, 0⟩ l.reverse).1, rowN 1 ((runM ⟨0, 0, 0⟩ l.reverse).2.map (AVal.int .i64)), .int .i64 0]) := F7_0 (by decide) (rowN_rg (es := 1) (enc := AVal.int .i64) l.reverse) (by rw [hln]; omega) m0 xr (by rw [hln]; simp only; omega)
      obtain ⟨ks, hks, hlx⟩ := ho.lendXs (fun e => k3 (by have := congrArg List.length e; simp only [List.length_map, List.length_reverse, List.length_nil] at this; omega)) 63 (ints_plain 62 _)
      have hdk : ∀ v hp k, k.1 ∉ [3007006] → dropK v ks hp k = hp k := fun v hp k h => dropK_ne hks h v hp
      have r1 := rowN_rg (es := 1) (enc := AVal.int .i64) (runM ⟨0, 0, 0⟩ l).2
      have r2 := rowN_rg (es := 1) (enc := AVal.int .i64) (runM ⟨0, 0, 0⟩ l.reverse).2
      have p1 := r1.plain
      have p2 := r2.plain
      have l1 := r1.len
      have l2 := r2.len
      generalize rowN 1 ((runM ⟨0, 0, 0⟩ l).2.map (AVal.int .i64)) = R1 at *
      generalize rowN 1 ((runM ⟨0, 0, 0⟩ l.reverse).2.map (AVal.int .i64)) = R2 at *
      by_cases hl : l = []
      · subst hl
        have q : (runM ⟨0, 0, 0⟩ []) = (⟨0, 0, 0⟩, []) := rfl
        have q' : (runM ⟨0, 0, 0⟩ ([] : List Int).reverse) = (⟨0, 0, 0⟩, []) := rfl
        rw [q] at e7 l1
        rw [q'] at e7b l2
        have k3' := k3 rfl
        have e7c : F7 [MA ⟨0, 0, 0⟩, .nils] = _ := e7b
        simp (disch := first | omega | simp only [*, go_sem, ↓reduceIte, Nra, Nrb, Nrc, Nrd, Nre, Nrf, Irg, Irh, Iri, Irj, Irk, Irl, Irm, Irn, Iro, Irp, Irq, Nrr, Irs, List.mem_cons, List.not_mem_nil, or_false, or_self]) only [x3b, go_sem, ↓reduceIte, Nra, Nrb, Nrc, Nrd, Nre, Nrf, Irg, Irh, Iri, Irj, Irk, Irl, Irm, Irn, Iro, Irp, Irq, Nrr, Irs, bt.len, e6, callX_known (C := C5) (g := 6) rfl, ft_call (C := C5) (g := 6) rfl, callX_known (C := C5) (g := 8) rfl, ft_call (C := C5) (g := 8) rfl, callX_names (C := C5) (g := 7) rfl, ftC_names (C := C5) (g := 7) rfl, F8_eq, Option.map_some, Option.map_none, x3l5, k0, k6, d1, e7, e7c, k3', l1, l2, show mnxA true (.int .i64 0) [.int .i64 (-1)] = some (.int .i64 0) from rfl]
        exact Ends_plain rfl rfl
      · obtain ⟨q1, q2⟩ := run_tv hl
        obtain ⟨q3, q4⟩ := run_tv (l := l.reverse) (by simpa using hl)
        rw [tvar_rev, hln] at q3
        rw [hln] at q4
        rw [q1] at e7
        rw [q3] at e7b
        rw [q2] at l1
        rw [q4] at l2
        have hpos : 0 < l.length := by cases l with
          | nil => exact absurd rfl hl
          | cons => simp
        have hb1 : l.length - 1 < l.length := by omega
        have hA : l.reverse.getLastD 0 = (l[0]'hpos) := by
          cases l with
          | nil => exact absurd rfl hl
          | cons x r => simp
        have hZ : l.getLastD 0 = (l[l.length - 1]'hb1) := by
          rw [List.getLastD_eq_getLast?, List.getLast?_eq_getElem?, List.getElem?_eq_getElem (by omega)]
          rfl
        obtain ⟨f1, f2⟩ : stepD (l[0]'hpos) (l[l.length - 1]'hb1) ≤ tvar l ∧ ((upB l || dnB l) = true ↔ tvar l = stepD (l[0]'hpos) (l[l.length - 1]'hb1)) := by
          rw [← hZ]
          cases l with
          | nil => exact absurd rfl hl
          | cons x r =>
            obtain ⟨h1, h2, _⟩ := tvar_far x r
            exact ⟨h1, h2⟩
        have ia0 : iaSA 1 bv (.int .i64 0) = some (.pvo (cellsOf (.int .i64 (l[0]'hpos))) 0) := bt.ia (i := 0) hpos
        have iaz := bt.ia (i := l.length - 1) (by omega)
        have ez : ((l.length - 1 : Nat) : Int) = (l.length : Int) - 1 := by omega
        rw [ez] at iaz
        have hM : mnxA true (.int .i64 0) [.int .i64 ((l.length : Int) - 1)] = some (.int .i64 ((l.length : Int) - 1)) := by
          rw [mnx_max]
          congr 2
          omega
        have x0 := hx _ (List.getElem_mem (show 0 < l.length by omega))
        have xz := hx _ (List.getElem_mem (show l.length - 1 < l.length by omega))
        rw [hZ] at e7
        rw [hA] at e7b
        obtain ⟨_, _, a3, a4, a5, a6⟩ := stepD_abs (l[0]'hpos) (l[l.length - 1]'hb1)
        clear q1 q2 q3 q4 hA hZ
        generalize tvar l = T at e7 e7b f1 f2
        generalize upB l = U at k4 f2
        generalize dnB l = D at k5 f2
        have hD : mnxA true (.int .i64 ((l[0]'hpos) - (l[l.length - 1]'hb1))) [.int .i64 ((l[l.length - 1]'hb1) - (l[0]'hpos))] = some (.int .i64 (stepD (l[0]'hpos) (l[l.length - 1]'hb1))) := by
          rw [mnx_max]
          congr 2
          omega
        have d2 : decide ((l.length : Int) = 0) = false := decide_eq_false (by omega)
        have d3 : decide (stepD (l[0]'hpos) (l[l.length - 1]'hb1) ≤ T) = true := decide_eq_true f1
        simp (disch := first | omega | simp only [*, go_sem, ↓reduceIte, Nra, Nrb, Nrc, Nrd, Nre, Nrf, Irg, Irh, Iri, Irj, Irk, Irl, Irm, Irn, Iro, Irp, Irq, Nrr, Irs, List.mem_cons, List.not_mem_nil, or_false, or_self]) only [x3b, go_sem, ↓reduceIte, Nra, Nrb, Nrc, Nrd, Nre, Nrf, Irg, Irh, Iri, Irj, Irk, Irl, Irm, Irn, Iro, Irp, Irq, Nrr, Irs, bt.len, e6, callX_known (C := C5) (g := 6) rfl, ft_call (C := C5) (g := 6) rfl, callX_known (C := C5) (g := 8) rfl, ft_call (C := C5) (g := 8) rfl, callX_names (C := C5) (g := 7) rfl, ftC_names (C := C5) (g := 7) rfl, F8_eq, Option.map_some, Option.map_none, x3l5, k0, k6, d1, e7]
        rw [hlx _ (fun k hk => by repeat rw [upd_ne _ _ (by rintro rfl; simp at hk)])]
        have d4 : decide (T = stepD (l[0]'hpos) (l[l.length - 1]'hb1)) = (U || D) := by
          rw [Bool.eq_iff_iff, decide_eq_true_eq]
          exact f2.symm
        cases U <;> cases D
        all_goals
          simp only [Bool.or_self, Bool.or_true, Bool.or_false] at d4
          simp (disch := first | omega | simp only [*, go_sem, ↓reduceIte, Nra, Nrb, Nrc, Nrd, Nre, Nrf, Irg, Irh, Iri, Irj, Irk, Irl, Irm, Irn, Iro, Irp, Irq, Nrr, Irs, List.mem_cons, List.not_mem_nil, or_false, or_self]) only [x3b, go_sem, ↓reduceIte, Nra, Nrb, Nrc, Nrd, Nre, Nrf, Irg, Irh, Iri, Irj, Irk, Irl, Irm, Irn, Iro, Irp, Irq, Nrr, Irs, bt.len, e6, callX_known (C := C5) (g := 6) rfl, ft_call (C := C5) (g := 6) rfl, callX_known (C := C5) (g := 8) rfl, ft_call (C := C5) (g := 8) rfl, callX_names (C := C5) (g := 7) rfl, ftC_names (C := C5) (g := 7) rfl, F8_eq, Option.map_some, Option.map_none, k0, k6, d1, e7b, hdk, l1, l2, k4, k5, ez, hM, d2, ia0, iaz, hD, d3, d4]
          exact Ends_plain rfl rfl
    · obtain ⟨i, rfl⟩ : ∃ i, n = i + 1 := ⟨n - 1, by omega⟩
      have d1 : decide ((0 : Int) ≤ (i : Int)) = true := decide_eq_true (by omega)
      have e1 : (((i + 1 : Nat) : Int) - 1) = (i : Int) := by omega
      rw [e1] at k6
      have ia := bt.ia (i := i) (by omega)
      obtain ⟨V, H, hA, hH⟩ := ho.push (s0 := 3007006) (s1 := 3007005) (z := .int .i64 l[i]) (bytes := 8) (by simp) (by simp) rfl rfl (by simp; omega)
      rw [Nat.add_sub_cancel] at k4 k5
      by_cases h0 : 0 < i
      · have d2 : decide ((0 : Int) < (i : Int)) = true := decide_eq_true (by omega)
        have ea : ((i - 1 : Nat) : Int) = (i : Int) - 1 := by omega
        have ib := bt.ia (i := i - 1) (by omega)
        rw [ea] at ib
        obtain ⟨u1, u2⟩ := up_drop (l := l) (i := i - 1) (by omega)
        have hz : ∀ h, l[i - 1 + 1]'h = l[i] := by
          intro h
          congr 1
          omega
        rw [hz] at u1 u2
        have hdr : l.drop (i - 1 + 1) = l.drop i := by congr 1; omega
        rw [hdr] at u1 u2
        have hfin : (l.drop i).reverse.map (AVal.int .i64) = (l.drop (i + 1)).reverse.map (AVal.int .i64) ++ [.int .i64 l[i]] := by
          rw [List.drop_eq_getElem_cons (show i < l.length by omega), List.reverse_cons, List.map_append]
          rfl
        have hend : ∀ c c', True → Xec.Own [3007006] 1 (H c c') (V c c') ((l.drop i).reverse.map (AVal.int .i64)) := fun c c' _ => by rw [hfin]; exact (hH c c').1
        cases hu : upB (l.drop i) <;> cases hd : dnB (l.drop i)
        all_goals
          rw [hu] at k4 u1
          rw [hd] at k5 u2
          simp (disch := first | omega | simp only [*, go_sem, ↓reduceIte, Nra, Nrb, Nrc, Nrd, Nre, Nrf, Irg, Irh, Iri, Irj, Irk, Irl, Irm, Irn, Iro, Irp, Irq, Nrr, Irs, dropK_eq]) only [x3l5, go_sem, ↓reduceIte, Nra, Nrb, Nrc, Nrd, Nre, Nrf, Irg, Irh, Iri, Irj, Irk, Irl, Irm, Irn, Iro, Irp, Irq, Nrr, Irs, dropK_eq, k0, k6, d1, d2, ia, ib, hA, k4, k5]
          refine ⟨i, by omega, by omega, rfl, fun h => by omega, hend _ _ trivial, ?_⟩
          rw [u1, u2]
          simp
      · have d2 : decide ((0 : Int) < (i : Int)) = false := decide_eq_false (by omega)
        simp (disch := first | omega | simp only [*, go_sem, ↓reduceIte, Nra, Nrb, Nrc, Nrd, Nre, Nrf, Irg, Irh, Iri, Irj, Irk, Irl, Irm, Irn, Iro, Irp, Irq, Nrr, Irs, dropK_eq]) only [x3l5, go_sem, ↓reduceIte, Nra, Nrb, Nrc, Nrd, Nre, Nrf, Irg, Irh, Iri, Irj, Irk, Irl, Irm, Irn, Iro, Irp, Irq, Nrr, Irs, dropK_eq, k0, k6, d1, d2, ia, hA]
        have hi0 : i = 0 := by omega
        subst hi0
        have hfin : (l.drop 0).reverse.map (AVal.int .i64) = (l.drop (0 + 1)).reverse.map (AVal.int .i64) ++ [.int .i64 l[0]] := by
          rw [List.drop_eq_getElem_cons (show 0 < l.length by omega), List.reverse_cons, List.map_append]
          rfl
        exact ⟨0, by omega, by omega, rfl, fun h => by omega, by rw [hfin]; exact (hH _ _).1, k4, k5⟩
end Go.Proofs.Ytihgogbfjiobiaa
