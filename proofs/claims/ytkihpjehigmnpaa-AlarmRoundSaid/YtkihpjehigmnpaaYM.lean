/-
  The reference: alarms by their states.
-/
import Derived.Test.YtkihpjehigmnpaaYL
set_option linter.unusedVariables false
set_option linter.unusedSimpArgs false
namespace Go.Proofs.Ytkihpjehigmnpaa
open Go Go.Xec
attribute [local go_sem] tm0 ne_eq not_false_eq_true List.length_append List.length_replicate List.replicate_succ List.replicate_zero Int.cast_ofNat_Int not_true_eq_false decide_true decide_false ite_self beq_self_eq_true Bool.true_beq Bool.false_beq Bool.not_true Bool.not_false
open Nat renaming reduceAdd → Nra, reduceMul → Nrb, reduceSub → Nrc, reduceLeDiff → Nrd, reduceLT → Nre, reduceEqDiff → Nrf, reducePow → Nrr
open Int renaming reduceLT → Irg, reduceLE → Irh, reduceAdd → Iri, reduceSub → Irj, reduceMul → Irk, reduceToNat → Irl, reducePow → Irm, reduceNe → Irn, reduceMod → Iro, reduceDiv → Irp, reduceEq → Irq, reduceNeg → Irs

set_option maxRecDepth 10000
noncomputable def C7 : Cfg := (((C6.add 7 F7).add 8 F8).add 13 F13).add 11 F11
theorem ok7 : CfgOk Try.prog C7 := (((ok6.add sound7).add sound8).add sound13).add sound11
theorem pre_at (f : Int → Int → Int) {c k : Nat} (hk : k < 16) : pre f (16 * c + (k + 1)) = pre f (16 * c + k) ++ (if f c k = 0 then [] else [⟨c, k, f c k⟩]) := by
  rw [← Nat.add_assoc, pre, show (16 * c + k) / 16 = c by omega, show (16 * c + k) % 16 = k by omega]
theorem own_slc {ss : List Nat} {hp : Heap} {v : AVal} {xs : List AVal} (h : Own ss 3 hp v xs) (h9 : v ≠ .nils) : sliceOf 3 v xs = .slc 3 xs := by
  rcases h with ⟨rfl, _⟩ | ⟨q, c, g, hs, rfl, h2⟩
  · exact absurd rfl h9
  · rfl
theorem own_ne {ss : List Nat} {hp : Heap} {v : AVal} {xs : List AVal} (h : Own ss 3 hp v xs) (h0 : xs ≠ []) : v ≠ .nils := by
  rcases h with ⟨rfl, h⟩ | ⟨q, c, g, hs, rfl, h2⟩
  · exact absurd h h0
  · simp
def withA (l : List Al) (c k s : Int) : AVal := .slc 3 ((fullL (up (stL l) c k s)).map AK)
noncomputable def F25 : List AVal → Option AVal := pureF C7 1 25
theorem sound25 : Sound Try.prog 25 F25 := sound_self ok7 1 25
theorem F25_eq {a : AVal} {l : List Al} {c k s : Int} (ha : RA a l) (hl : l.length ≤ 100000) : F25 [a, .int .i64 c, .int .i64 k, .int .i64 s] = some (withA l c k s) := by
  have hp := ha.plain
  have e26 := fun x y => F26_eq (c := x) (k := y) ha hl
  unfold F25 withA
  refine pureF_of (x := x25) rfl rfl ?_
  rw [x25_eq.1, x25_eq.2.1]
  simp (disch := first | omega | simp only [*, go_sem, ↓reduceIte, Nra, Nrb, Nrc, Nrd, Nre, Nrf, Irg, Irh, Iri, Irj, Irk, Irl, Irm, Irn, Iro, Irp, Irq, Nrr, Irs, dropK_eq]) only [x25b, go_sem, ↓reduceIte, Nra, Nrb, Nrc, Nrd, Nre, Nrf, Irg, Irh, Iri, Irj, Irk, Irl, Irm, Irn, Iro, Irp, Irq, Nrr, Irs, dropK_eq]
  refine Ev_range (ti := 10) (len := 4) (J := fun i tm hp nc => Own [25001000, 25012006] 3 hp (tm 9) ((pre (up (stL l) c k s) (16 * i)).map AK) ∧ tm 9 ≠ .nils) (by omega) (by simp only [go_sem, ↓reduceIte, Nra, Nrb, Nrc, Nrd, Nre, Nrf, Irg, Irh, Iri, Irj, Irk, Irl, Irm, Irn, Iro, Irp, Irq, Nrr, Irs, dropK_eq]) ?_ ?_
  · simp only [go_sem, ↓reduceIte, Nra, Nrb, Nrc, Nrd, Nre, Nrf, Irg, Irh, Iri, Irj, Irk, Irl, Irm, Irn, Iro, Irp, Irq, Nrr, Irs, dropK_eq]
    refine ⟨.inr ⟨25001000, 1, 0, by simp, ?_, ?_⟩, by simp⟩
    · rfl
    · simp only [go_sem, ↓reduceIte, Nra, Nrb, Nrc, Nrd, Nre, Nrf, Irg, Irh, Iri, Irj, Irk, Irl, Irm, Irn, Iro, Irp, Irq, Nrr, Irs, dropK_eq]
      rfl
  · rintro i tm hp' nc hi hc k10 ⟨ho, h9⟩
    have k0 := hc 0 rfl; have k1 := hc 1 rfl; have k2 := hc 2 rfl; have k3 := hc 3 rfl; simp only [go_sem, ↓reduceIte, Nra, Nrb, Nrc, Nrd, Nre, Nrf, Irg, Irh, Iri, Irj, Irk, Irl, Irm, Irn, Iro, Irp, Irq, Nrr, Irs, dropK_eq] at k0 k1 k2 k3
    rcases Nat.lt_or_ge i 4 with hlt | hge
    · have d1 : decide ((i : Int) < 4) = true := decide_eq_true (by omega)
      simp (disch := first | omega | simp only [*, go_sem, ↓reduceIte, Nra, Nrb, Nrc, Nrd, Nre, Nrf, Irg, Irh, Iri, Irj, Irk, Irl, Irm, Irn, Iro, Irp, Irq, Nrr, Irs, dropK_eq]) only [x25l3, go_sem, ↓reduceIte, Nra, Nrb, Nrc, Nrd, Nre, Nrf, Irg, Irh, Iri, Irj, Irk, Irl, Irm, Irn, Iro, Irp, Irq, Nrr, Irs, dropK_eq, k0, k1, k2, k3, k10, d1]
      refine Ev_range (ti := 11) (len := 16) (J := fun j tm hp nc => Own [25001000, 25012006] 3 hp (tm 9) ((pre (up (stL l) c k s) (16 * i + j)).map AK) ∧ tm 9 ≠ .nils) (by omega) (by simp only [go_sem, ↓reduceIte, Nra, Nrb, Nrc, Nrd, Nre, Nrf, Irg, Irh, Iri, Irj, Irk, Irl, Irm, Irn, Iro, Irp, Irq, Nrr, Irs, dropK_eq]) ?_ ?_
      · simp only [go_sem, ↓reduceIte, Nra, Nrb, Nrc, Nrd, Nre, Nrf, Irg, Irh, Iri, Irj, Irk, Irl, Irm, Irn, Iro, Irp, Irq, Nrr, Irs, dropK_eq]
        exact ⟨ho, h9⟩
      · rintro j tm2 hp2 nc2 hj hc m11 ⟨ho2, h92⟩
        have m0 := hc 0 rfl; have m1 := hc 1 rfl; have m2 := hc 2 rfl; have m3 := hc 3 rfl; have m10 := hc 10 rfl; simp only [go_sem, ↓reduceIte, Nra, Nrb, Nrc, Nrd, Nre, Nrf, Irg, Irh, Iri, Irj, Irk, Irl, Irm, Irn, Iro, Irp, Irq, Nrr, Irs, dropK_eq, k0, k1, k2, k3, k10] at m0 m1 m2 m3 m10
        rcases Nat.lt_or_ge j 16 with hj16 | hge
        · have d2 : decide ((j : Int) < 16) = true := decide_eq_true (by omega)
          by_cases h1 : (i : Int) = c
          · have d3 : decide ((i : Int) = c) = true := decide_eq_true h1
            by_cases h2 : (j : Int) = k
            · have d4 : decide ((j : Int) = k) = true := decide_eq_true h2
              have hv : up (stL l) c k s i j = s := if_pos ⟨h1, h2⟩
              have hpa := pre_at (up (stL l) c k s) (c := i) (k := j) hj16
              rw [hv] at hpa
              have hpl := pre_len (up (stL l) c k s) (16 * i + j)
              by_cases hz : s = 0
              · have d9 : decide (¬ s = 0) = false := decide_eq_false (fun e => e hz)
                rw [if_pos hz, List.append_nil] at hpa
                simp (disch := first | omega | simp only [*, go_sem, ↓reduceIte, Nra, Nrb, Nrc, Nrd, Nre, Nrf, Irg, Irh, Iri, Irj, Irk, Irl, Irm, Irn, Iro, Irp, Irq, Nrr, Irs, dropK_eq]) only [x25l5, go_sem, ↓reduceIte, Nra, Nrb, Nrc, Nrd, Nre, Nrf, Irg, Irh, Iri, Irj, Irk, Irl, Irm, Irn, Iro, Irp, Irq, Nrr, Irs, dropK_eq, m0, m1, m2, m3, m10, m11, d2, callX_known (C := C7) (g := 26) rfl, ft_call (C := C7) (g := 26) rfl, e26, d3, d4, d9, hp]
                refine ⟨hj16, by simp, ?_⟩
                rw [hpa]
                exact ⟨ho2, h92⟩
              · have d9 : decide (¬ s = 0) = true := decide_eq_true hz
                rw [if_neg hz] at hpa
                obtain ⟨V, H, hA, hH⟩ := ho2.push (s0 := 25012006) (s1 := 25012005) (z := AK ⟨i, j, s⟩) (bytes := 24) (by simp) (by simp) (AK_plain _ _) (AK_sc _) (by rw [List.length_map]; omega)
                simp (disch := first | omega | simp only [*, go_sem, ↓reduceIte, Nra, Nrb, Nrc, Nrd, Nre, Nrf, Irg, Irh, Iri, Irj, Irk, Irl, Irm, Irn, Iro, Irp, Irq, Nrr, Irs, dropK_eq]) only [x25l5, go_sem, ↓reduceIte, Nra, Nrb, Nrc, Nrd, Nre, Nrf, Irg, Irh, Iri, Irj, Irk, Irl, Irm, Irn, Iro, Irp, Irq, Nrr, Irs, dropK_eq, m0, m1, m2, m3, m10, m11, d2, callX_known (C := C7) (g := 26) rfl, ft_call (C := C7) (g := 26) rfl, e26, d3, d4, d9, hp, hA]
                refine ⟨hj16, by simp, ?_⟩
                rw [hpa, List.map_append]
                have h8 := fun q q' => (hH q q').1
                exact ⟨h8 _ _, own_ne (h8 _ _) (by simp)⟩
            · have d4 : decide ((j : Int) = k) = false := decide_eq_false h2
              have hv : up (stL l) c k s i j = stL l i j := if_neg (fun e => h2 e.2)
              have hpa := pre_at (up (stL l) c k s) (c := i) (k := j) hj16
              rw [hv] at hpa
              have hpl := pre_len (up (stL l) c k s) (16 * i + j)
              by_cases hz : stL l i j = 0
              · have d9 : decide (¬ stL l i j = 0) = false := decide_eq_false (fun e => e hz)
                rw [if_pos hz, List.append_nil] at hpa
                simp (disch := first | omega | simp only [*, go_sem, ↓reduceIte, Nra, Nrb, Nrc, Nrd, Nre, Nrf, Irg, Irh, Iri, Irj, Irk, Irl, Irm, Irn, Iro, Irp, Irq, Nrr, Irs, dropK_eq]) only [x25l5, go_sem, ↓reduceIte, Nra, Nrb, Nrc, Nrd, Nre, Nrf, Irg, Irh, Iri, Irj, Irk, Irl, Irm, Irn, Iro, Irp, Irq, Nrr, Irs, dropK_eq, m0, m1, m2, m3, m10, m11, d2, callX_known (C := C7) (g := 26) rfl, ft_call (C := C7) (g := 26) rfl, e26, d3, d4, d9, hp]
                refine ⟨hj16, by simp, ?_⟩
                rw [hpa]
                exact ⟨ho2, h92⟩
              · have d9 : decide (¬ stL l i j = 0) = true := decide_eq_true hz
                rw [if_neg hz] at hpa
                obtain ⟨V, H, hA, hH⟩ := ho2.push (s0 := 25012006) (s1 := 25012005) (z := AK ⟨i, j, stL l i j⟩) (bytes := 24) (by simp) (by simp) (AK_plain _ _) (AK_sc _) (by rw [List.length_map]; omega)
                simp (disch := first | omega | simp only [*, go_sem, ↓reduceIte, Nra, Nrb, Nrc, Nrd, Nre, Nrf, Irg, Irh, Iri, Irj, Irk, Irl, Irm, Irn, Iro, Irp, Irq, Nrr, Irs, dropK_eq]) only [x25l5, go_sem, ↓reduceIte, Nra, Nrb, Nrc, Nrd, Nre, Nrf, Irg, Irh, Iri, Irj, Irk, Irl, Irm, Irn, Iro, Irp, Irq, Nrr, Irs, dropK_eq, m0, m1, m2, m3, m10, m11, d2, callX_known (C := C7) (g := 26) rfl, ft_call (C := C7) (g := 26) rfl, e26, d3, d4, d9, hp, hA]
                refine ⟨hj16, by simp, ?_⟩
                rw [hpa, List.map_append]
                have h8 := fun q q' => (hH q q').1
                exact ⟨h8 _ _, own_ne (h8 _ _) (by simp)⟩
          · have d3 : decide ((i : Int) = c) = false := decide_eq_false h1
            have hv : up (stL l) c k s i j = stL l i j := if_neg (fun e => h1 e.1)
            have hpa := pre_at (up (stL l) c k s) (c := i) (k := j) hj16
            rw [hv] at hpa
            have hpl := pre_len (up (stL l) c k s) (16 * i + j)
            by_cases hz : stL l i j = 0
            · have d9 : decide (¬ stL l i j = 0) = false := decide_eq_false (fun e => e hz)
              rw [if_pos hz, List.append_nil] at hpa
              simp (disch := first | omega | simp only [*, go_sem, ↓reduceIte, Nra, Nrb, Nrc, Nrd, Nre, Nrf, Irg, Irh, Iri, Irj, Irk, Irl, Irm, Irn, Iro, Irp, Irq, Nrr, Irs, dropK_eq]) only [x25l5, go_sem, ↓reduceIte, Nra, Nrb, Nrc, Nrd, Nre, Nrf, Irg, Irh, Iri, Irj, Irk, Irl, Irm, Irn, Iro, Irp, Irq, Nrr, Irs, dropK_eq, m0, m1, m2, m3, m10, m11, d2, callX_known (C := C7) (g := 26) rfl, ft_call (C := C7) (g := 26) rfl, e26, d3, d9, hp]
              refine ⟨hj16, by simp, ?_⟩
              rw [hpa]
              exact ⟨ho2, h92⟩
            · have d9 : decide (¬ stL l i j = 0) = true := decide_eq_true hz
              rw [if_neg hz] at hpa
              obtain ⟨V, H, hA, hH⟩ := ho2.push (s0 := 25012006) (s1 := 25012005) (z := AK ⟨i, j, stL l i j⟩) (bytes := 24) (by simp) (by simp) (AK_plain _ _) (AK_sc _) (by rw [List.length_map]; omega)
              simp (disch := first | omega | simp only [*, go_sem, ↓reduceIte, Nra, Nrb, Nrc, Nrd, Nre, Nrf, Irg, Irh, Iri, Irj, Irk, Irl, Irm, Irn, Iro, Irp, Irq, Nrr, Irs, dropK_eq]) only [x25l5, go_sem, ↓reduceIte, Nra, Nrb, Nrc, Nrd, Nre, Nrf, Irg, Irh, Iri, Irj, Irk, Irl, Irm, Irn, Iro, Irp, Irq, Nrr, Irs, dropK_eq, m0, m1, m2, m3, m10, m11, d2, callX_known (C := C7) (g := 26) rfl, ft_call (C := C7) (g := 26) rfl, e26, d3, d9, hp, hA]
              refine ⟨hj16, by simp, ?_⟩
              rw [hpa, List.map_append]
              have h8 := fun q q' => (hH q q').1
              exact ⟨h8 _ _, own_ne (h8 _ _) (by simp)⟩
        · obtain rfl : j = 16 := by omega
          have d2 : decide (((16 : Nat) : Int) < 16) = false := decide_eq_false (by omega)
          simp (disch := first | omega | simp only [*, go_sem, ↓reduceIte, Nra, Nrb, Nrc, Nrd, Nre, Nrf, Irg, Irh, Iri, Irj, Irk, Irl, Irm, Irn, Iro, Irp, Irq, Nrr, Irs, dropK_eq]) only [x25l5, go_sem, ↓reduceIte, Nra, Nrb, Nrc, Nrd, Nre, Nrf, Irg, Irh, Iri, Irj, Irk, Irl, Irm, Irn, Iro, Irp, Irq, Nrr, Irs, dropK_eq, m0, m1, m2, m3, m10, m11, d2]
          refine ⟨hlt, by simp, ?_⟩
          rw [show 16 * (i + 1) = 16 * i + 16 by omega]
          exact ⟨ho2, h92⟩
    · obtain rfl : i = 4 := by omega
      have d1 : decide (((4 : Nat) : Int) < 4) = false := decide_eq_false (by omega)
      simp (disch := first | omega | simp only [*, go_sem, ↓reduceIte, Nra, Nrb, Nrc, Nrd, Nre, Nrf, Irg, Irh, Iri, Irj, Irk, Irl, Irm, Irn, Iro, Irp, Irq, Nrr, Irs, dropK_eq]) only [x25l3, go_sem, ↓reduceIte, Nra, Nrb, Nrc, Nrd, Nre, Nrf, Irg, Irh, Iri, Irj, Irk, Irl, Irm, Irn, Iro, Irp, Irq, Nrr, Irs, dropK_eq, k0, k1, k2, k3, k10, d1]
      rw [Ends_eq, ho.lend 63 (AKs_plain 62 _), own_slc ho h9]
      rfl
noncomputable def C8 : Cfg := C7.add 25 F25
theorem ok8 : CfgOk Try.prog C8 := ok7.add sound25
theorem with_RA (l : List Al) (c k s : Int) : RA (withA l c k s) (fullL (up (stL l) c k s)) := Rg.slc _
def raiseR (a : AVal) (l : List Al) (c k : Int) : AVal := if stL l c k = 0 then .tup [withA l c k 1, .bool true] else .tup [a, .bool false]
noncomputable def F18 : List AVal → Option AVal := pureF C8 1 18
theorem sound18 : Sound Try.prog 18 F18 := sound_self ok8 1 18
theorem F18_eq {a : AVal} {l : List Al} {c k : Int} (ha : RA a l) (hl : l.length ≤ 100000) : F18 [a, .int .i64 c, .int .i64 k] = some (raiseR a l c k) := by
  have hp := ha.plain
  have e26 := F26_eq (c := c) (k := k) ha hl
  have e25 := F25_eq (c := c) (k := k) (s := 1) ha hl
  have hw := (with_RA l c k 1).plain
  unfold F18 raiseR
  refine pureF_of (x := x18) rfl rfl ?_
  rw [x18_eq.1, x18_eq.2.1]
  by_cases h : stL l c k = 0
  · have d1 : decide (¬ stL l c k = 0) = false := decide_eq_false (fun e => e h)
    rw [if_pos h]
    simp (disch := first | omega | simp only [*, go_sem, ↓reduceIte, Nra, Nrb, Nrc, Nrd, Nre, Nrf, Irg, Irh, Iri, Irj, Irk, Irl, Irm, Irn, Iro, Irp, Irq, Nrr, Irs, dropK_eq]) only [x18b, go_sem, ↓reduceIte, Nra, Nrb, Nrc, Nrd, Nre, Nrf, Irg, Irh, Iri, Irj, Irk, Irl, Irm, Irn, Iro, Irp, Irq, Nrr, Irs, dropK_eq, callX_known (C := C8) (g := 26) rfl, ft_call (C := C8) (g := 26) rfl, callX_known (C := C8) (g := 25) rfl, ft_call (C := C8) (g := 25) rfl, e26, e25, d1, hp, hw]
    exact Ends_plain (by show plainL 63 _ = true; rw [plainL_cons, hw 63]; rfl) rfl
  · have d1 : decide (¬ stL l c k = 0) = true := decide_eq_true h
    rw [if_neg h]
    simp (disch := first | omega | simp only [*, go_sem, ↓reduceIte, Nra, Nrb, Nrc, Nrd, Nre, Nrf, Irg, Irh, Iri, Irj, Irk, Irl, Irm, Irn, Iro, Irp, Irq, Nrr, Irs, dropK_eq]) only [x18b, go_sem, ↓reduceIte, Nra, Nrb, Nrc, Nrd, Nre, Nrf, Irg, Irh, Iri, Irj, Irk, Irl, Irm, Irn, Iro, Irp, Irq, Nrr, Irs, dropK_eq, callX_known (C := C8) (g := 26) rfl, ft_call (C := C8) (g := 26) rfl, callX_known (C := C8) (g := 25) rfl, ft_call (C := C8) (g := 25) rfl, e26, e25, d1, hp]
    exact Ends_plain (by show plainL 63 _ = true; rw [plainL_cons, hp 63]; rfl) rfl
def moveR (l : List Al) (c k f t : Int) : AVal := if stL l c k = 0 then .tup [.nils, .int .i64 6] else if stL l c k = f then .tup [.nils, .int .i64 12] else .tup [withA l c k t, .int .i64 0]
noncomputable def F19 : List AVal → Option AVal := pureF C8 1 19
theorem sound19 : Sound Try.prog 19 F19 := sound_self ok8 1 19
theorem F19_eq {a : AVal} {l : List Al} {c k : Int} (ha : RA a l) (hl : l.length ≤ 100000) : F19 [a, .int .i64 c, .int .i64 k] = some (moveR l c k 2 2) := by
  have hp := ha.plain
  have e26 := F26_eq (c := c) (k := k) ha hl
  have e25 := F25_eq (c := c) (k := k) (s := 2) ha hl
  have hw := (with_RA l c k 2).plain
  unfold F19 moveR
  refine pureF_of (x := x19) rfl rfl ?_
  rw [x19_eq.1, x19_eq.2.1]
  by_cases h : stL l c k = 0
  · have d1 : decide (stL l c k = 0) = true := decide_eq_true h
    rw [if_pos h]
    simp (disch := first | omega | simp only [*, go_sem, ↓reduceIte, Nra, Nrb, Nrc, Nrd, Nre, Nrf, Irg, Irh, Iri, Irj, Irk, Irl, Irm, Irn, Iro, Irp, Irq, Nrr, Irs, dropK_eq]) only [x19b, go_sem, ↓reduceIte, Nra, Nrb, Nrc, Nrd, Nre, Nrf, Irg, Irh, Iri, Irj, Irk, Irl, Irm, Irn, Iro, Irp, Irq, Nrr, Irs, dropK_eq, callX_known (C := C8) (g := 26) rfl, ft_call (C := C8) (g := 26) rfl, callX_known (C := C8) (g := 25) rfl, ft_call (C := C8) (g := 25) rfl, e26, e25, d1, hp]
    exact Ends_plain rfl rfl
  · have d1 : decide (stL l c k = 0) = false := decide_eq_false h
    rw [if_neg h]
    by_cases h2 : stL l c k = 2
    · have d2 : decide (stL l c k = 2) = true := decide_eq_true h2
      rw [if_pos h2]
      simp (disch := first | omega | simp only [*, go_sem, ↓reduceIte, Nra, Nrb, Nrc, Nrd, Nre, Nrf, Irg, Irh, Iri, Irj, Irk, Irl, Irm, Irn, Iro, Irp, Irq, Nrr, Irs, dropK_eq]) only [x19b, go_sem, ↓reduceIte, Nra, Nrb, Nrc, Nrd, Nre, Nrf, Irg, Irh, Iri, Irj, Irk, Irl, Irm, Irn, Iro, Irp, Irq, Nrr, Irs, dropK_eq, callX_known (C := C8) (g := 26) rfl, ft_call (C := C8) (g := 26) rfl, callX_known (C := C8) (g := 25) rfl, ft_call (C := C8) (g := 25) rfl, e26, e25, d1, d2, hp]
      exact Ends_plain rfl rfl
    · have d2 : decide (stL l c k = 2) = false := decide_eq_false h2
      rw [if_neg h2]
      simp (disch := first | omega | simp only [*, go_sem, ↓reduceIte, Nra, Nrb, Nrc, Nrd, Nre, Nrf, Irg, Irh, Iri, Irj, Irk, Irl, Irm, Irn, Iro, Irp, Irq, Nrr, Irs, dropK_eq]) only [x19b, go_sem, ↓reduceIte, Nra, Nrb, Nrc, Nrd, Nre, Nrf, Irg, Irh, Iri, Irj, Irk, Irl, Irm, Irn, Iro, Irp, Irq, Nrr, Irs, dropK_eq, callX_known (C := C8) (g := 26) rfl, ft_call (C := C8) (g := 26) rfl, callX_known (C := C8) (g := 25) rfl, ft_call (C := C8) (g := 25) rfl, e26, e25, d1, d2, hp, hw]
      exact Ends_plain (by show plainL 63 _ = true; rw [plainL_cons, hw 63]; rfl) rfl
noncomputable def F20 : List AVal → Option AVal := pureF C8 1 20
theorem sound20 : Sound Try.prog 20 F20 := sound_self ok8 1 20
theorem F20_eq {a : AVal} {l : List Al} {c k : Int} (ha : RA a l) (hl : l.length ≤ 100000) : F20 [a, .int .i64 c, .int .i64 k] = some (moveR l c k 1 0) := by
  have hp := ha.plain
  have e26 := F26_eq (c := c) (k := k) ha hl
  have e25 := F25_eq (c := c) (k := k) (s := 0) ha hl
  have hw := (with_RA l c k 0).plain
  unfold F20 moveR
  refine pureF_of (x := x20) rfl rfl ?_
  rw [x20_eq.1, x20_eq.2.1]
  by_cases h : stL l c k = 0
  · have d1 : decide (stL l c k = 0) = true := decide_eq_true h
    rw [if_pos h]
    simp (disch := first | omega | simp only [*, go_sem, ↓reduceIte, Nra, Nrb, Nrc, Nrd, Nre, Nrf, Irg, Irh, Iri, Irj, Irk, Irl, Irm, Irn, Iro, Irp, Irq, Nrr, Irs, dropK_eq]) only [x20b, go_sem, ↓reduceIte, Nra, Nrb, Nrc, Nrd, Nre, Nrf, Irg, Irh, Iri, Irj, Irk, Irl, Irm, Irn, Iro, Irp, Irq, Nrr, Irs, dropK_eq, callX_known (C := C8) (g := 26) rfl, ft_call (C := C8) (g := 26) rfl, callX_known (C := C8) (g := 25) rfl, ft_call (C := C8) (g := 25) rfl, e26, e25, d1, hp]
    exact Ends_plain rfl rfl
  · have d1 : decide (stL l c k = 0) = false := decide_eq_false h
    rw [if_neg h]
    by_cases h2 : stL l c k = 1
    · have d2 : decide (stL l c k = 1) = true := decide_eq_true h2
      rw [if_pos h2]
      simp (disch := first | omega | simp only [*, go_sem, ↓reduceIte, Nra, Nrb, Nrc, Nrd, Nre, Nrf, Irg, Irh, Iri, Irj, Irk, Irl, Irm, Irn, Iro, Irp, Irq, Nrr, Irs, dropK_eq]) only [x20b, go_sem, ↓reduceIte, Nra, Nrb, Nrc, Nrd, Nre, Nrf, Irg, Irh, Iri, Irj, Irk, Irl, Irm, Irn, Iro, Irp, Irq, Nrr, Irs, dropK_eq, callX_known (C := C8) (g := 26) rfl, ft_call (C := C8) (g := 26) rfl, callX_known (C := C8) (g := 25) rfl, ft_call (C := C8) (g := 25) rfl, e26, e25, d1, d2, hp]
      exact Ends_plain rfl rfl
    · have d2 : decide (stL l c k = 1) = false := decide_eq_false h2
      rw [if_neg h2]
      simp (disch := first | omega | simp only [*, go_sem, ↓reduceIte, Nra, Nrb, Nrc, Nrd, Nre, Nrf, Irg, Irh, Iri, Irj, Irk, Irl, Irm, Irn, Iro, Irp, Irq, Nrr, Irs, dropK_eq]) only [x20b, go_sem, ↓reduceIte, Nra, Nrb, Nrc, Nrd, Nre, Nrf, Irg, Irh, Iri, Irj, Irk, Irl, Irm, Irn, Iro, Irp, Irq, Nrr, Irs, dropK_eq, callX_known (C := C8) (g := 26) rfl, ft_call (C := C8) (g := 26) rfl, callX_known (C := C8) (g := 25) rfl, ft_call (C := C8) (g := 25) rfl, e26, e25, d1, d2, hp, hw]
      exact Ends_plain (by show plainL 63 _ = true; rw [plainL_cons, hw 63]; rfl) rfl
/-- A channel's alarms forgotten, one after another. -/
def dropN (l : List Al) (c : Int) : Nat → List Al
  | 0 => l
  | i + 1 => fullL (up (stL (dropN l c i)) c i 0)
theorem dropN_len (l : List Al) (c : Int) (hl : l.length ≤ 100000) : ∀ i, (dropN l c i).length ≤ 100000
  | 0 => hl
  | i + 1 => Nat.le_trans (pre_len _ 64) (by omega)
theorem dropN_st {l : List Al} {c c' k' : Int} (hk : kOk c' k') : ∀ i : Nat, stL (dropN l c i) c' k' = if c' = c ∧ k' < i then 0 else stL l c' k'
  | 0 => by rw [dropN, if_neg (by simp only [kOk] at hk; omega)]
  | i + 1 => by
    rw [dropN, st_full hk, up, dropN_st hk i]
    by_cases h1 : c' = c
    · by_cases h2 : k' = i
      · rw [if_pos ⟨h1, h2⟩, if_pos ⟨h1, by omega⟩]
      · rw [if_neg (fun e => h2 e.2)]
        by_cases h3 : k' < i
        · rw [if_pos ⟨h1, h3⟩, if_pos ⟨h1, by omega⟩]
        · rw [if_neg (fun e => h3 e.2), if_neg (fun e => by omega)]
    · rw [if_neg (fun e => h1 e.1), if_neg (fun e => h1 e.1), if_neg (fun e => h1 e.1)]
theorem dropN_all (l : List Al) (c : Int) : dropN l c 16 = fullL (noC (stL l) c) := by
  rw [dropN]
  refine full_ext fun c' k' hk => ?_
  rw [up, dropN_st hk, noC]
  simp only [kOk] at hk
  by_cases h1 : c' = c
  · rw [if_pos h1]
    split
    · rfl
    · rename_i h2
      rw [if_pos ⟨h1, by omega⟩]
  · rw [if_neg h1, if_neg (fun e => h1 e.1), if_neg (fun e => h1 e.1)]
noncomputable def F16 : List AVal → Option AVal := pureF C8 1 16
theorem sound16 : Sound Try.prog 16 F16 := sound_self ok8 1 16
theorem F16_eq {a : AVal} {l : List Al} {c : Int} (ha : RA a l) (hl : l.length ≤ 100000) : F16 [a, .int .i64 c] = some (.slc 3 ((dropN l c 16).map AK)) := by
  unfold F16
  refine pureF_of (x := x16) rfl rfl ?_
  rw [x16_eq.1, x16_eq.2.1]
  simp (disch := first | omega | simp only [*, go_sem, ↓reduceIte, Nra, Nrb, Nrc, Nrd, Nre, Nrf, Irg, Irh, Iri, Irj, Irk, Irl, Irm, Irn, Iro, Irp, Irq, Nrr, Irs, dropK_eq]) only [x16b, go_sem, ↓reduceIte, Nra, Nrb, Nrc, Nrd, Nre, Nrf, Irg, Irh, Iri, Irj, Irk, Irl, Irm, Irn, Iro, Irp, Irq, Nrr, Irs, dropK_eq]
  refine Ev_range (ti := 5) (len := 16) (J := fun i tm hp nc => RA (tm 0) (dropN l c i) ∧ (1 ≤ i → tm 0 = .slc 3 ((dropN l c i).map AK))) (by omega) (by simp only [go_sem, ↓reduceIte, Nra, Nrb, Nrc, Nrd, Nre, Nrf, Irg, Irh, Iri, Irj, Irk, Irl, Irm, Irn, Iro, Irp, Irq, Nrr, Irs, dropK_eq]) ?_ ?_
  · simp only [go_sem, ↓reduceIte, Nra, Nrb, Nrc, Nrd, Nre, Nrf, Irg, Irh, Iri, Irj, Irk, Irl, Irm, Irn, Iro, Irp, Irq, Nrr, Irs, dropK_eq]
    exact ⟨ha, by first | trivial | (intro h; omega) | simp⟩
  · rintro i tm hp' nc hi hc k5 ⟨h0, h1⟩
    have k1 := hc 1 rfl; simp only [go_sem, ↓reduceIte, Nra, Nrb, Nrc, Nrd, Nre, Nrf, Irg, Irh, Iri, Irj, Irk, Irl, Irm, Irn, Iro, Irp, Irq, Nrr, Irs, dropK_eq] at k1
    rcases Nat.lt_or_ge i 16 with hlt | hge
    · have d1 : decide ((i : Int) < 16) = true := decide_eq_true (by omega)
      have e25 := F25_eq (c := c) (k := i) (s := 0) h0 (dropN_len l c hl i)
      have hp := h0.plain
      have hw := (with_RA (dropN l c i) c i 0).plain
      simp (disch := first | omega | simp only [*, go_sem, ↓reduceIte, Nra, Nrb, Nrc, Nrd, Nre, Nrf, Irg, Irh, Iri, Irj, Irk, Irl, Irm, Irn, Iro, Irp, Irq, Nrr, Irs, dropK_eq]) only [x16l2, go_sem, ↓reduceIte, Nra, Nrb, Nrc, Nrd, Nre, Nrf, Irg, Irh, Iri, Irj, Irk, Irl, Irm, Irn, Iro, Irp, Irq, Nrr, Irs, dropK_eq, k1, k5, d1, callX_known (C := C8) (g := 25) rfl, ft_call (C := C8) (g := 25) rfl, e25, hp, hw]
      exact ⟨hlt, by simp, with_RA _ _ _ _, fun _ => rfl⟩
    · obtain rfl : i = 16 := by omega
      have d1 : decide (((16 : Nat) : Int) < 16) = false := decide_eq_false (by omega)
      have h2 := h1 (by omega)
      have hp := h0.plain
      simp (disch := first | omega | simp only [*, go_sem, ↓reduceIte, Nra, Nrb, Nrc, Nrd, Nre, Nrf, Irg, Irh, Iri, Irj, Irk, Irl, Irm, Irn, Iro, Irp, Irq, Nrr, Irs, dropK_eq]) only [x16l2, go_sem, ↓reduceIte, Nra, Nrb, Nrc, Nrd, Nre, Nrf, Irg, Irh, Iri, Irj, Irk, Irl, Irm, Irn, Iro, Irp, Irq, Nrr, Irs, dropK_eq, k1, k5, d1]
      exact Ends_plain (hp _) h2
end Go.Proofs.Ytkihpjehigmnpaa
