/-
  Alarms, as a map: the program's open.
-/
import Derived.Test.YtkihpjehigmnpaaYH
set_option linter.unusedVariables false
set_option linter.unusedSimpArgs false
namespace Go.Proofs.Ytkihpjehigmnpaa
open Go Go.Xec
attribute [local go_sem] tm0 ne_eq not_false_eq_true List.length_append List.length_replicate List.replicate_succ List.replicate_zero Int.cast_ofNat_Int not_true_eq_false decide_true decide_false ite_self beq_self_eq_true Bool.true_beq Bool.false_beq Bool.not_true Bool.not_false
open Nat renaming reduceAdd → Nra, reduceMul → Nrb, reduceSub → Nrc, reduceLeDiff → Nrd, reduceLT → Nre, reduceEqDiff → Nrf, reducePow → Nrr
open Int renaming reduceLT → Irg, reduceLE → Irh, reduceAdd → Iri, reduceSub → Irj, reduceMul → Irk, reduceToNat → Irl, reducePow → Irm, reduceNe → Irn, reduceMod → Iro, reduceDiv → Irp, reduceEq → Irq, reduceNeg → Irs

set_option maxRecDepth 10000
/-- A map's entries. -/
def entsN : Nat → List Al → List (AVal × AVal × Nat)
  | _, [] => []
  | n, a :: l => (KV a.c a.k, .int .i64 a.s, n) :: entsN (n + 1) l
theorem entsN_snoc : ∀ (l : List Al) (n : Nat) (a : Al), entsN n (l ++ [a]) = entsN n l ++ [(KV a.c a.k, .int .i64 a.s, n + l.length)]
  | [], n, a => rfl
  | b :: l, n, a => by
    rw [List.cons_append, entsN, entsN_snoc l (n + 1) a, entsN, List.cons_append, List.length_cons]
    rw [show n + 1 + l.length = n + (l.length + 1) by omega]
theorem keq_KV (c k c' k' : Int) : keq 5 (KV c k) (KV c' k') = some (decide (c = c' ∧ k = k')) := by
  show eqCells [0, 0] _ _ = _
  simp only [eqCells, eq1, if_true, Bool.and_true]
  congr 1
  rw [Bool.decide_and]
  rfl
def findE : List Al → Int → Int → Nat → Nat → Option (Nat × AVal × Nat)
  | [], _, _, _, _ => none
  | a :: l, c, k, i, n => if c = a.c ∧ k = a.k then some (i, .int .i64 a.s, n) else findE l c k (i + 1) (n + 1)
theorem findA_ents (c k : Int) : ∀ (l : List Al) (i n : Nat), findA 5 (KV c k) (entsN n l) i = some (findE l c k i n)
  | [], i, n => rfl
  | a :: l, i, n => by
    rw [entsN, findA, keq_KV, findE]
    by_cases h : c = a.c ∧ k = a.k
    · simp only [h, and_self, decide_true, if_true]
    · rw [if_neg h, decide_eq_false h]
      exact findA_ents c k l (i + 1) (n + 1)
theorem findE_none {c k : Int} : ∀ {l : List Al} {i n : Nat}, (∀ a ∈ l, ¬ (c = a.c ∧ k = a.k)) → findE l c k i n = none
  | [], _, _, _ => rfl
  | a :: l, i, n, h => by
    rw [findE, if_neg (h a (by simp))]
    exact findE_none fun b hb => h b (by simp [hb])
theorem num_key {a b : Al} (h : num a < num b) : ¬ (b.c = a.c ∧ b.k = a.k) := by
  rintro ⟨h1, h2⟩
  unfold num at h
  rw [h1, h2] at h
  omega
theorem find_new {l : List Al} {i : Nat} (hlt : i < l.length) (h : alOk (l.take (i + 1))) : findA 5 (KV l[i].c l[i].k) (entsN 0 (l.take i)) 0 = some none := by
  rw [findA_ents, findE_none]
  intro a ha
  have h2 := h.2
  rw [take_next hlt, List.pairwise_append] at h2
  exact num_key (h2.2.2 a ha _ (List.mem_singleton.2 rfl))
noncomputable def C4 : Cfg := ((((((C3.add 27 F27).add 9 F9).add 26 F26).add 14 F14).add 15 F15).add 12 F12).addM 23 F23m
theorem ok4 : CfgOk Try.prog C4 := ((((((ok3.add sound27).add sound9).add sound26).add sound14).add sound15).add sound12).addM sound23
theorem open21 {d : Nat} {a : AVal} {l : List Al} {hp : Heap} {nc : Nat} {K : AVal × Heap × Nat → Prop} (ha : RA a l) (hl : l.length ≤ 100000)
    (hy : alOk l → ∀ k hp' nc', k.1 = 21001000 → hp' k = some (.obj (.map (entsN 0 l) l.length)) → (∀ k, k.1 / 1000000 ≠ 21 → hp' k = hp k) → K (.tup [.mp k, .bool true], hp', nc'))
    (hn : ¬ alOk l → ∀ hp' nc', (∀ k, k.1 / 1000000 ≠ 21 → hp' k = hp k) → K (.tup [.any, .bool false], hp', nc')) : Bd (inlD C4 (d + 1) 21 [a] hp nc) K := by
  refine inl_of (x := x21) rfl rfl ?_
  rw [x21_eq.1, x21_eq.2.1]
  simp (disch := first | omega | simp only [*, go_sem, ↓reduceIte, Nra, Nrb, Nrc, Nrd, Nre, Nrf, Irg, Irh, Iri, Irj, Irk, Irl, Irm, Irn, Iro, Irp, Irq, Nrr, Irs, dropK_eq]) only [x21b, go_sem, ↓reduceIte, Nra, Nrb, Nrc, Nrd, Nre, Nrf, Irg, Irh, Iri, Irj, Irk, Irl, Irm, Irn, Iro, Irp, Irq, Nrr, Irs, dropK_eq, ha.len]
  refine Ev_range (ti := 11) (len := l.length) (J := fun i tm hp' nc' => alOk (l.take i) ∧ hp' (21001000, nc + 1) = some (.obj (.map (entsN 0 (l.take i)) i)) ∧ (∀ k, k.1 / 1000000 ≠ 21 → hp' k = hp k)) (by omega) ?_ ?_ ?_
  · simp only [go_sem, ↓reduceIte, Nra, Nrb, Nrc, Nrd, Nre, Nrf, Irg, Irh, Iri, Irj, Irk, Irl, Irm, Irn, Iro, Irp, Irq, Nrr, Irs, dropK_eq]
  · refine ⟨alOk_nil, ?_, ?_⟩
    · simp only [go_sem, ↓reduceIte, Nra, Nrb, Nrc, Nrd, Nre, Nrf, Irg, Irh, Iri, Irj, Irk, Irl, Irm, Irn, Iro, Irp, Irq, Nrr, Irs, dropK_eq]
      rfl
    · intro k hk
      simp only [go_sem, ↓reduceIte, Nra, Nrb, Nrc, Nrd, Nre, Nrf, Irg, Irh, Iri, Irj, Irk, Irl, Irm, Irn, Iro, Irp, Irq, Nrr, Irs, dropK_eq]
      rw [if_neg (by rintro rfl; simp at hk)]
  · rintro i tm hp' nc' hi hc k11 ⟨hj, hm, hfr⟩
    have k0 := hc 0 rfl; have k4 := hc 4 rfl; have k9 := hc 9 rfl; have k10 := hc 10 rfl; simp only [go_sem, ↓reduceIte, Nra, Nrb, Nrc, Nrd, Nre, Nrf, Irg, Irh, Iri, Irj, Irk, Irl, Irm, Irn, Iro, Irp, Irq, Nrr, Irs, dropK_eq] at k0 k4 k9 k10
    rcases Nat.lt_or_ge i l.length with hlt | hge
    · have d1 : decide ((i : Int) < (l.length : Int)) = true := decide_eq_true (by omega)
      have ia := ha.ia hlt
      have hno : ¬ alOk (l.take (i + 1)) → ¬ alOk l := fun h => (fun k => h (alOk_take k _))
      rw [alOk_step hlt] at hno
      have e22 := F22_eq (c := l[i].c) (k := l[i].k)
      have hent : entsN 0 (l.take (i + 1)) = entsN 0 (l.take i) ++ [(KV l[i].c l[i].k, .int .i64 l[i].s, i)] := by
        rw [take_next hlt, entsN_snoc, List.length_take, Nat.min_eq_left hi, Nat.zero_add]
      by_cases h1 : kOk l[i].c l[i].k
      · rw [decide_eq_true h1] at e22
        by_cases h2 : l[i].s = 1
        · have d2 : decide (¬ l[i].s = 1) = false := decide_eq_false (fun h => h h2)
          have hok : aOk l[i] := ⟨h1, by omega, by omega⟩
          by_cases h4 : 0 < i
          · have d4 : decide ((0 : Int) < (i : Int)) = true := decide_eq_true (by omega)
            have e1 : ((i - 1 : Nat) : Int) = (i : Int) - 1 := by omega
            have ib := ha.ia (i := i - 1) (by omega)
            rw [e1] at ib
            have hb := hj.1 (l[i - 1]'(by omega)) (by rw [List.mem_take_iff_getElem]; exact ⟨i - 1, by omega, rfl⟩)
            have e27 := F27_eq (a := l[i - 1]'(by omega)) (b := l[i])
            have hord := ordA_num hb.1 h1
            by_cases h5 : num (l[i - 1]'(by omega)) < num l[i]
            · have d5 : decide (0 ≤ ordA (l[i - 1]'(by omega)) l[i]) = false := decide_eq_false (by have := hord.2 h5; omega)
              have hst := (alOk_step hlt).2 ⟨hj, hok, fun _ => h5⟩
              have hfind := find_new hlt hst
              simp (disch := first | omega | simp only [*, go_sem, ↓reduceIte, Nra, Nrb, Nrc, Nrd, Nre, Nrf, Irg, Irh, Iri, Irj, Irk, Irl, Irm, Irn, Iro, Irp, Irq, Nrr, Irs, dropK_eq]) only [x21l3, go_sem, ↓reduceIte, Nra, Nrb, Nrc, Nrd, Nre, Nrf, Irg, Irh, Iri, Irj, Irk, Irl, Irm, Irn, Iro, Irp, Irq, Nrr, Irs, dropK_eq, k0, k4, k9, k10, k11, d1, ia, ib, callX_known (C := C4) (g := 22) rfl, ft_call (C := C4) (g := 22) rfl, callX_known (C := C4) (g := 27) rfl, ft_call (C := C4) (g := 27) rfl, e22, e27, d2, d4, d5, hm, hfind]
              refine ⟨hlt, by simp, hst, by rw [hent], fun k hk => ?_⟩
              repeat first | rw [upd_ne _ _ (by rintro rfl; simp at hk)] | rw [if_neg (by rintro rfl; simp at hk)]
              exact hfr k hk
            · have d5 : decide (0 ≤ ordA (l[i - 1]'(by omega)) l[i]) = true := decide_eq_true (by have := fun h => h5 (hord.1 h); omega)
              simp (disch := first | omega | simp only [*, go_sem, ↓reduceIte, Nra, Nrb, Nrc, Nrd, Nre, Nrf, Irg, Irh, Iri, Irj, Irk, Irl, Irm, Irn, Iro, Irp, Irq, Nrr, Irs, dropK_eq]) only [x21l3, go_sem, ↓reduceIte, Nra, Nrb, Nrc, Nrd, Nre, Nrf, Irg, Irh, Iri, Irj, Irk, Irl, Irm, Irn, Iro, Irp, Irq, Nrr, Irs, dropK_eq, k0, k4, k9, k10, k11, d1, ia, ib, callX_known (C := C4) (g := 22) rfl, ft_call (C := C4) (g := 22) rfl, callX_known (C := C4) (g := 27) rfl, ft_call (C := C4) (g := 27) rfl, e22, e27, d2, d4, d5]
              refine hn (hno (fun h => h5 (h.2.2 h4))) _ _ fun k hk => ?_
              repeat first | rw [upd_ne _ _ (by rintro rfl; simp at hk)] | rw [if_neg (by rintro rfl; simp at hk)]
              exact hfr k hk
          · have d4 : decide ((0 : Int) < (i : Int)) = false := decide_eq_false (by omega)
            have hst := (alOk_step hlt).2 ⟨hj, hok, fun h => absurd h h4⟩
            have hfind := find_new hlt hst
            simp (disch := first | omega | simp only [*, go_sem, ↓reduceIte, Nra, Nrb, Nrc, Nrd, Nre, Nrf, Irg, Irh, Iri, Irj, Irk, Irl, Irm, Irn, Iro, Irp, Irq, Nrr, Irs, dropK_eq]) only [x21l3, go_sem, ↓reduceIte, Nra, Nrb, Nrc, Nrd, Nre, Nrf, Irg, Irh, Iri, Irj, Irk, Irl, Irm, Irn, Iro, Irp, Irq, Nrr, Irs, dropK_eq, k0, k4, k9, k10, k11, d1, ia, callX_known (C := C4) (g := 22) rfl, ft_call (C := C4) (g := 22) rfl, e22, d2, d4, hm, hfind]
            refine ⟨hlt, by simp, hst, by rw [hent], fun k hk => ?_⟩
            repeat first | rw [upd_ne _ _ (by rintro rfl; simp at hk)] | rw [if_neg (by rintro rfl; simp at hk)]
            exact hfr k hk
        · have d2 : decide (¬ l[i].s = 1) = true := decide_eq_true h2
          by_cases h3 : l[i].s = 2
          · have d3 : decide (¬ l[i].s = 2) = false := decide_eq_false (fun h => h h3)
            have hok : aOk l[i] := ⟨h1, by omega, by omega⟩
            by_cases h4 : 0 < i
            · have d4 : decide ((0 : Int) < (i : Int)) = true := decide_eq_true (by omega)
              have e1 : ((i - 1 : Nat) : Int) = (i : Int) - 1 := by omega
              have ib := ha.ia (i := i - 1) (by omega)
              rw [e1] at ib
              have hb := hj.1 (l[i - 1]'(by omega)) (by rw [List.mem_take_iff_getElem]; exact ⟨i - 1, by omega, rfl⟩)
              have e27 := F27_eq (a := l[i - 1]'(by omega)) (b := l[i])
              have hord := ordA_num hb.1 h1
              by_cases h5 : num (l[i - 1]'(by omega)) < num l[i]
              · have d5 : decide (0 ≤ ordA (l[i - 1]'(by omega)) l[i]) = false := decide_eq_false (by have := hord.2 h5; omega)
                have hst := (alOk_step hlt).2 ⟨hj, hok, fun _ => h5⟩
                have hfind := find_new hlt hst
                simp (disch := first | omega | simp only [*, go_sem, ↓reduceIte, Nra, Nrb, Nrc, Nrd, Nre, Nrf, Irg, Irh, Iri, Irj, Irk, Irl, Irm, Irn, Iro, Irp, Irq, Nrr, Irs, dropK_eq]) only [x21l3, go_sem, ↓reduceIte, Nra, Nrb, Nrc, Nrd, Nre, Nrf, Irg, Irh, Iri, Irj, Irk, Irl, Irm, Irn, Iro, Irp, Irq, Nrr, Irs, dropK_eq, k0, k4, k9, k10, k11, d1, ia, ib, callX_known (C := C4) (g := 22) rfl, ft_call (C := C4) (g := 22) rfl, callX_known (C := C4) (g := 27) rfl, ft_call (C := C4) (g := 27) rfl, e22, e27, d2, d3, d4, d5, hm, hfind]
                refine ⟨hlt, by simp, hst, by rw [hent], fun k hk => ?_⟩
                repeat first | rw [upd_ne _ _ (by rintro rfl; simp at hk)] | rw [if_neg (by rintro rfl; simp at hk)]
                exact hfr k hk
              · have d5 : decide (0 ≤ ordA (l[i - 1]'(by omega)) l[i]) = true := decide_eq_true (by have := fun h => h5 (hord.1 h); omega)
                simp (disch := first | omega | simp only [*, go_sem, ↓reduceIte, Nra, Nrb, Nrc, Nrd, Nre, Nrf, Irg, Irh, Iri, Irj, Irk, Irl, Irm, Irn, Iro, Irp, Irq, Nrr, Irs, dropK_eq]) only [x21l3, go_sem, ↓reduceIte, Nra, Nrb, Nrc, Nrd, Nre, Nrf, Irg, Irh, Iri, Irj, Irk, Irl, Irm, Irn, Iro, Irp, Irq, Nrr, Irs, dropK_eq, k0, k4, k9, k10, k11, d1, ia, ib, callX_known (C := C4) (g := 22) rfl, ft_call (C := C4) (g := 22) rfl, callX_known (C := C4) (g := 27) rfl, ft_call (C := C4) (g := 27) rfl, e22, e27, d2, d3, d4, d5]
                refine hn (hno (fun h => h5 (h.2.2 h4))) _ _ fun k hk => ?_
                repeat first | rw [upd_ne _ _ (by rintro rfl; simp at hk)] | rw [if_neg (by rintro rfl; simp at hk)]
                exact hfr k hk
            · have d4 : decide ((0 : Int) < (i : Int)) = false := decide_eq_false (by omega)
              have hst := (alOk_step hlt).2 ⟨hj, hok, fun h => absurd h h4⟩
              have hfind := find_new hlt hst
              simp (disch := first | omega | simp only [*, go_sem, ↓reduceIte, Nra, Nrb, Nrc, Nrd, Nre, Nrf, Irg, Irh, Iri, Irj, Irk, Irl, Irm, Irn, Iro, Irp, Irq, Nrr, Irs, dropK_eq]) only [x21l3, go_sem, ↓reduceIte, Nra, Nrb, Nrc, Nrd, Nre, Nrf, Irg, Irh, Iri, Irj, Irk, Irl, Irm, Irn, Iro, Irp, Irq, Nrr, Irs, dropK_eq, k0, k4, k9, k10, k11, d1, ia, callX_known (C := C4) (g := 22) rfl, ft_call (C := C4) (g := 22) rfl, e22, d2, d3, d4, hm, hfind]
              refine ⟨hlt, by simp, hst, by rw [hent], fun k hk => ?_⟩
              repeat first | rw [upd_ne _ _ (by rintro rfl; simp at hk)] | rw [if_neg (by rintro rfl; simp at hk)]
              exact hfr k hk
          · have d3 : decide (¬ l[i].s = 2) = true := decide_eq_true h3
            simp (disch := first | omega | simp only [*, go_sem, ↓reduceIte, Nra, Nrb, Nrc, Nrd, Nre, Nrf, Irg, Irh, Iri, Irj, Irk, Irl, Irm, Irn, Iro, Irp, Irq, Nrr, Irs, dropK_eq]) only [x21l3, go_sem, ↓reduceIte, Nra, Nrb, Nrc, Nrd, Nre, Nrf, Irg, Irh, Iri, Irj, Irk, Irl, Irm, Irn, Iro, Irp, Irq, Nrr, Irs, dropK_eq, k0, k4, k9, k10, k11, d1, ia, callX_known (C := C4) (g := 22) rfl, ft_call (C := C4) (g := 22) rfl, e22, d2, d3]
            refine hn (hno (fun h => by have := h.2.1.2; omega)) _ _ fun k hk => ?_
            repeat first | rw [upd_ne _ _ (by rintro rfl; simp at hk)] | rw [if_neg (by rintro rfl; simp at hk)]
            exact hfr k hk
      · rw [decide_eq_false h1] at e22
        simp (disch := first | omega | simp only [*, go_sem, ↓reduceIte, Nra, Nrb, Nrc, Nrd, Nre, Nrf, Irg, Irh, Iri, Irj, Irk, Irl, Irm, Irn, Iro, Irp, Irq, Nrr, Irs, dropK_eq]) only [x21l3, go_sem, ↓reduceIte, Nra, Nrb, Nrc, Nrd, Nre, Nrf, Irg, Irh, Iri, Irj, Irk, Irl, Irm, Irn, Iro, Irp, Irq, Nrr, Irs, dropK_eq, k0, k4, k9, k10, k11, d1, ia, callX_known (C := C4) (g := 22) rfl, ft_call (C := C4) (g := 22) rfl, e22]
        refine hn (hno (fun h => h1 h.2.1.1)) _ _ fun k hk => ?_
        repeat first | rw [upd_ne _ _ (by rintro rfl; simp at hk)] | rw [if_neg (by rintro rfl; simp at hk)]
        exact hfr k hk
    · obtain rfl : i = l.length := by omega
      have d1 : decide ((l.length : Int) < (l.length : Int)) = false := decide_eq_false (by omega)
      rw [List.take_length] at hj hm
      simp (disch := first | omega | simp only [*, go_sem, ↓reduceIte, Nra, Nrb, Nrc, Nrd, Nre, Nrf, Irg, Irh, Iri, Irj, Irk, Irl, Irm, Irn, Iro, Irp, Irq, Nrr, Irs, dropK_eq]) only [x21l3, go_sem, ↓reduceIte, Nra, Nrb, Nrc, Nrd, Nre, Nrf, Irg, Irh, Iri, Irj, Irk, Irl, Irm, Irn, Iro, Irp, Irq, Nrr, Irs, dropK_eq, k0, k4, k9, k10, k11, d1]
      exact hy hj _ _ _ rfl hm hfr
end Go.Proofs.Ytkihpjehigmnpaa
