/-
  One more entry: the document's; the law of appends.
-/
import Derived.Test.YtaoodcnhmjokoaaGreatDoorYO
set_option linter.unusedVariables false
set_option linter.unusedSimpArgs false
namespace Go.Proofs.YtaoodcnhmjokoaaGreatDoor
open Go Go.Xec
attribute [local go_sem] tm0 ne_eq not_false_eq_true List.length_append List.length_replicate List.replicate_succ List.replicate_zero Int.cast_ofNat_Int not_true_eq_false decide_true decide_false ite_self beq_self_eq_true Bool.true_beq Bool.false_beq Bool.not_true Bool.not_false
open Nat renaming reduceAdd → Nra, reduceMul → Nrb, reduceSub → Nrc, reduceLeDiff → Nrd, reduceLT → Nre, reduceEqDiff → Nrf, reducePow → Nrr
open Int renaming reduceLT → Irg, reduceLE → Irh, reduceAdd → Iri, reduceSub → Irj, reduceMul → Irk, reduceToNat → Irl, reducePow → Irm, reduceNe → Irn, reduceMod → Iro, reduceDiv → Irp, reduceEq → Irq, reduceNeg → Irs

set_option maxRecDepth 10000
/-- Which entries stay. -/
def keepL (cap : Int) (l : List En) : List En := if (l.length : Int) < cap then l else l.drop 1
theorem keepL_take {cap : Int} {l : List En} {i : Nat} (hi : i < l.length) : (if (l.length : Int) < cap then l.take (i + 1) else (l.take (i + 1)).drop 1) = (if (l.length : Int) < cap then l.take i else (l.take i).drop 1) ++ (if 0 < i ∨ (l.length : Int) < cap then [l[i]] else []) := by
  split
  · rename_i h
    rw [if_pos (.inr h), take_next hi]
  · rename_i h
    rw [take_next hi]
    cases i with
    | zero => simp [h]
    | succ i =>
      rw [if_pos (.inl (Nat.succ_pos i)), List.drop_append_of_le_length (by rw [List.length_take]; omega)]
theorem ends_own {ss : List Nat} {cap first : Int} {v : AVal} {hp hp' : Heap} {X : List En} (ho : Own ss 4 hp v (X.map EK)) (hv : v ≠ .nils) (hk : ∀ k, k.1 ∈ ss → hp' k = hp k) : Xec.Ends (.agg [.int .i64 cap, .int .i64 first, v]) hp' (JV cap first (.slc 4 (X.map EK))) := by
  have hp1 : ∀ d, plainL (d + 1) (X.map EK) = true := fun d => plainL_map _ (fun x => EK_plain d x) _
  have h1 := (ho.keep hk).lend 62 (hp1 61)
  have h2 : sliceOf 4 v (X.map EK) = .slc 4 (X.map EK) := T.own_slc hv
  rw [h2] at h1
  have hi : ∀ (d : Nat) (n : Int), lendV d (.int .i64 n) hp' = some (.int .i64 n) := fun d n => lendV_plain (by cases d <;> rfl)
  rw [Ends_eq]
  simp only [lendVL_cons, lendV_agg, lendVL_nil, Option.bind_some, Option.map_some, hi, h1]
def F16 : List AVal → Option AVal := pureF C5 1 16
theorem sound16 : Sound Tryz.prog 16 F16 := sound_self ok5 1 16
/-- Of a journal that may be. -/
def refA (cap first : Int) (l : List En) (e : En) : AVal := JV cap (if (l.length : Int) = cap then first + 1 else first) (.slc 4 ((keepL cap l ++ [e]).map EK))
theorem F16_eq {cap first : Int} {a : AVal} {l : List En} {e : En} (ha : RE a l) (hl : l.length ≤ 100000) (hj : jOk cap first l) : F16 [JV cap first a, EK e] = some (refA cap first l e) := by
  have hsc := ha.sc
  have hcl := ha.cells
  have hlen := ha.len
  have hpl := ha.plain
  unfold F16
  refine pureF_of (x := x16) rfl rfl ?_
  rw [x16_eq.1, x16_eq.2.1]
  simp (disch := first | omega | simp only [*, go_sem, ↓reduceIte, Nra, Nrb, Nrc, Nrd, Nre, Nrf, Irg, Irh, Iri, Irj, Irk, Irl, Irm, Irn, Iro, Irp, Irq, Nrr, Irs, dropK_eq]) only [x16b, go_sem, ↓reduceIte, Nra, Nrb, Nrc, Nrd, Nre, Nrf, Irg, Irh, Iri, Irj, Irk, Irl, Irm, Irn, Iro, Irp, Irq, Nrr, Irs, dropK_eq, hsc, hcl, hlen]
  refine Ev_range (ti := 12) (len := l.length) (J := fun i tm hp nc => (∃ v, tm 5 = v ∧ v ≠ .nils ∧ Own [16001000, 16006003, 16008003] 4 hp v ((if (l.length : Int) < cap then l.take i else (l.take i).drop 1).map EK)) ∧ hp (16000000, 0) = some (.var [.int .i64 cap, .int .i64 first, a]) ∧ hp (16000001, 0) = some (.var [.int .i64 e.k, .int .i64 e.c, .int .i64 e.s, .int .i64 e.v]) ∧ hp (16000002, 0) = some (.var [.int .i64 0, .int .i64 0, .nils])) (by omega) ?_ ?_ ?_
  · simp only [go_sem, ↓reduceIte, Nra, Nrb, Nrc, Nrd, Nre, Nrf, Irg, Irh, Iri, Irj, Irk, Irl, Irm, Irn, Iro, Irp, Irq, Nrr, Irs, dropK_eq]
  · refine ⟨⟨_, rfl, ?_, ?_⟩, ?_, ?_, ?_⟩
    · simp only [go_sem, ↓reduceIte, Nra, Nrb, Nrc, Nrd, Nre, Nrf, Irg, Irh, Iri, Irj, Irk, Irl, Irm, Irn, Iro, Irp, Irq, Nrr, Irs, dropK_eq]
      intro h; cases h
    · simp only [go_sem, ↓reduceIte, Nra, Nrb, Nrc, Nrd, Nre, Nrf, Irg, Irh, Iri, Irj, Irk, Irl, Irm, Irn, Iro, Irp, Irq, Nrr, Irs, dropK_eq]
      refine Own.sl (s := 16001000) (by simp) (by split <;> simp) ?_
      simp only [go_sem, ↓reduceIte, Nra, Nrb, Nrc, Nrd, Nre, Nrf, Irg, Irh, Iri, Irj, Irk, Irl, Irm, Irn, Iro, Irp, Irq, Nrr, Irs, dropK_eq]
      split <;> rfl
    · simp only [go_sem, ↓reduceIte, Nra, Nrb, Nrc, Nrd, Nre, Nrf, Irg, Irh, Iri, Irj, Irk, Irl, Irm, Irn, Iro, Irp, Irq, Nrr, Irs, dropK_eq]
    · simp only [go_sem, ↓reduceIte, Nra, Nrb, Nrc, Nrd, Nre, Nrf, Irg, Irh, Iri, Irj, Irk, Irl, Irm, Irn, Iro, Irp, Irq, Nrr, Irs, dropK_eq]
    · simp only [go_sem, ↓reduceIte, Nra, Nrb, Nrc, Nrd, Nre, Nrf, Irg, Irh, Iri, Irj, Irk, Irl, Irm, Irn, Iro, Irp, Irq, Nrr, Irs, dropK_eq]
  · rintro i tm hp nc hi hc k12 ⟨⟨v, k5, hv0, ho⟩, h0, h1, h2⟩
    have k2 := hc 2 rfl; have k3 := hc 3 rfl; have k4 := hc 4 rfl; have k10 := hc 10 rfl; have k11 := hc 11 rfl; simp only [go_sem, ↓reduceIte, Nra, Nrb, Nrc, Nrd, Nre, Nrf, Irg, Irh, Iri, Irj, Irk, Irl, Irm, Irn, Iro, Irp, Irq, Nrr, Irs, dropK_eq] at k2 k3 k4 k10 k11
    rcases Nat.lt_or_ge i l.length with hlt | hge
    · have d1 : decide ((i : Int) < (l.length : Int)) = true := decide_eq_true (by omega)
      have ia := ha.ia hlt
      have hst := keepL_take (cap := cap) hlt
      have hz : (cellsOf (EK l[i])).all isSc = true := rfl
      have hlX : ((if (l.length : Int) < cap then l.take i else (l.take i).drop 1).map EK).length ≤ 100000 := by split <;> simp <;> omega
      by_cases hkeep : 0 < i ∨ (l.length : Int) < cap
      · rw [if_pos hkeep] at hst
        obtain ⟨V, H, hA, hO⟩ := (ho.keep (hp' := upd (upd hp (16004003, nc + 1) (some (.var [.int .i64 0, .int .i64 0, .int .i64 0, .int .i64 0]))) (16004003, nc + 1) (some (.var [.int .i64 l[i].k, .int .i64 l[i].c, .int .i64 l[i].s, .int .i64 l[i].v]))) (fun k hk => by repeat rw [upd_ne _ _ (by rintro rfl; simp at hk)])).push (s0 := 16006003) (s1 := 16006002) (z := .agg [.int .i64 l[i].k, .int .i64 l[i].c, .int .i64 l[i].s, .int .i64 l[i].v]) (bytes := 32) (by simp) (by simp) (EK_plain 63 l[i]) hz (by omega)
        have hfin : ∀ c c', Own [16001000, 16006003, 16008003] 4 (H c c') (V c c') ((if (l.length : Int) < cap then l.take (i + 1) else (l.take (i + 1)).drop 1).map EK) := by
          intro c c'
          rw [hst, List.map_append]
          exact (hO c c').1
        have hkk : ∀ c c' k, k.1 ∉ [16001000, 16006003, 16008003] → k.1 ≠ 16006002 → k.1 ≠ 16004003 → H c c' k = hp k := by
          intro c c' k a1 a2 a3
          rw [(hO c c').2 k a1 a2]
          rw [upd_ne _ _ (by rintro rfl; exact a3 rfl), upd_ne _ _ (by rintro rfl; exact a3 rfl)]
        have hvn : ∀ c c', V c c' ≠ .nils := fun c c' => T.own_ne (hO c c').1 (by simp)
        have e0 : ∀ c c', H c c' (16000000, 0) = some (.var [.int .i64 cap, .int .i64 first, a]) := fun c c' => (hkk c c' _ (by simp) (by simp) (by simp)).trans h0
        have e1 : ∀ c c', H c c' (16000001, 0) = some (.var [.int .i64 e.k, .int .i64 e.c, .int .i64 e.s, .int .i64 e.v]) := fun c c' => (hkk c c' _ (by simp) (by simp) (by simp)).trans h1
        have e2 : ∀ c c', H c c' (16000002, 0) = some (.var [.int .i64 0, .int .i64 0, .nils]) := fun c c' => (hkk c c' _ (by simp) (by simp) (by simp)).trans h2
        by_cases hi0 : 0 < i
        · have d2 : decide ((0 : Int) < (i : Int)) = true := decide_eq_true (by omega)
          simp (disch := first | omega | simp only [*, go_sem, ↓reduceIte, Nra, Nrb, Nrc, Nrd, Nre, Nrf, Irg, Irh, Iri, Irj, Irk, Irl, Irm, Irn, Iro, Irp, Irq, Nrr, Irs, dropK_eq]) only [x16l3, go_sem, ↓reduceIte, Nra, Nrb, Nrc, Nrd, Nre, Nrf, Irg, Irh, Iri, Irj, Irk, Irl, Irm, Irn, Iro, Irp, Irq, Nrr, Irs, dropK_eq, k2, k3, k4, k5, k10, k11, k12, d1, ia, d2, hA, h0, hsc, hcl, hlen]
          exact ⟨hlt, by simp, ⟨_, rfl, hvn _ _, hfin _ _⟩, e0 _ _, e1 _ _, e2 _ _⟩
        · have d2 : decide ((0 : Int) < (i : Int)) = false := decide_eq_false (by omega)
          have d3 : decide ((l.length : Int) < cap) = true := decide_eq_true (hkeep.resolve_left hi0)
          simp (disch := first | omega | simp only [*, go_sem, ↓reduceIte, Nra, Nrb, Nrc, Nrd, Nre, Nrf, Irg, Irh, Iri, Irj, Irk, Irl, Irm, Irn, Iro, Irp, Irq, Nrr, Irs, dropK_eq]) only [x16l3, go_sem, ↓reduceIte, Nra, Nrb, Nrc, Nrd, Nre, Nrf, Irg, Irh, Iri, Irj, Irk, Irl, Irm, Irn, Iro, Irp, Irq, Nrr, Irs, dropK_eq, k2, k3, k4, k5, k10, k11, k12, d1, ia, d2, d3, hA, h0, hsc, hcl, hlen]
          exact ⟨hlt, by simp, ⟨_, rfl, hvn _ _, hfin _ _⟩, e0 _ _, e1 _ _, e2 _ _⟩
      · rw [if_neg hkeep, List.append_nil] at hst
        have d2 : decide ((0 : Int) < (i : Int)) = false := decide_eq_false (fun h => hkeep (.inl (by omega)))
        have d3 : decide ((l.length : Int) < cap) = false := decide_eq_false (fun h => hkeep (.inr h))
        simp (disch := first | omega | simp only [*, go_sem, ↓reduceIte, Nra, Nrb, Nrc, Nrd, Nre, Nrf, Irg, Irh, Iri, Irj, Irk, Irl, Irm, Irn, Iro, Irp, Irq, Nrr, Irs, dropK_eq]) only [x16l3, go_sem, ↓reduceIte, Nra, Nrb, Nrc, Nrd, Nre, Nrf, Irg, Irh, Iri, Irj, Irk, Irl, Irm, Irn, Iro, Irp, Irq, Nrr, Irs, dropK_eq, k2, k3, k4, k5, k10, k11, k12, d1, ia, d2, d3, h0, hsc, hcl, hlen]
        refine ⟨hlt, by simp, ⟨v, rfl, hv0, ?_⟩, ?_⟩
        · rw [hst]
          exact ho.keep (fun k hk => by repeat rw [upd_ne _ _ (by rintro rfl; simp at hk)])
        · exact ⟨h1, h2⟩
    · obtain rfl : i = l.length := by omega
      have d1 : decide ((l.length : Int) < (l.length : Int)) = false := decide_eq_false (by omega)
      rw [List.take_length] at ho
      have hkl : (if (l.length : Int) < cap then l else l.drop 1) = keepL cap l := rfl
      rw [hkl] at ho
      have hlX : ((keepL cap l).map EK).length ≤ 100000 := by unfold keepL; split <;> simp <;> omega
      have hb := hj.2.2.2.2.1
      have hb3 := hj.2.2.2.1
      obtain ⟨V, H, hA, hO⟩ := ho.push (s0 := 16008003) (s1 := 16008002) (z := .agg [.int .i64 e.k, .int .i64 e.c, .int .i64 e.s, .int .i64 e.v]) (bytes := 32) (by simp) (by simp) (EK_plain 63 e) rfl (by omega)
      have hfin : ∀ c c', Own [16001000, 16006003, 16008003] 4 (H c c') (V c c') ((keepL cap l ++ [e]).map EK) := by
        intro c c'
        rw [List.map_append]
        exact (hO c c').1
      have hvn : ∀ c c', V c c' ≠ .nils := fun c c' => T.own_ne (hO c c').1 (by simp)
      have hvs : ∀ c c', isSc (V c c') = true := fun c c' => (hO c c').1.sc
      have hvc : ∀ c c', cellsOf (V c c') = [V c c'] := fun c c' => (hO c c').1.cells
      have e0 : ∀ c c', H c c' (16000000, 0) = some (.var [.int .i64 cap, .int .i64 first, a]) := fun c c' => ((hO c c').2 _ (by simp) (by simp)).trans h0
      have e2 : ∀ c c', H c c' (16000002, 0) = some (.var [.int .i64 0, .int .i64 0, .nils]) := fun c c' => ((hO c c').2 _ (by simp) (by simp)).trans h2
      unfold refA
      by_cases hc0 : (l.length : Int) = cap
      · have d2 := decide_eq_true hc0
        rw [if_pos hc0]
        simp (disch := first | omega | simp only [*, go_sem, ↓reduceIte, Nra, Nrb, Nrc, Nrd, Nre, Nrf, Irg, Irh, Iri, Irj, Irk, Irl, Irm, Irn, Iro, Irp, Irq, Nrr, Irs, dropK_eq]) only [x16l3, go_sem, ↓reduceIte, Nra, Nrb, Nrc, Nrd, Nre, Nrf, Irg, Irh, Iri, Irj, Irk, Irl, Irm, Irn, Iro, Irp, Irq, Nrr, Irs, dropK_eq, k2, k3, k4, k5, k10, k11, k12, d1, h0, h1, h2, hA, e0, e2, hsc, hcl, hlen, d2, hvs, hvc]
        exact ends_own (hfin _ _) (hvn _ _) (fun k hk => by repeat rw [upd_ne _ _ (by rintro rfl; simp at hk)])
      · have d2 := decide_eq_false hc0
        rw [if_neg hc0]
        simp (disch := first | omega | simp only [*, go_sem, ↓reduceIte, Nra, Nrb, Nrc, Nrd, Nre, Nrf, Irg, Irh, Iri, Irj, Irk, Irl, Irm, Irn, Iro, Irp, Irq, Nrr, Irs, dropK_eq]) only [x16l3, go_sem, ↓reduceIte, Nra, Nrb, Nrc, Nrd, Nre, Nrf, Irg, Irh, Iri, Irj, Irk, Irl, Irm, Irn, Iro, Irp, Irq, Nrr, Irs, dropK_eq, k2, k3, k4, k5, k10, k11, k12, d1, h0, h1, h2, hA, e0, e2, hsc, hcl, hlen, d2, hvs, hvc]
        exact ends_own (hfin _ _) (hvn _ _) (fun k hk => by repeat rw [upd_ne _ _ (by rintro rfl; simp at hk)])
end Go.Proofs.YtaoodcnhmjokoaaGreatDoor
