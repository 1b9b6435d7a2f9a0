/-
  Some steps; rows that are the same; samples, made to be within; a test of all.
-/
import Derived.Test.YtihgogbfjiobiaaYC
set_option linter.unusedVariables false
set_option linter.unusedSimpArgs false
namespace Go.Proofs.Ytihgogbfjiobiaa
open Go Go.Xec
attribute [local go_sem] tm0 ne_eq not_false_eq_true List.length_append List.length_replicate List.replicate_succ List.replicate_zero Int.cast_ofNat_Int not_true_eq_false decide_true decide_false ite_self beq_self_eq_true Bool.true_beq Bool.false_beq Bool.not_true Bool.not_false
open Nat renaming reduceAdd → Nra, reduceMul → Nrb, reduceSub → Nrc, reduceLeDiff → Nrd, reduceLT → Nre, reduceEqDiff → Nrf, reducePow → Nrr
open Int renaming reduceLT → Irg, reduceLE → Irh, reduceAdd → Iri, reduceSub → Irj, reduceMul → Irk, reduceToNat → Irl, reducePow → Irm, reduceNe → Irn, reduceMod → Iro, reduceDiv → Irp, reduceEq → Irq, reduceNeg → Irs

set_option maxRecDepth 10000
theorem own_ne {ss : List Nat} {es : Nat} {hp : Heap} {v : AVal} {xs : List AVal} (h : Own ss es hp v xs) (h0 : xs ≠ []) : v ≠ .nils := by
  rcases h with ⟨_, h⟩ | ⟨s, c, g, _, rfl, _⟩
  · exact absurd h h0
  · intro e; cases e
theorem own_slc {es : Nat} {v : AVal} {xs : List AVal} {ss : List Nat} {hp : Heap} (h : Own ss es hp v xs) (h0 : v ≠ .nils) : sliceOf es v xs = .slc es xs := by
  rcases h with ⟨h, _⟩ | ⟨s, c, g, _, rfl, _⟩
  · exact absurd h h0
  · rfl
def C3 : Cfg := (C2.add 12 F12).add 17 F17
theorem ok3 : CfgOk Try.prog C3 := (ok2.add sound12).add sound17
def F14 : List AVal → Option AVal := pureF C3 1 14
theorem sound14 : Sound Try.prog 14 F14 := sound_self ok3 1 14
theorem ints_plain (d : Nat) (l : List Int) : plainL (d + 1) (l.map (AVal.int .i64)) = true := plainL_map _ (fun x => rfl) l
theorem F14_eq {m : Mv} {a : AVal} {l : List Int} (ha : RI a l) (hl : l.length ≤ 100000) (h : mvOk m) (hx : allX l) (hn : m.n + l.length ≤ 1000000000) : F14 [MA m, a] = some (.tup [MA (runM m l).1, .slc 1 ((runM m l).2.map (AVal.int .i64))]) := by
  unfold F14
  refine pureF_of (x := x14) rfl rfl ?_
  rw [x14_eq.1, x14_eq.2.1]
  simp (disch := first | omega | simp only [go_sem, ↓reduceIte, Nra, Nrb, Nrc, Nrd, Nre, Nrf, Irg, Irh, Iri, Irj, Irk, Irl, Irm, Irn, Iro, Irp, Irq, Nrr, Irs, dropK_eq]) only [x14b, go_sem, ↓reduceIte, Nra, Nrb, Nrc, Nrd, Nre, Nrf, Irg, Irh, Iri, Irj, Irk, Irl, Irm, Irn, Iro, Irp, Irq, Nrr, Irs, dropK_eq, ha.len]
  refine Ev_range (ti := 14) (len := l.length) (J := fun i tm hp nc => hp (14000000, 0) = some (.var [.int .i64 (runM m (l.take i)).1.n, .int .i64 (runM m (l.take i)).1.l, .int .i64 (runM m (l.take i)).1.s]) ∧ hp (14000001, 0) = some (.var [.int .i64 0, .int .i64 0, .int .i64 0]) ∧ tm 6 ≠ .nils ∧ Own [14001000, 14007003] 1 hp (tm 6) ((runM m (l.take i)).2.map (AVal.int .i64))) (by omega) ?_ ?_ ?_
  · simp only [go_sem, ↓reduceIte, Nra, Nrb, Nrc, Nrd, Nre, Nrf, Irg, Irh, Iri, Irj, Irk, Irl, Irm, Irn, Iro, Irp, Irq, Nrr, Irs, dropK_eq]
  · refine ⟨?_, ?_, ?_, ?_⟩
    · simp only [go_sem, ↓reduceIte, Nra, Nrb, Nrc, Nrd, Nre, Nrf, Irg, Irh, Iri, Irj, Irk, Irl, Irm, Irn, Iro, Irp, Irq, Nrr, Irs, dropK_eq]
      rfl
    · simp only [go_sem, ↓reduceIte, Nra, Nrb, Nrc, Nrd, Nre, Nrf, Irg, Irh, Iri, Irj, Irk, Irl, Irm, Irn, Iro, Irp, Irq, Nrr, Irs, dropK_eq]
    · simp only [go_sem, ↓reduceIte, Nra, Nrb, Nrc, Nrd, Nre, Nrf, Irg, Irh, Iri, Irj, Irk, Irl, Irm, Irn, Iro, Irp, Irq, Nrr, Irs, dropK_eq]
      intro h; cases h
    · simp only [go_sem, ↓reduceIte, Nra, Nrb, Nrc, Nrd, Nre, Nrf, Irg, Irh, Iri, Irj, Irk, Irl, Irm, Irn, Iro, Irp, Irq, Nrr, Irs, dropK_eq]
      exact Own.sl (by simp) rfl (by simp only [go_sem, ↓reduceIte, Nra, Nrb, Nrc, Nrd, Nre, Nrf, Irg, Irh, Iri, Irj, Irk, Irl, Irm, Irn, Iro, Irp, Irq, Nrr, Irs, dropK_eq]; rfl)
  · rintro i tm hp nc hi hc k14 ⟨h2, h4, hv, ho⟩
    have k2 := hc 2 rfl; have k4 := hc 4 rfl; have k12 := hc 12 rfl; have k13 := hc 13 rfl; simp only [go_sem, ↓reduceIte, Nra, Nrb, Nrc, Nrd, Nre, Nrf, Irg, Irh, Iri, Irj, Irk, Irl, Irm, Irn, Iro, Irp, Irq, Nrr, Irs, dropK_eq] at k2 k4 k12 k13
    rcases Nat.lt_or_ge i l.length with hlt | hge
    · have d1 : decide ((i : Int) < (l.length : Int)) = true := decide_eq_true (by omega)
      have ia := ha.ia hlt
      obtain ⟨hm1, hm2, hm3⟩ := run_ok h hx hn i hi
      have hst := runM_snoc m (l.take i) l[i]
      rw [← take_next hlt] at hst
      have hxi := hx _ (List.getElem_mem hlt)
      generalize hq : runM m (l.take i) = q at *
      obtain ⟨⟨N, L, S⟩, st⟩ := q
      simp only at hm1 hm2 hm3 h2 hv ho
      have e12 := F12_eq (m := ⟨N, L, S⟩) hm1 hxi (by simp only; omega)
      have hhl := ho
      by_cases hN : 0 < N
      · have d2 := decide_eq_true hN
        have hst' : runM m (l.take (i + 1)) = (nextM ⟨N, L, S⟩ l[i], st ++ [dOf ⟨N, L, S⟩ l[i]]) := by rw [hst]; simp only [stepM, if_pos hN]
        rw [hst']
        generalize dOf ⟨N, L, S⟩ l[i] = d at *
        generalize nextM ⟨N, L, S⟩ l[i] = M' at *
        have hko : Own [14001000, 14007003] 1 (upd (upd hp (14005006, nc + 1 + 1) (some (.var [.int .i64 0, .int .i64 0, .int .i64 0]))) (14005006, nc + 1 + 1) (some (.var [.int .i64 M'.n, .int .i64 M'.l, .int .i64 M'.s]))) (tm 6) (st.map (AVal.int .i64)) := ho.keep (fun k hk' => by repeat rw [upd_ne _ _ (by rintro rfl; simp at hk')])
        obtain ⟨V, H, hA, hH⟩ := hko.push (s0 := 14007003) (s1 := 14007002) (z := .int .i64 d) (bytes := 8) (by simp) (by simp) rfl rfl (by rw [List.length_map]; omega)
        have g2 : ∀ q q', H q q' (14000000, 0) = some (.var [.int .i64 N, .int .i64 L, .int .i64 S]) := fun q q' => by
          rw [(hH q q').2 _ (by simp) (by simp)]
          simp only [go_sem, ↓reduceIte, Nra, Nrb, Nrc, Nrd, Nre, Nrf, Irg, Irh, Iri, Irj, Irk, Irl, Irm, Irn, Iro, Irp, Irq, Nrr, Irs, dropK_eq]
          exact h2
        have g4 : ∀ q q', H q q' (14000001, 0) = some (.var [.int .i64 0, .int .i64 0, .int .i64 0]) := fun q q' => by
          rw [(hH q q').2 _ (by simp) (by simp)]
          simp only [go_sem, ↓reduceIte, Nra, Nrb, Nrc, Nrd, Nre, Nrf, Irg, Irh, Iri, Irj, Irk, Irl, Irm, Irn, Iro, Irp, Irq, Nrr, Irs, dropK_eq]
          exact h4
        have g9 : ∀ q q', H q q' (14005006, nc + 1 + 1) = some (.var [.int .i64 M'.n, .int .i64 M'.l, .int .i64 M'.s]) := fun q q' => by
          rw [(hH q q').2 _ (by simp) (by simp)]
          simp only [go_sem, ↓reduceIte, Nra, Nrb, Nrc, Nrd, Nre, Nrf, Irg, Irh, Iri, Irj, Irk, Irl, Irm, Irn, Iro, Irp, Irq, Nrr, Irs, dropK_eq]
        simp (disch := first | omega | simp only [*, go_sem, ↓reduceIte, Nra, Nrb, Nrc, Nrd, Nre, Nrf, Irg, Irh, Iri, Irj, Irk, Irl, Irm, Irn, Iro, Irp, Irq, Nrr, Irs, dropK_eq]) only [x14l3, go_sem, ↓reduceIte, Nra, Nrb, Nrc, Nrd, Nre, Nrf, Irg, Irh, Iri, Irj, Irk, Irl, Irm, Irn, Iro, Irp, Irq, Nrr, Irs, dropK_eq, k2, k4, k12, k13, k14, d1, ia, h2, h4, callX_known (C := C3) (g := 12) rfl, ft_call (C := C3) (g := 12) rfl, e12, d2, hA, g2, g4, g9]
        refine ⟨hlt, by simp, own_ne (hH _ _).1 (by simp), ?_⟩
        rw [List.map_append]
        exact (hH _ _).1.keep (fun k hk' => by repeat rw [upd_ne _ _ (by rintro rfl; simp at hk')])
      · have d2 := decide_eq_false hN
        have hst' : runM m (l.take (i + 1)) = (nextM ⟨N, L, S⟩ l[i], st) := by rw [hst]; simp only [stepM, if_neg hN, List.append_nil]
        rw [hst']
        generalize dOf ⟨N, L, S⟩ l[i] = d at *
        generalize nextM ⟨N, L, S⟩ l[i] = M' at *
        simp (disch := first | omega | simp only [*, go_sem, ↓reduceIte, Nra, Nrb, Nrc, Nrd, Nre, Nrf, Irg, Irh, Iri, Irj, Irk, Irl, Irm, Irn, Iro, Irp, Irq, Nrr, Irs, dropK_eq]) only [x14l3, go_sem, ↓reduceIte, Nra, Nrb, Nrc, Nrd, Nre, Nrf, Irg, Irh, Iri, Irj, Irk, Irl, Irm, Irn, Iro, Irp, Irq, Nrr, Irs, dropK_eq, k2, k4, k12, k13, k14, d1, ia, h2, h4, callX_known (C := C3) (g := 12) rfl, ft_call (C := C3) (g := 12) rfl, e12, d2]
        exact ⟨hlt, by simp, hv, ho.keep (fun k hk' => by repeat rw [upd_ne _ _ (by rintro rfl; simp at hk')])⟩
    · obtain rfl : i = l.length := by omega
      have d1 : decide ((l.length : Int) < (l.length : Int)) = false := decide_eq_false (by omega)
      rw [List.take_length] at h2 ho
      generalize runM m l = q at *
      simp (disch := first | omega | simp only [*, go_sem, ↓reduceIte, Nra, Nrb, Nrc, Nrd, Nre, Nrf, Irg, Irh, Iri, Irj, Irk, Irl, Irm, Irn, Iro, Irp, Irq, Nrr, Irs, dropK_eq]) only [x14l3, go_sem, ↓reduceIte, Nra, Nrb, Nrc, Nrd, Nre, Nrf, Irg, Irh, Iri, Irj, Irk, Irl, Irm, Irn, Iro, Irp, Irq, Nrr, Irs, dropK_eq, k2, k4, k12, k13, k14, d1, h2, h4]
      have h9 := (ho.keep (hp' := upd hp (14000001, 0) (some (.var [.int .i64 q.1.n, .int .i64 q.1.l, .int .i64 q.1.s]))) (fun k hk' => by repeat rw [upd_ne _ _ (by rintro rfl; simp at hk')])).lend 62 (ints_plain 61 _)
      rw [own_slc ho hv] at h9
      have hi : ∀ (d : Nat) (n : Int) (h : Heap), lendV d (.int .i64 n) h = some (.int .i64 n) := fun d n h => lendV_plain (by cases d <;> rfl)
      rw [Ends_eq]
      simp only [lendV_tup, lendVL_cons, lendV_agg, lendVL_nil, Option.bind_some, Option.map_some, hi, h9]
def F15 : List AVal → Option AVal := pureF C0 1 15
theorem sound15 : Sound Try.prog 15 F15 := sound_self ok0 1 15
theorem F15_eq {a b : AVal} {l m : List Int} (ha : RI a l) (hb : RI b m) (hl : l.length ≤ 100000) (hm : m.length ≤ 100000) : F15 [a, b] = some (.bool (decide (l = m))) := by
  have alen := ha.len
  have blen := hb.len
  unfold F15
  refine pureF_of (x := x15) rfl rfl ?_
  rw [x15_eq.1, x15_eq.2.1]
  by_cases c3 : l.length = m.length
  · have e3 : decide (¬ (l.length : Int) = (m.length : Int)) = false := decide_eq_false (by omega)
    simp (disch := first | omega | simp only [go_sem, ↓reduceIte, Nra, Nrb, Nrc, Nrd, Nre, Nrf, Irg, Irh, Iri, Irj, Irk, Irl, Irm, Irn, Iro, Irp, Irq, Nrr, Irs, dropK_eq]) only [x15b, go_sem, ↓reduceIte, Nra, Nrb, Nrc, Nrd, Nre, Nrf, Irg, Irh, Iri, Irj, Irk, Irl, Irm, Irn, Iro, Irp, Irq, Nrr, Irs, dropK_eq, alen, blen, e3]
    refine Ev_range (ti := 13) (len := l.length) (J := fun i tm hp nc => l.take i = m.take i) (by omega) (by simp only [go_sem, ↓reduceIte, Nra, Nrb, Nrc, Nrd, Nre, Nrf, Irg, Irh, Iri, Irj, Irk, Irl, Irm, Irn, Iro, Irp, Irq, Nrr, Irs, dropK_eq]) rfl ?_
    rintro i tm hp nc hi hc ki hj
    have k0 := hc 0 rfl; have k1 := hc 1 rfl; have k12 := hc 12 rfl; simp only [go_sem, ↓reduceIte, Nra, Nrb, Nrc, Nrd, Nre, Nrf, Irg, Irh, Iri, Irj, Irk, Irl, Irm, Irn, Iro, Irp, Irq, Nrr, Irs, dropK_eq] at k0 k1 k12
    rcases Nat.lt_or_ge i l.length with hlt | hge
    · have hlt' : i < m.length := by omega
      have d1 : decide ((i : Int) < (l.length : Int)) = true := decide_eq_true (by omega)
      have ia := ha.ia hlt
      have ib := hb.ia hlt'
      by_cases e : l[i] = m[i]
      · have d2 : decide (¬ l[i] = m[i]) = false := decide_eq_false (fun h => h e)
        simp (disch := first | omega | simp only [*, go_sem, ↓reduceIte, Nra, Nrb, Nrc, Nrd, Nre, Nrf, Irg, Irh, Iri, Irj, Irk, Irl, Irm, Irn, Iro, Irp, Irq, Nrr, Irs, dropK_eq]) only [x15l4, go_sem, ↓reduceIte, Nra, Nrb, Nrc, Nrd, Nre, Nrf, Irg, Irh, Iri, Irj, Irk, Irl, Irm, Irn, Iro, Irp, Irq, Nrr, Irs, dropK_eq, k0, k1, k12, ki, d1, ia, ib, d2]
        refine ⟨hlt, by simp, ?_⟩
        rw [take_next hlt, take_next hlt', hj, e]
      · have d2 : decide (¬ l[i] = m[i]) = true := decide_eq_true e
        rw [decide_eq_false (fun h : l = m => e (by subst h; rfl))]
        simp (disch := first | omega | simp only [*, go_sem, ↓reduceIte, Nra, Nrb, Nrc, Nrd, Nre, Nrf, Irg, Irh, Iri, Irj, Irk, Irl, Irm, Irn, Iro, Irp, Irq, Nrr, Irs, dropK_eq]) only [x15l4, go_sem, ↓reduceIte, Nra, Nrb, Nrc, Nrd, Nre, Nrf, Irg, Irh, Iri, Irj, Irk, Irl, Irm, Irn, Iro, Irp, Irq, Nrr, Irs, dropK_eq, k0, k1, k12, ki, d1, ia, ib, d2]
        exact Ends_plain rfl rfl
    · obtain rfl : i = l.length := by omega
      have d1 : decide ((l.length : Int) < (l.length : Int)) = false := decide_eq_false (by omega)
      rw [List.take_length, c3, List.take_length] at hj
      rw [decide_eq_true hj]
      simp (disch := first | omega | simp only [go_sem, ↓reduceIte, Nra, Nrb, Nrc, Nrd, Nre, Nrf, Irg, Irh, Iri, Irj, Irk, Irl, Irm, Irn, Iro, Irp, Irq, Nrr, Irs, dropK_eq]) only [x15l4, go_sem, ↓reduceIte, Nra, Nrb, Nrc, Nrd, Nre, Nrf, Irg, Irh, Iri, Irj, Irk, Irl, Irm, Irn, Iro, Irp, Irq, Nrr, Irs, dropK_eq, k0, k1, k12, ki, d1]
      exact Ends_plain rfl rfl
  · have e3 : decide (¬ (l.length : Int) = (m.length : Int)) = true := decide_eq_true (by omega)
    rw [decide_eq_false (fun h : l = m => c3 (by rw [h]))]
    simp (disch := first | omega | simp only [go_sem, ↓reduceIte, Nra, Nrb, Nrc, Nrd, Nre, Nrf, Irg, Irh, Iri, Irj, Irk, Irl, Irm, Irn, Iro, Irp, Irq, Nrr, Irs, dropK_eq]) only [x15b, go_sem, ↓reduceIte, Nra, Nrb, Nrc, Nrd, Nre, Nrf, Irg, Irh, Iri, Irj, Irk, Irl, Irm, Irn, Iro, Irp, Irq, Nrr, Irs, dropK_eq, alen, blen, e3]
    exact Ends_plain rfl rfl
/-- A sample, made to be within. -/
def clampX (x : Int) : Int := min (max x (-1000000)) 1000000
theorem clamp_ok (x : Int) : xOk (clampX x) := by
  simp only [xOk, clampX]
  omega
def F6 : List AVal → Option AVal := pureF C0 1 6
theorem sound6 : Sound Try.prog 6 F6 := sound_self ok0 1 6
def someL (l : List Int) : List Int := (l.take 200).map clampX
theorem some_ok (l : List Int) : allX (someL l) ∧ (someL l).length ≤ 200 := by
  refine ⟨?_, by simp [someL]; omega⟩
  intro x hx
  obtain ⟨y, _, rfl⟩ := List.mem_map.1 hx
  exact clamp_ok y
theorem F6_eq {a : AVal} {l0 : List Int} (ha : RI a l0) (hl : l0.length ≤ 140737488355328) : F6 [a] = some (rowN 1 ((someL l0).map (AVal.int .i64))) := by
  have hmn : mnxA false (.int .i64 (l0.length : Int)) [.int .i64 200] = some (.int .i64 ((min l0.length 200 : Nat) : Int)) := mnx_min2 l0.length 200
  have hsl := ha.sliceTo (n := min l0.length 200) (Nat.min_le_left _ _)
  have hr := ha.cut 200
  have halen := ha.len
  have hL : (l0.take 200).length ≤ 200 := by rw [List.length_take]; omega
  unfold someL
  unfold F6
  refine pureF_of (x := x6) rfl rfl ?_
  rw [x6_eq.1, x6_eq.2.1]
  generalize rwTake (min l0.length 200) a = R at *
  generalize l0.take 200 = L at *
  have hrl := hr.len
  simp (disch := first | omega | simp only [go_sem, ↓reduceIte, Nra, Nrb, Nrc, Nrd, Nre, Nrf, Irg, Irh, Iri, Irj, Irk, Irl, Irm, Irn, Iro, Irp, Irq, Nrr, Irs, dropK_eq]) only [x6b, go_sem, ↓reduceIte, Nra, Nrb, Nrc, Nrd, Nre, Nrf, Irg, Irh, Iri, Irj, Irk, Irl, Irm, Irn, Iro, Irp, Irq, Nrr, Irs, dropK_eq, halen, hmn, hsl, hrl]
  refine Ev_range (ti := 12) (len := L.length) (J := fun i tm hp nc => (i = 0 → tm 3 = .nils) ∧ Own [6005005] 1 hp (tm 3) (((L.take i).map clampX).map (AVal.int .i64))) (by omega) (by simp only [go_sem, ↓reduceIte, Nra, Nrb, Nrc, Nrd, Nre, Nrf, Irg, Irh, Iri, Irj, Irk, Irl, Irm, Irn, Iro, Irp, Irq, Nrr, Irs, dropK_eq]) ?_ ?_
  · refine ⟨fun _ => by simp only [go_sem, ↓reduceIte, Nra, Nrb, Nrc, Nrd, Nre, Nrf, Irg, Irh, Iri, Irj, Irk, Irl, Irm, Irn, Iro, Irp, Irq, Nrr, Irs, dropK_eq], .inl ⟨by simp only [go_sem, ↓reduceIte, Nra, Nrb, Nrc, Nrd, Nre, Nrf, Irg, Irh, Iri, Irj, Irk, Irl, Irm, Irn, Iro, Irp, Irq, Nrr, Irs, dropK_eq], by simp⟩⟩
  · rintro i tm hp nc hi hc k12 ⟨h0, ho⟩
    have k10 := hc 10 rfl; have k11 := hc 11 rfl; simp only [go_sem, ↓reduceIte, Nra, Nrb, Nrc, Nrd, Nre, Nrf, Irg, Irh, Iri, Irj, Irk, Irl, Irm, Irn, Iro, Irp, Irq, Nrr, Irs, dropK_eq] at k10 k11
    rcases Nat.lt_or_ge i L.length with hlt | hge
    · have d1 : decide ((i : Int) < (L.length : Int)) = true := decide_eq_true (by omega)
      have ia := hr.ia hlt
      have m1 : mnxA true (.int .i64 L[i]) [.int .i64 (-1000000)] = some (.int .i64 (max L[i] (-1000000))) := mnx_max
      have m2 : mnxA false (.int .i64 (max L[i] (-1000000))) [.int .i64 1000000] = some (.int .i64 (clampX L[i])) := by
        have : (if (1000000 : Int) < max L[i] (-1000000) then 1000000 else max L[i] (-1000000)) = clampX L[i] := by
          unfold clampX
          split <;> omega
        simp only [mnxA, Bool.false_eq_true, if_false]
        rw [this]
      have hb8 : ((((L.take i).map clampX).map (AVal.int .i64)).length + 1) * 8 ≤ 140737488355328 := by
        simp only [List.length_map, List.length_take]
        have h5 : min i L.length ≤ 1000 := by omega
        omega
      obtain ⟨V, H, hA, hH⟩ := ho.push (s0 := 6005005) (s1 := 6005004) (z := .int .i64 (clampX L[i])) (bytes := 8) (by simp) (by simp) rfl rfl hb8
      simp (disch := first | omega | simp only [*, go_sem, ↓reduceIte, Nra, Nrb, Nrc, Nrd, Nre, Nrf, Irg, Irh, Iri, Irj, Irk, Irl, Irm, Irn, Iro, Irp, Irq, Nrr, Irs, dropK_eq]) only [x6l3, go_sem, ↓reduceIte, Nra, Nrb, Nrc, Nrd, Nre, Nrf, Irg, Irh, Iri, Irj, Irk, Irl, Irm, Irn, Iro, Irp, Irq, Nrr, Irs, dropK_eq, k10, k11, k12, d1, ia, m1, m2, hA]
      refine ⟨hlt, by simp, fun h9 => h9.elim, ?_⟩
      rw [take_next hlt, List.map_append, List.map_append]
      exact (hH _ _).1
    · obtain rfl : i = L.length := by omega
      have d1 : decide ((L.length : Int) < (L.length : Int)) = false := decide_eq_false (by omega)
      rw [List.take_length] at ho
      have h9 := ho.lendN (fun e => h0 (by simpa using e)) 63 (ints_plain 62 _) (hp' := hp) (fun k _ => rfl)
      simp (disch := first | omega | simp only [*, go_sem, ↓reduceIte, Nra, Nrb, Nrc, Nrd, Nre, Nrf, Irg, Irh, Iri, Irj, Irk, Irl, Irm, Irn, Iro, Irp, Irq, Nrr, Irs, dropK_eq]) only [x6l3, go_sem, ↓reduceIte, Nra, Nrb, Nrc, Nrd, Nre, Nrf, Irg, Irh, Iri, Irj, Irk, Irl, Irm, Irn, Iro, Irp, Irq, Nrr, Irs, dropK_eq, k10, k11, k12, d1]
      rw [Ends_eq]
      exact h9
end Go.Proofs.Ytihgogbfjiobiaa
