/-
  Which recipes may be: the program's Right and the reference's; are two the same?
-/
import Derived.Test.YtppehejnnjlkfaaGreatDoorYCa
set_option linter.unusedVariables false
set_option linter.unusedSimpArgs false
namespace Go.Proofs.YtppehejnnjlkfaaGreatDoor
open Go Go.Xec
attribute [local go_sem] tm0 ne_eq not_false_eq_true List.length_append List.length_replicate List.replicate_succ List.replicate_zero Int.cast_ofNat_Int not_true_eq_false decide_true decide_false ite_self beq_self_eq_true Bool.true_beq Bool.false_beq Bool.not_true Bool.not_false
attribute [local go_sem_proc] Nat.reduceAdd Nat.reduceMul Nat.reduceSub Nat.reduceLeDiff Nat.reduceLT Nat.reduceEqDiff Int.reduceLT Int.reduceLE Int.reduceAdd Int.reduceSub Int.reduceMul Int.reduceToNat Int.reducePow Int.reduceNe Int.reduceMod Int.reduceDiv Int.reduceEq Nat.reducePow Int.reduceNeg

set_option maxRecDepth 10000
instance (r : List Ch) : Decidable (rOk r) := by unfold rOk; infer_instance
noncomputable def C13 : Cfg := (C12.add 29 F29).add 30 F30
theorem ok13 : CfgOk Tryz.prog C13 := (ok12.add sound29).add sound30
abbrev RC (a : AVal) (r : List Ch) : Prop := Rg 14 CK a r
/-- Names that were met, as a map. -/
def NmOk (es : List (AVal × AVal × Nat)) (ns : List (List UInt8)) : Prop := ∀ s, (s ∈ ns → ∃ j n, findA 2 (sv s) es 0 = some (some (j, .int .i64 1, n)) ∧ j < es.length) ∧ (s ∉ ns → findA 2 (sv s) es 0 = some none)
theorem nm_nil : NmOk [] [] := fun s => ⟨fun h => by simp at h, fun _ => rfl⟩
theorem nm_add {es : List (AVal × AVal × Nat)} {ns : List (List UInt8)} {s : List UInt8} {n : Nat} (h : NmOk es ns) (hs : s ∉ ns) : NmOk (es ++ [(sv s, .int .i64 1, n)]) (ns ++ [s]) := by
  intro u
  rw [findA_snoc]
  constructor
  · intro hu
    by_cases e : u = s
    · subst e
      rw [(h u).2 hs]
      exact ⟨_, _, by simp only [if_true]; rfl, by simp⟩
    · obtain ⟨j, n', h1, h2⟩ := (h u).1 (by simpa [e] using hu)
      exact ⟨j, n', by rw [h1], by simp; omega⟩
  · intro hu
    simp only [List.mem_append, List.mem_singleton, not_or] at hu
    rw [(h u).2 hu.1]
    simp only
    rw [if_neg hu.2]
theorem findA_set (w : List UInt8) (v : AVal) (m : Nat) : ∀ (es : List (AVal × AVal × Nat)) (i j n : Nat) (x : AVal), findA 2 (sv w) es i = some (some (i + j, x, n)) → findA 2 (sv w) (es.set j (sv w, v, m)) i = some (some (i + j, v, m))
  | [], i, j, n, x, h => by simp [findA, keyOk] at h
  | e :: es, i, j, n, x, h => by
    simp only [findA] at h
    cases hk : keq 2 (sv w) e.1 with
    | none => rw [hk] at h; cases h
    | some b =>
      rw [hk] at h
      cases b with
      | true =>
        simp only [Option.some.injEq, Prod.mk.injEq] at h
        have : j = 0 := by omega
        subst this
        simp only [List.set_cons_zero, findA, keq_sv, decide_true]
        rfl
      | false =>
        simp only at h
        cases j with
        | zero =>
          have : ∀ (es : List (AVal × AVal × Nat)) (i q n : Nat) (x : AVal), findA 2 (sv w) es i = some (some (q, x, n)) → i ≤ q := by
            intro es
            induction es with
            | nil => intro i q n x h; simp [findA, keyOk] at h
            | cons e es ih =>
              intro i q n x h
              simp only [findA] at h
              split at h
              · cases h; exact Nat.le_refl _
              · have := ih _ _ _ _ h; omega
              · cases h
          have := this _ _ _ _ _ h
          omega
        | succ j =>
          simp only [List.set_cons_succ, findA, hk]
          rw [show i + (j + 1) = (i + 1) + j by omega] at h ⊢
          exact findA_set w v m es (i + 1) j n x h
noncomputable def F14 : List AVal → Option AVal := pureF C13 1 14
theorem sound14 : Sound Tryz.prog 14 F14 := sound_self ok13 1 14
set_option maxHeartbeats 2000000 in
theorem F14_eq {a : AVal} {r : List Ch} (ha : RC a r) (hl : r.length ≤ 100000) (hn : ∀ c ∈ r, c.n.length ≤ 1000000) : F14 [.agg [a]] = some (.bool (decide (rOk r))) := by
  have hsc := ha.sc
  have hcl := ha.cells
  unfold F14
  refine pureF_of (x := x14) rfl rfl ?_
  rw [x14_eq.1, x14_eq.2.1]
  simp (disch := first | omega | simp only [*, go_sem, ↓reduceIte, dropK_eq]) only [x14b, go_sem, ↓reduceIte, dropK_eq, hsc, hcl, ha.len]
  refine Ev_range (ti := 10) (len := r.length) (J := fun i tm hp nc => ∃ es n, hp (14000000, 0) = some (.var [a]) ∧ hp (14001000, 1) = some (.obj (.map es n)) ∧ NmOk es ((r.take i).map (·.n)) ∧ (∀ c ∈ r.take i, chOk c) ∧ ((r.take i).map (·.n)).Nodup) (by omega) (by simp only [go_sem, ↓reduceIte, dropK_eq]) ?_ ?_
  · refine ⟨[], 0, ?_⟩
    simp only [go_sem, ↓reduceIte, dropK_eq, List.take_zero, List.map_nil]
    exact ⟨nm_nil, by simp, by simp⟩
  · rintro i tm hp nc hi hc k10 ⟨es, n, hv, hm, hnm, hok, hnd⟩
    have k1 := hc 1 rfl; have k3 := hc 3 rfl; have k8 := hc 8 rfl; have k9 := hc 9 rfl; simp only [go_sem, ↓reduceIte, dropK_eq] at k1 k3 k8 k9
    rcases Nat.lt_or_ge i r.length with hlt | hge
    · have d1 : decide ((i : Int) < (r.length : Int)) = true := decide_eq_true (by omega)
      have ia := ha.ia hlt
      have hmem := List.getElem_mem hlt
      have e29 := F29_eq (hn _ hmem)
      have hmap : (r.take (i + 1)).map (·.n) = (r.take i).map (·.n) ++ [r[i].n] := by rw [take_next hlt, List.map_append]; rfl
      by_cases hin : r[i].n ∈ (r.take i).map (·.n)
      · obtain ⟨j, m, hf, hj⟩ := (hnm r[i].n).1 hin
        have hf2 := findA_set r[i].n (.int .i64 2) m es 0 j m _ (by rw [Nat.zero_add]; exact hf)
        rw [Nat.zero_add] at hf2
        rw [decide_eq_false (p := rOk r) (fun h => by
          have h2 := h.2.1
          rw [← List.take_append_drop (i + 1) r, List.map_append, hmap] at h2
          have h3 := (List.nodup_append.1 h2).1
          exact (List.nodup_append.1 h3).2.2 _ hin _ (by simp) rfl)]
        simp (disch := first | omega | simp only [*, go_sem, ↓reduceIte, dropK_eq]) only [x14l3, go_sem, ↓reduceIte, dropK_eq, k1, k3, k8, k9, k10, d1, ia, hm, hf, hf2]
        exact Ends_plain rfl rfl
      · have hf := (hnm r[i].n).2 hin
        have hnm2 := nm_add (n := n) hnm hin
        obtain ⟨j, m, hf2, _⟩ := (hnm2 r[i].n).1 (by simp)
        by_cases hc2 : chOk r[i]
        · rw [decide_eq_true hc2] at e29
          simp (disch := first | omega | simp only [*, go_sem, ↓reduceIte, dropK_eq]) only [x14l3, go_sem, ↓reduceIte, dropK_eq, k1, k3, k8, k9, k10, d1, ia, hm, hv, hf, hf2, callX_known (C := C13) (g := 29) rfl, ft_call (C := C13) (g := 29) rfl, e29]
          refine ⟨hlt, by simp, _, _, rfl, ?_, ?_, ?_⟩
          · rw [hmap]; exact hnm2
          · intro c hc
            rw [take_next hlt] at hc
            rcases List.mem_append.1 hc with hc | hc
            · exact hok c hc
            · simp at hc; subst hc; exact hc2
          · rw [hmap, List.nodup_append]
            refine ⟨hnd, by simp, ?_⟩
            intro x hx y hy
            simp at hy
            subst hy
            exact fun e => hin (e ▸ hx)
        · rw [decide_eq_false hc2] at e29
          rw [decide_eq_false (p := rOk r) (fun h => hc2 (h.1 _ hmem))]
          simp (disch := first | omega | simp only [*, go_sem, ↓reduceIte, dropK_eq]) only [x14l3, go_sem, ↓reduceIte, dropK_eq, k1, k3, k8, k9, k10, d1, ia, hm, hv, hf, hf2, callX_known (C := C13) (g := 29) rfl, ft_call (C := C13) (g := 29) rfl, e29]
          exact Ends_plain rfl rfl
    · obtain rfl : i = r.length := by omega
      have d1 : decide ((r.length : Int) < (r.length : Int)) = false := decide_eq_false (by omega)
      rw [List.take_length] at hok hnd
      by_cases h1 : 1 ≤ r.length
      · have d2 : decide ((1 : Int) ≤ (r.length : Int)) = true := decide_eq_true (by omega)
        rw [show decide (rOk r) = decide ((r.length : Int) ≤ 4) from decide_eq_decide.2 ⟨fun h => by have := h.2.2.2; omega, fun h => ⟨hok, hnd, (fun e => by rw [e] at h1; simp at h1), by omega⟩⟩]
        simp (disch := first | omega | simp only [*, go_sem, ↓reduceIte, dropK_eq]) only [x14l3, go_sem, ↓reduceIte, dropK_eq, k1, k3, k8, k9, k10, d1, hv, ha.len, d2]
        exact Ends_plain rfl rfl
      · have d2 : decide ((1 : Int) ≤ (r.length : Int)) = false := decide_eq_false (by omega)
        rw [decide_eq_false (p := rOk r) (fun h => h1 (List.length_pos_iff.2 h.2.2.1))]
        simp (disch := first | omega | simp only [*, go_sem, ↓reduceIte, dropK_eq]) only [x14l3, go_sem, ↓reduceIte, dropK_eq, k1, k3, k8, k9, k10, d1, hv, ha.len, d2]
        exact Ends_plain rfl rfl
noncomputable def F15 : List AVal → Option AVal := pureF C13 1 15
theorem sound15 : Sound Tryz.prog 15 F15 := sound_self ok13 1 15
set_option maxHeartbeats 2000000 in
theorem F15_eq {a : AVal} {r : List Ch} (ha : RC a r) (hl : r.length ≤ 100000) (hn : ∀ c ∈ r, c.n.length ≤ 1000000) : F15 [.agg [a]] = some (.bool (decide (rOk r))) := by
  have hsc := ha.sc
  have hcl := ha.cells
  unfold F15
  refine pureF_of (x := x15) rfl rfl ?_
  rw [x15_eq.1, x15_eq.2.1]
  simp (disch := first | omega | simp only [*, go_sem, ↓reduceIte, dropK_eq]) only [x15b, go_sem, ↓reduceIte, dropK_eq, hsc, hcl, ha.len]
  refine Ev_range (ti := 10) (len := r.length) (J := fun i tm hp nc => hp (15000000, 0) = some (.var [a]) ∧ (∀ c ∈ r.take i, chOk c) ∧ ((r.take i).map (·.n)).Nodup) (by omega) (by simp only [go_sem, ↓reduceIte, dropK_eq]) ?_ ?_
  · simp only [go_sem, ↓reduceIte, dropK_eq, List.take_zero, List.map_nil]
    exact ⟨by simp, by simp⟩
  · rintro i tm hp nc hi hc k10 ⟨hv, hok, hnd⟩
    have k1 := hc 1 rfl; have k8 := hc 8 rfl; have k9 := hc 9 rfl; simp only [go_sem, ↓reduceIte, dropK_eq] at k1 k8 k9
    rcases Nat.lt_or_ge i r.length with hlt | hge
    · have d1 : decide ((i : Int) < (r.length : Int)) = true := decide_eq_true (by omega)
      have ia := ha.ia hlt
      have hmem := List.getElem_mem hlt
      have e30 := F30_eq (hn _ hmem)
      have hmap : (r.take (i + 1)).map (·.n) = (r.take i).map (·.n) ++ [r[i].n] := by rw [take_next hlt, List.map_append]; rfl
      have hcut := ha.sliceTo (n := i) (by omega)
      have hb := ha.take i
      by_cases hc2 : chOk r[i]
      · rw [decide_eq_true hc2] at e30
        generalize rwTake i a = b at *
        have hbl := hb.len
        simp (disch := first | omega | simp only [*, go_sem, ↓reduceIte, dropK_eq]) only [x15l2, go_sem, ↓reduceIte, dropK_eq, k1, k8, k9, k10, d1, ia, hv, hcut, hbl, callX_known (C := C13) (g := 30) rfl, ft_call (C := C13) (g := 30) rfl, e30]
        refine Ev_range (ti := 23) (len := (r.take i).length) (J := fun j tm' hp' nc' => hp' (15000000, 0) = some (.var [a]) ∧ hp' (15003003, nc + 1) = some (.var (cellsOf (CK r[i]))) ∧ ∀ d ∈ (r.take i).take j, d.n ≠ r[i].n) (by simp; omega) (by simp only [go_sem, ↓reduceIte, dropK_eq]) ?_ ?_
        · refine ⟨?_, ?_, by simp⟩
          · repeat rw [upd_ne _ _ (by simp)]
            exact hv
          · rw [upd_same]
            rfl
        · rintro j tm2 hp2 nc2 hj hc k23 ⟨hv2, hd2, hno⟩
          have q1 := hc 1 rfl; have q4 := hc 4 rfl; have q8 := hc 8 rfl; have q9 := hc 9 rfl; have q10 := hc 10 rfl; have q21 := hc 21 rfl; have q22 := hc 22 rfl; simp only [go_sem, ↓reduceIte, dropK_eq, k1, k8, k9, k10] at q1 q4 q8 q9 q10 q21 q22
          have hjb : (r.take i).length ≤ 100000 := by rw [List.length_take]; omega
          rcases Nat.lt_or_ge j (r.take i).length with hlt2 | hge2
          · have d2 : decide ((j : Int) < ((r.take i).length : Int)) = true := decide_eq_true (by omega)
            have ib := hb.ia hlt2
            by_cases he : (r.take i)[j].n = r[i].n
            · have d3 := decide_eq_true he.symm
              rw [decide_eq_false (p := rOk r) (fun h => by
                have h2 := h.2.1
                rw [← List.take_append_drop (i + 1) r, List.map_append, hmap] at h2
                have h3 := (List.nodup_append.1 h2).1
                exact (List.nodup_append.1 h3).2.2 _ (List.mem_map.2 ⟨_, List.getElem_mem hlt2, he⟩) _ (by simp) rfl)]
              simp (disch := first | omega | simp only [*, go_sem, ↓reduceIte, dropK_eq]) only [x15l7, go_sem, ↓reduceIte, dropK_eq, q1, q4, q8, q9, q10, q21, q22, k23, d2, ib, hv2, hd2, d3]
              exact Ends_plain rfl rfl
            · have d3 := decide_eq_false (fun h : r[i].n = (r.take i)[j].n => he h.symm)
              simp (disch := first | omega | simp only [*, go_sem, ↓reduceIte, dropK_eq]) only [x15l7, go_sem, ↓reduceIte, dropK_eq, q1, q4, q8, q9, q10, q21, q22, k23, d2, ib, hv2, hd2, d3]
              refine ⟨hlt2, by simp, fun d hd => ?_⟩
              rw [take_next hlt2] at hd
              rcases List.mem_append.1 hd with hd | hd
              · exact hno d hd
              · simp only [List.mem_singleton] at hd
                subst hd
                exact he
          · obtain rfl : j = (r.take i).length := by omega
            have d2 : decide (((r.take i).length : Int) < ((r.take i).length : Int)) = false := decide_eq_false (by omega)
            rw [List.take_length] at hno
            simp (disch := first | omega | simp only [*, go_sem, ↓reduceIte, dropK_eq]) only [x15l7, go_sem, ↓reduceIte, dropK_eq, q1, q4, q8, q9, q10, q21, q22, k23, d2, hv2, hd2]
            refine ⟨hlt, by simp, ?_, ?_⟩
            · intro c hc
              rw [take_next hlt] at hc
              rcases List.mem_append.1 hc with hc | hc
              · exact hok c hc
              · simp only [List.mem_singleton] at hc; subst hc; exact hc2
            · rw [hmap, List.nodup_append]
              refine ⟨hnd, by simp, ?_⟩
              intro x hx y hy
              simp only [List.mem_singleton] at hy
              subst hy
              obtain ⟨d, hd, rfl⟩ := List.mem_map.1 hx
              exact hno d hd
      · rw [decide_eq_false hc2] at e30
        rw [decide_eq_false (p := rOk r) (fun h => hc2 (h.1 _ hmem))]
        simp (disch := first | omega | simp only [*, go_sem, ↓reduceIte, dropK_eq]) only [x15l2, go_sem, ↓reduceIte, dropK_eq, k1, k8, k9, k10, d1, ia, hv, callX_known (C := C13) (g := 30) rfl, ft_call (C := C13) (g := 30) rfl, e30]
        exact Ends_plain rfl rfl
    · obtain rfl : i = r.length := by omega
      have d1 : decide ((r.length : Int) < (r.length : Int)) = false := decide_eq_false (by omega)
      rw [List.take_length] at hok hnd
      by_cases h1 : 1 ≤ r.length
      · have d2 : decide ((1 : Int) ≤ (r.length : Int)) = true := decide_eq_true (by omega)
        rw [show decide (rOk r) = decide ((r.length : Int) ≤ 4) from decide_eq_decide.2 ⟨fun h => by have := h.2.2.2; omega, fun h => ⟨hok, hnd, (fun e => by rw [e] at h1; simp at h1), by omega⟩⟩]
        simp (disch := first | omega | simp only [*, go_sem, ↓reduceIte, dropK_eq]) only [x15l2, go_sem, ↓reduceIte, dropK_eq, k1, k8, k9, k10, d1, hv, ha.len, d2]
        exact Ends_plain rfl rfl
      · have d2 : decide ((1 : Int) ≤ (r.length : Int)) = false := decide_eq_false (by omega)
        rw [decide_eq_false (p := rOk r) (fun h => h1 (List.length_pos_iff.2 h.2.2.1))]
        simp (disch := first | omega | simp only [*, go_sem, ↓reduceIte, dropK_eq]) only [x15l2, go_sem, ↓reduceIte, dropK_eq, k1, k8, k9, k10, d1, hv, ha.len, d2]
        exact Ends_plain rfl rfl
theorem eq_chs {a b : Ch} : eqCells [2, 0, 0, 0, 0, 0, 0, 0, 0, 0, 0, 0, 0, 0] (cellsOf (CK a)) (cellsOf (CK b)) = some (decide (a = b)) := by
  have e1 : ∀ x y : Int, eq1 0 (.int .i64 x) (.int .i64 y) = some (decide (x = y)) := fun x y => eq1_int _ x y
  have e2 : eq1 2 (sv a.n) (sv b.n) = some (decide (a.n = b.n)) := str_eq1 a.n b.n
  simp only [cellsOf_agg, eqCells_cons, eqCells_nil, e1, e2, Option.bind_some, Option.map_some, Option.some.injEq]
  rw [Bool.eq_iff_iff]
  simp only [Bool.and_eq_true, decide_eq_true_eq, Bool.and_true]
  obtain ⟨n, t, f0, f1, f2, f3, f4, f5, f6, f7, f8, f9, f10, f11⟩ := a
  obtain ⟨n', t', g0, g1, g2, g3, g4, g5, g6, g7, g8, g9, g10, g11⟩ := b
  simp only [Ch.mk.injEq]
noncomputable def F11 : List AVal → Option AVal := pureF C13 1 11
theorem sound11 : Sound Tryz.prog 11 F11 := sound_self ok13 1 11
theorem F11_eq {a b : AVal} {r q : List Ch} (ha : RC a r) (hb : RC b q) (hl : r.length ≤ 100000) (hl2 : q.length ≤ 100000) : F11 [.agg [a], .agg [b]] = some (.bool (decide (r = q))) := by
  have hsc := ha.sc
  have hcl := ha.cells
  have hsc2 := hb.sc
  have hcl2 := hb.cells
  unfold F11
  refine pureF_of (x := x11) rfl rfl ?_
  rw [x11_eq.1, x11_eq.2.1]
  by_cases hlen : r.length = q.length
  · have d0 : decide (¬ (r.length : Int) = (q.length : Int)) = false := decide_eq_false (fun h => h (by omega))
    simp (disch := first | omega | simp only [*, go_sem, ↓reduceIte, dropK_eq]) only [x11b, go_sem, ↓reduceIte, dropK_eq, hsc, hcl, hsc2, hcl2, ha.len, hb.len, d0]
    refine Ev_rangeH (ti := 16) (len := r.length) (J := fun i tm => r.take i = q.take i) (by omega) (by simp only [go_sem, ↓reduceIte, dropK_eq]) (by simp) ?_
    rintro i tm nc hi hc k16 hj
    have k2 := hc 2 rfl; have k3 := hc 3 rfl; have k14 := hc 14 rfl; have k15 := hc 15 rfl; simp only [go_sem, ↓reduceIte, dropK_eq] at k2 k3 k14 k15
    rcases Nat.lt_or_ge i r.length with hlt | hge
    · have d1 : decide ((i : Int) < (r.length : Int)) = true := decide_eq_true (by omega)
      have hlt2 : i < q.length := by omega
      have ia := ha.ia hlt
      have ib := hb.ia hlt2
      have he := eq_chs (a := r[i]) (b := q[i])
      by_cases h : r[i] = q[i]
      · rw [decide_eq_true h] at he
        simp only [cellsOf_agg] at he
        simp (disch := first | omega | simp only [*, go_sem, ↓reduceIte, dropK_eq]) only [x11l4, go_sem, ↓reduceIte, dropK_eq, k2, k3, k14, k15, k16, d1, ia, ib, he]
        refine ⟨hlt, by simp, ?_⟩
        rw [take_next hlt, take_next hlt2, hj, h]
      · rw [decide_eq_false h] at he
        simp only [cellsOf_agg] at he
        rw [decide_eq_false (p := r = q) (fun e => h (by subst e; rfl))]
        simp (disch := first | omega | simp only [*, go_sem, ↓reduceIte, dropK_eq]) only [x11l4, go_sem, ↓reduceIte, dropK_eq, k2, k3, k14, k15, k16, d1, ia, ib, he]
        exact Ends_plain rfl rfl
    · obtain rfl : i = r.length := by omega
      have d1 : decide ((r.length : Int) < (r.length : Int)) = false := decide_eq_false (by omega)
      rw [List.take_length, hlen, List.take_length] at hj
      rw [decide_eq_true hj]
      simp (disch := first | omega | simp only [*, go_sem, ↓reduceIte, dropK_eq]) only [x11l4, go_sem, ↓reduceIte, dropK_eq, k2, k3, k14, k15, k16, d1]
      exact Ends_plain rfl rfl
  · have d0 : decide (¬ (r.length : Int) = (q.length : Int)) = true := decide_eq_true (fun h => hlen (by omega))
    rw [decide_eq_false (p := r = q) (fun e => hlen (by rw [e]))]
    simp (disch := first | omega | simp only [*, go_sem, ↓reduceIte, dropK_eq]) only [x11b, go_sem, ↓reduceIte, dropK_eq, hsc, hcl, hsc2, hcl2, ha.len, hb.len, d0]
    exact Ends_plain rfl rfl
end Go.Proofs.YtppehejnnjlkfaaGreatDoor
