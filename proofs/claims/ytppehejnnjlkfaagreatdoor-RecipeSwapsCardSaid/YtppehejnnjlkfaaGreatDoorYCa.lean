/-
  Which channels may be: the reference's Channel, and the program's channel.
-/
import Derived.Test.YtppehejnnjlkfaaGreatDoorYX
import Derived.Test.YtppehejnnjlkfaaGreatDoorYBa
set_option linter.unusedVariables false
set_option linter.unusedSimpArgs false
namespace Go.Proofs.YtppehejnnjlkfaaGreatDoor
open Go Go.Xec
attribute [local go_sem] tm0 ne_eq not_false_eq_true List.length_append List.length_replicate List.replicate_succ List.replicate_zero Int.cast_ofNat_Int not_true_eq_false decide_true decide_false ite_self beq_self_eq_true Bool.true_beq Bool.false_beq Bool.not_true Bool.not_false
attribute [local go_sem_proc] Nat.reduceAdd Nat.reduceMul Nat.reduceSub Nat.reduceLeDiff Nat.reduceLT Nat.reduceEqDiff Int.reduceLT Int.reduceLE Int.reduceAdd Int.reduceSub Int.reduceMul Int.reduceToNat Int.reducePow Int.reduceNe Int.reduceMod Int.reduceDiv Int.reduceEq Nat.reducePow Int.reduceNeg
/-! ### Ca -/

set_option maxRecDepth 10000
instance (c : Ch) : Decidable (chOk c) := by unfold chOk; infer_instance
/-- Is a field as it may be? -/
def fOk (c : Ch) (k : Nat) : Prop := (needB (fd k) c.t = true → inF (fd k) c.t (vl c k) = true) ∧ (mayB c.t.toNat k = false → vl c k = 0)
theorem chOk_no {c : Ch} {k : Nat} (hk : k < 12) (h : ¬ fOk c k) : ¬ chOk c := fun hc => h (hc.2.2.1 k hk)
noncomputable def F30 : List AVal → Option AVal := pureF C12 1 30
theorem sound30 : Sound Tryz.prog 30 F30 := sound_self ok12 1 30
set_option maxHeartbeats 2000000 in
theorem F30_eq {c : Ch} (hn : c.n.length ≤ 1000000) : F30 [CK c] = some (.bool (decide (chOk c))) := by
  have e61 := T.F61_eq (l := c.n) hn
  unfold F30
  refine pureF_of (x := x30) rfl rfl ?_
  rw [x30_eq.1, x30_eq.2.1]
  by_cases hw : T.wordOk c.n
  · rw [decide_eq_true hw] at e61
    by_cases h0 : c.t < 0
    · have d0 := decide_eq_true h0
      rw [decide_eq_false (p := chOk c) (fun h => by have := h.2.1; omega)]
      simp (disch := first | omega | simp only [*, go_sem, ↓reduceIte, dropK_eq]) only [x30b, go_sem, ↓reduceIte, dropK_eq, callX_known (C := C12) (g := 61) rfl, ft_call (C := C12) (g := 61) rfl, e61, d0]
      exact Ends_plain rfl rfl
    · have d0 := decide_eq_false h0
      by_cases h7 : 7 < c.t
      · have d7 := decide_eq_true h7
        rw [decide_eq_false (p := chOk c) (fun h => by have := h.2.1; omega)]
        simp (disch := first | omega | simp only [*, go_sem, ↓reduceIte, dropK_eq]) only [x30b, go_sem, ↓reduceIte, dropK_eq, callX_known (C := C12) (g := 61) rfl, ft_call (C := C12) (g := 61) rfl, e61, d0, d7]
        exact Ends_plain rfl rfl
      · have d7 := decide_eq_false h7
        obtain ⟨t, hct⟩ : ∃ t : Nat, c.t = t := ⟨c.t.toNat, by omega⟩
        have ht : t < 8 := by omega
        have htn : c.t.toNat = t := by rw [hct]; rfl
        simp (disch := first | omega | simp only [*, go_sem, ↓reduceIte, dropK_eq]) only [x30b, go_sem, ↓reduceIte, dropK_eq, callX_known (C := C12) (g := 61) rfl, ft_call (C := C12) (g := 61) rfl, e61, d0, d7]
        refine Ev_rangeH (ti := 3) (len := 12) (J := fun i tm => ∀ j < i, fOk c j) (by omega) (by simp only [go_sem, ↓reduceIte, dropK_eq]) (by intro j hj; omega) ?_
        rintro i tm nc hi hc k3 hj
        have k1 := hc 1 rfl; simp only [go_sem, ↓reduceIte, dropK_eq] at k1
        rcases Nat.lt_or_ge i 12 with hlt | hge
        · have d1 : decide ((i : Int) < 12) = true := decide_eq_true (by omega)
          have e35 := F35_eq (c := c) hlt
          have hv : c.fs[i]'hlt = vl c i := by unfold vl; rw [List.getD_eq_getElem?_getD, List.getElem?_eq_getElem hlt]; rfl
          rw [hv] at e35
          have e33 := E33 ht hlt hct
          have e62 := E62 (v := vl c i) hlt hct
          have e63 := E63 ht hlt hct
          have hnx : fOk c i → ∀ j < i + 1, fOk c j := fun h j hj1 => by
            by_cases e : j = i
            · subst e; exact h
            · exact hj j (by omega)
          have hfo : fOk c i ↔ (needB (fd i) (t : Nat) = true → inF (fd i) (t : Nat) (vl c i) = true) ∧ (mayB t i = false → vl c i = 0) := by unfold fOk; rw [hct]; rfl
          have hmn : needB (fd i) (t : Nat) = true → mayB t i = true := fun h => by rw [mayB_d hlt, h]; rfl
          cases hnd : needB (fd i) (t : Nat) with
          | true =>
            rw [hnd] at e33
            have hm := hmn hnd
            rw [hm] at e63
            cases hin : inF (fd i) (t : Nat) (vl c i) with
            | true =>
              rw [hin] at e62
              simp (disch := first | omega | simp only [*, go_sem, ↓reduceIte, dropK_eq]) only [x30l4, go_sem, ↓reduceIte, dropK_eq, k1, k3, d1, callX_known (C := C12) (g := 35) rfl, ft_call (C := C12) (g := 35) rfl, callX_known (C := C12) (g := 33) rfl, ft_call (C := C12) (g := 33) rfl, callX_known (C := C12) (g := 62) rfl, ft_call (C := C12) (g := 62) rfl, callX_known (C := C12) (g := 63) rfl, ft_call (C := C12) (g := 63) rfl, e35, e33, e62, e63]
              exact ⟨hlt, by simp, hnx (hfo.2 ⟨fun _ => hin, fun h => by rw [hm] at h; cases h⟩)⟩
            | false =>
              rw [hin] at e62
              rw [decide_eq_false (p := chOk c) (chOk_no hlt fun h => by have := (hfo.1 h).1 hnd; rw [hin] at this; cases this)]
              simp (disch := first | omega | simp only [*, go_sem, ↓reduceIte, dropK_eq]) only [x30l4, go_sem, ↓reduceIte, dropK_eq, k1, k3, d1, callX_known (C := C12) (g := 35) rfl, ft_call (C := C12) (g := 35) rfl, callX_known (C := C12) (g := 33) rfl, ft_call (C := C12) (g := 33) rfl, callX_known (C := C12) (g := 62) rfl, ft_call (C := C12) (g := 62) rfl, callX_known (C := C12) (g := 63) rfl, ft_call (C := C12) (g := 63) rfl, e35, e33, e62, e63]
              exact Ends_plain rfl rfl
          | false =>
            rw [hnd] at e33
            cases hm : mayB t i with
            | true =>
              rw [hm] at e63
              simp (disch := first | omega | simp only [*, go_sem, ↓reduceIte, dropK_eq]) only [x30l4, go_sem, ↓reduceIte, dropK_eq, k1, k3, d1, callX_known (C := C12) (g := 35) rfl, ft_call (C := C12) (g := 35) rfl, callX_known (C := C12) (g := 33) rfl, ft_call (C := C12) (g := 33) rfl, callX_known (C := C12) (g := 62) rfl, ft_call (C := C12) (g := 62) rfl, callX_known (C := C12) (g := 63) rfl, ft_call (C := C12) (g := 63) rfl, e35, e33, e63]
              exact ⟨hlt, by simp, hnx (hfo.2 ⟨(fun h => by rw [hnd] at h; cases h), fun h => by rw [hm] at h; cases h⟩)⟩
            | false =>
              rw [hm] at e63
              by_cases hz : vl c i = 0
              · have dz : decide (¬ vl c i = 0) = false := decide_eq_false (fun h => h hz)
                simp (disch := first | omega | simp only [*, go_sem, ↓reduceIte, dropK_eq]) only [x30l4, go_sem, ↓reduceIte, dropK_eq, k1, k3, d1, callX_known (C := C12) (g := 35) rfl, ft_call (C := C12) (g := 35) rfl, callX_known (C := C12) (g := 33) rfl, ft_call (C := C12) (g := 33) rfl, callX_known (C := C12) (g := 62) rfl, ft_call (C := C12) (g := 62) rfl, callX_known (C := C12) (g := 63) rfl, ft_call (C := C12) (g := 63) rfl, e35, e33, e63, dz]
                exact ⟨hlt, by simp, hnx (hfo.2 ⟨(fun h => by rw [hnd] at h; cases h), fun _ => hz⟩)⟩
              · have dz : decide (¬ vl c i = 0) = true := decide_eq_true hz
                rw [decide_eq_false (p := chOk c) (chOk_no hlt fun h => hz ((hfo.1 h).2 hm))]
                simp (disch := first | omega | simp only [*, go_sem, ↓reduceIte, dropK_eq]) only [x30l4, go_sem, ↓reduceIte, dropK_eq, k1, k3, d1, callX_known (C := C12) (g := 35) rfl, ft_call (C := C12) (g := 35) rfl, callX_known (C := C12) (g := 33) rfl, ft_call (C := C12) (g := 33) rfl, callX_known (C := C12) (g := 62) rfl, ft_call (C := C12) (g := 62) rfl, callX_known (C := C12) (g := 63) rfl, ft_call (C := C12) (g := 63) rfl, e35, e33, e63, dz]
                exact Ends_plain rfl rfl
        · obtain rfl : i = 12 := by omega
          have d1 : decide (((12 : Nat) : Int) < 12) = false := by decide
          have e33 : F33 [.int .i64 c.t, .int .i64 1] = some (.bool (needB (fd 1) (t : Nat))) := E33 (k := 1) ht (by decide) hct
          have e62a : F62 [.int .i64 c.t, .int .i64 10, .int .i64 c.f10] = some (.bool (inF (fd 10) (t : Nat) c.f10)) := E62 (k := 10) (by decide) hct
          have e62b : F62 [.int .i64 c.t, .int .i64 11, .int .i64 c.f11] = some (.bool (inF (fd 11) (t : Nat) c.f11)) := E62 (k := 11) (by decide) hct
          have hco : chOk c ↔ (needB (fd 1) (t : Nat) = true → c.f1 < c.f2) ∧ ((c.f10 = 0 ∧ c.f11 = 0) ∨ (inF (fd 10) (t : Nat) c.f10 = true ∧ inF (fd 11) (t : Nat) c.f11 = true ∧ c.f10 < c.f11)) := by
            constructor
            · intro h; have := h.2.2.2; rw [hct] at this; exact this
            · intro h; exact ⟨hw, ⟨by omega, by omega⟩, fun k hk => hj k hk, by rw [hct]; exact h⟩
          cases hnd : needB (fd 1) (t : Nat) with
          | true =>
            rw [hnd] at e33
            by_cases h12 : c.f2 ≤ c.f1
            · have d2 := decide_eq_true h12
              rw [decide_eq_false (p := chOk c) (fun h => by have := (hco.1 h).1 hnd; omega)]
              simp (disch := first | omega | simp only [*, go_sem, ↓reduceIte, dropK_eq]) only [x30l4, go_sem, ↓reduceIte, dropK_eq, k1, k3, d1, callX_known (C := C12) (g := 33) rfl, ft_call (C := C12) (g := 33) rfl, e33, d2]
              exact Ends_plain rfl rfl
            · have d2 := decide_eq_false h12
              have hl : needB (fd 1) (t : Nat) = true → c.f1 < c.f2 := fun _ => by omega
              by_cases h10 : c.f10 = 0
              · have d3 := decide_eq_true h10
                by_cases h11 : c.f11 = 0
                · have d4 := decide_eq_true h11
                  rw [decide_eq_true (p := chOk c) (hco.2 ⟨hl, .inl ⟨h10, h11⟩⟩)]
                  simp (disch := first | omega | simp only [*, go_sem, ↓reduceIte, dropK_eq]) only [x30l4, go_sem, ↓reduceIte, dropK_eq, k1, k3, d1, d3, d4, callX_known (C := C12) (g := 33) rfl, ft_call (C := C12) (g := 33) rfl, e33, d2]
                  exact Ends_plain rfl rfl
                · have d4 := decide_eq_false h11
                  have hne : ¬ (c.f10 = 0 ∧ c.f11 = 0) := fun h => h11 h.2
                  cases hA : inF (fd 10) (t : Nat) c.f10 with
                  | false =>
                    rw [hA] at e62a
                    rw [decide_eq_false (p := chOk c) (fun h => (hco.1 h).2.elim hne (fun h => by rw [hA] at h; cases h.1))]
                    simp (disch := first | omega | simp only [*, go_sem, ↓reduceIte, dropK_eq]) only [x30l4, go_sem, ↓reduceIte, dropK_eq, k1, k3, d1, callX_known (C := C12) (g := 33) rfl, ft_call (C := C12) (g := 33) rfl, callX_known (C := C12) (g := 62) rfl, ft_call (C := C12) (g := 62) rfl, e33, e62a, d3, d4, d2]
                    exact Ends_plain rfl rfl
                  | true =>
                    rw [hA] at e62a
                    cases hB : inF (fd 11) (t : Nat) c.f11 with
                    | false =>
                      rw [hB] at e62b
                      rw [decide_eq_false (p := chOk c) (fun h => (hco.1 h).2.elim hne (fun h => by rw [hB] at h; cases h.2.1))]
                      simp (disch := first | omega | simp only [*, go_sem, ↓reduceIte, dropK_eq]) only [x30l4, go_sem, ↓reduceIte, dropK_eq, k1, k3, d1, callX_known (C := C12) (g := 33) rfl, ft_call (C := C12) (g := 33) rfl, callX_known (C := C12) (g := 62) rfl, ft_call (C := C12) (g := 62) rfl, e33, e62a, e62b, d3, d4, d2]
                      exact Ends_plain rfl rfl
                    | true =>
                      rw [hB] at e62b
                      rw [show decide (chOk c) = decide (c.f10 < c.f11) from decide_eq_decide.2 ⟨fun h => (hco.1 h).2.elim (fun h => absurd h hne) fun h => h.2.2, fun h => hco.2 ⟨hl, .inr ⟨hA, hB, h⟩⟩⟩]
                      simp (disch := first | omega | simp only [*, go_sem, ↓reduceIte, dropK_eq]) only [x30l4, go_sem, ↓reduceIte, dropK_eq, k1, k3, d1, callX_known (C := C12) (g := 33) rfl, ft_call (C := C12) (g := 33) rfl, callX_known (C := C12) (g := 62) rfl, ft_call (C := C12) (g := 62) rfl, e33, e62a, e62b, d3, d4, d2]
                      exact Ends_plain rfl rfl
              · have d3 := decide_eq_false h10
                have hne : ¬ (c.f10 = 0 ∧ c.f11 = 0) := fun h => h10 h.1
                cases hA : inF (fd 10) (t : Nat) c.f10 with
                | false =>
                  rw [hA] at e62a
                  rw [decide_eq_false (p := chOk c) (fun h => (hco.1 h).2.elim hne (fun h => by rw [hA] at h; cases h.1))]
                  simp (disch := first | omega | simp only [*, go_sem, ↓reduceIte, dropK_eq]) only [x30l4, go_sem, ↓reduceIte, dropK_eq, k1, k3, d1, callX_known (C := C12) (g := 33) rfl, ft_call (C := C12) (g := 33) rfl, callX_known (C := C12) (g := 62) rfl, ft_call (C := C12) (g := 62) rfl, e33, e62a, d3, d2]
                  exact Ends_plain rfl rfl
                | true =>
                  rw [hA] at e62a
                  cases hB : inF (fd 11) (t : Nat) c.f11 with
                  | false =>
                    rw [hB] at e62b
                    rw [decide_eq_false (p := chOk c) (fun h => (hco.1 h).2.elim hne (fun h => by rw [hB] at h; cases h.2.1))]
                    simp (disch := first | omega | simp only [*, go_sem, ↓reduceIte, dropK_eq]) only [x30l4, go_sem, ↓reduceIte, dropK_eq, k1, k3, d1, callX_known (C := C12) (g := 33) rfl, ft_call (C := C12) (g := 33) rfl, callX_known (C := C12) (g := 62) rfl, ft_call (C := C12) (g := 62) rfl, e33, e62a, e62b, d3, d2]
                    exact Ends_plain rfl rfl
                  | true =>
                    rw [hB] at e62b
                    rw [show decide (chOk c) = decide (c.f10 < c.f11) from decide_eq_decide.2 ⟨fun h => (hco.1 h).2.elim (fun h => absurd h hne) fun h => h.2.2, fun h => hco.2 ⟨hl, .inr ⟨hA, hB, h⟩⟩⟩]
                    simp (disch := first | omega | simp only [*, go_sem, ↓reduceIte, dropK_eq]) only [x30l4, go_sem, ↓reduceIte, dropK_eq, k1, k3, d1, callX_known (C := C12) (g := 33) rfl, ft_call (C := C12) (g := 33) rfl, callX_known (C := C12) (g := 62) rfl, ft_call (C := C12) (g := 62) rfl, e33, e62a, e62b, d3, d2]
                    exact Ends_plain rfl rfl
          | false =>
            rw [hnd] at e33
            have hl : needB (fd 1) (t : Nat) = true → c.f1 < c.f2 := fun h => by rw [hnd] at h; cases h
            by_cases h10 : c.f10 = 0
            · have d3 := decide_eq_true h10
              by_cases h11 : c.f11 = 0
              · have d4 := decide_eq_true h11
                rw [decide_eq_true (p := chOk c) (hco.2 ⟨hl, .inl ⟨h10, h11⟩⟩)]
                simp (disch := first | omega | simp only [*, go_sem, ↓reduceIte, dropK_eq]) only [x30l4, go_sem, ↓reduceIte, dropK_eq, k1, k3, d1, d3, d4, callX_known (C := C12) (g := 33) rfl, ft_call (C := C12) (g := 33) rfl, e33, e33]
                exact Ends_plain rfl rfl
              · have d4 := decide_eq_false h11
                have hne : ¬ (c.f10 = 0 ∧ c.f11 = 0) := fun h => h11 h.2
                cases hA : inF (fd 10) (t : Nat) c.f10 with
                | false =>
                  rw [hA] at e62a
                  rw [decide_eq_false (p := chOk c) (fun h => (hco.1 h).2.elim hne (fun h => by rw [hA] at h; cases h.1))]
                  simp (disch := first | omega | simp only [*, go_sem, ↓reduceIte, dropK_eq]) only [x30l4, go_sem, ↓reduceIte, dropK_eq, k1, k3, d1, callX_known (C := C12) (g := 33) rfl, ft_call (C := C12) (g := 33) rfl, callX_known (C := C12) (g := 62) rfl, ft_call (C := C12) (g := 62) rfl, e33, e62a, d3, d4, e33]
                  exact Ends_plain rfl rfl
                | true =>
                  rw [hA] at e62a
                  cases hB : inF (fd 11) (t : Nat) c.f11 with
                  | false =>
                    rw [hB] at e62b
                    rw [decide_eq_false (p := chOk c) (fun h => (hco.1 h).2.elim hne (fun h => by rw [hB] at h; cases h.2.1))]
                    simp (disch := first | omega | simp only [*, go_sem, ↓reduceIte, dropK_eq]) only [x30l4, go_sem, ↓reduceIte, dropK_eq, k1, k3, d1, callX_known (C := C12) (g := 33) rfl, ft_call (C := C12) (g := 33) rfl, callX_known (C := C12) (g := 62) rfl, ft_call (C := C12) (g := 62) rfl, e33, e62a, e62b, d3, d4, e33]
                    exact Ends_plain rfl rfl
                  | true =>
                    rw [hB] at e62b
                    rw [show decide (chOk c) = decide (c.f10 < c.f11) from decide_eq_decide.2 ⟨fun h => (hco.1 h).2.elim (fun h => absurd h hne) fun h => h.2.2, fun h => hco.2 ⟨hl, .inr ⟨hA, hB, h⟩⟩⟩]
                    simp (disch := first | omega | simp only [*, go_sem, ↓reduceIte, dropK_eq]) only [x30l4, go_sem, ↓reduceIte, dropK_eq, k1, k3, d1, callX_known (C := C12) (g := 33) rfl, ft_call (C := C12) (g := 33) rfl, callX_known (C := C12) (g := 62) rfl, ft_call (C := C12) (g := 62) rfl, e33, e62a, e62b, d3, d4, e33]
                    exact Ends_plain rfl rfl
            · have d3 := decide_eq_false h10
              have hne : ¬ (c.f10 = 0 ∧ c.f11 = 0) := fun h => h10 h.1
              cases hA : inF (fd 10) (t : Nat) c.f10 with
              | false =>
                rw [hA] at e62a
                rw [decide_eq_false (p := chOk c) (fun h => (hco.1 h).2.elim hne (fun h => by rw [hA] at h; cases h.1))]
                simp (disch := first | omega | simp only [*, go_sem, ↓reduceIte, dropK_eq]) only [x30l4, go_sem, ↓reduceIte, dropK_eq, k1, k3, d1, callX_known (C := C12) (g := 33) rfl, ft_call (C := C12) (g := 33) rfl, callX_known (C := C12) (g := 62) rfl, ft_call (C := C12) (g := 62) rfl, e33, e62a, d3, e33]
                exact Ends_plain rfl rfl
              | true =>
                rw [hA] at e62a
                cases hB : inF (fd 11) (t : Nat) c.f11 with
                | false =>
                  rw [hB] at e62b
                  rw [decide_eq_false (p := chOk c) (fun h => (hco.1 h).2.elim hne (fun h => by rw [hB] at h; cases h.2.1))]
                  simp (disch := first | omega | simp only [*, go_sem, ↓reduceIte, dropK_eq]) only [x30l4, go_sem, ↓reduceIte, dropK_eq, k1, k3, d1, callX_known (C := C12) (g := 33) rfl, ft_call (C := C12) (g := 33) rfl, callX_known (C := C12) (g := 62) rfl, ft_call (C := C12) (g := 62) rfl, e33, e62a, e62b, d3, e33]
                  exact Ends_plain rfl rfl
                | true =>
                  rw [hB] at e62b
                  rw [show decide (chOk c) = decide (c.f10 < c.f11) from decide_eq_decide.2 ⟨fun h => (hco.1 h).2.elim (fun h => absurd h hne) fun h => h.2.2, fun h => hco.2 ⟨hl, .inr ⟨hA, hB, h⟩⟩⟩]
                  simp (disch := first | omega | simp only [*, go_sem, ↓reduceIte, dropK_eq]) only [x30l4, go_sem, ↓reduceIte, dropK_eq, k1, k3, d1, callX_known (C := C12) (g := 33) rfl, ft_call (C := C12) (g := 33) rfl, callX_known (C := C12) (g := 62) rfl, ft_call (C := C12) (g := 62) rfl, e33, e62a, e62b, d3, e33]
                  exact Ends_plain rfl rfl
  · rw [decide_eq_false hw] at e61
    rw [decide_eq_false (p := chOk c) (fun h => hw h.1)]
    simp (disch := first | omega | simp only [*, go_sem, ↓reduceIte, dropK_eq]) only [x30b, go_sem, ↓reduceIte, dropK_eq, callX_known (C := C12) (g := 61) rfl, ft_call (C := C12) (g := 61) rfl, e61]
    exact Ends_plain rfl rfl
/-! ### Cb -/

set_option maxRecDepth 10000
theorem CK_get (c : Ch) {i : Nat} (h : i < 12) : (cellsOf (CK c))[2 + i]? = some (.int .i64 (vl c i)) := by
  match i, h with
  | 0, _ => rfl
  | 1, _ => rfl
  | 2, _ => rfl
  | 3, _ => rfl
  | 4, _ => rfl
  | 5, _ => rfl
  | 6, _ => rfl
  | 7, _ => rfl
  | 8, _ => rfl
  | 9, _ => rfl
  | 10, _ => rfl
  | 11, _ => rfl
  | i + 12, h => exact absurd h (by omega)
theorem nd_12 : ∀ t < 8, needB (fd 1) (t : Nat) = needB (fd 2) (t : Nat) := by decide
/-- Is a field used? -/
def usB (c : Ch) (t j : Nat) : Bool := needB (fd j) (t : Nat) || (decide (10 ≤ j) && (decide (t ≤ 1) && !(decide (c.f10 = 0) && decide (c.f11 = 0))))
def gOk (c : Ch) (t j : Nat) : Prop := (usB c t j = true → inF (fd j) (t : Nat) (vl c j) = true) ∧ (usB c t j = false → vl c j = 0)
def endB (c : Ch) (t : Nat) : Bool := (decide (c.f1 < c.f2) || ((decide (c.f1 = 0) && decide (c.f2 = 0)) && !needB (fd 1) (t : Nat))) && ((decide (c.f10 = 0) && decide (c.f11 = 0)) || decide (c.f10 < c.f11))
theorem chOk_g {c : Ch} {t : Nat} (hct : c.t = (t : Nat)) (ht : t < 8) (hw : T.wordOk c.n) : chOk c ↔ (∀ j < 12, gOk c t j) ∧ endB c t = true := by
  have htn : c.t.toNat = t := by rw [hct]; rfl
  have hhi := nd_hi t ht
  constructor
  · intro h
    have hd := h.2.2.2.2
    rw [hct] at hd
    refine ⟨fun j hj => ⟨fun hu => ?_, fun hu => ?_⟩, ?_⟩
    · unfold usB at hu
      simp only [Bool.or_eq_true, Bool.and_eq_true, decide_eq_true_eq, Bool.not_eq_true', Bool.and_eq_false_iff, decide_eq_false_iff_not] at hu
      rcases hu with hu | ⟨h10, ht1, hne⟩
      · have := (h.2.2.1 j hj).1 (by rw [hct]; exact hu)
        rw [hct] at this
        exact this
      · rcases hd with h2 | h2
        · rcases hne with h3 | h3
          · exact absurd h2.1 h3
          · exact absurd h2.2 h3
        · have : j = 10 ∨ j = 11 := by omega
          rcases this with rfl | rfl
          · exact h2.1
          · exact h2.2.1
    · cases hm : mayB t j with
      | false => exact (h.2.2.1 j hj).2 (by rw [htn]; exact hm)
      | true =>
        rw [mayB_d hj] at hm
        unfold usB at hu
        simp only [Bool.or_eq_false_iff, Bool.and_eq_false_iff, decide_eq_false_iff_not, Bool.not_eq_false', Bool.and_eq_true, decide_eq_true_eq] at hu
        rw [hu.1] at hm
        simp only [Bool.false_or, Bool.and_eq_true, decide_eq_true_eq] at hm
        rcases hu.2 with h2 | h2 | h2
        · exact absurd hm.2 h2
        · exact absurd hm.1 h2
        · have : j = 10 ∨ j = 11 := by omega
          rcases this with rfl | rfl
          · exact h2.1
          · exact h2.2
    · unfold endB
      rw [Bool.and_eq_true]
      constructor
      · cases hnd : needB (fd 1) (t : Nat) with
        | true =>
          have := h.2.2.2.1 (by rw [hct]; exact hnd)
          rw [decide_eq_true this]
          rfl
        | false =>
          have h1 := (h.2.2.1 1 (by decide)).2 (by rw [htn, mayB_d (f := 1) (by omega), hnd]; cases decide (t ≤ 1) <;> rfl)
          have h2 := (h.2.2.1 2 (by decide)).2 (by rw [htn, mayB_d (f := 2) (by omega), ← nd_12 t ht, hnd]; cases decide (t ≤ 1) <;> rfl)
          have h1 : c.f1 = 0 := h1
          have h2 : c.f2 = 0 := h2
          rw [decide_eq_true h1, decide_eq_true h2]
          simp
      · rcases hd with h2 | h2
        · rw [decide_eq_true h2.1, decide_eq_true h2.2]; rfl
        · rw [decide_eq_true h2.2.2]; simp
  · rintro ⟨hg, he⟩
    unfold endB at he
    simp only [Bool.or_eq_true, Bool.and_eq_true, decide_eq_true_eq, Bool.not_eq_true'] at he
    refine ⟨hw, ⟨by omega, by omega⟩, fun k hk => ⟨fun hnd => ?_, fun hm => ?_⟩, fun hnd => ?_, ?_⟩
    · rw [hct] at hnd ⊢
      exact (hg k hk).1 (by unfold usB; rw [hnd]; rfl)
    · rw [htn, mayB_d hk] at hm
      simp only [Bool.or_eq_false_iff, Bool.and_eq_false_iff, decide_eq_false_iff_not] at hm
      refine (hg k hk).2 ?_
      unfold usB
      rw [hm.1]
      rcases hm.2 with h | h
      · rw [decide_eq_false h]; simp
      · rw [decide_eq_false h]; simp
    · rw [hct] at hnd
      rcases he.1 with h | h
      · exact h
      · rw [h.2] at hnd; cases hnd
    · rcases he.2 with h | h
      · exact .inl h
      · by_cases h0 : c.f10 = 0 ∧ c.f11 = 0
        · exact .inl h0
        · right
          rw [hct]
          have hn : (decide (c.f10 = 0) && decide (c.f11 = 0)) = false := by
            rw [← Bool.decide_and]; exact decide_eq_false h0
          by_cases ht1 : t ≤ 1
          · have u10 : usB c t 10 = true := by unfold usB; rw [hn, decide_eq_true ht1]; simp
            have u11 : usB c t 11 = true := by unfold usB; rw [hn, decide_eq_true ht1]; simp
            exact ⟨(hg 10 (by decide)).1 u10, (hg 11 (by decide)).1 u11, h⟩
          · have u10 : usB c t 10 = false := by unfold usB; rw [hhi.1, decide_eq_false ht1]; simp
            have u11 : usB c t 11 = false := by unfold usB; rw [hhi.2, decide_eq_false ht1]; simp
            have h1 : c.f10 = 0 := (hg 10 (by decide)).2 u10
            have h2 : c.f11 = 0 := (hg 11 (by decide)).2 u11
            exact absurd ⟨h1, h2⟩ h0
noncomputable def F29 : List AVal → Option AVal := pureF C12 2 29
theorem sound29 : Sound Tryz.prog 29 F29 := sound_self ok12 2 29
def x29q : XCode := tlX (tlX (tlX (tlX (tlX x29b))))
theorem x29q_eq : x29q = (.seq (.seq (.reg 6 x29r6 none) (.block 0 (.loop x29l7))) (.seq (.reg 13 x29r13 (some ⟨[(15, 19)]⟩)) .ret)) := rfl
theorem x29b_eq : x29b = (.seq (.reg 0 x29r0 none) (.seq (.reg 1 x29r1 none) (.seq (.seq (.reg 2 x29r2 none) (.cond (.t 24) (.seq (.reg 3 x29r3 none) .ret) .skip)) (.seq (.reg 4 x29r4 none) (.seq (.reg 5 x29r5 none) x29q))))) := rfl
set_option maxHeartbeats 4000000 in
theorem tail29 {c : Ch} {t : Nat} {tm : Nat → AVal} {hp : Heap} {nc cr : Nat} {N : Bool} (hct : c.t = (t : Nat)) (ht : t < 8) (hw : T.wordOk c.n) (k1 : tm 1 = .ptr (29000000, 0) 0 0 0 0) (k4 : tm 4 = .sl (24001036, cr) 0 1 0 12) (k5 : tm 5 = .bool N)
    (hv : hp (29000000, 0) = some (.var (cellsOf (CK c)))) (hr : hp (24001036, cr) = some (.row 0 1 (ptrL (29000000, 0)))) (hN : N = (decide (c.f10 = 0) && decide (c.f11 = 0))) :
    Ev (C := C12) (inl := inlD C12 1) 29 x29q ⟨tm, hp, nc⟩ fun o st => Xec.Fin o fun _ => Bd (resL st [.tmp 2]) fun vs => Xec.Ends (one vs) st.hp (.bool (decide (chOk c))) := by
  have e25 := F25_eq
  have ha : Rg 4 FK (.slc 4 (fdL.map FK)) fdL := Rg.slc _
  generalize AVal.slc 4 (fdL.map FK) = a at *
  have hiff := chOk_g hct ht hw
  have e59 := E59 hct
  rw [x29q_eq]
  simp (disch := first | omega | simp only [*, go_sem, ↓reduceIte, dropK_eq]) only [go_sem, ↓reduceIte, dropK_eq, callX_known (C := C12) (g := 25) rfl, ft_call (C := C12) (g := 25) rfl, e25, ha.len]
  refine Ev_range (ti := 36) (len := fdL.length) (J := fun i tm hp nc => hp (29000000, 0) = some (.var (cellsOf (CK c))) ∧ hp (24001036, cr) = some (.row 0 1 (ptrL (29000000, 0))) ∧ ∀ j < i, gOk c t j) (by decide) (by simp only [go_sem, ↓reduceIte, dropK_eq]) ?_ ?_
  · exact ⟨hv, hr, fun j hj => by omega⟩
  · clear hv hr
    rintro i tm' hp nc hi hc k36 ⟨hv, hr, hj⟩
    have q1 := (hc 1 rfl)
    have q4 := (hc 4 rfl)
    have q5 := (hc 5 rfl)
    have z34 := hc 34 rfl; have z35 := hc 35 rfl; simp only [go_sem, ↓reduceIte, dropK_eq] at z34 z35
    simp only [go_sem, ↓reduceIte, dropK_eq, k1, k4, k5] at q1 q4 q5
    have h12 : fdL.length = 12 := rfl
    rcases Nat.lt_or_ge i fdL.length with hlt | hge
    · have d1 : decide ((i : Int) < (fdL.length : Int)) = true := decide_eq_true (by omega)
      have ia := ha.ia hlt
      rw [fd_eq] at ia
      have hi12 : i < 12 := by omega
      have e26 := E26 ht hi12 hct
      have e60 := E60 (k := i) (v := vl c i) hct
      have pg := ptrL_get (29000000, 0) hi12
      have pg0 : (ptrL (29000000, 0))[0 + i]? = some (.ptr (29000000, 0) 0 0 0 (2 + i)) := by rw [Nat.zero_add]; exact pg
      have hget := CK_get c hi12
      simp only [cellsOf_agg] at hget
      have hnx : gOk c t i → ∀ j < i + 1, gOk c t j := fun h j hj1 => by
        by_cases e : j = i
        · subst e; exact h
        · exact hj j (by omega)
      have hno : ¬ gOk c t i → ¬ chOk c := fun h hc => h ((hiff.1 hc).1 i hi12)
      cases hnd : needB (fd i) (t : Nat) with
      | true =>
        rw [hnd] at e26
        have hus : usB c t i = true := by unfold usB; rw [hnd]; rfl
        cases hin : inF (fd i) (t : Nat) (vl c i) with
        | true =>
          rw [hin] at e60
          simp (disch := first | omega | simp only [*, go_sem, ↓reduceIte, dropK_eq]) only [x29l7, go_sem, ↓reduceIte, dropK_eq, q1, q4, q5, z34, z35, k36, d1, ia, hv, hr, pg, pg0, hget, Int.toNat_natCast, callX_known (C := C12) (g := 26) rfl, ft_call (C := C12) (g := 26) rfl, callX_known (C := C12) (g := 59) rfl, ft_call (C := C12) (g := 59) rfl, callX_known (C := C12) (g := 60) rfl, ft_call (C := C12) (g := 60) rfl, e60, e26]
          exact ⟨hlt, by simp, hnx ⟨fun _ => hin, fun h => by rw [hus] at h; cases h⟩⟩
        | false =>
          rw [hin] at e60
          rw [decide_eq_false (p := chOk c) (hno fun h => by have := h.1 hus; rw [hin] at this; cases this)]
          simp (disch := first | omega | simp only [*, go_sem, ↓reduceIte, dropK_eq]) only [x29l7, go_sem, ↓reduceIte, dropK_eq, q1, q4, q5, z34, z35, k36, d1, ia, hv, hr, pg, pg0, hget, Int.toNat_natCast, callX_known (C := C12) (g := 26) rfl, ft_call (C := C12) (g := 26) rfl, callX_known (C := C12) (g := 59) rfl, ft_call (C := C12) (g := 59) rfl, callX_known (C := C12) (g := 60) rfl, ft_call (C := C12) (g := 60) rfl, e60, e26]
          exact Ends_plain rfl rfl
      | false =>
        rw [hnd] at e26
        by_cases h10 : 10 ≤ i
        · have d10 : decide ((10 : Int) ≤ (i : Int)) = true := decide_eq_true (by omega)
          by_cases ht1 : t ≤ 1
          · rw [decide_eq_true ht1] at e59
            cases hNN : N with
            | true =>
              rw [hNN] at q5 hN
              have hus : usB c t i = false := by unfold usB; rw [hnd, ← hN]; simp
              by_cases hz : vl c i = 0
              · have dz : decide (¬ vl c i = 0) = false := decide_eq_false (fun h => h hz)
                simp (disch := first | omega | simp only [*, go_sem, ↓reduceIte, dropK_eq]) only [x29l7, go_sem, ↓reduceIte, dropK_eq, q1, q4, q5, z34, z35, k36, d1, ia, hv, hr, pg, pg0, hget, dz, Int.toNat_natCast, callX_known (C := C12) (g := 26) rfl, ft_call (C := C12) (g := 26) rfl, callX_known (C := C12) (g := 59) rfl, ft_call (C := C12) (g := 59) rfl, callX_known (C := C12) (g := 60) rfl, ft_call (C := C12) (g := 60) rfl, e26, d10, e59]
                exact ⟨hlt, by simp, hnx ⟨(fun h => by rw [hus] at h; cases h), fun _ => hz⟩⟩
              · have dz : decide (¬ vl c i = 0) = true := decide_eq_true hz
                rw [decide_eq_false (p := chOk c) (hno fun h => hz (h.2 hus))]
                simp (disch := first | omega | simp only [*, go_sem, ↓reduceIte, dropK_eq]) only [x29l7, go_sem, ↓reduceIte, dropK_eq, q1, q4, q5, z34, z35, k36, d1, ia, hv, hr, pg, pg0, hget, dz, Int.toNat_natCast, callX_known (C := C12) (g := 26) rfl, ft_call (C := C12) (g := 26) rfl, callX_known (C := C12) (g := 59) rfl, ft_call (C := C12) (g := 59) rfl, callX_known (C := C12) (g := 60) rfl, ft_call (C := C12) (g := 60) rfl, e26, d10, e59]
                exact Ends_plain rfl rfl
            | false =>
              rw [hNN] at q5 hN
              have hus : usB c t i = true := by unfold usB; rw [hnd, ← hN, decide_eq_true ht1, decide_eq_true h10]; rfl
              cases hin : inF (fd i) (t : Nat) (vl c i) with
              | true =>
                rw [hin] at e60
                simp (disch := first | omega | simp only [*, go_sem, ↓reduceIte, dropK_eq]) only [x29l7, go_sem, ↓reduceIte, dropK_eq, q1, q4, q5, z34, z35, k36, d1, ia, hv, hr, pg, pg0, hget, Int.toNat_natCast, callX_known (C := C12) (g := 26) rfl, ft_call (C := C12) (g := 26) rfl, callX_known (C := C12) (g := 59) rfl, ft_call (C := C12) (g := 59) rfl, callX_known (C := C12) (g := 60) rfl, ft_call (C := C12) (g := 60) rfl, e60, e26, d10, e59]
                exact ⟨hlt, by simp, hnx ⟨fun _ => hin, fun h => by rw [hus] at h; cases h⟩⟩
              | false =>
                rw [hin] at e60
                rw [decide_eq_false (p := chOk c) (hno fun h => by have := h.1 hus; rw [hin] at this; cases this)]
                simp (disch := first | omega | simp only [*, go_sem, ↓reduceIte, dropK_eq]) only [x29l7, go_sem, ↓reduceIte, dropK_eq, q1, q4, q5, z34, z35, k36, d1, ia, hv, hr, pg, pg0, hget, Int.toNat_natCast, callX_known (C := C12) (g := 26) rfl, ft_call (C := C12) (g := 26) rfl, callX_known (C := C12) (g := 59) rfl, ft_call (C := C12) (g := 59) rfl, callX_known (C := C12) (g := 60) rfl, ft_call (C := C12) (g := 60) rfl, e60, e26, d10, e59]
                exact Ends_plain rfl rfl
          · rw [decide_eq_false ht1] at e59
            have hus : usB c t i = false := by unfold usB; rw [hnd, decide_eq_false ht1]; simp
            by_cases hz : vl c i = 0
            · have dz : decide (¬ vl c i = 0) = false := decide_eq_false (fun h => h hz)
              simp (disch := first | omega | simp only [*, go_sem, ↓reduceIte, dropK_eq]) only [x29l7, go_sem, ↓reduceIte, dropK_eq, q1, q4, q5, z34, z35, k36, d1, ia, hv, hr, pg, pg0, hget, dz, Int.toNat_natCast, callX_known (C := C12) (g := 26) rfl, ft_call (C := C12) (g := 26) rfl, callX_known (C := C12) (g := 59) rfl, ft_call (C := C12) (g := 59) rfl, callX_known (C := C12) (g := 60) rfl, ft_call (C := C12) (g := 60) rfl, e26, d10, e59]
              exact ⟨hlt, by simp, hnx ⟨(fun h => by rw [hus] at h; cases h), fun _ => hz⟩⟩
            · have dz : decide (¬ vl c i = 0) = true := decide_eq_true hz
              rw [decide_eq_false (p := chOk c) (hno fun h => hz (h.2 hus))]
              simp (disch := first | omega | simp only [*, go_sem, ↓reduceIte, dropK_eq]) only [x29l7, go_sem, ↓reduceIte, dropK_eq, q1, q4, q5, z34, z35, k36, d1, ia, hv, hr, pg, pg0, hget, dz, Int.toNat_natCast, callX_known (C := C12) (g := 26) rfl, ft_call (C := C12) (g := 26) rfl, callX_known (C := C12) (g := 59) rfl, ft_call (C := C12) (g := 59) rfl, callX_known (C := C12) (g := 60) rfl, ft_call (C := C12) (g := 60) rfl, e26, d10, e59]
              exact Ends_plain rfl rfl
        · have d10 : decide ((10 : Int) ≤ (i : Int)) = false := decide_eq_false (by omega)
          have hus : usB c t i = false := by unfold usB; rw [hnd, decide_eq_false h10]; simp
          by_cases hz : vl c i = 0
          · have dz : decide (¬ vl c i = 0) = false := decide_eq_false (fun h => h hz)
            simp (disch := first | omega | simp only [*, go_sem, ↓reduceIte, dropK_eq]) only [x29l7, go_sem, ↓reduceIte, dropK_eq, q1, q4, q5, z34, z35, k36, d1, ia, hv, hr, pg, pg0, hget, dz, Int.toNat_natCast, callX_known (C := C12) (g := 26) rfl, ft_call (C := C12) (g := 26) rfl, callX_known (C := C12) (g := 59) rfl, ft_call (C := C12) (g := 59) rfl, callX_known (C := C12) (g := 60) rfl, ft_call (C := C12) (g := 60) rfl, e26, d10]
            exact ⟨hlt, by simp, hnx ⟨(fun h => by rw [hus] at h; cases h), fun _ => hz⟩⟩
          · have dz : decide (¬ vl c i = 0) = true := decide_eq_true hz
            rw [decide_eq_false (p := chOk c) (hno fun h => hz (h.2 hus))]
            simp (disch := first | omega | simp only [*, go_sem, ↓reduceIte, dropK_eq]) only [x29l7, go_sem, ↓reduceIte, dropK_eq, q1, q4, q5, z34, z35, k36, d1, ia, hv, hr, pg, pg0, hget, dz, Int.toNat_natCast, callX_known (C := C12) (g := 26) rfl, ft_call (C := C12) (g := 26) rfl, callX_known (C := C12) (g := 59) rfl, ft_call (C := C12) (g := 59) rfl, callX_known (C := C12) (g := 60) rfl, ft_call (C := C12) (g := 60) rfl, e26, d10]
            exact Ends_plain rfl rfl
    · obtain rfl : i = fdL.length := by omega
      have d1 : decide ((fdL.length : Int) < (fdL.length : Int)) = false := decide_eq_false (by omega)
      have hce : decide (chOk c) = endB c t := by
        cases he : endB c t with
        | true => exact decide_eq_true (hiff.2 ⟨fun j hj1 => hj j (by omega), he⟩)
        | false => exact decide_eq_false fun h => by have := (hiff.1 h).2; rw [he] at this; cases this
      rw [hce]
      have e26 : F26 [.agg [sv [108, 111, 119], .int .i64 (-1000000), .int .i64 1000000, .int .i64 195], .int .i64 c.t] = some (.bool (needB (fd 1) (t : Nat))) := E26 (k := 1) ht (by decide) hct
      have ia : iaSA 4 a (.int .i64 1) = some (.pvo [sv [108, 111, 119], .int .i64 (-1000000), .int .i64 1000000, .int .i64 195] 0) := ha.ia (i := 1) (by decide)
      have hE : endB c t = ((decide (c.f1 < c.f2) || ((decide (c.f1 = 0) && decide (c.f2 = 0)) && !needB (fd 1) (t : Nat))) && (N || decide (c.f10 < c.f11))) := by unfold endB; rw [← hN]
      rw [hE]
      by_cases h1 : c.f1 < c.f2
      · have d2 := decide_eq_true h1
        rw [d2]
        cases hNN : N with
        | true =>
          rw [hNN] at q5
          simp (disch := first | omega | simp only [*, go_sem, ↓reduceIte, dropK_eq]) only [x29l7, go_sem, ↓reduceIte, dropK_eq, q1, q4, q5, z34, z35, k36, d1, ia, hv, callX_known (C := C12) (g := 25) rfl, ft_call (C := C12) (g := 25) rfl, callX_known (C := C12) (g := 26) rfl, ft_call (C := C12) (g := 26) rfl, e25, d2, Bool.and_true, Bool.true_and, Bool.or_true, Bool.true_or]
          exact Ends_plain rfl rfl
        | false =>
          rw [hNN] at q5
          simp (disch := first | omega | simp only [*, go_sem, ↓reduceIte, dropK_eq]) only [x29l7, go_sem, ↓reduceIte, dropK_eq, q1, q4, q5, z34, z35, k36, d1, ia, hv, callX_known (C := C12) (g := 25) rfl, ft_call (C := C12) (g := 25) rfl, callX_known (C := C12) (g := 26) rfl, ft_call (C := C12) (g := 26) rfl, e25, d2, Bool.and_true, Bool.true_and, Bool.false_or]
          exact Ends_plain rfl rfl
      · have d2 := decide_eq_false h1
        rw [d2]
        by_cases h2 : c.f1 = 0
        · have d3 := decide_eq_true h2
          rw [d3]
          by_cases h3 : c.f2 = 0
          · have d4 := decide_eq_true h3
            rw [d4]
            cases hnd : needB (fd 1) (t : Nat) with
            | true =>
              rw [hnd] at e26
              simp (disch := first | omega | simp only [*, go_sem, ↓reduceIte, dropK_eq]) only [x29l7, go_sem, ↓reduceIte, dropK_eq, q1, q4, q5, z34, z35, k36, d1, ia, hv, d2, d3, d4, callX_known (C := C12) (g := 25) rfl, ft_call (C := C12) (g := 25) rfl, callX_known (C := C12) (g := 26) rfl, ft_call (C := C12) (g := 26) rfl, e25, e26, Bool.and_false, Bool.false_and]
              exact Ends_plain rfl rfl
            | false =>
              rw [hnd] at e26
              cases hNN : N with
              | true =>
                rw [hNN] at q5
                simp (disch := first | omega | simp only [*, go_sem, ↓reduceIte, dropK_eq]) only [x29l7, go_sem, ↓reduceIte, dropK_eq, q1, q4, q5, z34, z35, k36, d1, ia, hv, callX_known (C := C12) (g := 25) rfl, ft_call (C := C12) (g := 25) rfl, callX_known (C := C12) (g := 26) rfl, ft_call (C := C12) (g := 26) rfl, e25, d2, d3, d4, e26, Bool.and_true, Bool.true_and, Bool.or_true, Bool.true_or]
                exact Ends_plain rfl rfl
              | false =>
                rw [hNN] at q5
                simp (disch := first | omega | simp only [*, go_sem, ↓reduceIte, dropK_eq]) only [x29l7, go_sem, ↓reduceIte, dropK_eq, q1, q4, q5, z34, z35, k36, d1, ia, hv, callX_known (C := C12) (g := 25) rfl, ft_call (C := C12) (g := 25) rfl, callX_known (C := C12) (g := 26) rfl, ft_call (C := C12) (g := 26) rfl, e25, d2, d3, d4, e26, Bool.and_true, Bool.true_and, Bool.false_or]
                exact Ends_plain rfl rfl
          · have d4 := decide_eq_false h3
            rw [d4]
            simp (disch := first | omega | simp only [*, go_sem, ↓reduceIte, dropK_eq]) only [x29l7, go_sem, ↓reduceIte, dropK_eq, q1, q4, q5, z34, z35, k36, d1, ia, hv, d2, d3, d4, Bool.and_false, Bool.false_and]
            exact Ends_plain rfl rfl
        · have d3 := decide_eq_false h2
          rw [d3]
          simp (disch := first | omega | simp only [*, go_sem, ↓reduceIte, dropK_eq]) only [x29l7, go_sem, ↓reduceIte, dropK_eq, q1, q4, q5, z34, z35, k36, d1, ia, hv, d2, d3, Bool.and_false, Bool.false_and]
          exact Ends_plain rfl rfl
set_option maxHeartbeats 4000000 in
theorem F29_eq {c : Ch} (hn : c.n.length ≤ 1000000) : F29 [CK c] = some (.bool (decide (chOk c))) := by
  have e58 : T.F58 [.agg [.int .i64 1, sv c.n, .int .i64 0, .int .i64 0]] = some (.bool (decide (T.tokOk ⟨1, c.n, 0, 0⟩))) := T.F58_eq (t := ⟨1, c.n, 0, 0⟩) hn
  have htk : T.tokOk ⟨1, c.n, 0, 0⟩ ↔ T.wordOk c.n := by
    constructor
    · rintro (h | h | h)
      · exact h.2.1
      · exact absurd h.1 (by simp)
      · exact absurd h.1 (by simp)
    · intro h; exact .inl ⟨rfl, h, rfl⟩
  rw [decide_eq_decide.2 htk] at e58
  unfold F29
  refine pureF_of (x := x29) rfl rfl ?_
  rw [x29_eq.1, x29_eq.2.1]
  rw [x29b_eq]
  by_cases hw : T.wordOk c.n
  · rw [decide_eq_true hw] at e58
    by_cases h0 : c.t < 0
    · have d0 := decide_eq_true h0
      rw [decide_eq_false (p := chOk c) (fun h => by have := h.2.1; omega)]
      simp (disch := first | omega | simp only [*, go_sem, ↓reduceIte, dropK_eq]) only [x29b, go_sem, ↓reduceIte, dropK_eq, callX_known (C := C12) (g := 58) rfl, ft_call (C := C12) (g := 58) rfl, e58, d0]
      exact Ends_plain rfl rfl
    · have d0 := decide_eq_false h0
      by_cases h7 : 8 ≤ c.t
      · have d7 := decide_eq_true h7
        rw [decide_eq_false (p := chOk c) (fun h => by have := h.2.1; omega)]
        simp (disch := first | omega | simp only [*, go_sem, ↓reduceIte, dropK_eq]) only [x29b, go_sem, ↓reduceIte, dropK_eq, callX_known (C := C12) (g := 58) rfl, ft_call (C := C12) (g := 58) rfl, e58, d0, d7]
        exact Ends_plain rfl rfl
      · have d7 := decide_eq_false h7
        obtain ⟨t, hct⟩ : ∃ t : Nat, c.t = t := ⟨c.t.toNat, by omega⟩
        have ht : t < 8 := by omega
        simp (disch := first | omega | simp only [*, go_sem, ↓reduceIte, dropK_eq]) only [go_sem, ↓reduceIte, dropK_eq, callX_known (C := C12) (g := 58) rfl, ft_call (C := C12) (g := 58) rfl, e58, d0, d7, call_inl (C := C12) (g := 24) rfl, ft_inl (C := C12) (g := 24) rfl]
        refine fields24 ?_
        rintro cr hp1 nc1 r1 gf1
        have gv : hp1 (29000000, 0) = some (.var (cellsOf (CK c))) := by
          rw [gf1 _ (by simp), upd_same]
          rfl
        by_cases z10 : c.f10 = 0
        · have dz10 := decide_eq_true z10
          simp (disch := first | omega | simp only [*, go_sem, ↓reduceIte, dropK_eq]) only [go_sem, ↓reduceIte, dropK_eq, gv, dz10]
          refine tail29 hct ht hw ?_ ?_ ?_ gv r1 (N := decide (c.f11 = 0)) (by rw [dz10]; rfl)
          · simp only [go_sem, ↓reduceIte, dropK_eq]
          · simp only [go_sem, ↓reduceIte, dropK_eq]
          · simp only [go_sem, ↓reduceIte, dropK_eq]
        · have dz10 := decide_eq_false z10
          simp (disch := first | omega | simp only [*, go_sem, ↓reduceIte, dropK_eq]) only [go_sem, ↓reduceIte, dropK_eq, gv, dz10]
          refine tail29 hct ht hw ?_ ?_ ?_ gv r1 (N := false) (by rw [dz10]; rfl)
          · simp only [go_sem, ↓reduceIte, dropK_eq]
          · simp only [go_sem, ↓reduceIte, dropK_eq]
          · simp only [go_sem, ↓reduceIte, dropK_eq]
  · rw [decide_eq_false hw] at e58
    rw [decide_eq_false (p := chOk c) (fun h => hw h.1)]
    simp (disch := first | omega | simp only [*, go_sem, ↓reduceIte, dropK_eq]) only [x29b, go_sem, ↓reduceIte, dropK_eq, callX_known (C := C12) (g := 58) rfl, ft_call (C := C12) (g := 58) rfl, e58]
    exact Ends_plain rfl rfl
end Go.Proofs.YtppehejnnjlkfaaGreatDoor
