/-
  Laid together: part 5.
-/
import Derived.Test.YtkonpbcnekcjjaaGreatDoorZM4
set_option linter.unusedVariables false
set_option linter.unusedSimpArgs false
namespace Go.Proofs.YtkonpbcnekcjjaaGreatDoor.BS
open Go Go.Xec
attribute [local go_sem] tm0 ne_eq not_false_eq_true List.length_append List.length_replicate List.replicate_succ List.replicate_zero Int.cast_ofNat_Int not_true_eq_false decide_true decide_false ite_self beq_self_eq_true Bool.true_beq Bool.false_beq Bool.not_true Bool.not_false
attribute [local go_sem_proc] Nat.reduceAdd Nat.reduceMul Nat.reduceSub Nat.reduceLeDiff Nat.reduceLT Nat.reduceEqDiff Int.reduceLT Int.reduceLE Int.reduceAdd Int.reduceSub Int.reduceMul Int.reduceToNat Int.reducePow Int.reduceNe Int.reduceMod Int.reduceDiv Int.reduceEq Nat.reducePow Int.reduceNeg
set_option maxRecDepth 10000
theorem any_getD {p : Int → Bool} {l : List Int} {i : Nat} (hi : i < l.length) (h : p (l.getD i 0) = true) : l.any p = true := by
  rw [List.any_eq_true]
  refine ⟨l.getD i 0, ?_, h⟩
  rw [List.getD_eq_getElem?_getD, List.getElem?_eq_getElem hi]
  exact List.getElem_mem hi
theorem any_none {p : Int → Bool} {l : List Int} (h : ∀ j, j < l.length → p (l.getD j 0) = false) : l.any p = false := by
  rw [List.any_eq_false]
  intro x hx
  obtain ⟨i, hi, rfl⟩ := List.getElem_of_mem hx
  have := h i hi
  rw [List.getD_eq_getElem?_getD, List.getElem?_eq_getElem hi] at this
  simpa using this
abbrev Lg (l : List Int) : Prop := l.length ≤ 140737488355328
section
variable {C : Cfg}
theorem index151 (hC : C.xf = xf2) {d : Nat} {a f : AVal} {l : List Int} {p : Int → Bool} {hp : Heap} {nc : Nat} {K : AVal × Heap × Nat → Prop} (ha : Rw a l) (hl : Lg l)
    (hf : ∀ x ∈ l, ∀ nc (K : AVal × Heap × Nat → Prop), (∀ nc', K (.bool (p x), hp, nc')) → Bd (callX C (inlD C d) f [.int .i64 x] hp nc) K)
    (hK : ∀ nc' (r : Int), decide (0 ≤ r) = l.any p → K (.int .i64 r, hp, nc')) : Bd (inlD C (d + 1) 65 [a, f] hp nc) K := by
  refine inl_of (x := x65) (by rw [hC]; rfl) rfl ?_
  rw [x65_eq.1, x65_eq.2.1]
  simp (disch := first | omega | simp only [go_sem, ↓reduceIte, dropK_eq]) only [x65b, go_sem, ↓reduceIte, dropK_eq, ha.len]
  refine Ev_loop_inv (I := fun n st => ∃ (i : Nat) (tm : Nat → AVal) (nc : Nat), st = ⟨tm, hp, nc⟩ ∧ i ≤ l.length ∧ n = l.length - i ∧ tm 0 = a ∧ tm 1 = f ∧ tm 7 = .int .i64 l.length ∧ tm 8 = .int .i64 i ∧
      ∀ j, j < i → p (l.getD j 0) = false) (n := l.length) ?_ (by omega) ?_
  · refine ⟨0, _, _, rfl, by omega, rfl, ?_⟩
    simp only [go_sem, ↓reduceIte, dropK_eq, List.getD_cons_zero]
    exact fun j hj => absurd hj (Nat.not_lt_zero j)
  · rintro n st ⟨i, tm, nc, rfl, hi, rfl, k0, k1, k7, k8, hj⟩
    rcases Nat.lt_or_ge i l.length with hlt | hge
    · have d1 : decide ((i : Int) < (l.length : Int)) = true := decide_eq_true (by omega)
      have ia := ha.ia hlt
      have hm : l.getD i 0 ∈ l := by
        rw [List.getD_eq_getElem?_getD, List.getElem?_eq_getElem hlt]
        exact List.getElem_mem hlt
      simp (disch := first | omega | simp only [go_sem, ↓reduceIte, dropK_eq]) only [x65l2, go_sem, ↓reduceIte, dropK_eq, k0, k1, k7, k8, d1, ia]
      refine hf _ hm _ _ fun nc' => ?_
      cases hp' : p (l.getD i 0) with
      | true =>
        simp (disch := first | omega | simp only [go_sem, ↓reduceIte, dropK_eq]) only [go_sem, ↓reduceIte, dropK_eq, k0, k1, k7, k8]
        exact hK _ _ (by rw [any_getD hlt hp']; exact decide_eq_true (by omega))
      | false =>
        simp (disch := first | omega | simp only [go_sem, ↓reduceIte, dropK_eq]) only [go_sem, ↓reduceIte, dropK_eq, k0, k1, k7, k8]
        refine ⟨l.length - (i + 1), by omega, i + 1, _, _, rfl, by omega, rfl, ?_⟩
        simp (disch := first | omega | simp only [go_sem, ↓reduceIte, dropK_eq]) only [go_sem, ↓reduceIte, dropK_eq, k0, k1, k7, k8]
        refine ⟨by simp, fun j hj' => ?_⟩
        by_cases e : j = i
        · subst e; exact hp'
        · exact hj j (by omega)
    · obtain rfl : i = l.length := by omega
      have d1 : decide ((l.length : Int) < (l.length : Int)) = false := decide_eq_false (by omega)
      simp (disch := first | omega | simp only [go_sem, ↓reduceIte, dropK_eq]) only [x65l2, go_sem, ↓reduceIte, dropK_eq, k0, k1, k7, k8, d1]
      exact hK _ _ (by rw [any_none hj]; rfl)
theorem contains117 (hC : C.xf = xf2) (hn : C.Γ 65 = none) {d : Nat} {a f : AVal} {l : List Int} {p : Int → Bool} {hp : Heap} {nc : Nat} {K : AVal × Heap × Nat → Prop} (ha : Rw a l) (hl : Lg l)
    (hf : ∀ x ∈ l, ∀ nc (K : AVal × Heap × Nat → Prop), (∀ nc', K (.bool (p x), hp, nc')) → Bd (callX C (inlD C d) f [.int .i64 x] hp nc) K)
    (hK : ∀ nc', K (.bool (l.any p), hp, nc')) : Bd (inlD C (d + 2) 40 [a, f] hp nc) K := by
  refine inl_of (x := x40) (by rw [hC]; rfl) rfl ?_
  rw [x40_eq.1, x40_eq.2.1]
  simp (disch := first | omega | simp only [go_sem, ↓reduceIte, dropK_eq]) only [x40b, go_sem, ↓reduceIte, dropK_eq, call_inl (C := C) (g := 65) hn]
  refine index151 hC ha hl hf fun nc' r hr => ?_
  simp (disch := first | omega | simp only [go_sem, ↓reduceIte, dropK_eq]) only [go_sem, ↓reduceIte, dropK_eq, hr]
  exact hK _
end
set_option maxRecDepth 10000
def addμ (C : Cfg) (t : TypeId) (m : String) (g : FuncId) : Cfg := ⟨C.Γ, C.xf, C.Γn, C.Γm, C.Γa, fun t' m' => if t' = t ∧ m' = m then some g else C.μ t' m'⟩
theorem addμ_ok {P : Program} {C : Cfg} (ok : CfgOk P C) {t : TypeId} {m : String} {g : FuncId} (h : ∀ v w, (Go.method (P.types.size + Made.depth) t v m).run P w = .ok (g, v) w) : CfgOk P (addμ C t m g) := by
  refine ⟨ok.Γ, ok.xf, ok.mixed, ok.Γn, ok.Γm, ok.Γa, fun t' m' g' hg => ?_⟩
  simp only [addμ] at hg
  split at hg
  · rename_i e
    obtain ⟨rfl, rfl⟩ := e
    cases hg
    exact h
  · exact ok.μ t' m' g' hg
theorem getD_mem {l : List Int} {i : Nat} (hi : i < l.length) : l.getD i 0 ∈ l := by
  rw [List.getD_eq_getElem?_getD, List.getElem?_eq_getElem hi]
  exact List.getElem_mem hi
noncomputable def C0m : Cfg := more (C5.add 66 F_fac)
theorem ok0m : CfgOk Tryz.prog C0m := more_ok (ok5.add sound66)
noncomputable def F42 : List AVal → Option AVal := pureF C0m 1 42
theorem sound42 : Sound Tryz.prog 42 F42 := sound_self ok0m 1 42
theorem F42_eq {x : Int} : F42 [.int .i64 x] = some (.bool (decide (inM x))) := by
  unfold F42
  refine pureF_of (x := x42) rfl rfl ?_
  rw [x42_eq.1, x42_eq.2.1]
  by_cases h1 : -1000000 ≤ x
  · have d1 := decide_eq_true h1
    by_cases h2 : x ≤ 1000000
    · have d2 := decide_eq_true h2
      rw [decide_eq_true (show inM x from ⟨h1, h2⟩)]
      simp (disch := first | omega | simp only [go_sem, ↓reduceIte, dropK_eq]) only [x42b, go_sem, ↓reduceIte, dropK_eq, d1, d2]
      exact Ends_plain rfl rfl
    · have d2 := decide_eq_false h2
      rw [decide_eq_false (show ¬ inM x from fun h => h2 h.2)]
      simp (disch := first | omega | simp only [go_sem, ↓reduceIte, dropK_eq]) only [x42b, go_sem, ↓reduceIte, dropK_eq, d1, d2]
      exact Ends_plain rfl rfl
  · have d1 := decide_eq_false h1
    rw [decide_eq_false (show ¬ inM x from fun h => h1 h.1)]
    simp (disch := first | omega | simp only [go_sem, ↓reduceIte, dropK_eq]) only [x42b, go_sem, ↓reduceIte, dropK_eq, d1]
    exact Ends_plain rfl rfl
noncomputable def C25 : Cfg := C0m.add 42 F42
theorem ok25 : CfgOk Tryz.prog C25 := ok0m.add sound42
noncomputable abbrev C3 : Cfg := C25
theorem ok3 : CfgOk Tryz.prog C3 := ok25
section
variable {C : Cfg} {key : Key} {tm : Nat → AVal} {hp hp' : Heap}
def ftI (C : Cfg) (m : String) (x : AVal) (xs : List AVal) (hp hp' : Heap) : Foot := match x with
  | .ifc t v => match C.μ t m with
    | some g => match C.Γ g with
      | some F => ftC F (v :: xs) hp
      | none => (.cl (fun k => hp' k = hp k), [])
    | none => (.kn [], [])
  | _ => (.kn [], [])
theorem ft_inv (m : String) (x : XArg) (xs : List XArg) : ftV C key (.inv m x xs) tm hp hp' = ftI C m (arg tm x) (xs.map (arg tm)) hp hp' := by
  simp only [ftV, rdOf, ftI]
  cases arg tm x <;> try rfl
  rename_i t v
  simp only
  cases C.μ t m with
  | none => rfl
  | some g =>
    simp only
    cases C.Γ g <;> rfl
theorem ftI_ifc {m : String} {t : TypeId} {v : AVal} {xs : List AVal} {g : FuncId} {F : List AVal → Option AVal} (hm : C.μ t m = some g) (hg : C.Γ g = some F) : ftI C m (.ifc t v) xs hp hp' = ftC F (v :: xs) hp := by
  simp only [ftI, hm, hg]
end
attribute [go_sem ↓] ft_inv
structure Bs where
  s : Int
  m : Int
  u : Int
  r : Int
  l : Int
abbrev BC (b : Bs) : List AVal := [.int .i64 b.s, .int .i64 b.m, .int .i64 b.u, .int .i64 b.r, .int .i64 b.l]
abbrev BK (b : Bs) : AVal := .agg (BC b)
abbrev B0 : Bs := ⟨0, 0, 0, 0, 0⟩
def Bs.steps (b : Bs) : Int := if b.s = 1 then max 0 (b.m - 1) else b.m
abbrev i64R (x : Int) : Prop := -9223372036854775808 ≤ x ∧ x ≤ 9223372036854775807
abbrev baOk1 (b : Bs) : Prop := (1 ≤ b.s ∧ b.s ≤ 10) ∧ (0 ≤ b.m ∧ b.m ≤ 25) ∧ (-1000000 ≤ b.l ∧ b.l ≤ 1000000) ∧ (b.m = 0 → b.l = 0)
abbrev baOk2 (b : Bs) : Prop := (-(b.m * b.s * 1000000) ≤ b.u ∧ b.u ≤ b.m * b.s * 1000000) ∧ 0 ≤ b.r ∧ b.r ≤ 2000000 * b.steps
abbrev baOk (b : Bs) : Prop := baOk1 b ∧ baOk2 b
theorem mul_bnd2 {x y M N : Int} (h0 : 0 ≤ x) (h1 : x ≤ M) (h2 : 0 ≤ y) (h3 : y ≤ N) : 0 ≤ x * y ∧ x * y ≤ M * N :=
  ⟨Int.mul_nonneg h0 h2, Int.mul_le_mul h1 h3 h2 (by omega)⟩
theorem ms_bnd {b : Bs} (h : baOk1 b) : 0 ≤ b.m * b.s ∧ b.m * b.s ≤ 250 := mul_bnd2 h.2.1.1 h.2.1.2 (show (0 : Int) ≤ b.s by have := h.1.1; omega) h.1.2
noncomputable def F43 : List AVal → Option AVal := pureF C25 1 43
theorem sound43 : Sound Tryz.prog 43 F43 := sound_self ok25 1 43
def ofT (b : Bs) : TypeId := if b.s = 1 then 141 else 142
theorem F43_eq {b : Bs} : F43 [BK b] = some (.ifc (ofT b) (BK b)) := by
  unfold F43
  refine pureF_of (x := x43) rfl rfl ?_
  rw [x43_eq.1, x43_eq.2.1]
  by_cases h : b.s = 1
  · have d := decide_eq_true h
    have e : ofT b = 141 := if_pos h
    rw [e]
    simp (disch := first | omega | simp only [go_sem, ↓reduceIte, dropK_eq]) only [x43b, go_sem, ↓reduceIte, dropK_eq, d]
    rw [Ends_eq]
    simp (disch := first | omega | simp only [go_sem, ↓reduceIte, dropK_eq]) only [go_sem, ↓reduceIte, dropK_eq]
  · have d := decide_eq_false h
    have e : ofT b = 142 := if_neg h
    rw [e]
    simp (disch := first | omega | simp only [go_sem, ↓reduceIte, dropK_eq]) only [x43b, go_sem, ↓reduceIte, dropK_eq, d]
    rw [Ends_eq]
    simp (disch := first | omega | simp only [go_sem, ↓reduceIte, dropK_eq]) only [go_sem, ↓reduceIte, dropK_eq]
noncomputable def F388 : List AVal → Option AVal := pureF C25 1 388
theorem sound388 : Sound Tryz.prog 388 F388 := sound_self ok25 1 388
theorem F388_eq {b : Bs} (h : 0 ≤ b.m ∧ b.m ≤ 25) : F388 [BK b] = some (.int .i64 (max 0 (b.m - 1))) := by
  unfold F388
  refine pureF_of (x := x388) rfl rfl ?_
  rw [x388_eq.1, x388_eq.2.1]
  simp (disch := first | omega | simp only [*, go_sem, ↓reduceIte, dropK_eq]) only [x388b, go_sem, ↓reduceIte, dropK_eq, mnx_max]
  exact Ends_plain rfl rfl
noncomputable def F392 : List AVal → Option AVal := pureF C25 1 392
theorem sound392 : Sound Tryz.prog 392 F392 := sound_self ok25 1 392
theorem F392_eq {b : Bs} : F392 [BK b] = some (.int .i64 b.m) := by
  unfold F392
  refine pureF_of (x := x392) rfl rfl ?_
  rw [x392_eq.1, x392_eq.2.1]
  simp (disch := first | omega | simp only [*, go_sem, ↓reduceIte, dropK_eq]) only [x392b, go_sem, ↓reduceIte, dropK_eq]
  exact Ends_plain rfl rfl
noncomputable def C26 : Cfg := addμ (addμ (((C25.add 43 F43).add 388 F388).add 392 F392) 141 "datum/base.steps" 388) 142 "datum/base.steps" 392
theorem ok26 : CfgOk Tryz.prog C26 := addμ_ok (addμ_ok (((ok25.add sound43).add sound388).add sound392) (fun v w => by kernel_rfl)) (fun v w => by kernel_rfl)
noncomputable def F39 : List AVal → Option AVal := pureF C26 1 39
theorem sound39 : Sound Tryz.prog 39 F39 := sound_self ok26 1 39
theorem F39_no1 {b : Bs} (h : ¬ baOk1 b) : F39 [BK b] = some (.bool false) := by
  unfold F39
  refine pureF_of (x := x39) rfl rfl ?_
  rw [x39_eq.1, x39_eq.2.1]
  simp (disch := first | omega | simp only [go_sem, ↓reduceIte, dropK_eq]) only [x39b, go_sem, ↓reduceIte, dropK_eq, callX_known (C := C26) (g := 42) rfl, ft_call (C := C26) (g := 42) rfl, F42_eq]
  repeat' (first | exact Ends_plain rfl rfl | (first | refine Gd_split_t (fun h => ?_) (fun h => ?_) | refine Gd_split_f (fun h => ?_) (fun h => ?_) | refine Cd_split (fun h => ?_) (fun h => ?_)) <;> (try simp (disch := first | omega | simp only [go_sem, ↓reduceIte, dropK_eq]) only [*, go_sem, ↓reduceIte, dropK_eq, callX_known (C := C26) (g := 42) rfl, ft_call (C := C26) (g := 42) rfl, F42_eq]))
  all_goals
    exfalso
    simp only [baOk1, Bool.not_eq_true', Bool.not_eq_false', decide_eq_true_eq, decide_eq_false_iff_not] at *
    omega
theorem F39_yes1 {b : Bs} (h : baOk1 b) (hu : i64R b.u) : F39 [BK b] = some (.bool (decide (baOk2 b))) := by
  have hms := ms_bnd h
  obtain ⟨⟨h1, h2⟩, ⟨h3, h4⟩, h5, h6⟩ := h
  have d1 : decide (b.s < 1) = false := decide_eq_false (by omega)
  have d2 : decide (10 < b.s) = false := decide_eq_false (by omega)
  have d3 : decide (b.m < 0) = false := decide_eq_false (by omega)
  have d4 : decide (25 < b.m) = false := decide_eq_false (by omega)
  have e42 := F42_eq (x := b.l)
  rw [decide_eq_true h5] at e42
  have e43 := F43_eq (b := b)
  have e388 := F388_eq (b := b) ⟨h3, h4⟩
  have e392 := F392_eq (b := b)
  obtain ⟨v, hv⟩ : ∃ v, IntKind.i64.wrap (0 - b.u) = v := ⟨_, rfl⟩
  have hv2 : v = -b.u ∨ (b.u = -9223372036854775808 ∧ v = -9223372036854775808) := by
    by_cases hm : b.u = -9223372036854775808
    · right
      refine ⟨hm, ?_⟩
      rw [← hv, hm]
      rfl
    · left
      rw [← hv, wrap_i64 (by omega) (by omega)]
      omega
  have fin : ∀ T : Int, b.steps = T → (decide (max b.u v ≤ b.m * b.s * 1000000) && (decide (-(b.m * b.s * 1000000) ≤ b.u) && (decide (0 ≤ b.r) && decide (b.r ≤ 2000000 * T)))) = decide (baOk2 b) := by
    intro T hT
    simp only [baOk2, hT]
    rw [Bool.eq_iff_iff]
    simp only [Bool.and_eq_true, decide_eq_true_eq]
    omega
  have w3 : (0 : Int) - b.m * b.s * 1000000 = -(b.m * b.s * 1000000) := by omega
  have w2 : IntKind.i64.wrap (0 - b.m * b.s * 1000000) = -(b.m * b.s * 1000000) := by rw [wrap_i64 (by omega) (by omega), w3]
  unfold F39
  refine pureF_of (x := x39) rfl rfl ?_
  rw [x39_eq.1, x39_eq.2.1]
  by_cases hs : b.s = 1
  · have hT : b.steps = max 0 (b.m - 1) := if_pos hs
    have hof : ofT b = 141 := if_pos hs
    rw [hof] at e43
    have hfin := fin _ hT
    rw [← hfin]
    clear fin hfin hs hof hT
    generalize hm : max 0 (b.m - 1) = T at *
    generalize hc1 : decide (max b.u v ≤ b.m * b.s * 1000000) = c1
    generalize hc2 : decide (-(b.m * b.s * 1000000) ≤ b.u) = c2
    generalize hc3 : decide (0 ≤ b.r) = c3
    have hTb : 0 ≤ T ∧ T ≤ 24 := by omega
    by_cases h0 : b.m = 0
    · have d5 := decide_eq_true h0
      have d6 : decide (¬ b.l = 0) = false := decide_eq_false (by omega)
      clear h0 h6
      cases c1 <;> cases c2 <;> cases c3
      all_goals
        simp (disch := first | omega | simp only [go_sem, ↓reduceIte, dropK_eq]) only [x39b, go_sem, ↓reduceIte, dropK_eq, callX_known (C := C26) (g := 42) rfl, ft_call (C := C26) (g := 42) rfl, callX_known (C := C26) (g := 43) rfl, ft_call (C := C26) (g := 43) rfl, d1, d2, d3, d4, d5, d6, e42, hv, mnx_max, w2, hc1, hc2, hc3, e43, invX_ifc (C := C26) (t := 141) (m := "datum/base.steps") (g := 388) rfl, ftI_ifc (C := C26) (t := 141) (m := "datum/base.steps") (g := 388) rfl rfl, callX_known (C := C26) (g := 388) rfl, e388]
        exact Ends_plain rfl rfl
    · have d5 := decide_eq_false h0
      clear h0 h6
      cases c1 <;> cases c2 <;> cases c3
      all_goals
        simp (disch := first | omega | simp only [go_sem, ↓reduceIte, dropK_eq]) only [x39b, go_sem, ↓reduceIte, dropK_eq, callX_known (C := C26) (g := 42) rfl, ft_call (C := C26) (g := 42) rfl, callX_known (C := C26) (g := 43) rfl, ft_call (C := C26) (g := 43) rfl, d1, d2, d3, d4, d5, e42, hv, mnx_max, w2, hc1, hc2, hc3, e43, invX_ifc (C := C26) (t := 141) (m := "datum/base.steps") (g := 388) rfl, ftI_ifc (C := C26) (t := 141) (m := "datum/base.steps") (g := 388) rfl rfl, callX_known (C := C26) (g := 388) rfl, e388]
        exact Ends_plain rfl rfl
  · have hT : b.steps = b.m := if_neg hs
    have hof : ofT b = 142 := if_neg hs
    rw [hof] at e43
    have hfin := fin _ hT
    rw [← hfin]
    clear fin hfin hs hof hT
    generalize hc1 : decide (max b.u v ≤ b.m * b.s * 1000000) = c1
    generalize hc2 : decide (-(b.m * b.s * 1000000) ≤ b.u) = c2
    generalize hc3 : decide (0 ≤ b.r) = c3
    by_cases h0 : b.m = 0
    · have d5 := decide_eq_true h0
      have d6 : decide (¬ b.l = 0) = false := decide_eq_false (by omega)
      clear h0 h6
      cases c1 <;> cases c2 <;> cases c3
      all_goals
        simp (disch := first | omega | simp only [go_sem, ↓reduceIte, dropK_eq]) only [x39b, go_sem, ↓reduceIte, dropK_eq, callX_known (C := C26) (g := 42) rfl, ft_call (C := C26) (g := 42) rfl, callX_known (C := C26) (g := 43) rfl, ft_call (C := C26) (g := 43) rfl, d1, d2, d3, d4, d5, d6, e42, hv, mnx_max, w2, hc1, hc2, hc3, e43, invX_ifc (C := C26) (t := 142) (m := "datum/base.steps") (g := 392) rfl, ftI_ifc (C := C26) (t := 142) (m := "datum/base.steps") (g := 392) rfl rfl, callX_known (C := C26) (g := 392) rfl, e392]
        exact Ends_plain rfl rfl
    · have d5 := decide_eq_false h0
      clear h0 h6
      cases c1 <;> cases c2 <;> cases c3
      all_goals
        simp (disch := first | omega | simp only [go_sem, ↓reduceIte, dropK_eq]) only [x39b, go_sem, ↓reduceIte, dropK_eq, callX_known (C := C26) (g := 42) rfl, ft_call (C := C26) (g := 42) rfl, callX_known (C := C26) (g := 43) rfl, ft_call (C := C26) (g := 43) rfl, d1, d2, d3, d4, d5, e42, hv, mnx_max, w2, hc1, hc2, hc3, e43, invX_ifc (C := C26) (t := 142) (m := "datum/base.steps") (g := 392) rfl, ftI_ifc (C := C26) (t := 142) (m := "datum/base.steps") (g := 392) rfl rfl, callX_known (C := C26) (g := 392) rfl, e392]
        exact Ends_plain rfl rfl
theorem F39_eq {b : Bs} (hu : i64R b.u) : F39 [BK b] = some (.bool (decide (baOk b))) := by
  by_cases h : baOk1 b
  · rw [F39_yes1 h hu]
    congr 2
    exact decide_eq_decide.2 ⟨fun h2 => ⟨h, h2⟩, fun h2 => h2.2⟩
  · rw [F39_no1 h, decide_eq_false (fun h2 => h h2.1)]
set_option maxRecDepth 10000
noncomputable def F15 : List AVal → Option AVal := pureF C3 1 15
theorem sound15 : Sound Tryz.prog 15 F15 := sound_self ok3 1 15
theorem F15_eq {n : Int} : F15 [.int .i64 n] = some (if 1 ≤ n ∧ n ≤ 10 then .tup [BK ⟨n, 0, 0, 0, 0⟩, .int .i64 0] else .tup [BK B0, .int .i64 1]) := by
  unfold F15
  refine pureF_of (x := x15) rfl rfl ?_
  rw [x15_eq.1, x15_eq.2.1]
  by_cases h1 : n < 1
  · have d1 := decide_eq_true h1
    rw [if_neg (by omega)]
    simp (disch := first | omega | simp only [*, go_sem, ↓reduceIte, dropK_eq]) only [x15b, go_sem, ↓reduceIte, dropK_eq, d1]
    exact Ends_plain rfl rfl
  · have d1 := decide_eq_false h1
    by_cases h2 : 10 < n
    · have d2 := decide_eq_true h2
      rw [if_neg (by omega)]
      simp (disch := first | omega | simp only [*, go_sem, ↓reduceIte, dropK_eq]) only [x15b, go_sem, ↓reduceIte, dropK_eq, d1, d2]
      exact Ends_plain rfl rfl
    · have d2 := decide_eq_false h2
      rw [if_pos (by omega)]
      simp (disch := first | omega | simp only [*, go_sem, ↓reduceIte, dropK_eq]) only [x15b, go_sem, ↓reduceIte, dropK_eq, d1, d2]
      exact Ends_plain rfl rfl
def mxL (l : List Int) : Int := l.tail.foldl max (l.headD 0)
def mnL (l : List Int) : Int := l.tail.foldl min (l.headD 0)
theorem take_tail {l : List Int} {i : Nat} (h0 : 1 ≤ i) (hi : i < l.length) : (l.take (i + 1)).tail = (l.take i).tail ++ [l.getD i 0] ∧ (l.take (i + 1)).headD 0 = (l.take i).headD 0 := by
  cases l with
  | nil => simp at hi
  | cons x l =>
    obtain ⟨i, rfl⟩ : ∃ k, i = k + 1 := ⟨i - 1, by omega⟩
    simp only [List.length_cons] at hi
    simp only [List.take_succ_cons, List.tail_cons, List.headD_cons, List.getD_cons_succ, and_true]
    rw [List.take_add_one, List.getElem?_eq_getElem (by omega), List.getD_eq_getElem?_getD, List.getElem?_eq_getElem (by omega)]
    rfl
theorem mxL_step {l : List Int} {i : Nat} (h0 : 1 ≤ i) (hi : i < l.length) : mxL (l.take (i + 1)) = max (mxL (l.take i)) (l.getD i 0) := by
  obtain ⟨h1, h2⟩ := take_tail h0 hi
  unfold mxL
  rw [h1, h2, List.foldl_append]
  rfl
theorem mnL_step {l : List Int} {i : Nat} (h0 : 1 ≤ i) (hi : i < l.length) : mnL (l.take (i + 1)) = min (mnL (l.take i)) (l.getD i 0) := by
  obtain ⟨h1, h2⟩ := take_tail h0 hi
  unfold mnL
  rw [h1, h2, List.foldl_append]
  rfl
noncomputable def F393 : List AVal → Option AVal := pureF C3 1 393
theorem sound393 : Sound Tryz.prog 393 F393 := sound_self ok3 1 393
theorem F393_eq {a : AVal} {l : List Int} (ha : Rw a l) (h0 : 1 ≤ l.length) (hl : l.length ≤ 100000) : F393 [a] = some (.int .i64 (mxL l)) := by
  have d0 : decide ((l.length : Int) < 1) = false := decide_eq_false (by omega)
  have ia := ha.ia (i := 0) (by omega)
  rw [show (((0 : Nat) : Int)) = 0 from rfl] at ia
  have e1 : l.getD 0 0 = mxL (l.take 1) := by
    cases l with
    | nil => simp at h0
    | cons x l => rfl
  rw [e1] at ia
  unfold F393
  refine pureF_of (x := x393) rfl rfl ?_
  rw [x393_eq.1, x393_eq.2.1]
  simp (disch := first | omega | simp only [*, go_sem, ↓reduceIte, dropK_eq]) only [x393b, go_sem, ↓reduceIte, dropK_eq, ha.len, d0, ia]
  refine Ev_loopW (I := fun n tm hp nc => ∃ i : Nat, 1 ≤ i ∧ i ≤ l.length ∧ n = l.length - i ∧ tm 4 = .int .i64 (i : Int) ∧ tm 3 = .int .i64 (mxL (l.take i))) (n := l.length - 1) ⟨1, by omega, h0, rfl, by simp only [go_sem, ↓reduceIte, dropK_eq], by simp only [go_sem, ↓reduceIte, dropK_eq]⟩ (by omega) ?_
  rintro n tm hp nc hc ⟨i, hi1, hi, rfl, k4, k3⟩
  have k0 := hc 0 rfl; simp only [go_sem, ↓reduceIte, dropK_eq] at k0
  rcases Nat.lt_or_ge i l.length with hlt | hge
  · have d1 : decide ((i : Int) < (l.length : Int)) = true := decide_eq_true (by omega)
    have ii := ha.ia hlt
    have hst := mxL_step hi1 hlt
    simp (disch := first | omega | simp only [*, go_sem, ↓reduceIte, dropK_eq]) only [x393l5, go_sem, ↓reduceIte, dropK_eq, ha.len, k0, k4, k3, d1, ii, mnx_max, ← hst]
    exact ⟨l.length - (i + 1), by omega, i + 1, by omega, by omega, rfl, by simp, rfl⟩
  · obtain rfl : i = l.length := by omega
    have d1 : decide ((l.length : Int) < (l.length : Int)) = false := decide_eq_false (by omega)
    rw [List.take_length] at k3
    simp (disch := first | omega | simp only [*, go_sem, ↓reduceIte, dropK_eq]) only [x393l5, go_sem, ↓reduceIte, dropK_eq, ha.len, k0, k4, k3, d1]
    exact Ends_plain rfl rfl
noncomputable def F394 : List AVal → Option AVal := pureF C3 1 394
theorem sound394 : Sound Tryz.prog 394 F394 := sound_self ok3 1 394
theorem F394_eq {a : AVal} {l : List Int} (ha : Rw a l) (h0 : 1 ≤ l.length) (hl : l.length ≤ 100000) : F394 [a] = some (.int .i64 (mnL l)) := by
  have d0 : decide ((l.length : Int) < 1) = false := decide_eq_false (by omega)
  have ia := ha.ia (i := 0) (by omega)
  rw [show (((0 : Nat) : Int)) = 0 from rfl] at ia
  have e1 : l.getD 0 0 = mnL (l.take 1) := by
    cases l with
    | nil => simp at h0
    | cons x l => rfl
  rw [e1] at ia
  unfold F394
  refine pureF_of (x := x394) rfl rfl ?_
  rw [x394_eq.1, x394_eq.2.1]
  simp (disch := first | omega | simp only [*, go_sem, ↓reduceIte, dropK_eq]) only [x394b, go_sem, ↓reduceIte, dropK_eq, ha.len, d0, ia]
  refine Ev_loopW (I := fun n tm hp nc => ∃ i : Nat, 1 ≤ i ∧ i ≤ l.length ∧ n = l.length - i ∧ tm 4 = .int .i64 (i : Int) ∧ tm 3 = .int .i64 (mnL (l.take i))) (n := l.length - 1) ⟨1, by omega, h0, rfl, by simp only [go_sem, ↓reduceIte, dropK_eq], by simp only [go_sem, ↓reduceIte, dropK_eq]⟩ (by omega) ?_
  rintro n tm hp nc hc ⟨i, hi1, hi, rfl, k4, k3⟩
  have k0 := hc 0 rfl; simp only [go_sem, ↓reduceIte, dropK_eq] at k0
  rcases Nat.lt_or_ge i l.length with hlt | hge
  · have d1 : decide ((i : Int) < (l.length : Int)) = true := decide_eq_true (by omega)
    have ii := ha.ia hlt
    have hst := mnL_step hi1 hlt
    simp (disch := first | omega | simp only [*, go_sem, ↓reduceIte, dropK_eq]) only [x394l5, go_sem, ↓reduceIte, dropK_eq, ha.len, k0, k4, k3, d1, ii, mnx_min, ← hst]
    exact ⟨l.length - (i + 1), by omega, i + 1, by omega, by omega, rfl, by simp, rfl⟩
  · obtain rfl : i = l.length := by omega
    have d1 : decide ((l.length : Int) < (l.length : Int)) = false := decide_eq_false (by omega)
    rw [List.take_length] at k3
    simp (disch := first | omega | simp only [*, go_sem, ↓reduceIte, dropK_eq]) only [x394l5, go_sem, ↓reduceIte, dropK_eq, ha.len, k0, k4, k3, d1]
    exact Ends_plain rfl rfl
theorem mx_bnd {l : List Int} {p : Int → Prop} (h0 : 1 ≤ l.length) (h : ∀ x ∈ l, p x) (hm : ∀ a b, p a → p b → p (max a b)) : p (mxL l) := by
  cases l with
  | nil => simp at h0
  | cons x l =>
    have : ∀ (l : List Int) (x : Int), p x → (∀ y ∈ l, p y) → p (l.foldl max x) := by
      intro l
      induction l with
      | nil => intro x hx _; exact hx
      | cons y l ih => intro x hx hy; exact ih _ (hm _ _ hx (hy y (by simp))) fun z hz => hy z (by simp [hz])
    exact this l x (h x (by simp)) fun y hy => h y (by simp [hy])
theorem mn_bnd {l : List Int} {p : Int → Prop} (h0 : 1 ≤ l.length) (h : ∀ x ∈ l, p x) (hm : ∀ a b, p a → p b → p (min a b)) : p (mnL l) := by
  cases l with
  | nil => simp at h0
  | cons x l =>
    have : ∀ (l : List Int) (x : Int), p x → (∀ y ∈ l, p y) → p (l.foldl min x) := by
      intro l
      induction l with
      | nil => intro x hx _; exact hx
      | cons y l ih => intro x hx hy; exact ih _ (hm _ _ hx (hy y (by simp))) fun z hz => hy z (by simp [hz])
    exact this l x (h x (by simp)) fun y hy => h y (by simp [hy])
theorem foldmax_ge : ∀ (l : List Int) (x : Int), x ≤ l.foldl max x
  | [], x => Int.le_refl _
  | y :: l, x => Int.le_trans (by omega) (foldmax_ge l (max x y))
theorem foldmin_le : ∀ (l : List Int) (x : Int), l.foldl min x ≤ x
  | [], x => Int.le_refl _
  | y :: l, x => Int.le_trans (foldmin_le l (min x y)) (by omega)
theorem mn_le_mx (l : List Int) : mnL l ≤ mxL l := Int.le_trans (foldmin_le _ _) (foldmax_ge _ _)
theorem mx_in {l : List Int} (h0 : 1 ≤ l.length) (h : ∀ x ∈ l, inM x) : inM (mxL l) := mx_bnd h0 h fun a b ha hb => by simp only [inM] at *; omega
theorem mn_in {l : List Int} (h0 : 1 ≤ l.length) (h : ∀ x ∈ l, inM x) : inM (mnL l) := mn_bnd h0 h fun a b ha hb => by simp only [inM] at *; omega
def reachI (b : Bs) (row : List Int) : Int := if b.s = 1 then (if b.m = 0 then 0 else max (row.headD 0 - b.l) (b.l - row.headD 0)) else mxL row - mnL row
noncomputable def C27 : Cfg := (C26.add 393 F393).add 394 F394
theorem ok27 : CfgOk Tryz.prog C27 := (ok26.add sound393).add sound394
noncomputable def F390 : List AVal → Option AVal := pureF C27 1 390
theorem sound390 : Sound Tryz.prog 390 F390 := sound_self ok27 1 390
theorem F390_eq {b : Bs} {a : AVal} {l : List Int} (ha : Rw a l) (h0 : 1 ≤ l.length) (hl : l.length ≤ 1000) (h : ∀ x ∈ l, inM x) : F390 [BK b, a] = some (.int .i64 (mxL l - mnL l)) := by
  have e1 := F393_eq ha h0 (by omega)
  have e2 := F394_eq ha h0 (by omega)
  have h1 := mx_in h0 h
  have h2 := mn_in h0 h
  have ap := ha.plain
  clear h
  simp only [inM] at h1 h2
  unfold F390
  refine pureF_of (x := x390) rfl rfl ?_
  rw [x390_eq.1, x390_eq.2.1]
  simp (disch := first | omega | simp only [*, go_sem, ↓reduceIte, dropK_eq]) only [x390b, go_sem, ↓reduceIte, dropK_eq, callX_known (C := C27) (g := 393) rfl, ft_call (C := C27) (g := 393) rfl, callX_known (C := C27) (g := 394) rfl, ft_call (C := C27) (g := 394) rfl, e1, e2]
  exact Ends_plain rfl rfl
noncomputable def F386 : List AVal → Option AVal := pureF C27 1 386
theorem sound386 : Sound Tryz.prog 386 F386 := sound_self ok27 1 386
theorem F386_eq {b : Bs} {a : AVal} {x : Int} (ha : Rw a [x]) (hx : inM x) (hb : inM b.l) : F386 [BK b, a] = some (.int .i64 (if b.m = 0 then 0 else max (x - b.l) (b.l - x))) := by
  have ia := ha.ia (i := 0) (by simp)
  rw [show (((0 : Nat) : Int)) = 0 from rfl] at ia
  simp only [List.getD_cons_zero] at ia
  simp only [inM] at hx hb
  unfold F386
  refine pureF_of (x := x386) rfl rfl ?_
  rw [x386_eq.1, x386_eq.2.1]
  by_cases h : b.m = 0
  · have d := decide_eq_true h
    rw [if_pos h]
    clear h
    simp (disch := first | omega | simp only [*, go_sem, ↓reduceIte, dropK_eq]) only [x386b, go_sem, ↓reduceIte, dropK_eq, d]
    exact Ends_plain rfl rfl
  · have d := decide_eq_false h
    rw [if_neg h]
    clear h
    simp (disch := first | omega | simp only [*, go_sem, ↓reduceIte, dropK_eq]) only [x386b, go_sem, ↓reduceIte, dropK_eq, d, ia, mnx_max]
    exact Ends_plain rfl rfl
noncomputable def F385 : List AVal → Option AVal := pureF C27 1 385
theorem sound385 : Sound Tryz.prog 385 F385 := sound_self ok27 1 385
noncomputable def F389 : List AVal → Option AVal := pureF C27 1 389
theorem sound389 : Sound Tryz.prog 389 F389 := sound_self ok27 1 389
theorem fac_rng : ∀ k < 7, ∀ n < 11, 2 ≤ n → 0 ≤ facI ((k : Nat) : Int) ((n : Nat) : Int) ∧ facI ((k : Nat) : Int) ((n : Nat) : Int) ≤ 32670 := by decide +kernel
theorem fac_bnd {k n : Int} (hk : 0 ≤ k ∧ k < 7) (hn : 2 ≤ n ∧ n ≤ 10) : 0 ≤ facI k n ∧ facI k n ≤ 32670 := by
  have := fac_rng k.toNat (by omega) n.toNat (by omega) (by omega)
  rwa [Int.toNat_of_nonneg hk.1, Int.toNat_of_nonneg (by omega)] at this
noncomputable def F387 : List AVal → Option AVal := pureF C27 1 387
theorem sound387 : Sound Tryz.prog 387 F387 := sound_self ok27 1 387
theorem F387_eq {b : Bs} (h : 0 ≤ b.m ∧ b.m ≤ 25) (hr : 0 ≤ b.r ∧ b.r ≤ 50000000) : F387 [BK b] = some (.tup [.int .i64 (11280 * (b.m - 1) * b.m), .int .i64 (11280 * (b.m - 1)), .int .i64 (11280 * (b.m - 1)), .int .i64 (10000 * b.m * b.r)]) := by
  have e66 := F_fac_eq (k := 3) (n := 2) (by decide) (by decide)
  rw [show facI 3 2 = 11280 by decide] at e66
  have hb1 : -11280 * 25 ≤ 11280 * (b.m - 1) * b.m ∧ 11280 * (b.m - 1) * b.m ≤ 11280 * 25 * 25 := by
    have h1 := Int.mul_le_mul (show 11280 * (b.m - 1) ≤ 11280 * 24 by omega) h.2 h.1 (by decide)
    have h2 := Int.mul_le_mul_of_nonneg_right (show -11280 ≤ 11280 * (b.m - 1) by omega) h.1
    omega
  have hb2 : 0 ≤ 10000 * b.m * b.r ∧ 10000 * b.m * b.r ≤ 250000 * 50000000 := mul_bnd2 (by omega) (by omega) hr.1 hr.2
  unfold F387
  refine pureF_of (x := x387) rfl rfl ?_
  rw [x387_eq.1, x387_eq.2.1]
  simp (disch := first | omega | simp only [*, go_sem, ↓reduceIte, dropK_eq]) only [x387b, go_sem, ↓reduceIte, dropK_eq, callX_known (C := C27) (g := 66) rfl, ft_call (C := C27) (g := 66) rfl, e66]
  exact Ends_plain rfl rfl
noncomputable def F391 : List AVal → Option AVal := pureF C27 1 391
theorem sound391 : Sound Tryz.prog 391 F391 := sound_self ok27 1 391
theorem F391_eq {b : Bs} (h : 0 ≤ b.m ∧ b.m ≤ 25) (hs : 2 ≤ b.s ∧ b.s ≤ 10) (hr : 0 ≤ b.r ∧ b.r ≤ 50000000) : F391 [BK b] = some (.tup [.int .i64 (30000 * b.m * b.s), .int .i64 30000, .int .i64 30000, .int .i64 (facI 0 b.s * b.r * b.s)]) := by
  have e66 := F_fac_eq (k := 0) (n := b.s) (by decide) hs
  have hf := fac_bnd (k := 0) (by decide) hs
  have hb1 : 0 ≤ 30000 * b.m * b.s ∧ 30000 * b.m * b.s ≤ 750000 * 10 := mul_bnd2 (by omega) (by omega) (by omega) hs.2
  have hb2 : 0 ≤ facI 0 b.s * b.r ∧ facI 0 b.s * b.r ≤ 32670 * 50000000 := mul_bnd2 hf.1 hf.2 hr.1 hr.2
  have hb3 : 0 ≤ facI 0 b.s * b.r * b.s ∧ facI 0 b.s * b.r * b.s ≤ 1633500000000 * 10 := mul_bnd2 hb2.1 (by omega) (by omega) hs.2
  generalize facI 0 b.s = f at *
  unfold F391
  refine pureF_of (x := x391) rfl rfl ?_
  rw [x391_eq.1, x391_eq.2.1]
  simp (disch := first | omega | simp only [*, go_sem, ↓reduceIte, dropK_eq]) only [x391b, go_sem, ↓reduceIte, dropK_eq, callX_known (C := C27) (g := 66) rfl, ft_call (C := C27) (g := 66) rfl, e66]
  exact Ends_plain rfl rfl
set_option maxRecDepth 10000
noncomputable def C28 : Cfg := addμ (addμ (addμ (addμ (addμ (addμ (((((((C27.add 386 F386).add 390 F390).add 387 F387).add 391 F391).add 385 F385).add 389 F389).add 39 F39) 141 "datum/base.reach" 386) 142 "datum/base.reach" 390) 141 "datum/base.scale" 387) 142 "datum/base.scale" 391) 141 "datum/base.ranges" 385) 142 "datum/base.ranges" 389
theorem ok28 : CfgOk Tryz.prog C28 := addμ_ok (addμ_ok (addμ_ok (addμ_ok (addμ_ok (addμ_ok (((((((ok27.add sound386).add sound390).add sound387).add sound391).add sound385).add sound389).add sound39) (fun v w => by kernel_rfl)) (fun v w => by kernel_rfl)) (fun v w => by kernel_rfl)) (fun v w => by kernel_rfl)) (fun v w => by kernel_rfl)) (fun v w => by kernel_rfl)
structure Pt where
  c : Int
  d : Int
  v : Int
  h : Int
  l : Int
abbrev PtC (p : Pt) : List AVal := [.int .i64 p.c, .int .i64 p.d, .int .i64 p.v, .int .u64 p.h, .int .u64 p.l]
abbrev PtK (p : Pt) : AVal := .agg (PtC p)
def denB (b : Bs) : Int := if b.s = 1 then 11280 * (b.m - 1) * b.m else 30000 * b.m * b.s
def byB (b : Bs) : Int := if b.s = 1 then 11280 * (b.m - 1) else 30000
def sprB (b : Bs) : Int := if b.s = 1 then 10000 * b.m * b.r else facI 0 b.s * b.r * b.s
def ptB (b : Bs) (x : Int) : Pt := ⟨byB b * b.u, denB b, byB b * (x * b.m - b.u), sprB b * sprB b / 18446744073709551616, sprB b * sprB b % 18446744073709551616⟩
abbrev P0 : Pt := ⟨0, 0, 0, 0, 0⟩
theorem abs_mul {x y M N : Int} (h1 : -M ≤ x ∧ x ≤ M) (h2 : -N ≤ y ∧ y ≤ N) : -(M * N) ≤ x * y ∧ x * y ≤ M * N := by
  have hM : 0 ≤ M := by omega
  have hN : 0 ≤ N := by omega
  have a1 : x.natAbs ≤ M.natAbs := by omega
  have a2 : y.natAbs ≤ N.natAbs := by omega
  have a3 := Nat.mul_le_mul a1 a2
  rw [← Int.natAbs_mul, ← Int.natAbs_mul] at a3
  have a4 := Int.mul_nonneg hM hN
  omega
theorem baOk_r {b : Bs} (h : baOk b) : 0 ≤ b.r ∧ b.r ≤ 50000000 := by
  obtain ⟨⟨h1, h2, h3⟩, h4, h5, h6⟩ := h
  unfold Bs.steps at h6
  split at h6 <;> omega
theorem baOk_u {b : Bs} (h : baOk b) : -250000000 ≤ b.u ∧ b.u ≤ 250000000 := by
  have := ms_bnd h.1
  obtain ⟨_, h4, _⟩ := h
  omega
theorem by_bnd {b : Bs} (h : baOk b) (hm : 2 ≤ b.m) : 11280 ≤ byB b ∧ byB b ≤ 270720 := by
  obtain ⟨⟨h1, h2, h3⟩, _⟩ := h
  unfold byB
  split <;> omega
theorem spr_bnd {b : Bs} (h : baOk b) : 0 ≤ sprB b ∧ sprB b ≤ 16335000000000 := by
  have hr := baOk_r h
  obtain ⟨⟨h1, h2, h3⟩, _⟩ := h
  unfold sprB
  split
  · have := mul_bnd2 (x := 10000 * b.m) (y := b.r) (M := 250000) (N := 50000000) (by omega) (by omega) hr.1 hr.2
    omega
  · have hf := fac_bnd (k := 0) (n := b.s) (by decide) (by omega)
    have hb2 : 0 ≤ facI 0 b.s * b.r ∧ facI 0 b.s * b.r ≤ 32670 * 50000000 := mul_bnd2 hf.1 hf.2 hr.1 hr.2
    have hb3 : 0 ≤ facI 0 b.s * b.r * b.s ∧ facI 0 b.s * b.r * b.s ≤ 1633500000000 * 10 := mul_bnd2 hb2.1 (by omega) (by omega) h1.2
    omega
theorem dev_bnd {b : Bs} {x : Int} (h : baOk b) (hm : 2 ≤ b.m) (hx : -(b.s * 1000000) ≤ x ∧ x ≤ b.s * 1000000) : (-250000000 ≤ x * b.m ∧ x * b.m ≤ 250000000) ∧ (-500000000 ≤ x * b.m - b.u ∧ x * b.m - b.u ≤ 500000000) ∧ (-67680000000000 ≤ byB b * b.u ∧ byB b * b.u ≤ 67680000000000) ∧ (-135360000000000 ≤ byB b * (x * b.m - b.u) ∧ byB b * (x * b.m - b.u) ≤ 135360000000000) := by
  have hu := baOk_u h
  have hby := by_bnd h hm
  have h1 := abs_mul (x := x) (y := b.m) (M := 10000000) (N := 25) (by have := h.1.1; omega) (by have := h.1.2.1; omega)
  have h2 := abs_mul (x := byB b) (y := b.u) (M := 270720) (N := 250000000) (by omega) hu
  have h3 := abs_mul (x := byB b) (y := x * b.m - b.u) (M := 270720) (N := 500000000) (by omega) (by omega)
  omega
noncomputable def F17 : List AVal → Option AVal := pureF C28 1 17
theorem sound17 : Sound Tryz.prog 17 F17 := sound_self ok28 1 17
theorem F17_ok {b : Bs} {x : Int} (h : baOk b) (hm : 2 ≤ b.m) (hx : -(b.s * 1000000) ≤ x ∧ x ≤ b.s * 1000000) : F17 [BK b, .int .i64 x] = some (.tup [PtK (ptB b x), .int .i64 0]) := by
  have hu := baOk_u h
  have hr := baOk_r h
  have e39 := F39_eq (b := b) (by simp only [i64R]; omega)
  rw [decide_eq_true h] at e39
  obtain ⟨q1, q2, q3, q4⟩ := dev_bnd h hm hx
  have hsp := spr_bnd h
  have e24 := F24_eq (a := sprB b) (b := sprB b) (by simp only [U]; omega) (by simp only [U]; omega)
  have hs := h.1.1
  have hmm := h.1.2.1
  have e43 := F43_eq (b := b)
  have e387 := F387_eq (b := b) hmm hr
  have w1 : (0 - b.s) * 1000000 = -(b.s * 1000000) := by omega
  have d1 : decide (x < -(b.s * 1000000)) = false := decide_eq_false (by omega)
  have d2 : decide (b.s * 1000000 < x) = false := decide_eq_false (by omega)
  have d3 : decide (b.m < 2) = false := decide_eq_false (by omega)
  simp only [enc] at e24
  unfold F17 ptB
  refine pureF_of (x := x17) rfl rfl ?_
  rw [x17_eq.1, x17_eq.2.1]
  by_cases hs1 : b.s = 1
  · have hof : ofT b = 141 := if_pos hs1
    rw [hof] at e43
    have g1 : denB b = 11280 * (b.m - 1) * b.m := if_pos hs1
    have g2 : byB b = 11280 * (b.m - 1) := if_pos hs1
    have g3 : sprB b = 10000 * b.m * b.r := if_pos hs1
    rw [← g1, ← g2, ← g3] at e387
    clear hof g1 g2 g3 hs1 h
    generalize denB b = dn at *
    generalize byB b = y at *
    generalize sprB b = sp at *
    have w2 : sp % 18446744073709551616 = sp := by omega
    simp (disch := first | omega | simp only [go_sem, ↓reduceIte, dropK_eq]) only [x17b, go_sem, ↓reduceIte, dropK_eq, callX_known (C := C28) (g := 39) rfl, ft_call (C := C28) (g := 39) rfl, callX_known (C := C28) (g := 43) rfl, ft_call (C := C28) (g := 43) rfl, callX_known (C := C28) (g := 24) rfl, ft_call (C := C28) (g := 24) rfl, e39, d1, d2, d3, w1, e43, invX_ifc (C := C28) (t := 141) (m := "datum/base.scale") (g := 387) rfl, callX_known (C := C28) (g := 387) rfl, e387, w2, e24]
    exact Ends_plain rfl rfl
  · have hof : ofT b = 142 := if_neg hs1
    rw [hof] at e43
    have e391 := F391_eq (b := b) hmm (by omega) hr
    have g1 : denB b = 30000 * b.m * b.s := if_neg hs1
    have g2 : byB b = 30000 := if_neg hs1
    have g3 : sprB b = facI 0 b.s * b.r * b.s := if_neg hs1
    rw [← g1, ← g3] at e391
    rw [g2] at q3 q4 ⊢
    clear hof g1 g2 g3 hs1 h
    generalize denB b = dn at *
    generalize sprB b = sp at *
    have w2 : sp % 18446744073709551616 = sp := by omega
    simp (disch := first | omega | simp only [go_sem, ↓reduceIte, dropK_eq]) only [x17b, go_sem, ↓reduceIte, dropK_eq, callX_known (C := C28) (g := 39) rfl, ft_call (C := C28) (g := 39) rfl, callX_known (C := C28) (g := 43) rfl, ft_call (C := C28) (g := 43) rfl, callX_known (C := C28) (g := 24) rfl, ft_call (C := C28) (g := 24) rfl, e39, d1, d2, d3, w1, e43, invX_ifc (C := C28) (t := 142) (m := "datum/base.scale") (g := 391) rfl, callX_known (C := C28) (g := 391) rfl, e391, w2, e24]
    exact Ends_plain rfl rfl
set_option maxRecDepth 10000
noncomputable def F41 : List AVal → Option AVal := pureF C3 1 41
theorem sound41 : Sound Tryz.prog 41 F41 := sound_self ok3 1 41
theorem F41_eq {x : Int} : F41 [.int .i64 x] = some (.bool (!decide (inM x))) := by
  unfold F41
  refine pureF_of (x := x41) rfl rfl ?_
  rw [x41_eq.1, x41_eq.2.1]
  simp (disch := first | omega | simp only [*, go_sem, ↓reduceIte, dropK_eq]) only [x41b, go_sem, ↓reduceIte, dropK_eq, callX_known (C := C3) (g := 42) rfl, ft_call (C := C3) (g := 42) rfl, F42_eq]
  exact Ends_plain rfl rfl
noncomputable def C29 : Cfg := C28.add 41 F41
theorem ok29 : CfgOk Tryz.prog C29 := ok28.add sound41
theorem sumL_step {l : List Int} {i : Nat} (hi : i < l.length) : sumL (l.take (i + 1)) = sumL (l.take i) + l.getD i 0 := by
  unfold sumL
  rw [List.take_add_one, List.getElem?_eq_getElem hi, List.foldl_append, List.getD_eq_getElem?_getD, List.getElem?_eq_getElem hi]
  rfl
theorem sumL_bnd {l : List Int} (h : ∀ x ∈ l, inM x) : ∀ i ≤ l.length, -((i : Int) * 1000000) ≤ sumL (l.take i) ∧ sumL (l.take i) ≤ (i : Int) * 1000000
  | 0, _ => by simp [sumL]
  | i + 1, hi => by
    have ih := sumL_bnd h i (by omega)
    have hx := h _ (getD_mem (show i < l.length by omega))
    rw [sumL_step (by omega)]
    simp only [inM] at hx
    omega
theorem sumL_rng {l : List Int} (h : ∀ x ∈ l, inM x) : -((l.length : Int) * 1000000) ≤ sumL l ∧ sumL l ≤ (l.length : Int) * 1000000 := by
  have := sumL_bnd h l.length (Nat.le_refl _)
  rwa [List.take_length] at this
def takeB (b : Bs) (row : List Int) : Bs := ⟨b.s, b.m + 1, b.u + sumL row, b.r + reachI b row, row.getD (row.length - 1) 0⟩
theorem reach_bnd {b : Bs} {row : List Int} (h : baOk b) (h0 : 1 ≤ row.length) (hr : ∀ x ∈ row, inM x) : 0 ≤ reachI b row ∧ reachI b row ≤ 2000000 := by
  have hx := hr _ (getD_mem (show 0 < row.length by omega))
  have h1 := mx_in h0 hr
  have h2 := mn_in h0 hr
  have h3 := mn_le_mx row
  have hl := h.1.2.2.1
  have e : row.headD 0 = row.getD 0 0 := by cases row <;> rfl
  unfold reachI
  simp only [inM] at *
  split
  · split
    · omega
    · rw [e]; omega
  · omega
theorem takeB_ok {b : Bs} {row : List Int} (h : baOk b) (hm : b.m < 25) (hl : (row.length : Int) = b.s) (hr : ∀ x ∈ row, inM x) : baOk (takeB b row) := by
  have h0 : 1 ≤ row.length := by have := h.1.1; omega
  have h1 := sumL_rng hr
  have h2 := reach_bnd h h0 hr
  have h3 := hr _ (getD_mem (show row.length - 1 < row.length by omega))
  obtain ⟨⟨⟨g1, g2⟩, ⟨g3, g4⟩, g5, g6⟩, g7, g8, g9⟩ := h
  have e : (b.m + 1) * b.s * 1000000 = b.m * b.s * 1000000 + b.s * 1000000 := by rw [Int.add_mul, Int.add_mul]; omega
  have hst : b.r + reachI b row ≤ 2000000 * (takeB b row).steps := by
    unfold Bs.steps at g9 ⊢
    show _ ≤ 2000000 * (if b.s = 1 then max 0 (b.m + 1 - 1) else b.m + 1)
    split at g9
    · rename_i hs
      rw [if_pos hs]
      by_cases hm0 : b.m = 0
      · have : reachI b row = 0 := by unfold reachI; rw [if_pos hs, if_pos hm0]
        omega
      · omega
    · rename_i hs
      rw [if_neg hs]
      omega
  refine ⟨⟨⟨g1, g2⟩, ⟨?_, ?_⟩, h3, ?_⟩, ⟨?_, ?_⟩, ?_, hst⟩
  · show 0 ≤ b.m + 1; omega
  · show b.m + 1 ≤ 25; omega
  · intro hc
    have : b.m + 1 = 0 := hc
    omega
  · show -((b.m + 1) * b.s * 1000000) ≤ b.u + sumL row; omega
  · show b.u + sumL row ≤ (b.m + 1) * b.s * 1000000; omega
  · show 0 ≤ b.r + reachI b row; omega
noncomputable def F16 : List AVal → Option AVal := pureF C29 4 16
theorem sound16 : Sound Tryz.prog 16 F16 := sound_self ok29 4 16
theorem F16_ok {b : Bs} {a : AVal} {l : List Int} (ha : Rw a l) (h : baOk b) (hm : b.m < 25) (hl : (l.length : Int) = b.s) (hr : ∀ x ∈ l, inM x) : F16 [BK b, a] = some (.tup [BK (takeB b l), .int .i64 0]) := by
  have hu := baOk_u h
  have hrr := baOk_r h
  have h0 : 1 ≤ l.length := by have := h.1.1; omega
  have hs := h.1.1
  have hmm := h.1.2.1
  have hlb := h.1.2.2.1
  have e39 := F39_eq (b := b) (by simp only [i64R]; omega)
  rw [decide_eq_true h] at e39
  have e43 := F43_eq (b := b)
  have ap := ha.plain
  have hRb := reach_bnd h h0 hr
  obtain ⟨R, hR⟩ : ∃ R, reachI b l = R := ⟨_, rfl⟩
  rw [hR] at hRb
  have d2 : decide (¬ (l.length : Int) = b.s) = false := decide_eq_false (by omega)
  have d3 : decide (b.m = 25) = false := decide_eq_false (by omega)
  have hall : (l.any fun x => !decide (inM x)) = false := by
    rw [List.any_eq_false]
    intro x hx
    rw [decide_eq_true (hr x hx)]
    decide
  unfold F16
  refine pureF_of (x := x16) rfl rfl ?_
  rw [x16_eq.1, x16_eq.2.1]
  simp (disch := first | omega | simp only [ap, go_sem, ↓reduceIte, dropK_eq]) only [x16b, go_sem, ↓reduceIte, dropK_eq, callX_known (C := C29) (g := 39) rfl, ft_call (C := C29) (g := 39) rfl, e39, ha.len, d2, call_inl (C := C29) (g := 40) rfl, ft_inl (C := C29) (g := 40) rfl]
  refine contains117 (C := C29) rfl rfl (p := fun x => !decide (inM x)) ha (by simp only [Lg]; omega) (fun x hx nc K hK => ?_) fun nc' => ?_
  · rw [callX_known (C := C29) (g := 41) rfl (by simp only [go_sem, ↓reduceIte, dropK_eq]), F41_eq]
    simp only [go_sem, ↓reduceIte, dropK_eq]
    exact hK _
  rw [hall]
  by_cases hs1 : b.s = 1
  · have hof : ofT b = 141 := if_pos hs1
    rw [hof] at e43
    obtain ⟨x, hlx⟩ : ∃ x, l = [x] := by
      cases l with
      | nil => simp at h0
      | cons x l =>
        cases l with
        | nil => exact ⟨x, rfl⟩
        | cons y l => simp only [List.length_cons] at hl; omega
    have e386 := F386_eq (b := b) (x := x) (hlx ▸ ha) (hr x (by rw [hlx]; simp)) hlb
    have hRx : (if b.m = 0 then 0 else max (x - b.l) (b.l - x)) = R := by
      rw [← hR]; unfold reachI; rw [if_pos hs1, hlx]; rfl
    clear hlx
    rw [hRx] at e386
    simp (disch := first | omega | simp only [ap, go_sem, ↓reduceIte, dropK_eq]) only [go_sem, ↓reduceIte, dropK_eq, callX_known (C := C29) (g := 43) rfl, ft_call (C := C29) (g := 43) rfl, d3, e43, invX_ifc (C := C29) (t := 141) (m := "datum/base.reach") (g := 386) rfl, ftI_ifc (C := C29) (t := 141) (m := "datum/base.reach") (g := 386) rfl rfl, callX_known (C := C29) (g := 386) rfl, e386, ha.len]
    refine Ev_range (ti := 39) (len := l.length) (J := fun i tm hp nc => hp (16000000, 0) = some (.var [.int .i64 b.s, .int .i64 b.m, .int .i64 (b.u + sumL (l.take i)), .int .i64 (b.r + R), .int .i64 (if i = 0 then b.l else l.getD (i - 1) 0)]) ∧ hp (16000001, 0) = some (.var (BC B0))) (by omega) (by simp only [go_sem, ↓reduceIte, dropK_eq]) ?_ ?_
    · simp only [go_sem, ↓reduceIte, dropK_eq, List.take_zero]
      rw [show b.u + sumL [] = b.u by simp [sumL]]
    · rintro i tm hp nc hi hc k39 ⟨kv, kr⟩
      have k2 := hc 2 rfl; have k4 := hc 4 rfl; have k37 := hc 37 rfl; have k38 := hc 38 rfl; simp only [go_sem, ↓reduceIte, dropK_eq] at k2 k4 k37 k38
      rcases Nat.lt_or_ge i l.length with hlt | hge
      · have d1 : decide ((i : Int) < (l.length : Int)) = true := decide_eq_true (by omega)
        have ia := ha.ia hlt
        have hx := hr _ (getD_mem hlt)
        have hsb := sumL_bnd hr i (by omega)
        have hst := sumL_step hlt
        have hw : b.u + sumL (l.take i) + l.getD i 0 = b.u + sumL (l.take (i + 1)) := by rw [hst]; omega
        simp only [inM] at hx
        have hw2 : IntKind.i64.wrap (b.u + sumL (l.take i) + l.getD i 0) = b.u + sumL (l.take (i + 1)) := by rw [wrap_i64 (by omega) (by omega), hw]
        clear hst hw
        simp (disch := first | omega | simp only [go_sem, ↓reduceIte, dropK_eq]) only [x16l7, go_sem, ↓reduceIte, dropK_eq, k2, k4, k37, k38, k39, d1, ia, kv, kr, hw2]
        exact ⟨hlt, by simp, by simp⟩
      · obtain rfl : i = l.length := by omega
        have d1 : decide ((l.length : Int) < (l.length : Int)) = false := decide_eq_false (by omega)
        have hne : ¬ l.length = 0 := by omega
        rw [List.take_length, if_neg hne] at kv
        simp (disch := first | omega | simp only [go_sem, ↓reduceIte, dropK_eq]) only [x16l7, go_sem, ↓reduceIte, dropK_eq, k2, k4, k37, k38, k39, d1, kv, kr]
        refine Ends_plain rfl ?_
        unfold takeB
        rw [hR]
  · have hof : ofT b = 142 := if_neg hs1
    rw [hof] at e43
    have e390 := F390_eq (b := b) ha h0 (by omega) hr
    have hRx : mxL l - mnL l = R := by
      rw [← hR]; unfold reachI; rw [if_neg hs1]
    rw [hRx] at e390
    simp (disch := first | omega | simp only [ap, go_sem, ↓reduceIte, dropK_eq]) only [go_sem, ↓reduceIte, dropK_eq, callX_known (C := C29) (g := 43) rfl, ft_call (C := C29) (g := 43) rfl, d3, e43, invX_ifc (C := C29) (t := 142) (m := "datum/base.reach") (g := 390) rfl, ftI_ifc (C := C29) (t := 142) (m := "datum/base.reach") (g := 390) rfl rfl, callX_known (C := C29) (g := 390) rfl, e390, ha.len]
    refine Ev_range (ti := 39) (len := l.length) (J := fun i tm hp nc => hp (16000000, 0) = some (.var [.int .i64 b.s, .int .i64 b.m, .int .i64 (b.u + sumL (l.take i)), .int .i64 (b.r + R), .int .i64 (if i = 0 then b.l else l.getD (i - 1) 0)]) ∧ hp (16000001, 0) = some (.var (BC B0))) (by omega) (by simp only [go_sem, ↓reduceIte, dropK_eq]) ?_ ?_
    · simp only [go_sem, ↓reduceIte, dropK_eq, List.take_zero]
      rw [show b.u + sumL [] = b.u by simp [sumL]]
    · rintro i tm hp nc hi hc k39 ⟨kv, kr⟩
      have k2 := hc 2 rfl; have k4 := hc 4 rfl; have k37 := hc 37 rfl; have k38 := hc 38 rfl; simp only [go_sem, ↓reduceIte, dropK_eq] at k2 k4 k37 k38
      rcases Nat.lt_or_ge i l.length with hlt | hge
      · have d1 : decide ((i : Int) < (l.length : Int)) = true := decide_eq_true (by omega)
        have ia := ha.ia hlt
        have hx := hr _ (getD_mem hlt)
        have hsb := sumL_bnd hr i (by omega)
        have hst := sumL_step hlt
        have hw : b.u + sumL (l.take i) + l.getD i 0 = b.u + sumL (l.take (i + 1)) := by rw [hst]; omega
        simp only [inM] at hx
        have hw2 : IntKind.i64.wrap (b.u + sumL (l.take i) + l.getD i 0) = b.u + sumL (l.take (i + 1)) := by rw [wrap_i64 (by omega) (by omega), hw]
        clear hst hw
        simp (disch := first | omega | simp only [go_sem, ↓reduceIte, dropK_eq]) only [x16l7, go_sem, ↓reduceIte, dropK_eq, k2, k4, k37, k38, k39, d1, ia, kv, kr, hw2]
        exact ⟨hlt, by simp, by simp⟩
      · obtain rfl : i = l.length := by omega
        have d1 : decide ((l.length : Int) < (l.length : Int)) = false := decide_eq_false (by omega)
        have hne : ¬ l.length = 0 := by omega
        rw [List.take_length, if_neg hne] at kv
        simp (disch := first | omega | simp only [go_sem, ↓reduceIte, dropK_eq]) only [x16l7, go_sem, ↓reduceIte, dropK_eq, k2, k4, k37, k38, k39, d1, kv, kr]
        refine Ends_plain rfl ?_
        unfold takeB
        rw [hR]
theorem F17_few {b : Bs} (h : baOk b) (hm : b.m < 2) : F17 [BK b, .int .i64 0] = some (.tup [PtK P0, .int .i64 12]) := by
  have hu := baOk_u h
  have e39 := F39_eq (b := b) (by simp only [i64R]; omega)
  rw [decide_eq_true h] at e39
  have hs := h.1.1
  have w1 : (0 - b.s) * 1000000 = -(b.s * 1000000) := by omega
  have d1 : decide (0 < -(b.s * 1000000)) = false := decide_eq_false (by omega)
  have d2 : decide (b.s * 1000000 < 0) = false := decide_eq_false (by omega)
  have d3 : decide (b.m < 2) = true := decide_eq_true hm
  clear h hm
  unfold F17
  refine pureF_of (x := x17) rfl rfl ?_
  rw [x17_eq.1, x17_eq.2.1]
  simp (disch := first | omega | simp only [*, go_sem, ↓reduceIte, dropK_eq]) only [x17b, go_sem, ↓reduceIte, dropK_eq, callX_known (C := C28) (g := 39) rfl, ft_call (C := C28) (g := 39) rfl, e39, d1, d2, d3, w1]
  exact Ends_plain rfl rfl
end Go.Proofs.YtkonpbcnekcjjaaGreatDoor.BS
namespace Go.Proofs.YtkonpbcnekcjjaaGreatDoor.DV
open Go Go.Xec Go.RowKit
attribute [local go_sem] tm0 ne_eq not_false_eq_true List.length_append List.length_replicate List.replicate_succ List.replicate_zero Int.cast_ofNat_Int not_true_eq_false decide_true decide_false ite_self beq_self_eq_true Bool.true_beq Bool.false_beq Bool.not_true Bool.not_false
attribute [local go_sem_proc] Nat.reduceAdd Nat.reduceMul Nat.reduceSub Nat.reduceLeDiff Nat.reduceLT Nat.reduceEqDiff Int.reduceLT Int.reduceLE Int.reduceAdd Int.reduceSub Int.reduceMul Int.reduceToNat Int.reducePow Int.reduceNe Int.reduceMod Int.reduceDiv Int.reduceEq Nat.reducePow Int.reduceNeg
set_option maxRecDepth 10000
noncomputable def CB : Cfg := ((CV.add 39 BS.F39).add 66 F_fac).add 67 F_md
theorem okB : CfgOk Tryz.prog CB := ((okV.add BS.sound39).add sound66).add sound67
noncomputable def F45 : List AVal → Option AVal := pureF CB 1 45
theorem sound45 : Sound Tryz.prog 45 F45 := sound_self okB 1 45
def widI (b : BS.Bs) : Int := facI 3 b.s * b.m
theorem wid_b {b : BS.Bs} (hm : 2 ≤ b.m ∧ b.m ≤ 25) (hs : 2 ≤ b.s ∧ b.s ≤ 10) : 0 ≤ widI b ∧ widI b ≤ 816750 := by
  have h := BS.fac_bnd (k := 3) (n := b.s) (by decide) hs
  have := mul_b h (show 0 ≤ b.m ∧ b.m ≤ 25 by omega)
  unfold widI
  omega
theorem F45_eq {b : BS.Bs} (hm : 2 ≤ b.m ∧ b.m ≤ 25) (hs : 2 ≤ b.s ∧ b.s ≤ 10) (hr : 0 < b.r) : F45 [BS.BK b] = some (.int .i64 (widI b)) := by
  have e66 := F_fac_eq (k := 3) (n := b.s) (by decide) hs
  have hw := wid_b hm hs
  have d1 := decide_eq_true hm.1
  have d2 := decide_eq_true hr
  have d3 : decide (b.s = 1) = false := decide_eq_false (by omega)
  have e12 := F54_true (e := 12)
  have e6 := F54_true (e := 6)
  unfold widI at hw ⊢
  have hw1 := hw.1
  have hw2 := hw.2
  generalize facI 3 b.s = f at *
  clear hm hs hr hw
  unfold F45
  refine pureF_of (x := x45) rfl rfl ?_
  rw [x45_eq.1, x45_eq.2.1]
  simp (disch := first | omega | simp only [*, go_sem, ↓reduceIte, dropK_eq]) only [x45b, go_sem, ↓reduceIte, dropK_eq, callX_known (C := CB) (g := 54) rfl, ft_call (C := CB) (g := 54) rfl, callX_known (C := CB) (g := 66) rfl, ft_call (C := CB) (g := 66) rfl, e66, d1, d2, d3, e12, e6]
  exact Ends_plain rfl rfl
noncomputable def F46 : List AVal → Option AVal := pureF CB 1 46
theorem sound46 : Sound Tryz.prog 46 F46 := sound_self okB 1 46
theorem F46_eq {a b c : Int} (ha : 0 ≤ a ∧ a ≤ 1000000000000) (hb : 0 ≤ b ∧ b ≤ 1000000) (hc : 0 < c ∧ c ≤ 1000000000000000) : F46 [.int .i64 a, .int .i64 b, .int .i64 c] = some (.agg [.int .i64 (rnd (a * b) c 0), .int .i64 (rnd (a * b) c 1)]) := by
  have hab : (a.natAbs : Int) * (b.natAbs : Int) ≤ 9223372036854775806 := by
    have h1 : (a.natAbs : Int) = a := by omega
    have h2 : (b.natAbs : Int) = b := by omega
    rw [h1, h2]
    have := mul_b ha hb
    omega
  have e0 := F_md_eq (a := a) (b := b) (c := c) (m := 0) ⟨hc.1, by omega⟩ ⟨by omega, by omega⟩ ⟨by omega, by omega⟩ hab (.inl rfl)
  have e1 := F_md_eq (a := a) (b := b) (c := c) (m := 1) ⟨hc.1, by omega⟩ ⟨by omega, by omega⟩ ⟨by omega, by omega⟩ hab (.inr rfl)
  have e2 := F54_true (e := 0)
  generalize rnd (a * b) c 0 = lo at *
  generalize rnd (a * b) c 1 = hi at *
  clear ha hb hc hab
  unfold F46
  refine pureF_of (x := x46) rfl rfl ?_
  rw [x46_eq.1, x46_eq.2.1]
  simp (disch := first | omega | simp only [*, go_sem, ↓reduceIte, dropK_eq]) only [x46b, go_sem, ↓reduceIte, dropK_eq, callX_known (C := CB) (g := 54) rfl, ft_call (C := CB) (g := 54) rfl, callX_known (C := CB) (g := 67) rfl, ft_call (C := CB) (g := 67) rfl, e0, e1, e2]
  exact Ends_plain rfl rfl
noncomputable def CD : Cfg := (CB.add 45 F45).add 46 F46
theorem okD : CfgOk Tryz.prog CD := (okB.add sound45).add sound46
structure AskB (b : BS.Bs) (x y k : Int) : Prop where
  ok : BS.baOk b
  hm : 2 ≤ b.m
  hs : 2 ≤ b.s
  hx : -1000000 ≤ x
  hy : y ≤ 1000000
  xy : x < y
  hk : 1 ≤ k ∧ k ≤ 1000
  lo : x * (b.m * b.s) ≤ b.u
  hi : b.u ≤ y * (b.m * b.s)
theorem AskB.bnd {b : BS.Bs} {x y k : Int} (h : AskB b x y k) : (2 ≤ b.m ∧ b.m ≤ 25) ∧ (2 ≤ b.s ∧ b.s ≤ 10) ∧ (0 ≤ b.r ∧ b.r ≤ 50000000) ∧ (-250000000 ≤ b.u ∧ b.u ≤ 250000000) := ⟨⟨h.hm, h.ok.1.2.1.2⟩, ⟨h.hs, h.ok.1.1.2⟩, BS.baOk_r h.ok, BS.baOk_u h.ok⟩
theorem AskB.e39 {b : BS.Bs} {x y k : Int} (h : AskB b x y k) : BS.F39 [BS.BK b] = some (.bool true) := by
  have := h.bnd.2.2.2
  have e := BS.F39_eq (b := b) (by simp only [BS.i64R]; omega)
  rwa [decide_eq_true h.ok] at e
theorem sq_b2 {m s : Int} (hm : 2 ≤ m ∧ m ≤ 25) (hs : 2 ≤ s ∧ s ≤ 10) : 4 ≤ m * s ∧ m * s ≤ 250 := by
  have h1 := Int.mul_le_mul hm.1 hs.1 (by decide) (by omega)
  have h2 := Int.mul_le_mul hm.2 hs.2 (by omega) (by decide)
  omega
def cpA (b : BS.Bs) (x y k : Int) : Int × Int := (rnd ((y - x) * k * widI b) (60000 * b.r) 0, rnd ((y - x) * k * widI b) (60000 * b.r) 1)
def nearB (b : BS.Bs) (x y : Int) : Int := min (y * (b.m * b.s) - b.u) (b.u - x * (b.m * b.s))
def cpkA (b : BS.Bs) (x y k : Int) : Int × Int := (rnd (nearB b x y * k * widI b) (30000 * b.r * (b.m * b.s)) 0, rnd (nearB b x y * k * widI b) (30000 * b.r * (b.m * b.s)) 1)
noncomputable def F44 : List AVal → Option AVal := pureF CD 1 44
theorem sound44 : Sound Tryz.prog 44 F44 := sound_self okD 1 44
theorem F44_eq {b : BS.Bs} {x y k : Int} (h : AskB b x y k) (hr : b.r ≠ 0) : F44 [.pvo (BS.BC b) 0, p1 x, p1 y, p1 k] = some (.agg [.int .i64 (cpA b x y k).1, .int .i64 (cpA b x y k).2]) := by
  obtain ⟨hm, hs, hr0, hu⟩ := h.bnd
  have e39 := h.e39
  have e29 := F29_eq h.hx h.hy h.xy h.hk
  have e45 := F45_eq hm hs (show 0 < b.r by omega)
  have hw := wid_b hm hs
  have hx := h.hx; have hy := h.hy; have hxy := h.xy; have hk := h.hk
  have hp := mul_b (show 0 ≤ y - x ∧ y - x ≤ 2000000 by omega) (show 0 ≤ k ∧ k ≤ 1000 by omega)
  have e46 := F46_eq (a := (y - x) * k) (b := widI b) (c := 60000 * b.r) (by omega) (by omega) (by omega)
  have hp1 := hp.1
  have hp2 := hp.2
  unfold cpA
  generalize rnd ((y - x) * k * widI b) (60000 * b.r) 0 = lo at *
  generalize rnd ((y - x) * k * widI b) (60000 * b.r) 1 = hi at *
  clear h hm hs hr hu
  generalize widI b = w at *
  unfold F44
  refine pureF_of (x := x44) rfl rfl ?_
  rw [x44_eq.1, x44_eq.2.1]
  simp (disch := first | omega | simp only [*, go_sem, ↓reduceIte, dropK_eq]) only [x44b, go_sem, ↓reduceIte, dropK_eq, callX_known (C := CD) (g := 29) rfl, ft_call (C := CD) (g := 29) rfl, callX_known (C := CD) (g := 39) rfl, ft_call (C := CD) (g := 39) rfl, callX_known (C := CD) (g := 45) rfl, ft_call (C := CD) (g := 45) rfl, callX_known (C := CD) (g := 46) rfl, ft_call (C := CD) (g := 46) rfl, e29, e39, e45, e46]
  exact Ends_plain rfl rfl
noncomputable def F47 : List AVal → Option AVal := pureF CD 1 47
theorem sound47 : Sound Tryz.prog 47 F47 := sound_self okD 1 47
theorem all_b {x m : Int} (hx : -1000000 ≤ x ∧ x ≤ 1000000) (hm : 4 ≤ m ∧ m ≤ 250) : -250000000 ≤ x * m ∧ x * m ≤ 250000000 := by
  have h1 : -1000000 * m ≤ x * m := Int.mul_le_mul_of_nonneg_right hx.1 (by omega)
  have h2 : x * m ≤ 1000000 * m := Int.mul_le_mul_of_nonneg_right hx.2 (by omega)
  omega
theorem F47_eq {b : BS.Bs} {x y k : Int} (h : AskB b x y k) (hr : b.r ≠ 0) : F47 [.pvo (BS.BC b) 0, p1 x, p1 y, p1 k] = some (.agg [.int .i64 (cpkA b x y k).1, .int .i64 (cpkA b x y k).2]) := by
  obtain ⟨hm, hs, hr0, hu⟩ := h.bnd
  have e39 := h.e39
  have e29 := F29_eq h.hx h.hy h.xy h.hk
  have e45 := F45_eq hm hs (show 0 < b.r by omega)
  have hw := wid_b hm hs
  have hms := sq_b2 hm hs
  have hx := h.hx; have hy := h.hy; have hxy := h.xy; have hk := h.hk; have hlo := h.lo; have hhi := h.hi
  have hxm := all_b (x := x) (m := b.m * b.s) (by omega) hms
  have hym := all_b (x := y) (m := b.m * b.s) (by omega) hms
  have m2 : mnxA false (.int .i64 (y * (b.m * b.s) - b.u)) [.int .i64 (b.u - x * (b.m * b.s))] = some (.int .i64 (nearB b x y)) := mnx_min
  have hn : 0 ≤ nearB b x y ∧ nearB b x y ≤ 500000000 := by unfold nearB; omega
  have hp := mul_b hn (show 0 ≤ k ∧ k ≤ 1000 by omega)
  have hc := Int.mul_le_mul (show 30000 * b.r ≤ 1500000000000 by omega) hms.2 (by omega) (by decide)
  have hc0 : 0 < 30000 * b.r * (b.m * b.s) := Int.mul_pos (by omega) (by omega)
  have e46 := F46_eq (a := nearB b x y * k) (b := widI b) (c := 30000 * b.r * (b.m * b.s)) (by omega) (by omega) (by omega)
  have hp1 := hp.1
  have hp2 := hp.2
  unfold cpkA
  generalize rnd (nearB b x y * k * widI b) (30000 * b.r * (b.m * b.s)) 0 = lo at *
  generalize rnd (nearB b x y * k * widI b) (30000 * b.r * (b.m * b.s)) 1 = hi at *
  clear h hm hs hr
  generalize widI b = w at *
  generalize nearB b x y = nr at *
  obtain ⟨al, hal⟩ : ∃ al, b.m * b.s = al := ⟨_, rfl⟩
  rw [hal] at *
  unfold F47
  refine pureF_of (x := x47) rfl rfl ?_
  rw [x47_eq.1, x47_eq.2.1]
  simp (disch := first | omega | simp only [*, go_sem, ↓reduceIte, dropK_eq]) only [x47b, go_sem, ↓reduceIte, dropK_eq, callX_known (C := CD) (g := 29) rfl, ft_call (C := CD) (g := 29) rfl, callX_known (C := CD) (g := 39) rfl, ft_call (C := CD) (g := 39) rfl, callX_known (C := CD) (g := 45) rfl, ft_call (C := CD) (g := 45) rfl, callX_known (C := CD) (g := 46) rfl, ft_call (C := CD) (g := 46) rfl, hal, e29, e39, e45, e46, m2]
  exact Ends_plain rfl rfl
set_option maxRecDepth 10000
def G45 : List AVal → Option Value
  | [.agg [.int .i64 s, .int .i64 m, .int .i64 u, .int .i64 r, .int .i64 l]] => if 2 ≤ m ∧ r = 0 then some (rfu 6) else none
  | _ => none
theorem soundP45 : SoundP Tryz.prog 45 G45 := soundP_of okD 0 (xf := x45) rfl (by
  intro ys pv hg
  unfold G45 at hg
  split at hg
  · rename_i s m u r l
    split at hg
    · rename_i hn
      cases hg
      refine ⟨rfl, ?_⟩
      rw [x45_eq.1]
      have d1 : decide (2 ≤ m) = true := decide_eq_true hn.1
      have d2 : decide (0 < r) = false := decide_eq_false (by omega)
      have e12 := F54_true (e := 12)
      refine Pn_seq (fid := 45) okD ?_
      simp (disch := first | omega | simp only [*, go_sem, ↓reduceIte, dropK_eq]) only [go_sem, ↓reduceIte, dropK_eq]
      refine Pn_seq (fid := 45) okD ?_
      simp (disch := first | omega | simp only [*, go_sem, ↓reduceIte, dropK_eq]) only [go_sem, ↓reduceIte, dropK_eq, callX_known (C := CD) (g := 54) rfl, ft_call (C := CD) (g := 54) rfl, d1, e12]
      refine Pn_left (Pn_reg (fid := 45) okD 3 rfl ?_)
      simp (disch := first | omega | simp only [*, go_sem, ↓reduceIte, dropK_eq]) only [go_sem, ↓reduceIte, dropK_eq, d2]
      refine PCall_of (g := 54) (G := G54) (vs := [.bool false, .int .i64 6]) ?_ rfl soundP54 rfl
      simp (disch := first | omega | simp only [*, go_sem, ↓reduceIte, dropK_eq]) only [go_sem, ↓reduceIte, dropK_eq, target]
    · cases hg
  · cases hg)
theorem G45_eq {b : BS.Bs} (hm : 2 ≤ b.m) (hr : b.r = 0) : G45 [BS.BK b] = some (rfu 6) := if_pos ⟨hm, hr⟩
abbrev askBV (b : BS.Bs) (x y k : Int) : List AVal := [.pvo (BS.BC b) 0, p1 x, p1 y, p1 k]
def A44 (ys : List AVal) : Prop := ∃ b x y k, ys = askBV b x y k ∧ AskB b x y k ∧ b.r = 0
open Classical in
noncomputable def G44 (ys : List AVal) : Option Value := if A44 ys then some (rfu 6) else none
theorem soundP44 : SoundP Tryz.prog 44 G44 := soundP_of okD 0 (xf := x44) rfl (by
  intro ys pv hg
  unfold G44 at hg
  split at hg
  · rename_i hx
    cases hg
    obtain ⟨b, x, y, k, rfl, h, hr⟩ := hx
    refine ⟨rfl, ?_⟩
    rw [x44_eq.1]
    have e39 := h.e39
    have e29 := F29_eq h.hx h.hy h.xy h.hk
    have g45 := G45_eq h.hm hr
    clear h hr
    refine Pn_seq (fid := 44) okD ?_
    simp (disch := first | omega | simp only [*, go_sem, ↓reduceIte, dropK_eq]) only [go_sem, ↓reduceIte, dropK_eq]
    refine Pn_seq (fid := 44) okD ?_
    simp (disch := first | omega | simp only [*, go_sem, ↓reduceIte, dropK_eq]) only [go_sem, ↓reduceIte, dropK_eq, callX_known (C := CD) (g := 29) rfl, ft_call (C := CD) (g := 29) rfl, callX_known (C := CD) (g := 39) rfl, ft_call (C := CD) (g := 39) rfl, e29, e39]
    refine Pn_left (Pn_reg (fid := 44) okD 1 rfl ?_)
    simp (disch := first | omega | simp only [*, go_sem, ↓reduceIte, dropK_eq]) only [go_sem, ↓reduceIte, dropK_eq]
    refine PCall_of (g := 45) (G := G45) (vs := [BS.BK b]) ?_ rfl soundP45 g45
    simp (disch := first | omega | simp only [*, go_sem, ↓reduceIte, dropK_eq]) only [go_sem, ↓reduceIte, dropK_eq, target]
  · cases hg)
open Classical in
noncomputable def G47 (ys : List AVal) : Option Value := if A44 ys then some (rfu 6) else none
theorem soundP47 : SoundP Tryz.prog 47 G47 := soundP_of okD 0 (xf := x47) rfl (by
  intro ys pv hg
  unfold G47 at hg
  split at hg
  · rename_i hx
    cases hg
    obtain ⟨b, x, y, k, rfl, h, hr⟩ := hx
    refine ⟨rfl, ?_⟩
    rw [x47_eq.1]
    have e39 := h.e39
    have e29 := F29_eq h.hx h.hy h.xy h.hk
    have g45 := G45_eq h.hm hr
    clear h hr
    refine Pn_seq (fid := 47) okD ?_
    simp (disch := first | omega | simp only [*, go_sem, ↓reduceIte, dropK_eq]) only [go_sem, ↓reduceIte, dropK_eq]
    refine Pn_seq (fid := 47) okD ?_
    simp (disch := first | omega | simp only [*, go_sem, ↓reduceIte, dropK_eq]) only [go_sem, ↓reduceIte, dropK_eq, callX_known (C := CD) (g := 29) rfl, ft_call (C := CD) (g := 29) rfl, callX_known (C := CD) (g := 39) rfl, ft_call (C := CD) (g := 39) rfl, e29, e39]
    refine Pn_left (Pn_reg (fid := 47) okD 1 rfl ?_)
    simp (disch := first | omega | simp only [*, go_sem, ↓reduceIte, dropK_eq]) only [go_sem, ↓reduceIte, dropK_eq]
    refine PCall_of (g := 45) (G := G45) (vs := [BS.BK b]) ?_ rfl soundP45 g45
    simp (disch := first | omega | simp only [*, go_sem, ↓reduceIte, dropK_eq]) only [go_sem, ↓reduceIte, dropK_eq, target]
  · cases hg)
theorem told_ok44 (caps : Array Value) (lo hi : Int) (w : World) (h : ∀ w', Below w.heap.size w w' → Calls Tryz.prog 44 caps w' fun e w'' => e = .returned (.agg #[.int .i64 lo, .int .i64 hi]) ∧ Below w'.heap.size w' w'') :
    Calls Tryz.prog 27 #[.func (.func 44) #[] caps] w fun e w' => e = .returned (.tuple #[.agg #[.int .i64 lo, .int .i64 hi], .int .i64 0]) ∧ Below w.heap.size w w' := by
  have hmf : ∀ (fn : Fn) (first cap : Array Value) (w : World), (Instr.makeFunc fn first cap).run Tryz.prog w = .ok (.func fn first cap) w := fun _ _ _ _ => rfl
  go_enter_defers Tryz.func27, Tryz.ntmps27
  go_wp2_with fail
  obtain ⟨t0, t1, t2⟩ := tW_at w
  refine (h _ (tW_below w)).mono ?_
  rintro e w2 ⟨rfl, hb⟩
  have hsz := hb.size
  rw [t2] at hsz
  have g0 := (hb.block _ (by rw [t2]; omega)).trans t0
  have g1 := (hb.block _ (by rw [t2]; omega)).trans t1
  have c0 : w2.cell? ⟨w.heap.size, 0, none⟩ = some (.int .i64 0) := by simp [World.cell?, g0]
  have c1 : w2.cell? ⟨w.heap.size, 1, none⟩ = some (.int .i64 0) := by simp [World.cell?, g0]
  have c2 : w2.cell? ⟨w.heap.size + 1, 0, none⟩ = some (.int .i64 0) := by simp [World.cell?, g1]
  have f0 : w2.frozen? ⟨w.heap.size, 0, none⟩ = false := by simp [World.frozen?, g0]
  have f1 : w2.frozen? ⟨w.heap.size, 1, none⟩ = false := by simp [World.frozen?, g0]
  have f2 : w2.frozen? ⟨w.heap.size + 1, 0, none⟩ = false := by simp [World.frozen?, g1]
  go_wp2
  have b2 : Below w.heap.size w (((w2.setCell ⟨w.heap.size, 0, none⟩ (.int .i64 lo)).setCell ⟨w.heap.size, 1, none⟩ (.int .i64 hi)).setCell ⟨w.heap.size + 1, 0, none⟩ (.int .i64 0)) :=
    (((((tW_below w).trans (hb.mono (by rw [t2]; omega))).setCell (by simp) _).setCell (by simp) _).setCell (by simp) _)
  have k0 := (cell_other (i := 0) (.int .i64 0) (show w.heap.size ≠ w.heap.size + 1 by omega)).trans (cells_set (i := 1) (cells_set (i := 0) g0 (.int .i64 lo)) (.int .i64 hi))
  have k1 := cells_set (i := 0) ((cell_other (W := w2.setCell ⟨w.heap.size, 0, none⟩ (.int .i64 lo)) (i := 1) (.int .i64 hi) (show w.heap.size + 1 ≠ w.heap.size by omega)).trans ((cell_other (i := 0) (.int .i64 lo) (show w.heap.size + 1 ≠ w.heap.size by omega)).trans g1)) (.int .i64 0)
  generalize (((w2.setCell ⟨w.heap.size, 0, none⟩ (.int .i64 lo)).setCell ⟨w.heap.size, 1, none⟩ (.int .i64 hi)).setCell ⟨w.heap.size + 1, 0, none⟩ (.int .i64 0)) = w3 at *
  have d0 : w3.cell? ⟨w.heap.size, 0, none⟩ = some (.int .i64 lo) := by simp [World.cell?, k0]
  have d1 : w3.cell? ⟨w.heap.size, 1, none⟩ = some (.int .i64 hi) := by simp [World.cell?, k0]
  have d2 : w3.cell? ⟨w.heap.size + 1, 0, none⟩ = some (.int .i64 0) := by simp [World.cell?, k1]
  refine leaves_cons (f := 53) (args := #[.pointer (some ⟨w.heap.size, 0, none⟩), .pointer (some ⟨w.heap.size + 1, 0, none⟩)]) (by simp) (by simp [go_sem]) ?_
  refine (told_idle ⟨w.heap.size, 0, none⟩ ⟨w.heap.size + 1, 0, none⟩ _).mono ?_
  rintro e u' w'' ⟨rfl, rfl, rfl⟩
  simp [Leaves, settle, results, Tryz.results27, go_sem, d0, d1, d2]
  exact b2
theorem told_bad44 (caps : Array Value) (why : Int) (w : World) (h : ∀ w', Below w.heap.size w w' → Calls Tryz.prog 44 caps w' fun e w'' => e = .panicked [{ v := rfu why, recovered := false }] ∧ Below w'.heap.size w' w'') :
    Calls Tryz.prog 27 #[.func (.func 44) #[] caps] w fun e w' => e = .returned (.tuple #[.agg #[.int .i64 0, .int .i64 0], .int .i64 why]) ∧ Below w.heap.size w w' := by
  have hmf : ∀ (fn : Fn) (first cap : Array Value) (w : World), (Instr.makeFunc fn first cap).run Tryz.prog w = .ok (.func fn first cap) w := fun _ _ _ _ => rfl
  go_enter_defers Tryz.func27, Tryz.ntmps27
  go_wp2_with fail
  obtain ⟨t0, t1, t2⟩ := tW_at w
  refine (h _ (tW_below w)).mono ?_
  rintro e w2 ⟨rfl, hb⟩
  have hsz := hb.size
  rw [t2] at hsz
  have g0 := (hb.block _ (by rw [t2]; omega)).trans t0
  have g1 := (hb.block _ (by rw [t2]; omega)).trans t1
  go_wp2
  refine leaves_cons (f := 53) (args := #[.pointer (some ⟨w.heap.size, 0, none⟩), .pointer (some ⟨w.heap.size + 1, 0, none⟩)]) (by simp) (by simp [go_sem]) ?_
  refine (told_caught w.heap.size (w.heap.size + 1) why 0 0 0 [] _ g0 g1 (by omega)).mono ?_
  rintro e u' w3 ⟨rfl, rfl, hb3, k0, k1⟩
  have b2 : Below w.heap.size w w3 := ((tW_below w).trans (hb.mono (by rw [t2]; omega))).trans (hb3.mono (by omega))
  have d0 : w3.cell? ⟨w.heap.size, 0, none⟩ = some (.int .i64 0) := by simp [World.cell?, k0]
  have d1 : w3.cell? ⟨w.heap.size, 1, none⟩ = some (.int .i64 0) := by simp [World.cell?, k0]
  have d2 : w3.cell? ⟨w.heap.size + 1, 0, none⟩ = some (.int .i64 why) := by simp [World.cell?, k1]
  simp [Leaves, settle, results, Tryz.results27, go_sem, d0, d1, d2]
  exact b2
theorem told_ok47 (caps : Array Value) (lo hi : Int) (w : World) (h : ∀ w', Below w.heap.size w w' → Calls Tryz.prog 47 caps w' fun e w'' => e = .returned (.agg #[.int .i64 lo, .int .i64 hi]) ∧ Below w'.heap.size w' w'') :
    Calls Tryz.prog 27 #[.func (.func 47) #[] caps] w fun e w' => e = .returned (.tuple #[.agg #[.int .i64 lo, .int .i64 hi], .int .i64 0]) ∧ Below w.heap.size w w' := by
  have hmf : ∀ (fn : Fn) (first cap : Array Value) (w : World), (Instr.makeFunc fn first cap).run Tryz.prog w = .ok (.func fn first cap) w := fun _ _ _ _ => rfl
  go_enter_defers Tryz.func27, Tryz.ntmps27
  go_wp2_with fail
  obtain ⟨t0, t1, t2⟩ := tW_at w
  refine (h _ (tW_below w)).mono ?_
  rintro e w2 ⟨rfl, hb⟩
  have hsz := hb.size
  rw [t2] at hsz
  have g0 := (hb.block _ (by rw [t2]; omega)).trans t0
  have g1 := (hb.block _ (by rw [t2]; omega)).trans t1
  have c0 : w2.cell? ⟨w.heap.size, 0, none⟩ = some (.int .i64 0) := by simp [World.cell?, g0]
  have c1 : w2.cell? ⟨w.heap.size, 1, none⟩ = some (.int .i64 0) := by simp [World.cell?, g0]
  have c2 : w2.cell? ⟨w.heap.size + 1, 0, none⟩ = some (.int .i64 0) := by simp [World.cell?, g1]
  have f0 : w2.frozen? ⟨w.heap.size, 0, none⟩ = false := by simp [World.frozen?, g0]
  have f1 : w2.frozen? ⟨w.heap.size, 1, none⟩ = false := by simp [World.frozen?, g0]
  have f2 : w2.frozen? ⟨w.heap.size + 1, 0, none⟩ = false := by simp [World.frozen?, g1]
  go_wp2
  have b2 : Below w.heap.size w (((w2.setCell ⟨w.heap.size, 0, none⟩ (.int .i64 lo)).setCell ⟨w.heap.size, 1, none⟩ (.int .i64 hi)).setCell ⟨w.heap.size + 1, 0, none⟩ (.int .i64 0)) :=
    (((((tW_below w).trans (hb.mono (by rw [t2]; omega))).setCell (by simp) _).setCell (by simp) _).setCell (by simp) _)
  have k0 := (cell_other (i := 0) (.int .i64 0) (show w.heap.size ≠ w.heap.size + 1 by omega)).trans (cells_set (i := 1) (cells_set (i := 0) g0 (.int .i64 lo)) (.int .i64 hi))
  have k1 := cells_set (i := 0) ((cell_other (W := w2.setCell ⟨w.heap.size, 0, none⟩ (.int .i64 lo)) (i := 1) (.int .i64 hi) (show w.heap.size + 1 ≠ w.heap.size by omega)).trans ((cell_other (i := 0) (.int .i64 lo) (show w.heap.size + 1 ≠ w.heap.size by omega)).trans g1)) (.int .i64 0)
  generalize (((w2.setCell ⟨w.heap.size, 0, none⟩ (.int .i64 lo)).setCell ⟨w.heap.size, 1, none⟩ (.int .i64 hi)).setCell ⟨w.heap.size + 1, 0, none⟩ (.int .i64 0)) = w3 at *
  have d0 : w3.cell? ⟨w.heap.size, 0, none⟩ = some (.int .i64 lo) := by simp [World.cell?, k0]
  have d1 : w3.cell? ⟨w.heap.size, 1, none⟩ = some (.int .i64 hi) := by simp [World.cell?, k0]
  have d2 : w3.cell? ⟨w.heap.size + 1, 0, none⟩ = some (.int .i64 0) := by simp [World.cell?, k1]
  refine leaves_cons (f := 53) (args := #[.pointer (some ⟨w.heap.size, 0, none⟩), .pointer (some ⟨w.heap.size + 1, 0, none⟩)]) (by simp) (by simp [go_sem]) ?_
  refine (told_idle ⟨w.heap.size, 0, none⟩ ⟨w.heap.size + 1, 0, none⟩ _).mono ?_
  rintro e u' w'' ⟨rfl, rfl, rfl⟩
  simp [Leaves, settle, results, Tryz.results27, go_sem, d0, d1, d2]
  exact b2
theorem told_bad47 (caps : Array Value) (why : Int) (w : World) (h : ∀ w', Below w.heap.size w w' → Calls Tryz.prog 47 caps w' fun e w'' => e = .panicked [{ v := rfu why, recovered := false }] ∧ Below w'.heap.size w' w'') :
    Calls Tryz.prog 27 #[.func (.func 47) #[] caps] w fun e w' => e = .returned (.tuple #[.agg #[.int .i64 0, .int .i64 0], .int .i64 why]) ∧ Below w.heap.size w w' := by
  have hmf : ∀ (fn : Fn) (first cap : Array Value) (w : World), (Instr.makeFunc fn first cap).run Tryz.prog w = .ok (.func fn first cap) w := fun _ _ _ _ => rfl
  go_enter_defers Tryz.func27, Tryz.ntmps27
  go_wp2_with fail
  obtain ⟨t0, t1, t2⟩ := tW_at w
  refine (h _ (tW_below w)).mono ?_
  rintro e w2 ⟨rfl, hb⟩
  have hsz := hb.size
  rw [t2] at hsz
  have g0 := (hb.block _ (by rw [t2]; omega)).trans t0
  have g1 := (hb.block _ (by rw [t2]; omega)).trans t1
  go_wp2
  refine leaves_cons (f := 53) (args := #[.pointer (some ⟨w.heap.size, 0, none⟩), .pointer (some ⟨w.heap.size + 1, 0, none⟩)]) (by simp) (by simp [go_sem]) ?_
  refine (told_caught w.heap.size (w.heap.size + 1) why 0 0 0 [] _ g0 g1 (by omega)).mono ?_
  rintro e u' w3 ⟨rfl, rfl, hb3, k0, k1⟩
  have b2 : Below w.heap.size w w3 := ((tW_below w).trans (hb.mono (by rw [t2]; omega))).trans (hb3.mono (by omega))
  have d0 : w3.cell? ⟨w.heap.size, 0, none⟩ = some (.int .i64 0) := by simp [World.cell?, k0]
  have d1 : w3.cell? ⟨w.heap.size, 1, none⟩ = some (.int .i64 0) := by simp [World.cell?, k0]
  have d2 : w3.cell? ⟨w.heap.size + 1, 0, none⟩ = some (.int .i64 why) := by simp [World.cell?, k1]
  simp [Leaves, settle, results, Tryz.results27, go_sem, d0, d1, d2]
  exact b2
abbrev bsCs (b : BS.Bs) : Array Value := #[.int .i64 b.s, .int .i64 b.m, .int .i64 b.u, .int .i64 b.r, .int .i64 b.l]
theorem V_pbs {W : World} {S : Nat → Prop} {b : BS.Bs} {n : Nat} {T : TypeId} (hS : S n) (h : W.heap[n]? = some (.cells (bsCs b) T (0, 0))) : V (ctx0 W S) (.pvo (BS.BC b) 0) (.pointer (some ⟨n, 0, none⟩)) := by
  have hc : ∀ i v, (bsCs b)[i]? = some v → W.cell? ⟨n, i, none⟩ = some v := fun i v hv => by
    simp only [World.cell?, h]
    exact hv
  simp only [V, VC]
  exact ⟨n, 0, rfl, hS, ⟨_, hc 0 _ rfl, rfl⟩, ⟨_, hc 1 _ rfl, rfl⟩, ⟨_, hc 2 _ rfl, rfl⟩, ⟨_, hc 3 _ rfl, rfl⟩, ⟨_, hc 4 _ rfl, rfl⟩, trivial⟩
def ansB (r : Int) (x : Int × Int) : Int × Int × Int := if r = 0 then (0, 0, 6) else (x.1, x.2, 0)
theorem clo44 {b : BS.Bs} {x y k : Int} (hq : AskB b x y k) (T : TypeId) (w W : World) (hL : Laid Tryz.prog w) (hW : Below (askW (bsCs b) T x y k w).heap.size (askW (bsCs b) T x y k w) W) :
    (b.r ≠ 0 → Calls Tryz.prog 44 #[.pointer (some ⟨w.heap.size, 0, none⟩), .pointer (some ⟨w.heap.size + 1, 0, none⟩), .pointer (some ⟨w.heap.size + 1 + 1, 0, none⟩), .pointer (some ⟨w.heap.size + 1 + 1 + 1, 0, none⟩)] W fun e W' => e = .returned (.agg #[.int .i64 (cpA b x y k).1, .int .i64 (cpA b x y k).2]) ∧ Below W.heap.size W W') ∧
    (b.r = 0 → Calls Tryz.prog 44 #[.pointer (some ⟨w.heap.size, 0, none⟩), .pointer (some ⟨w.heap.size + 1, 0, none⟩), .pointer (some ⟨w.heap.size + 1 + 1, 0, none⟩), .pointer (some ⟨w.heap.size + 1 + 1 + 1, 0, none⟩)] W fun e W' => e = .panicked [{ v := rfu 6, recovered := false }] ∧ Below W.heap.size W W') := by
  obtain ⟨hb, hz, a0, a1, a2, a3, a4⟩ := askW_at (bsCs b) T x y k w
  have hLW := below_laid (below_laid hL hb) hW
  have hsz := hW.size
  rw [hz] at hsz
  have c0 := (hW.block _ (by rw [hz]; omega)).trans a0
  have c1 := (hW.block _ (by rw [hz]; omega)).trans a1
  have c2 := (hW.block _ (by rw [hz]; omega)).trans a2
  have c3 := (hW.block _ (by rw [hz]; omega)).trans a3
  have hvl : VL (ctx0 W fun b => b < W.heap.size) (askBV b x y k) [.pointer (some ⟨w.heap.size, 0, none⟩), .pointer (some ⟨w.heap.size + 1, 0, none⟩), .pointer (some ⟨w.heap.size + 1 + 1, 0, none⟩), .pointer (some ⟨w.heap.size + 1 + 1 + 1, 0, none⟩)] := by
    simp only [VL]
    exact ⟨_, _, rfl, V_pbs (by show w.heap.size < W.heap.size; omega) c0, _, _, rfl, V_p1 (by show w.heap.size + 1 < W.heap.size; omega) c1, _, _, rfl, V_p1 (by show w.heap.size + 1 + 1 < W.heap.size; omega) c2, _, _, rfl, V_p1 (by show w.heap.size + 1 + 1 + 1 < W.heap.size; omega) c3, rfl⟩
  refine ⟨fun h1 => ?_, fun h1 => ?_⟩
  · refine (calls_sound Tryz.func44 (by kernel_rfl) (by kernel_rfl) sound44 (F44_eq hq h1) W hLW hvl).mono ?_
    rintro e W' ⟨v, rfl, hb', hv⟩
    simp only [V, VL] at hv
    obtain ⟨_, rfl, _, _, rfl, rfl, _, _, rfl, rfl, rfl⟩ := hv
    exact ⟨rfl, hb'⟩
  · exact calls_soundP soundP44 (show G44 (askBV b x y k) = some (rfu 6) from if_pos ⟨b, x, y, k, rfl, hq, h1⟩) W hLW hvl
theorem c18_calls {b : BS.Bs} {x y k : Int} (hq : AskB b x y k) (w : World) (hL : Laid Tryz.prog w) :
    Calls Tryz.prog 18 #[.agg (bsCs b), .int .i64 x, .int .i64 y, .int .i64 k] w fun e w' => e = .returned (tupA (ansB b.r (cpA b x y k))) ∧ Below w.heap.size w w' := by
  have hmf : ∀ (fn : Fn) (first cap : Array Value) (w : World), (Instr.makeFunc fn first cap).run Tryz.prog w = .ok (.func fn first cap) w := fun _ _ _ _ => rfl
  have hcl := clo44 hq 48 w
  obtain ⟨hb, hz, a0, a1, a2, a3, a4⟩ := askW_at (bsCs b) 48 x y k w
  have htold : Calls Tryz.prog 27 #[.func (.func 44) #[] #[.pointer (some ⟨w.heap.size, 0, none⟩), .pointer (some ⟨w.heap.size + 1, 0, none⟩), .pointer (some ⟨w.heap.size + 1 + 1, 0, none⟩), .pointer (some ⟨w.heap.size + 1 + 1 + 1, 0, none⟩)]] (askW (bsCs b) 48 x y k w) fun e w' => e = .returned (tupA (ansB b.r (cpA b x y k))) ∧ Below (askW (bsCs b) 48 x y k w).heap.size (askW (bsCs b) 48 x y k w) w' := by
    unfold ansB
    by_cases h2 : b.r = 0
    · rw [if_pos h2]
      exact told_bad44 _ 6 _ fun W hW => (hcl W hL hW).2 h2
    · rw [if_neg h2]
      exact told_ok44 _ _ _ _ fun W hW => (hcl W hL hW).1 h2
  generalize ansB b.r (cpA b x y k) = z at *
  go_enter Tryz.func18, Tryz.ntmps18
  go_wp2_with fail
  refine htold.mono ?_
  rintro e W ⟨rfl, hW⟩
  have hsz := hW.size
  rw [hz] at hsz
  have g0 := (hW.block _ (by rw [hz]; omega)).trans a4
  have c0 : W.cell? ⟨w.heap.size + 1 + 1 + 1 + 1, 0, none⟩ = some (.int .i64 0) := by simp [World.cell?, g0]
  have c1 : W.cell? ⟨w.heap.size + 1 + 1 + 1 + 1, 1, none⟩ = some (.int .i64 0) := by simp [World.cell?, g0]
  have f0 : W.frozen? ⟨w.heap.size + 1 + 1 + 1 + 1, 0, none⟩ = false := by simp [World.frozen?, g0]
  have f1 : W.frozen? ⟨w.heap.size + 1 + 1 + 1 + 1, 1, none⟩ = false := by simp [World.frozen?, g0]
  clear htold hcl
  go_wp2
  have hV : Below w.heap.size w ((W.setCell ⟨w.heap.size + 1 + 1 + 1 + 1, 0, none⟩ (.int .i64 z.1)).setCell ⟨w.heap.size + 1 + 1 + 1 + 1, 1, none⟩ (.int .i64 z.2.1)) :=
    ((hb.trans (hW.mono (by rw [hz]; omega))).setCell (by simp; omega) _).setCell (by simp; omega) _
  have k0 := cells_set (i := 1) (cells_set (i := 0) g0 (.int .i64 z.1)) (.int .i64 z.2.1)
  clear hW c0 c1 f0 f1 g0 hsz
  generalize ((W.setCell ⟨w.heap.size + 1 + 1 + 1 + 1, 0, none⟩ (.int .i64 z.1)).setCell ⟨w.heap.size + 1 + 1 + 1 + 1, 1, none⟩ (.int .i64 z.2.1)) = V at *
  have d0 : V.cell? ⟨w.heap.size + 1 + 1 + 1 + 1, 0, none⟩ = some (.int .i64 z.1) := by simp [World.cell?, k0]
  have d1 : V.cell? ⟨w.heap.size + 1 + 1 + 1 + 1, 1, none⟩ = some (.int .i64 z.2.1) := by simp [World.cell?, k0]
  refine ⟨rfl, tupA z, ?_, rfl, hV⟩
  simp [results, Tryz.results18, go_sem, d0, d1]
def R18 (ys : List AVal) (r : AVal) : Prop := ∃ b x y k, ys = [BS.BK b, .int .i64 x, .int .i64 y, .int .i64 k] ∧ AskB b x y k ∧ r = avA (ansB b.r (cpA b x y k))
open Classical in
noncomputable def F18 (ys : List AVal) : Option AVal := if h : ∃ r, R18 ys r then some h.choose else none
theorem sound18 : Sound Tryz.prog 18 F18 := by
  refine sound_calls Tryz.func18 (by kernel_rfl) (by kernel_rfl) ?_
  intro ys r hr w S vs hS hL hl
  unfold F18 at hr
  split at hr
  · rename_i hx
    have hsp := hx.choose_spec
    cases hr
    generalize hx.choose = r at *
    obtain ⟨b, x, y, k, rfl, hq, rfl⟩ := hsp
    simp only [VL, V] at hl
    obtain ⟨_, _, rfl, ⟨_, rfl, _, _, rfl, rfl, _, _, rfl, rfl, _, _, rfl, rfl, _, _, rfl, rfl, _, _, rfl, rfl, rfl⟩, _, _, rfl, rfl, _, _, rfl, rfl, _, _, rfl, rfl, rfl⟩ := hl
    refine (c18_calls hq w hL).mono ?_
    rintro e w' ⟨rfl, hb⟩
    obtain ⟨q1, q2, q3⟩ := env_below hb
    refine ⟨_, rfl, q1, q2, q3, ?_⟩
    simp only [V, VL]
    exact ⟨_, rfl, _, _, rfl, ⟨_, rfl, _, _, rfl, rfl, _, _, rfl, rfl, rfl⟩, _, _, rfl, rfl, rfl⟩
  · cases hr
theorem F18_eq {b : BS.Bs} {x y k : Int} (hq : AskB b x y k) : F18 [BS.BK b, .int .i64 x, .int .i64 y, .int .i64 k] = some (avA (ansB b.r (cpA b x y k))) := by
  have hx : ∃ r, R18 [BS.BK b, .int .i64 x, .int .i64 y, .int .i64 k] r := ⟨_, b, x, y, k, rfl, hq, rfl⟩
  unfold F18
  rw [dif_pos hx]
  have hsp := hx.choose_spec
  generalize hx.choose = r at *
  obtain ⟨b', x', y', k', he, hq', rfl⟩ := hsp
  obtain ⟨s, m, u, r, l⟩ := b
  obtain ⟨s', m', u', r', l'⟩ := b'
  simp only [List.cons.injEq, AVal.agg.injEq, AVal.int.injEq, true_and, and_true] at he
  obtain ⟨⟨rfl, rfl, rfl, rfl, rfl⟩, rfl, rfl, rfl⟩ := he
  rfl
theorem clo47 {b : BS.Bs} {x y k : Int} (hq : AskB b x y k) (T : TypeId) (w W : World) (hL : Laid Tryz.prog w) (hW : Below (askW (bsCs b) T x y k w).heap.size (askW (bsCs b) T x y k w) W) :
    (b.r ≠ 0 → Calls Tryz.prog 47 #[.pointer (some ⟨w.heap.size, 0, none⟩), .pointer (some ⟨w.heap.size + 1, 0, none⟩), .pointer (some ⟨w.heap.size + 1 + 1, 0, none⟩), .pointer (some ⟨w.heap.size + 1 + 1 + 1, 0, none⟩)] W fun e W' => e = .returned (.agg #[.int .i64 (cpkA b x y k).1, .int .i64 (cpkA b x y k).2]) ∧ Below W.heap.size W W') ∧
    (b.r = 0 → Calls Tryz.prog 47 #[.pointer (some ⟨w.heap.size, 0, none⟩), .pointer (some ⟨w.heap.size + 1, 0, none⟩), .pointer (some ⟨w.heap.size + 1 + 1, 0, none⟩), .pointer (some ⟨w.heap.size + 1 + 1 + 1, 0, none⟩)] W fun e W' => e = .panicked [{ v := rfu 6, recovered := false }] ∧ Below W.heap.size W W') := by
  obtain ⟨hb, hz, a0, a1, a2, a3, a4⟩ := askW_at (bsCs b) T x y k w
  have hLW := below_laid (below_laid hL hb) hW
  have hsz := hW.size
  rw [hz] at hsz
  have c0 := (hW.block _ (by rw [hz]; omega)).trans a0
  have c1 := (hW.block _ (by rw [hz]; omega)).trans a1
  have c2 := (hW.block _ (by rw [hz]; omega)).trans a2
  have c3 := (hW.block _ (by rw [hz]; omega)).trans a3
  have hvl : VL (ctx0 W fun b => b < W.heap.size) (askBV b x y k) [.pointer (some ⟨w.heap.size, 0, none⟩), .pointer (some ⟨w.heap.size + 1, 0, none⟩), .pointer (some ⟨w.heap.size + 1 + 1, 0, none⟩), .pointer (some ⟨w.heap.size + 1 + 1 + 1, 0, none⟩)] := by
    simp only [VL]
    exact ⟨_, _, rfl, V_pbs (by show w.heap.size < W.heap.size; omega) c0, _, _, rfl, V_p1 (by show w.heap.size + 1 < W.heap.size; omega) c1, _, _, rfl, V_p1 (by show w.heap.size + 1 + 1 < W.heap.size; omega) c2, _, _, rfl, V_p1 (by show w.heap.size + 1 + 1 + 1 < W.heap.size; omega) c3, rfl⟩
  refine ⟨fun h1 => ?_, fun h1 => ?_⟩
  · refine (calls_sound Tryz.func47 (by kernel_rfl) (by kernel_rfl) sound47 (F47_eq hq h1) W hLW hvl).mono ?_
    rintro e W' ⟨v, rfl, hb', hv⟩
    simp only [V, VL] at hv
    obtain ⟨_, rfl, _, _, rfl, rfl, _, _, rfl, rfl, rfl⟩ := hv
    exact ⟨rfl, hb'⟩
  · exact calls_soundP soundP47 (show G47 (askBV b x y k) = some (rfu 6) from if_pos ⟨b, x, y, k, rfl, hq, h1⟩) W hLW hvl
theorem c19_calls {b : BS.Bs} {x y k : Int} (hq : AskB b x y k) (w : World) (hL : Laid Tryz.prog w) :
    Calls Tryz.prog 19 #[.agg (bsCs b), .int .i64 x, .int .i64 y, .int .i64 k] w fun e w' => e = .returned (tupA (ansB b.r (cpkA b x y k))) ∧ Below w.heap.size w w' := by
  have hmf : ∀ (fn : Fn) (first cap : Array Value) (w : World), (Instr.makeFunc fn first cap).run Tryz.prog w = .ok (.func fn first cap) w := fun _ _ _ _ => rfl
  have hcl := clo47 hq 48 w
  obtain ⟨hb, hz, a0, a1, a2, a3, a4⟩ := askW_at (bsCs b) 48 x y k w
  have htold : Calls Tryz.prog 27 #[.func (.func 47) #[] #[.pointer (some ⟨w.heap.size, 0, none⟩), .pointer (some ⟨w.heap.size + 1, 0, none⟩), .pointer (some ⟨w.heap.size + 1 + 1, 0, none⟩), .pointer (some ⟨w.heap.size + 1 + 1 + 1, 0, none⟩)]] (askW (bsCs b) 48 x y k w) fun e w' => e = .returned (tupA (ansB b.r (cpkA b x y k))) ∧ Below (askW (bsCs b) 48 x y k w).heap.size (askW (bsCs b) 48 x y k w) w' := by
    unfold ansB
    by_cases h2 : b.r = 0
    · rw [if_pos h2]
      exact told_bad47 _ 6 _ fun W hW => (hcl W hL hW).2 h2
    · rw [if_neg h2]
      exact told_ok47 _ _ _ _ fun W hW => (hcl W hL hW).1 h2
  generalize ansB b.r (cpkA b x y k) = z at *
  go_enter Tryz.func19, Tryz.ntmps19
  go_wp2_with fail
  refine htold.mono ?_
  rintro e W ⟨rfl, hW⟩
  have hsz := hW.size
  rw [hz] at hsz
  have g0 := (hW.block _ (by rw [hz]; omega)).trans a4
  have c0 : W.cell? ⟨w.heap.size + 1 + 1 + 1 + 1, 0, none⟩ = some (.int .i64 0) := by simp [World.cell?, g0]
  have c1 : W.cell? ⟨w.heap.size + 1 + 1 + 1 + 1, 1, none⟩ = some (.int .i64 0) := by simp [World.cell?, g0]
  have f0 : W.frozen? ⟨w.heap.size + 1 + 1 + 1 + 1, 0, none⟩ = false := by simp [World.frozen?, g0]
  have f1 : W.frozen? ⟨w.heap.size + 1 + 1 + 1 + 1, 1, none⟩ = false := by simp [World.frozen?, g0]
  clear htold hcl
  go_wp2
  have hV : Below w.heap.size w ((W.setCell ⟨w.heap.size + 1 + 1 + 1 + 1, 0, none⟩ (.int .i64 z.1)).setCell ⟨w.heap.size + 1 + 1 + 1 + 1, 1, none⟩ (.int .i64 z.2.1)) :=
    ((hb.trans (hW.mono (by rw [hz]; omega))).setCell (by simp; omega) _).setCell (by simp; omega) _
  have k0 := cells_set (i := 1) (cells_set (i := 0) g0 (.int .i64 z.1)) (.int .i64 z.2.1)
  clear hW c0 c1 f0 f1 g0 hsz
  generalize ((W.setCell ⟨w.heap.size + 1 + 1 + 1 + 1, 0, none⟩ (.int .i64 z.1)).setCell ⟨w.heap.size + 1 + 1 + 1 + 1, 1, none⟩ (.int .i64 z.2.1)) = V at *
  have d0 : V.cell? ⟨w.heap.size + 1 + 1 + 1 + 1, 0, none⟩ = some (.int .i64 z.1) := by simp [World.cell?, k0]
  have d1 : V.cell? ⟨w.heap.size + 1 + 1 + 1 + 1, 1, none⟩ = some (.int .i64 z.2.1) := by simp [World.cell?, k0]
  refine ⟨rfl, tupA z, ?_, rfl, hV⟩
  simp [results, Tryz.results19, go_sem, d0, d1]
def R19 (ys : List AVal) (r : AVal) : Prop := ∃ b x y k, ys = [BS.BK b, .int .i64 x, .int .i64 y, .int .i64 k] ∧ AskB b x y k ∧ r = avA (ansB b.r (cpkA b x y k))
open Classical in
noncomputable def F19 (ys : List AVal) : Option AVal := if h : ∃ r, R19 ys r then some h.choose else none
theorem sound19 : Sound Tryz.prog 19 F19 := by
  refine sound_calls Tryz.func19 (by kernel_rfl) (by kernel_rfl) ?_
  intro ys r hr w S vs hS hL hl
  unfold F19 at hr
  split at hr
  · rename_i hx
    have hsp := hx.choose_spec
    cases hr
    generalize hx.choose = r at *
    obtain ⟨b, x, y, k, rfl, hq, rfl⟩ := hsp
    simp only [VL, V] at hl
    obtain ⟨_, _, rfl, ⟨_, rfl, _, _, rfl, rfl, _, _, rfl, rfl, _, _, rfl, rfl, _, _, rfl, rfl, _, _, rfl, rfl, rfl⟩, _, _, rfl, rfl, _, _, rfl, rfl, _, _, rfl, rfl, rfl⟩ := hl
    refine (c19_calls hq w hL).mono ?_
    rintro e w' ⟨rfl, hb⟩
    obtain ⟨q1, q2, q3⟩ := env_below hb
    refine ⟨_, rfl, q1, q2, q3, ?_⟩
    simp only [V, VL]
    exact ⟨_, rfl, _, _, rfl, ⟨_, rfl, _, _, rfl, rfl, _, _, rfl, rfl, rfl⟩, _, _, rfl, rfl, rfl⟩
  · cases hr
theorem F19_eq {b : BS.Bs} {x y k : Int} (hq : AskB b x y k) : F19 [BS.BK b, .int .i64 x, .int .i64 y, .int .i64 k] = some (avA (ansB b.r (cpkA b x y k))) := by
  have hx : ∃ r, R19 [BS.BK b, .int .i64 x, .int .i64 y, .int .i64 k] r := ⟨_, b, x, y, k, rfl, hq, rfl⟩
  unfold F19
  rw [dif_pos hx]
  have hsp := hx.choose_spec
  generalize hx.choose = r at *
  obtain ⟨b', x', y', k', he, hq', rfl⟩ := hsp
  obtain ⟨s, m, u, r, l⟩ := b
  obtain ⟨s', m', u', r', l'⟩ := b'
  simp only [List.cons.injEq, AVal.agg.injEq, AVal.int.injEq, true_and, and_true] at he
  obtain ⟨⟨rfl, rfl, rfl, rfl, rfl⟩, rfl, rfl, rfl⟩ := he
  rfl
end Go.Proofs.YtkonpbcnekcjjaaGreatDoor.DV
namespace Go.Proofs.YtkonpbcnekcjjaaGreatDoor
open Go Go.RowKit Go.Shelf
def Abid {α : Type} (Z : Nat → Prop) (J : List α → World → Prop) : Prop := ∀ s W b i v, Z b → J s W → J s (W.setCell ⟨b, i, none⟩ v)
def SeqF {α : Type} (F : Fence) (n : Nat) (P : Program) (g : Nat) (lb : Array Value) (encs : α → Array Value) (Kp : World → World → Prop) (S : List α → Prop) (Z : Nat → Prop) (w : World) : Prop :=
  ∀ (l : Nat) (J : List α → World → Prop) (W : World), Below w.heap.size w W → AbidesFrom W.heap.size J → Abid Z J →
    (∀ pre x W1, J pre W1 → YieldAt F (n - 1) P l (encs x) W1 fun e W' => e = .returned (.bool true) ∧ J (pre ++ [x]) W' ∧ Kp W1 W') →
    J [] W →
    CallsIn F n P g (#[.func (.yield l) #[] #[]] ++ lb) W fun e W' => (∃ v, e = .returned v) ∧ ∃ xs, S xs ∧ J xs W'
def goesOn {α : Type} (B : Nat) (Kp : World → World → Prop) (I : List α → World → Prop) (xs : List α) (W : World) : Exit → Act → World → Prop
  | .normal, _, W' => KeepsFrom B W W' ∧ Kp W W' ∧ I xs W'
  | _, _, _ => False
theorem box_other {W : World} {Bf b i : Nat} (v : Value) (h : b ≠ Bf) : (W.setCell ⟨Bf, i, none⟩ v).heap[b]? = W.heap[b]? := Below.heap_setCell W ⟨Bf, i, none⟩ v b h
section
variable {α : Type} {F : Fence} {n : Nat} {P : Program} {g : Operand} {ps : Array Tmp} {assign body : Code} {Q : Exit → Act → World → Prop} {a : Act} {w : World}
theorem range_first (hro : F.round = none) (h1 : 1 ≤ n) {gf : Nat} {Z : Nat → Prop} {lb : Array Value} (hg : a.eval g = .func (.func gf) #[] lb) (hFg : F.fn gf) (eg : ∀ args w, (callFunc gf args).run P w = .ok (.enter gf args) w)
    {encs : α → Array Value} {Kp : World → World → Prop} {S : List α → Prop} (hseq : SeqF F (n - 1) P gf lb encs Kp S Z w) (hBf : ∀ b, Z b → b < w.heap.size)
    (hKt : ∀ {A B C : World}, Kp A B → Kp B C → Kp A C) (hKb : ∀ (W : World) (l : Nat) (o o' : Obj), w.heap.size ≤ l → W.heap[l]? = some o → o.isCells = false → Kp W (W.putObj l o')) (hps : ∀ x, (encs x).size = ps.size)
    (I : List α → World → Prop) (hI : OwnFrom w.heap.size I) (hIf : Abid Z I) (h0 : I [] w) (Ax : α → Act → World → Prop) (hAx : ∀ x a', OwnFrom w.heap.size (fun (_ : Unit) W => Ax x a' W))
    (hassign : ∀ (l : Nat) (pre : List α) (x : α) (W : World) (K : Act → World → Prop), I pre W → (∀ a' W', KeepsFrom w.heap.size W W' → Kp W W' → I pre W' → Ax x a' W' → K a' W') →
      assign.wpIn (F.inRound l) (n - 1 - 1) P (Exit.then K (fun _ _ _ => False)) { tmps := (ps.zip (encs x)).foldl (fun t (p, v) => t.setIfInBounds p v) a.tmps, defers := [] } W)
    (hbody : ∀ (l : Nat) (pre : List α) (x : α) (a' : Act) (W : World), w.heap.size ≤ l → I pre W → Ax x a' W → body.wpIn (F.inRound l) (n - 1 - 1) P (goesOn w.heap.size Kp I (pre ++ [x]) W) a' W)
    (hdone : ∀ (D : Nat) (xs : List α) (W : World), w.heap.size ≤ D → S xs → I xs W → W.heap[D]? = some (.deferred (some [])) → Q .normal { a with defers := { target := .collected D, args := #[] } :: a.defers } W) :
    (Code.rangeFunc g ps assign body).wpIn F n P Q a w := by
  refine wpIn_rangeFunc ?_
  intro fn hfn
  rw [hro]

  obtain ⟨r, hr⟩ : ∃ r : LoopState → Option Code → Loop, r = fun st pe => { state := st, pending := pe, fn, tmps := a.tmps, params := ps, assign, body, defers := w.heap.size } := ⟨_, rfl⟩
  obtain ⟨V, hV⟩ : ∃ V, (w.alloc (.deferred (some []))).alloc (.loop (r .ready none)) = V := ⟨_, rfl⟩
  have hl0 : V.heap[w.heap.size + 1]? = some (.loop (r .ready none)) := by
    have := World.alloc_heap_new (w.alloc (.deferred (some []))) (.loop (r .ready none))
    rw [World.size_alloc] at this
    rw [← hV]
    exact this
  have hd0 : V.heap[w.heap.size]? = some (.deferred (some [])) := by
    rw [← hV]
    exact (Below.heap_alloc _ _ _ (by simp)).trans (World.alloc_heap_new w _)
  have hi0 : I [] V := by rw [← hV]; exact hI.alloc _ (hI.alloc _ h0)
  have hbV : Below w.heap.size w V := by rw [← hV]; exact ((Below.refl _ w).alloc (Nat.le_refl _) _).alloc (by simp) _
  have hsV : V.heap.size = w.heap.size + 2 := by rw [← hV]; simp
  refine ⟨w.heap.size + 1, [{ target := .collected w.heap.size, args := #[] }], V, { target := .fn (.func gf) lb, args := #[.func (.yield (w.heap.size + 1)) #[] #[]] }, V, gf, #[.func (.yield (w.heap.size + 1)) #[] #[]] ++ lb, V, ?_, ?_, ?_, ?_, fun _ => h1, ?_⟩
  · rw [← hV, hr]
    exact run_enterLoop_outer _ _ _ _ _
  · simp only [resolve, hg]
    simp [go_sem]
  · intro f' hf'
    simp [Target.leads] at hf'
    subst hf'
    exact hFg
  · simp [invoke, go_sem, eg]
  refine (hseq (w.heap.size + 1) (fun pre W => I pre W ∧ W.heap[w.heap.size + 1]? = some (.loop (r .ready none)) ∧ W.heap[w.heap.size]? = some (.deferred (some []))) V hbV ?_ ?_ ?_ ⟨hi0, hl0, hd0⟩).mono ?_
  · intro s A B row hs hg' hrow
    refine ⟨hI s A B row hs.1 hg' (fun q e => ?_), (grownBy_keeps hg' (fun q e => (hrow q e).2) hs.2.1 rfl).trans hs.2.1, (grownBy_keeps hg' (fun q e => (hrow q e).2) hs.2.2 rfl).trans hs.2.2⟩
    obtain ⟨hB, o, ho, hw⟩ := hrow q e
    exact ⟨by omega, o, ho, Obj.not_cells_of_walk hw⟩
  · intro s W b i v hb hs
    have hlt := hBf b hb
    exact ⟨hIf s W b i v hb hs.1, (box_other v (by omega)).trans hs.2.1, (box_other v (by omega)).trans hs.2.2⟩
  · rintro pre x W ⟨hi, hl, hd⟩
    have hy := run_yield (P := P) (args := encs x) hl (by rw [hr]; exact hps x)
    rw [hr] at hy
    refine ⟨fn, _, assign, body, hy, roundIn_of_wpIn hfn (hassign _ pre x W _ hi ?_)⟩
    clear hy
    intro a' Wa hk1 hp1 hi1 hax
    have hla := hk1.same _ _ (by omega) hl rfl
    have hda := hk1.same _ _ (Nat.le_refl _) hd rfl
    have hlt := (Array.getElem?_eq_some_iff.1 hla).1
    refine ⟨_, run_beginRound hla (by rw [hr]), ?_⟩
    have hl2 : (Wa.putObj (w.heap.size + 1) (.loop { r .ready none with state := .busy })).heap[w.heap.size + 1]? = some (.loop { r .ready none with state := .busy }) := World.putObj_heap_same hlt
    have hd2 : (Wa.putObj (w.heap.size + 1) (.loop { r .ready none with state := .busy })).heap[w.heap.size]? = some (.deferred (some [])) := (World.putObj_heap_other (by omega)).trans hda
    have hp2 := hKb Wa _ _ (.loop { r .ready none with state := .busy }) (by omega : w.heap.size ≤ w.heap.size + 1) hla rfl
    refine wpIn_mono (hbody _ pre x a' _ (by omega) (hI.putObj _ hi1 (by omega) hla rfl) ((hAx x a').putObj (s := ()) _ hax (by omega) hla rfl)) ?_
    rintro e a3 W3 hp
    cases e with
    | normal =>
      obtain ⟨hk3, hp3, hi3⟩ := hp
      have hl3 := hk3.same _ _ (by omega) hl2 rfl
      have hd3 := hk3.same _ _ (Nat.le_refl _) hd2 rfl
      have he := run_endRound (P := P) none hl3
      rw [hr] at he
      refine ⟨_, _, he, rfl, ⟨hI.putObj _ hi3 (by omega) hl3 rfl, ?_, (World.putObj_heap_other (by omega)).trans hd3⟩, hKt hp1 (hKt (hKt hp2 hp3) (hKb _ _ _ _ (by omega) hl3 rfl))⟩
      rw [hr]
      exact World.putObj_heap_same (Array.getElem?_eq_some_iff.1 hl3).1
    | _ => exact hp.elim
  · rintro e W2 ⟨⟨v, rfl⟩, xs, hS, hi, hl, hd⟩
    exact ⟨none, _, by have := run_endLoop (P := P) hl (by rw [hr]; simp); rw [hr] at this; exact this, hdone _ xs _ (Nat.le_refl _) hS (hI.putObj _ hi (by omega) hl rfl) ((World.putObj_heap_other (by omega)).trans hd)⟩
end
end Go.Proofs.YtkonpbcnekcjjaaGreatDoor
namespace Go.Proofs.YtkonpbcnekcjjaaGreatDoor.DV
open Go Go.Xec Go.RowKit Go.Shelf
def eu : Nat → Int → Int → List Int
  | 0, _, _ => []
  | n + 1, a, b => if b = 0 then [] else b :: eu n b (a % b)
def lastI (a : Int) (l : List Int) : Int := l.getLastD a
def gcdI (a b : Int) : Int := (Nat.gcd a.toNat b.toNat : Nat)
theorem gcdI_zero {a : Int} (h : 0 ≤ a) : gcdI a 0 = a := by
  unfold gcdI
  rw [Int.toNat_zero, Nat.gcd_zero_right]
  omega
theorem gcdI_step {a b : Int} (ha : 0 ≤ a) (hb : 0 < b) : gcdI b (a % b) = gcdI a b := by
  unfold gcdI
  obtain ⟨m, rfl⟩ : ∃ m : Nat, a = m := ⟨a.toNat, by omega⟩
  obtain ⟨k, rfl⟩ : ∃ k : Nat, b = k := ⟨b.toNat, by omega⟩
  rw [← Int.natCast_emod]
  simp only [Int.toNat_natCast]
  rw [Nat.gcd_comm m k, Nat.gcd_rec k m, Nat.gcd_comm]
theorem eu_gcd : ∀ (n : Nat) (a b : Int), 0 ≤ a → 0 ≤ b → b < n → lastI a (eu n a b) = gcdI a b
  | 0, a, b, ha, hb, h => by omega
  | n + 1, a, b, ha, hb, h => by
    rw [eu]
    split
    · rename_i e
      subst e
      rw [gcdI_zero ha]; rfl
    · rename_i e
      have h1 := Int.emod_nonneg a e
      have h2 := Int.emod_lt_of_pos a (show 0 < b by omega)
      have := eu_gcd n b (a % b) hb h1 (by omega)
      rw [gcdI_step ha (by omega)] at this
      rw [← this]
      unfold lastI
      rw [List.getLastD_cons]
theorem eu_fuel : ∀ (n m : Nat) (a b : Int), 0 ≤ b → b < n → b < m → eu n a b = eu m a b
  | 0, m, a, b, hb, h, _ => by omega
  | n + 1, 0, a, b, hb, h, h' => by omega
  | n + 1, m + 1, a, b, hb, h, h' => by
    rw [eu, eu]
    split
    · rfl
    · rename_i e
      have h1 := Int.emod_nonneg a e
      have h2 := Int.emod_lt_of_pos a (show 0 < b by omega)
      rw [eu_fuel n m b (a % b) h1 (by omega) (by omega)]
theorem lastI_snoc (a : Int) (l : List Int) (x : Int) : lastI a (l ++ [x]) = x := by simp [lastI]
theorem F58_w {a b : Int} (ha : U a) (hb : U b) (h : b ≠ 0) : F58 [W 0 a, W 0 b] = some (.tup [W 0 (a / b), W 0 (a % b), .int .i64 0]) := by
  have h1 := F58_eq (n := a) (y := b) ⟨ha.1, by have := ha.2; unfold big; omega⟩ ⟨by have := hb.1; omega, hb.2⟩
  have z0 : ∀ x : Int, U x → x / 18446744073709551616 = 0 ∧ x % 18446744073709551616 = x := fun x hx => ⟨Int.ediv_eq_zero_of_lt hx.1 hx.2, Int.emod_eq_of_lt hx.1 hx.2⟩
  have hq : U (a / b) := ⟨Int.ediv_nonneg ha.1 hb.1, Int.lt_of_le_of_lt (Int.ediv_le_self b ha.1) ha.2⟩
  have hm : U (a % b) := ⟨Int.emod_nonneg a h, Int.lt_trans (Int.emod_lt_of_pos a (by have := hb.1; omega)) hb.2⟩
  simp only [enc, (z0 a ha).1, (z0 a ha).2, (z0 b hb).1, (z0 b hb).2, (z0 _ hq).1, (z0 _ hq).2, (z0 _ hm).1, (z0 _ hm).2] at h1
  exact h1
theorem F58_w0 {a : Int} (ha : U a) : F58 [W 0 a, W 0 0] = some (.tup [W 0 0, W 0 0, .int .i64 4]) := by
  have h1 : F58 [enc a, W 0 0] = some (.tup [W 0 0, W 0 0, .int .i64 4]) := F58_zero
  simp only [enc, Int.ediv_eq_zero_of_lt ha.1 ha.2, Int.emod_eq_of_lt ha.1 ha.2] at h1
  exact h1
abbrev bxW (x : Int) : Array Value := #[.int .u64 0, .int .u64 x]
abbrev encW (x : Int) : Array Value := #[.agg (bxW x)]
def KpA (n₀ Bc : Nat) (A A' : World) : Prop := Below n₀ A A' ∧ ∀ b cs T f, b ≠ Bc → A.heap[b]? = some (.cells cs T f) → A'.heap[b]? = some (.cells cs T f)
theorem div_calls {a b : Int} (ha : U a) (hb : U b) (w : World) (hL : Laid Tryz.prog w) : Calls Tryz.prog 58 #[.agg (bxW a), .agg (bxW b)] w fun e w' =>
    (b = 0 → e = .returned (.tuple #[.agg (bxW 0), .agg (bxW 0), .int .i64 4])) ∧ (b ≠ 0 → e = .returned (.tuple #[.agg (bxW (a / b)), .agg (bxW (a % b)), .int .i64 0])) ∧ Below w.heap.size w w' := by
  have hvl : VL (ctx0 w fun b => b < w.heap.size) [W 0 a, W 0 b] [.agg (bxW a), .agg (bxW b)] := by
    simp only [VL, V]
    exact ⟨_, _, rfl, ⟨_, rfl, _, _, rfl, rfl, _, _, rfl, rfl, rfl⟩, _, _, rfl, ⟨_, rfl, _, _, rfl, rfl, _, _, rfl, rfl, rfl⟩, rfl⟩
  by_cases h : b = 0
  · subst h
    refine (calls_sound Tryz.func58 (by kernel_rfl) (by kernel_rfl) sound58 (F58_w0 ha) w hL hvl).mono ?_
    rintro e w' ⟨v, rfl, hb', hv⟩
    simp only [V, VL] at hv
    obtain ⟨_, rfl, _, _, rfl, ⟨_, rfl, _, _, rfl, rfl, _, _, rfl, rfl, rfl⟩, _, _, rfl, ⟨_, rfl, _, _, rfl, rfl, _, _, rfl, rfl, rfl⟩, _, _, rfl, rfl, rfl⟩ := hv
    exact ⟨fun _ => rfl, fun h => absurd rfl h, hb'⟩
  · refine (calls_sound Tryz.func58 (by kernel_rfl) (by kernel_rfl) sound58 (F58_w ha hb h) w hL hvl).mono ?_
    rintro e w' ⟨v, rfl, hb', hv⟩
    simp only [V, VL] at hv
    obtain ⟨_, rfl, _, _, rfl, ⟨_, rfl, _, _, rfl, rfl, _, _, rfl, rfl, rfl⟩, _, _, rfl, ⟨_, rfl, _, _, rfl, rfl, _, _, rfl, rfl, rfl⟩, _, _, rfl, rfl, rfl⟩ := hv
    exact ⟨fun h' => absurd h' h, fun _ => rfl, hb'⟩
attribute [local go_sem] Oper.semAt_some
abbrev loOf (w : World) (b : Nat) : Nat := match w.cell? ⟨b, 1, none⟩ with | some (.int _ n) => n.toNat | _ => 0
def At0 (l Ba Bb Bc : Nat) (w0 : World) (J : List Int → World → Prop) (tot : List Int) (x y : Int) (pre : List Int) (a' : Act) (w' : World) : Prop :=
  (∃ u3 u4 u5 u6 u7 u8 u9 u10 u11 u12 u13 u14 u15 u16 u17 u18 u19 u20 u21 u22 u23 : Value, a' = { tmps := #[.func (.yield l) #[] #[], .pointer (some ⟨Ba, 0, none⟩), .pointer (some ⟨Bb, 0, none⟩), u3, u4, u5, u6, u7, u8, u9, u10, u11, u12, u13, u14, u15, u16, u17, u18, u19, u20, u21, u22, u23], defers := [] }) ∧
    w'.heap[Ba]? = some (.cells (bxW x) 26 (0, 0)) ∧ w'.heap[Bb]? = some (.cells (bxW y) 26 (0, 0)) ∧ U x ∧ U y ∧ pre ++ eu (y.toNat + 1) x y = tot ∧ J pre w' ∧ Below w0.heap.size w0 w' ∧ Bc < w'.heap.size
def digS : Option Code → Option Code
  | some (.scope (.seq _ c)) => some c
  | _ => none
theorem eu_next {pre tot : List Int} {x y : Int} (hx : U x) (hy : U y) (h0 : y ≠ 0) (h : pre ++ eu (y.toNat + 1) x y = tot) : (pre ++ [y]) ++ eu ((x % y).toNat + 1) y (x % y) = tot := by
  have h1 := Int.emod_nonneg x h0
  have h2 := Int.emod_lt_of_pos x (show 0 < y by have := hy.1; omega)
  have e : eu (y.toNat + 1) x y = y :: eu y.toNat y (x % y) := by rw [eu, if_neg h0]
  rw [← h, e, List.append_assoc, List.singleton_append, eu_fuel y.toNat ((x % y).toNat + 1) y (x % y) h1 (by omega) (by omega)]
set_option maxRecDepth 100000 in
set_option maxHeartbeats 2000000 in
theorem st_pass (n l Ba Bb Bc : Nat) (w0 : World) (hL : Laid Tryz.prog w0) (hab : Ba ≠ Bb) (hna : w0.heap.size ≤ Ba) (hnb : w0.heap.size ≤ Bb) (hac : Ba ≠ Bc) (hbc : Bb ≠ Bc)
    (J : List Int → World → Prop) (hJg : ∀ s A B, J s A → Below A.heap.size A B → J s B) (hJz : Abid (fun k => k = Ba ∨ k = Bb) J)
    (hY : ∀ pre x W1, J pre W1 → YieldAt Fence.wide n Tryz.prog l (encW x) W1 fun e W' => e = .returned (.bool true) ∧ J (pre ++ [x]) W' ∧ KpA w0.heap.size Bc W1 W')
    {tot : List Int} {rest : Code} (hcode : digS Tryz.f115.body = some rest) (Jm : Act → World → Prop) {x y : Int} {pre : List Int} {a' : Act} {w' : World} (hat : At0 l Ba Bb Bc w0 J tot x y pre a' w')
    (hm : ∀ a'' w'', (∃ x' y' pre', At0 l Ba Bb Bc w0 J tot x' y' pre' a'' w'') → loOf w'' Bb < loOf w' Bb → Jm a'' w'') :
    rest.wp Tryz.prog (Exit.jump 0 Jm (bodyPost Tryz.prog Tryz.f115 fun e W' => (∃ v, e = .returned v) ∧ ∃ xs, xs = tot ∧ J xs W')) a' w' := by
  simp only [Tryz.f115, digS, Option.some.injEq] at hcode
  subst hcode
  obtain ⟨⟨u3, u4, u5, u6, u7, u8, u9, u10, u11, u12, u13, u14, u15, u16, u17, u18, u19, u20, u21, u22, u23, rfl⟩, hx, hy, hxU, hyU, hpe, hj, hbw, hcw⟩ := hat
  have cx0 : w'.cell? ⟨Ba, 0, none⟩ = some (.int .u64 0) := by simp [World.cell?, hx]
  have cx1 : w'.cell? ⟨Ba, 1, none⟩ = some (.int .u64 x) := by simp [World.cell?, hx]
  have cy0 : w'.cell? ⟨Bb, 0, none⟩ = some (.int .u64 0) := by simp [World.cell?, hy]
  have cy1 : w'.cell? ⟨Bb, 1, none⟩ = some (.int .u64 y) := by simp [World.cell?, hy]
  have hcy1 := cy1
  refine wpIn_wide (n := n + 1).1 ?_
  have hdiv := callsIn_wide (n := n).2 (div_calls hxU hyU w' (below_laid hL hbw))
  gi_wp2_with fail
  refine ⟨trivial, hdiv.mono ?_⟩
  rintro e w2 ⟨h1, h2, hb2⟩
  clear hdiv
  by_cases hy0 : y = 0
  · subst hy0
    obtain rfl := h1 rfl
    have hpe' : pre = tot := by rw [← hpe, Int.toNat_zero, eu, if_pos rfl, List.append_nil]
    have hbz : Below w'.heap.size w' ((w2.alloc (.cells #[.int .u64 0, .int .u64 0] 26)).alloc (.cells #[.int .u64 0, .int .u64 0] 26)) := hb2.trans (((Below.refl _ _).alloc hb2.size _).alloc (by have := hb2.size; simp; omega) _)
    have hjz := hJg _ _ _ hj hbz
    gi_wp2_with fail
    refine ⟨fun _ h => (by cases h), ?_⟩
    gi_wp2_with fail
    exact ⟨rfl, .tuple #[], by simp [results, Tryz.results115], ⟨_, rfl⟩, pre, hpe', hjz⟩
  · obtain rfl := h2 hy0
    clear h1 h2
    have cy02 : w2.cell? ⟨Bb, 0, none⟩ = some (.int .u64 0) := by simp [World.cell?, hb2.block _ (Array.getElem?_eq_some_iff.1 hy).1, hy]
    have cy12 : w2.cell? ⟨Bb, 1, none⟩ = some (.int .u64 y) := by simp [World.cell?, hb2.block _ (Array.getElem?_eq_some_iff.1 hy).1, hy]
    have hlt2 := Nat.lt_of_lt_of_le (Array.getElem?_eq_some_iff.1 hy).1 hb2.size
    clear cx0 cx1 cy0 cy1
    obtain ⟨w3, hw3⟩ : ∃ w3, w3 = (w2.alloc (.cells #[.int .u64 0, .int .u64 (x / y)] 26)).alloc (.cells #[.int .u64 0, .int .u64 (x % y)] 26) := ⟨_, rfl⟩
    have hz3 : w2.heap.size + 2 = w3.heap.size := by rw [hw3]; simp
    have hb23 : Below w2.heap.size w2 w3 := by rw [hw3]; exact ((Below.refl _ _).alloc (Nat.le_refl _) _).alloc (by simp) _
    have hb3 : Below w'.heap.size w' w3 := hb2.trans (hb23.mono hb2.size)
    have hj3 := hJg _ _ _ hj hb3
    obtain ⟨fn, tmps, assign, body, hyl, hR⟩ := hY pre y w3 hj3
    dsimp only [encW, bxW] at hyl
    have g5 : w3.heap[w2.heap.size + 1]? = some (.cells #[.int .u64 0, .int .u64 (x % y)] 26 (0, 0)) := by
      rw [hw3]
      have := World.alloc_heap_new (w2.alloc (.cells #[.int .u64 0, .int .u64 (x / y)] 26)) (.cells #[.int .u64 0, .int .u64 (x % y)] 26)
      rwa [World.size_alloc] at this
    rw [hw3] at hyl
    gi_wp2_with fail
    rw [← hw3] at *
    have g4 : w3.heap[Bb]? = some (.cells (bxW y) 26 (0, 0)) := (hb3.block _ (Array.getElem?_eq_some_iff.1 hy).1).trans hy
    have g3 : w3.heap[Ba]? = some (.cells (bxW x) 26 (0, 0)) := (hb3.block _ (Array.getElem?_eq_some_iff.1 hx).1).trans hx
    refine hR.mono ?_
    rintro e w4 ⟨rfl, hj4, hk1, hk2⟩
    have hz2 := hb2.size
    have q5 := hk2 _ _ _ _ (by omega) g5
    have q4 := hk2 _ _ _ _ hbc g4
    have q3 := hk2 _ _ _ _ hac g3
    have hbw4 : Below w0.heap.size w0 w4 := (hbw.trans (hb3.mono hbw.size)).trans hk1
    have hz4 := hk1.size
    have r0 : w4.cell? ⟨Bb, 0, none⟩ = some (.int .u64 0) := by simp [World.cell?, q4]
    have r1 : w4.cell? ⟨Bb, 1, none⟩ = some (.int .u64 y) := by simp [World.cell?, q4]
    have s0 : w4.cell? ⟨Ba, 0, none⟩ = some (.int .u64 0) := by simp [World.cell?, q3]
    have s1 : w4.cell? ⟨Ba, 1, none⟩ = some (.int .u64 x) := by simp [World.cell?, q3]
    have v0 : w4.cell? ⟨w2.heap.size + 1, 0, none⟩ = some (.int .u64 0) := by simp [World.cell?, q5]
    have v1 : w4.cell? ⟨w2.heap.size + 1, 1, none⟩ = some (.int .u64 (x % y)) := by simp [World.cell?, q5]
    have fr0 : w4.frozen? ⟨Bb, 0, none⟩ = false := by simp [World.frozen?, q4]
    have fr1 : w4.frozen? ⟨Bb, 1, none⟩ = false := by simp [World.frozen?, q4]
    have fs0 : w4.frozen? ⟨Ba, 0, none⟩ = false := by simp [World.frozen?, q3]
    have fs1 : w4.frozen? ⟨Ba, 1, none⟩ = false := by simp [World.frozen?, q3]
    have hba : Bb ≠ Ba := fun e => hab e.symm
    have hn1 : w2.heap.size + 1 ≠ Ba := by have := (Array.getElem?_eq_some_iff.1 hx).1; omega
    have hn2 : w2.heap.size + 1 ≠ Bb := by omega
    have hn3 : Ba ≠ w2.heap.size + 1 := fun e => hn1 e.symm
    have hn4 : Bb ≠ w2.heap.size + 1 := fun e => hn2 e.symm
    clear hyl hR
    gi_wp2_with fail
    refine wpIn_wide.2 ?_
    go_region
    have g6 := (cell_other (B := Bb) (b := Ba) (i := 1) (.int .u64 (x % y)) hab).trans ((cell_other (B := Bb) (b := Ba) (i := 0) (.int .u64 0) hab).trans (cells_set (i := 1) (cells_set (i := 0) q3 (.int .u64 0)) (.int .u64 y)))
    have g7 := cells_set (i := 1) (cells_set (i := 0) ((cell_other (W := w4.setCell ⟨Ba, 0, none⟩ (.int .u64 0)) (B := Ba) (b := Bb) (i := 1) (.int .u64 y) hba).trans ((cell_other (B := Ba) (b := Bb) (i := 0) (.int .u64 0) hba).trans q4)) (.int .u64 0)) (.int .u64 (x % y))
    have hj7 := hJz _ _ Bb 1 (.int .u64 (x % y)) (.inr rfl) (hJz _ _ Bb 0 (.int .u64 0) (.inr rfl) (hJz _ _ Ba 1 (.int .u64 y) (.inl rfl) (hJz _ _ Ba 0 (.int .u64 0) (.inl rfl) hj4)))
    have hb7 := (((hbw4.setCell (p := ⟨Ba, 0, none⟩) hna (.int .u64 0)).setCell (p := ⟨Ba, 1, none⟩) hna (.int .u64 y)).setCell (p := ⟨Bb, 0, none⟩) hnb (.int .u64 0)).setCell (p := ⟨Bb, 1, none⟩) hnb (.int .u64 (x % y))
    have hz7 : ((((w4.setCell ⟨Ba, 0, none⟩ (.int .u64 0)).setCell ⟨Ba, 1, none⟩ (.int .u64 y)).setCell ⟨Bb, 0, none⟩ (.int .u64 0)).setCell ⟨Bb, 1, none⟩ (.int .u64 (x % y))).heap.size = w4.heap.size := by simp
    generalize ((((w4.setCell ⟨Ba, 0, none⟩ (.int .u64 0)).setCell ⟨Ba, 1, none⟩ (.int .u64 y)).setCell ⟨Bb, 0, none⟩ (.int .u64 0)).setCell ⟨Bb, 1, none⟩ (.int .u64 (x % y))) = w7 at *
    have hj8 := hJg _ _ w7.drew hj7 (Below.refl _ _).drew
    have g8 : w7.drew.heap[Ba]? = some (.cells #[.int .u64 0, .int .u64 y] 26 (0, 0)) := g6
    have g9 : w7.drew.heap[Bb]? = some (.cells #[.int .u64 0, .int .u64 (x % y)] 26 (0, 0)) := g7
    have hb9 := hb7.drew
    have hz9 : w7.drew.heap.size = w4.heap.size := hz7
    generalize w7.drew = w9 at *
    simp only [Exit.then]
    gi_wp2_with fail
    have h1 := Int.emod_nonneg x hy0
    have h2 := Int.emod_lt_of_pos x (show 0 < y by have := hyU.1; omega)
    refine wpIn_goto ⟨rfl, hm _ _ ⟨y, x % y, pre ++ [y], ⟨_, _, _, _, _, _, _, _, _, _, _, _, _, _, _, _, _, _, _, _, _, rfl⟩, g8, g9, hyU, ⟨h1, Int.lt_trans h2 hyU.2⟩, eu_next hxU hyU hy0 hpe, hj8, hb9, by omega⟩ ?_⟩
    have l1 : w9.cell? ⟨Bb, 1, none⟩ = some (.int .u64 (x % y)) := by simp [World.cell?, g9]
    simp only [loOf, l1, hcy1]
    omega
theorem st_in (n l Ba Bb Bc : Nat) (w0 : World) (hL : Laid Tryz.prog w0) {a b : Int} (ha : U a) (hb : U b) (hab : Ba ≠ Bb) (hna : w0.heap.size ≤ Ba) (hnb : w0.heap.size ≤ Bb) (hac : Ba ≠ Bc) (hbc : Bb ≠ Bc)
    (J : List Int → World → Prop) (hJg : ∀ s A B, J s A → Below A.heap.size A B → J s B) (hJz : Abid (fun k => k = Ba ∨ k = Bb) J)
    (hY : ∀ pre x W1, J pre W1 → YieldAt Fence.wide n Tryz.prog l (encW x) W1 fun e W' => e = .returned (.bool true) ∧ J (pre ++ [x]) W' ∧ KpA w0.heap.size Bc W1 W')
    (W : World) (hW : Below w0.heap.size w0 W) (hcW : Bc < W.heap.size) (hBa : W.heap[Ba]? = some (.cells (bxW a) 26 (0, 0))) (hBb : W.heap[Bb]? = some (.cells (bxW b) 26 (0, 0))) (h0 : J [] W) :
    CallsIn Fence.wide (n + 1) Tryz.prog 115 #[.func (.yield l) #[] #[], .pointer (some ⟨Ba, 0, none⟩), .pointer (some ⟨Bb, 0, none⟩)] W fun e W' => (∃ v, e = .returned v) ∧ ∃ xs, xs = eu (b.toNat + 1) a b ∧ J xs W' := by
  refine callsIn_of_wp Tryz.func115 rfl trivial ?_ rfl
  simp only [Tryz.ntmps115, List.size_toArray, List.length_cons, List.length_nil, Nat.reduceAdd, Nat.reduceSub, Array.replicate_succ, Array.replicate_zero, List.push_toArray, List.append_toArray, List.nil_append, List.cons_append]
  refine wpIn_wide.2 ?_
  have hat : At0 l Ba Bb Bc w0 J (eu (b.toNat + 1) a b) a b [] { tmps := #[.func (.yield l) #[] #[], .pointer (some ⟨Ba, 0, none⟩), .pointer (some ⟨Bb, 0, none⟩), undef, undef, undef, undef, undef, undef, undef, undef, undef, undef, undef, undef, undef, undef, undef, undef, undef, undef, undef, undef, undef], defers := [] } W :=
    ⟨⟨_, _, _, _, _, _, _, _, _, _, _, _, _, _, _, _, _, _, _, _, _, rfl⟩, hBa, hBb, ha, hb, rfl, h0, hW, hcW⟩
  refine wp_scope_jumps 0 (fun a' w' => ∃ x y pre, At0 l Ba Bb Bc w0 J (eu (b.toNat + 1) a b) x y pre a' w') (fun _ w' => loOf w' Bb) rfl ?_ ?_
  · refine wp_seq (wp_label ?_)
    exact st_pass n l Ba Bb Bc w0 hL hab hna hnb hac hbc J hJg hJz hY rfl (fun a' w' => ∃ x y pre, At0 l Ba Bb Bc w0 J (eu (b.toNat + 1) a b) x y pre a' w') hat (fun a'' w'' h _ => h)
  · rintro a' w' ⟨x, y, pre, h⟩
    refine wp_seq (wp_skip ?_)
    exact st_pass n l Ba Bb Bc w0 hL hab hna hnb hac hbc J hJg hJz hY rfl (fun a'' w'' => (∃ x y pre, At0 l Ba Bb Bc w0 J (eu (b.toNat + 1) a b) x y pre a'' w'') ∧ loOf w'' Bb < loOf w' Bb) h (fun a'' w'' h1 h2 => ⟨h1, h2⟩)
end Go.Proofs.YtkonpbcnekcjjaaGreatDoor.DV
namespace Go.Proofs.YtkonpbcnekcjjaaGreatDoor.DV
open Go Go.Xec Go.RowKit Go.Shelf
attribute [local go_sem] Oper.semAt_some
theorem steps_in (n : Nat) (a b : Int) (w : World) :
    CallsIn Fence.wide n Tryz.prog 87 #[.agg (bxW a), .agg (bxW b)] w fun e w' => e = .returned (.func (.func 115) #[] #[.pointer (some ⟨w.heap.size, 0, none⟩), .pointer (some ⟨w.heap.size + 1, 0, none⟩)]) ∧ w' = (w.alloc (.cells (bxW a) 26)).alloc (.cells (bxW b) 26) := by
  refine callsIn_of_wp Tryz.func87 rfl trivial ?_ rfl
  simp only [Tryz.ntmps87, List.size_toArray, List.length_cons, List.length_nil, Nat.reduceAdd, Nat.reduceSub, Array.replicate_succ, Array.replicate_zero, List.push_toArray, List.append_toArray, List.nil_append, List.cons_append]
  have hmf : ∀ (fn : Fn) (first cap : Array Value) (w : World), (Instr.makeFunc fn first cap).run Tryz.prog w = .ok (.func fn first cap) w := fun _ _ _ _ => rfl
  gi_wp2
  go_ret
  exact ⟨rfl, rfl⟩
theorem st_stops (n Ba Bb Bc : Nat) (w0 : World) (hL : Laid Tryz.prog w0) {a b : Int} (ha : U a) (hb : U b) (hab : Ba ≠ Bb) (hna : w0.heap.size ≤ Ba) (hnb : w0.heap.size ≤ Bb) (hac : Ba ≠ Bc) (hbc : Bb ≠ Bc)
    (w : World) (hw : Below w0.heap.size w0 w) (hcw : Bc < w.heap.size) (haw : Ba < w.heap.size) (hbw : Bb < w.heap.size) (hBa : w.heap[Ba]? = some (.cells (bxW a) 26 (0, 0))) (hBb : w.heap[Bb]? = some (.cells (bxW b) 26 (0, 0))) :
    SeqF Fence.wide (n + 1) Tryz.prog 115 #[.pointer (some ⟨Ba, 0, none⟩), .pointer (some ⟨Bb, 0, none⟩)] encW (KpA w0.heap.size Bc) (fun xs => xs = eu (b.toNat + 1) a b) (fun k => k = Ba ∨ k = Bb) w := by
  intro l J W hW hJ hJz hY h0
  refine st_in n l Ba Bb Bc w0 hL ha hb hab hna hnb hac hbc J ?_ hJz hY W (hw.trans (hW.mono hw.size)) (Nat.lt_of_lt_of_le hcw hW.size) ((hW.block _ haw).trans hBa) ((hW.block _ hbw).trans hBb) h0
  intro s A B hs hAB
  exact hJ s A B none hs ⟨hAB.os, hAB.tape, hAB.output, hAB.size, fun k hk _ => hAB.block k hk⟩ (fun r e => by cases e)
theorem cells2_own (B : Nat) (t : TypeId) (cs : Array Value) : Own (fun (_ : Unit) W => W.heap[B]? = some (.cells cs t (0, 0))) := by
  intro _ X Y row hs hg hrow
  refine (hg.block B (Array.getElem?_eq_some_iff.1 hs).1 (fun e' => ?_)).trans hs
  obtain ⟨o, ho, hc⟩ := hrow B e'.symm
  rw [hs] at ho; cases ho; cases hc
theorem gcdW_at (ca cb : Array Value) (w W0 : World)
    (h : W0 = ((((w.alloc (.cells ca 26)).alloc (.cells cb 26)).alloc (.cells #[.int .u64 0, .int .u64 0] 26)).alloc (.cells ca 26)).alloc (.cells cb 26)) :
    Below w.heap.size w W0 ∧ W0.heap.size = w.heap.size + 5 ∧ W0.heap[w.heap.size]? = some (.cells ca 26 (0, 0)) ∧ W0.heap[w.heap.size + 1]? = some (.cells cb 26 (0, 0)) ∧
    W0.heap[w.heap.size + 1 + 1]? = some (.cells #[.int .u64 0, .int .u64 0] 26 (0, 0)) ∧ W0.heap[w.heap.size + 1 + 1 + 1]? = some (.cells ca 26 (0, 0)) ∧ W0.heap[w.heap.size + 1 + 1 + 1 + 1]? = some (.cells cb 26 (0, 0)) := by
  subst h
  refine ⟨(((((Below.refl _ _).alloc (Nat.le_refl _) _).alloc (by simp) _).alloc (by simp; omega) _).alloc (by simp; omega) _).alloc (by simp; omega) _, by simp, ?_, ?_, ?_, ?_, ?_⟩ <;> (simp only [heap_alloc2, World.size_alloc]; repeat (first | rw [if_pos trivial] | rw [if_pos (by omega)] | rw [if_neg (by omega)]))
set_option maxRecDepth 100000 in
set_option maxHeartbeats 4000000 in
theorem gcd_calls {a b : Int} (ha : U a) (hb : U b) (w : World) (hL : Laid Tryz.prog w) :
    Calls Tryz.prog 64 #[.agg (bxW a), .agg (bxW b)] w fun e w' => e = .returned (.agg (bxW (gcdI a b))) ∧ Below w.heap.size w w' := by
  refine (callsIn_wide (n := 6)).1 ?_
  refine callsIn_of_wp_marks Tryz.func64 rfl trivial ?_ rfl
  simp only [Tryz.ntmps64, List.size_toArray, List.length_cons, List.length_nil, Nat.reduceAdd, Nat.reduceSub, Array.replicate_succ, Array.replicate_zero, List.push_toArray, List.append_toArray, List.nil_append, List.cons_append]
  gi_wp2_with fail
  refine ⟨trivial, (steps_in _ a b _).mono ?_⟩
  rintro e W0 ⟨rfl, hW0⟩
  obtain ⟨hbW, hsz, m0, m1, m2, m3, m4⟩ := gcdW_at (bxW a) (bxW b) w W0 hW0
  clear hW0
  gi_wp2_with fail
  refine range_first rfl (by omega) rfl trivial (enters_of Tryz.func115 (by kernel_rfl) rfl) (st_stops 4 (w.heap.size + 1 + 1 + 1) (w.heap.size + 1 + 1 + 1 + 1) w.heap.size w hL ha hb (by omega) (by omega) (by omega) (by omega) (by omega) W0 hbW (by omega) (by omega) (by omega) m3 m4) ?hBf ?hKt ?hKb (fun _ => rfl)
    (fun pre W => W.heap[w.heap.size]? = some (.cells (bxW (lastI a pre)) 26 (0, 0)) ∧ W.heap[w.heap.size + 1 + 1]? = some (.cells (bxW 0) 26 (0, 0)) ∧ Below w.heap.size w W ∧ W0.heap.size ≤ W.heap.size)
    ?hI ?hIf ?h0
    (fun x a' W => ∃ Bx, W0.heap.size ≤ Bx ∧ W.heap[Bx]? = some (.cells (bxW x) 26 (0, 0)) ∧ a' = { tmps := #[.agg (bxW a), .agg (bxW b), .pointer (some ⟨w.heap.size, 0, none⟩), .pointer (some ⟨w.heap.size + 1, 0, none⟩), .pointer (some ⟨w.heap.size + 1 + 1, 0, none⟩), .pointer (some ⟨Bx, 0, none⟩), .agg #[.int .u64 0, .int .u64 a], .agg #[.int .u64 0, .int .u64 b], .func (.func 115) #[] #[.pointer (some ⟨w.heap.size + 1 + 1 + 1, 0, none⟩), .pointer (some ⟨w.heap.size + 1 + 1 + 1 + 1, 0, none⟩)], .agg (bxW x), undef, undef], defers := [] })
    ?hAx ?assign ?body ?done
  case hBf => rintro k (rfl | rfl) <;> omega
  case hKt => rintro A B C ⟨h1, h2⟩ ⟨g1, g2⟩; exact ⟨h1.trans g1, fun k cs T f hne h => g2 k cs T f hne (h2 k cs T f hne h)⟩
  case hKb =>
    intro W l o o' hl hc hnc
    refine ⟨(Below.refl _ W).grown (grownBy_putObj' W l o') (by have := (Array.getElem?_eq_some_iff.1 hc).1; omega) (fun k e => by cases e; omega), fun k cs T f hne h => ?_⟩
    refine (World.putObj_heap_other (fun e => ?_)).trans h
    subst e
    rw [h] at hc; cases hc; cases hnc
  case hI =>
    refine OwnFrom.and (Own.from (fun pre X Y row hs hg hr => cells2_own w.heap.size 26 (bxW (lastI a pre)) () X Y row hs hg hr) _) (OwnFrom.and (Own.from (fun pre X Y row hs hg hr => cells2_own (w.heap.size + 1 + 1) 26 (bxW 0) () X Y row hs hg hr) _) (OwnFrom.and (ownFrom_below (Nat.le_refl _) (by omega)) ?_))
    intro _ X Y row hs hg _
    exact Nat.le_trans hs hg.size
  case hIf =>
    rintro pre W k i v hk ⟨h1, h2, h3, h4⟩
    have hk1 : w.heap.size + 1 + 1 + 1 ≤ k := by rcases hk with rfl | rfl <;> omega
    exact ⟨(cell_other v (by omega)).trans h1, (cell_other v (by omega)).trans h2, h3.setCell (p := ⟨k, i, none⟩) (by simp; omega) v, by simpa using h4⟩
  case h0 => exact ⟨m0, m2, hbW, Nat.le_refl _⟩
  case hAx =>
    rintro x a' _ X Y row ⟨Bx, h1, h2, h3⟩ hg hr
    exact ⟨Bx, h1, cells2_own Bx 26 _ () X Y row h2 hg (fun r e => (hr r e).2), h3⟩
  case assign =>
    rintro l pre x W K ⟨h1, h2, h3, h4⟩ hK
    gi_wp2_with fail
    refine hK _ _ ((KeepsOthers.alloc _ _).from _) ⟨(Below.refl _ W).alloc (by omega) _, fun k cs T f hne h => (Below.heap_alloc _ _ _ (Array.getElem?_eq_some_iff.1 h).1).trans h⟩ ⟨(Below.heap_alloc _ _ _ (by omega)).trans h1, (Below.heap_alloc _ _ _ (by omega)).trans h2, h3.alloc (by omega) _, by simp; omega⟩ ⟨W.heap.size, h4, World.alloc_heap_new _ _, rfl⟩
  case body =>
    rintro l pre x a' W hl ⟨h1, h2, h3, h4⟩ ⟨Bx, hB1, hB2, rfl⟩
    have cx0 : W.cell? ⟨Bx, 0, none⟩ = some (.int .u64 0) := by simp [World.cell?, hB2]
    have cx1 : W.cell? ⟨Bx, 1, none⟩ = some (.int .u64 x) := by simp [World.cell?, hB2]
    have ca0 : W.cell? ⟨w.heap.size, 0, none⟩ = some (.int .u64 0) := by simp [World.cell?, h1]
    have ca1 : W.cell? ⟨w.heap.size, 1, none⟩ = some (.int .u64 (lastI a pre)) := by simp [World.cell?, h1]
    have fa0 : W.frozen? ⟨w.heap.size, 0, none⟩ = false := by simp [World.frozen?, h1]
    have fa1 : W.frozen? ⟨w.heap.size, 1, none⟩ = false := by simp [World.frozen?, h1]
    gi_wp2_with fail
    refine ⟨((KeepsOthers.setCell _ _ _).trans (KeepsOthers.setCell _ _ _)).from _, ⟨((Below.refl _ W).setCell (p := ⟨w.heap.size, 0, none⟩) (Nat.le_refl _) _).setCell (p := ⟨w.heap.size, 1, none⟩) (Nat.le_refl _) _, fun k cs T f hne h => (cell_other _ hne).trans ((cell_other _ hne).trans h)⟩, ?_, ?_, ?_, ?_⟩
    · rw [lastI_snoc]; exact cells_set (i := 1) (cells_set (i := 0) h1 (.int .u64 0)) (.int .u64 x)
    · exact (cell_other _ (by omega)).trans ((cell_other _ (by omega)).trans h2)
    · exact (h3.setCell (p := ⟨w.heap.size, 0, none⟩) (Nat.le_refl _) _).setCell (p := ⟨w.heap.size, 1, none⟩) (Nat.le_refl _) _
    · simpa using h4
  case done =>
    rintro D xs W hD rfl ⟨h1, h2, h3, h4⟩ hd
    rw [eu_gcd _ a b ha.1 hb.1 (by have := hb.1; omega)] at h1
    obtain ⟨g, hg⟩ : ∃ g, gcdI a b = g := ⟨_, rfl⟩
    rw [hg] at h1
    have ca0 : W.cell? ⟨w.heap.size, 0, none⟩ = some (.int .u64 0) := by simp [World.cell?, h1]
    have ca1 : W.cell? ⟨w.heap.size, 1, none⟩ = some (.int .u64 g) := by simp [World.cell?, h1]
    have cr0 : W.cell? ⟨w.heap.size + 1 + 1, 0, none⟩ = some (.int .u64 0) := by simp [World.cell?, h2]
    have cr1 : W.cell? ⟨w.heap.size + 1 + 1, 1, none⟩ = some (.int .u64 0) := by simp [World.cell?, h2]
    have fr0 : W.frozen? ⟨w.heap.size + 1 + 1, 0, none⟩ = false := by simp [World.frozen?, h2]
    have fr1 : W.frozen? ⟨w.heap.size + 1 + 1, 1, none⟩ = false := by simp [World.frozen?, h2]
    simp only [Exit.inBlock, Exit.then]
    gi_wp2_with fail
    rw [hg]
    have hV : Below w.heap.size w ((W.setCell ⟨w.heap.size + 1 + 1, 0, none⟩ (.int .u64 0)).setCell ⟨w.heap.size + 1 + 1, 1, none⟩ (.int .u64 g)) := (h3.setCell (p := ⟨w.heap.size + 1 + 1, 0, none⟩) (by simp; omega) _).setCell (p := ⟨w.heap.size + 1 + 1, 1, none⟩) (by simp; omega) _
    have k2 := cells_set (i := 1) (cells_set (i := 0) h2 (.int .u64 0)) (.int .u64 g)
    have kD : ((W.setCell ⟨w.heap.size + 1 + 1, 0, none⟩ (.int .u64 0)).setCell ⟨w.heap.size + 1 + 1, 1, none⟩ (.int .u64 g)).heap[D]? = some (.deferred (some [])) := (cell_other _ (by omega)).trans ((cell_other _ (by omega)).trans hd)
    generalize ((W.setCell ⟨w.heap.size + 1 + 1, 0, none⟩ (.int .u64 0)).setCell ⟨w.heap.size + 1 + 1, 1, none⟩ (.int .u64 g)) = V at *
    have hVD : Below w.heap.size w (V.putObj D (.deferred none)) := hV.grown (grownBy_putObj' V D (.deferred none)) (by have := hV.size; omega) (fun k e => by cases e; omega)
    have k3 : (V.putObj D (.deferred none)).heap[w.heap.size + 1 + 1]? = some (.cells (bxW g) 26 (0, 0)) := (World.putObj_heap_other (by omega)).trans k2
    have d0 : (V.putObj D (.deferred none)).cell? ⟨w.heap.size + 1 + 1, 0, none⟩ = some (.int .u64 0) := by simp [World.cell?, k3]
    have d1 : (V.putObj D (.deferred none)).cell? ⟨w.heap.size + 1 + 1, 1, none⟩ = some (.int .u64 g) := by simp [World.cell?, k3]
    refine ⟨by simp, .inl ⟨_, _, rfl, run_takeDeferred kD, ?_⟩⟩
    refine ⟨.agg (bxW g), ?_, rfl, hVD⟩
    simp [results, Tryz.results64, go_sem, d0, d1]
def F64 : List AVal → Option AVal
  | [.agg [.int .u64 h1, .int .u64 a], .agg [.int .u64 h2, .int .u64 b]] => if h1 = 0 ∧ h2 = 0 ∧ U a ∧ U b then some (W 0 (gcdI a b)) else none
  | _ => none
theorem sound64 : Sound Tryz.prog 64 F64 := by
  refine sound_calls Tryz.func64 (by kernel_rfl) (by kernel_rfl) ?_
  intro ys r hr w S vs hS hL hl
  unfold F64 at hr
  split at hr
  · rename_i h1 a h2 b
    split at hr
    · rename_i hx
      obtain ⟨rfl, rfl, ha, hb⟩ := hx
      cases hr
      simp only [VL, V] at hl
      obtain ⟨_, _, rfl, ⟨_, rfl, _, _, rfl, rfl, _, _, rfl, rfl, rfl⟩, _, _, rfl, ⟨_, rfl, _, _, rfl, rfl, _, _, rfl, rfl, rfl⟩, rfl⟩ := hl
      refine (gcd_calls ha hb w hL).mono ?_
      rintro e w' ⟨rfl, hb⟩
      obtain ⟨q1, q2, q3⟩ := env_below hb
      refine ⟨_, rfl, q1, q2, q3, ?_⟩
      simp only [V, VL]
      exact ⟨_, rfl, _, _, rfl, rfl, _, _, rfl, rfl, rfl⟩
    · cases hr
  · cases hr
theorem F64_eq {a b : Int} (ha : U a) (hb : U b) : F64 [W 0 a, W 0 b] = some (W 0 (gcdI a b)) := if_pos ⟨rfl, rfl, ha, hb⟩
end Go.Proofs.YtkonpbcnekcjjaaGreatDoor.DV
namespace Go.Proofs.YtkonpbcnekcjjaaGreatDoor.DV
open Go Go.Xec
attribute [local go_sem] tm0 ne_eq not_false_eq_true List.length_append List.length_replicate List.replicate_succ List.replicate_zero Int.cast_ofNat_Int not_true_eq_false decide_true decide_false ite_self beq_self_eq_true Bool.true_beq Bool.false_beq Bool.not_true Bool.not_false
attribute [local go_sem_proc] Nat.reduceAdd Nat.reduceMul Nat.reduceSub Nat.reduceLeDiff Nat.reduceLT Nat.reduceEqDiff Int.reduceLT Int.reduceLE Int.reduceAdd Int.reduceSub Int.reduceMul Int.reduceToNat Int.reducePow Int.reduceNe Int.reduceMod Int.reduceDiv Int.reduceEq Nat.reducePow Int.reduceNeg
set_option maxRecDepth 10000
theorem gcdI_pos {a b : Int} (hb : 0 < b) : 0 < gcdI a b := by
  unfold gcdI
  have := Nat.gcd_pos_of_pos_right a.toNat (show 0 < b.toNat by omega)
  omega
theorem gcdI_le {a b : Int} (hb : 0 < b) : gcdI a b ≤ b := by
  unfold gcdI
  have := Nat.gcd_le_right (n := b.toNat) a.toNat (by omega)
  omega
theorem gcdI_mul {c a b : Int} (hc : 0 < c) (ha : 0 ≤ a) (hb : 0 ≤ b) : gcdI (c * a) (c * b) = c * gcdI a b := by
  obtain ⟨m, rfl⟩ : ∃ m : Nat, a = m := ⟨a.toNat, by omega⟩
  obtain ⟨k, rfl⟩ : ∃ k : Nat, b = k := ⟨b.toNat, by omega⟩
  obtain ⟨d, rfl⟩ : ∃ d : Nat, c = d := ⟨c.toNat, by omega⟩
  unfold gcdI
  rw [← Int.natCast_mul, ← Int.natCast_mul]
  simp only [Int.toNat_natCast]
  rw [Nat.gcd_mul_left]
  exact Int.natCast_mul _ _
theorem div_le {a g : Int} (ha : 0 ≤ a) (hg : 0 < g) : 0 ≤ a / g ∧ a / g ≤ a := ⟨Int.ediv_nonneg ha (by omega), Int.ediv_le_self g ha⟩
noncomputable def CG : Cfg := (CV.add 64 F64).add 58 F58
theorem okG : CfgOk Tryz.prog CG := (okV.add sound64).add sound58
noncomputable def F62 : List AVal → Option AVal := pureF CG 1 62
theorem sound62 : Sound Tryz.prog 62 F62 := sound_self okG 1 62
theorem F62_eq {a b : Int} (ha : U a) (hb : U b) (h0 : b ≠ 0) : F62 [W 0 a, W 0 b] = some (.tup [W 0 (a / gcdI a b), W 0 (b / gcdI a b), .int .i64 0]) := by
  have hbp : 0 < b := by have := hb.1; omega
  have hg := gcdI_pos (a := a) hbp
  have hgl := gcdI_le (a := a) hbp
  have hgU : U (gcdI a b) := ⟨by omega, by have := hb.2; omega⟩
  have e64 := F64_eq ha hb
  have e1 := F58_w ha hgU (by omega)
  have e2 := F58_w hb hgU (by omega)
  have d0 : decide (b = 0) = false := decide_eq_false h0
  clear hg hgl hgU hbp h0
  generalize gcdI a b = g at *
  unfold F62
  refine pureF_of (x := x62) rfl rfl ?_
  rw [x62_eq.1, x62_eq.2.1]
  simp (disch := first | omega | simp only [*, go_sem, ↓reduceIte, dropK_eq]) only [x62b, go_sem, ↓reduceIte, dropK_eq, callX_known (C := CG) (g := 58) rfl, ft_call (C := CG) (g := 58) rfl, callX_known (C := CG) (g := 64) rfl, ft_call (C := CG) (g := 64) rfl, e64, e1, e2, d0]
  exact Ends_plain rfl rfl
noncomputable def F63 : List AVal → Option AVal := pureF CG 1 63
theorem sound63 : Sound Tryz.prog 63 F63 := sound_self okG 1 63
def sgn (below : Bool) (m : Int) : Int := if below then -m else m
theorem F63_eq {s : Bool} {m : Int} (h : 0 ≤ m ∧ m ≤ 9223372036854775807) : F63 [.agg [.bool s, .int .u64 0, .int .u64 m]] = some (.tup [.int .i64 (sgn s m), .bool true]) := by
  have d1 := decide_eq_true h.2
  have h1 := h.1
  have h2 := h.2
  unfold F63 sgn
  refine pureF_of (x := x63) rfl rfl ?_
  rw [x63_eq.1, x63_eq.2.1]
  cases s
  · simp (disch := first | omega | simp only [*, go_sem, ↓reduceIte, dropK_eq]) only [x63b, go_sem, ↓reduceIte, dropK_eq, d1]
    exact Ends_plain rfl rfl
  · simp (disch := first | omega | simp only [*, go_sem, ↓reduceIte, dropK_eq]) only [x63b, go_sem, ↓reduceIte, dropK_eq, d1]
    exact Ends_plain rfl (by simp only [if_true, Int.zero_sub])
noncomputable def CH : Cfg := (CG.add 62 F62).add 63 F63
theorem okH : CfgOk Tryz.prog CH := (okG.add sound62).add sound63
noncomputable def F34 : List AVal → Option AVal := pureF CH 1 34
theorem sound34 : Sound Tryz.prog 34 F34 := sound_self okH 1 34
theorem F34_eq {s : Bool} {a b : Int} (ha : 0 ≤ a ∧ a ≤ 9223372036854775807) (hb : 0 < b ∧ b ≤ 9223372036854775807) :
    F34 [.agg [.bool s, .int .u64 0, .int .u64 a], W 0 b] = some (.tup [.agg [.int .i64 (sgn s (a / gcdI a b)), .int .i64 (b / gcdI a b)], .int .i64 0]) := by
  have e62 := F62_eq (a := a) (b := b) ⟨ha.1, by omega⟩ ⟨by omega, by omega⟩ (by omega)
  have hg := gcdI_pos (a := a) hb.1
  have h1 := div_le ha.1 hg
  have h2 := div_le (show 0 ≤ b by omega) hg
  have e1 := F63_eq (s := s) (m := a / gcdI a b) (by omega)
  have e2 : F63 [.agg [.bool false, .int .u64 0, .int .u64 (b / gcdI a b)]] = some (.tup [.int .i64 (b / gcdI a b), .bool true]) := F63_eq (s := false) (m := b / gcdI a b) (by omega)
  clear h1 h2 hg
  generalize sgn s (a / gcdI a b) = sa at *
  generalize a / gcdI a b = a' at *
  generalize b / gcdI a b = b' at *
  unfold F34
  refine pureF_of (x := x34) rfl rfl ?_
  rw [x34_eq.1, x34_eq.2.1]
  simp (disch := first | omega | simp only [*, go_sem, ↓reduceIte, dropK_eq]) only [x34b, go_sem, ↓reduceIte, dropK_eq, callX_known (C := CH) (g := 62) rfl, ft_call (C := CH) (g := 62) rfl, callX_known (C := CH) (g := 63) rfl, ft_call (C := CH) (g := 63) rfl, e62, e1, e2]
  exact Ends_plain rfl rfl
noncomputable def F35 : List AVal → Option AVal := pureF CH 1 35
theorem sound35 : Sound Tryz.prog 35 F35 := sound_self okH 1 35
def absI (x : Int) : Int := if x < 0 then -x else x
theorem absI_b {x : Int} (h : -9223372036854775807 ≤ x ∧ x ≤ 9223372036854775807) : 0 ≤ absI x ∧ absI x ≤ 9223372036854775807 := by unfold absI; split <;> omega
theorem F35_eq {x : Int} (h : -9223372036854775807 ≤ x ∧ x ≤ 9223372036854775807) : F35 [.int .i64 x] = some (.int .u64 (absI x)) := by
  have h1 := h.1
  have h2 := h.2
  unfold F35 absI
  refine pureF_of (x := x35) rfl rfl ?_
  rw [x35_eq.1, x35_eq.2.1]
  by_cases hx : x < 0
  · have d1 := decide_eq_true hx
    have w1 : (0 - x % 18446744073709551616) % 18446744073709551616 = -x := by omega
    rw [if_pos hx]
    simp (disch := first | omega | simp only [*, go_sem, ↓reduceIte, dropK_eq]) only [x35b, go_sem, ↓reduceIte, dropK_eq, d1, w1]
    exact Ends_plain rfl rfl
  · have d1 := decide_eq_false hx
    have w1 : x % 18446744073709551616 = x := by omega
    rw [if_neg hx]
    simp (disch := first | omega | simp only [*, go_sem, ↓reduceIte, dropK_eq]) only [x35b, go_sem, ↓reduceIte, dropK_eq, d1, w1]
    exact Ends_plain rfl rfl
noncomputable def CI : Cfg := (CH.add 34 F34).add 35 F35
theorem okI : CfgOk Tryz.prog CI := (okH.add sound34).add sound35
def newN (n d : Int) : Int := sgn (decide (n < 0)) (absI n / gcdI (absI n) d)
def newD (n d : Int) : Int := d / gcdI (absI n) d
noncomputable def F13 : List AVal → Option AVal := pureF CI 1 13
theorem sound13 : Sound Tryz.prog 13 F13 := sound_self okI 1 13
theorem F13_eq {n d : Int} (hn : -9223372036854775807 ≤ n ∧ n ≤ 9223372036854775807) (hd : 0 < d ∧ d ≤ 9223372036854775807) : F13 [.int .i64 n, .int .i64 d] = some (.tup [.agg [.int .i64 (newN n d), .int .i64 (newD n d)], .int .i64 0]) := by
  have e1 := F35_eq hn
  have e2 : F35 [.int .i64 d] = some (.int .u64 d) := by
    have := F35_eq (x := d) (by omega)
    rwa [show absI d = d by unfold absI; rw [if_neg (by omega)]] at this
  have e3 := F34_eq (s := decide (n < 0)) (absI_b hn) hd
  have d0 : decide (d = 0) = false := decide_eq_false (by omega)
  have d1 : decide (d < 0) = false := decide_eq_false (by omega)
  unfold newN newD
  generalize absI n = m at *
  unfold F13
  refine pureF_of (x := x13) rfl rfl ?_
  rw [x13_eq.1, x13_eq.2.1]
  generalize sgn (decide (n < 0)) (m / gcdI m d) = sm at *
  by_cases h : n < 0
  · have d2 := decide_eq_true h
    rw [d2] at e3
    simp (disch := first | omega | simp only [*, go_sem, ↓reduceIte, dropK_eq]) only [x13b, go_sem, ↓reduceIte, dropK_eq, callX_known (C := CI) (g := 34) rfl, ft_call (C := CI) (g := 34) rfl, callX_known (C := CI) (g := 35) rfl, ft_call (C := CI) (g := 35) rfl, e1, e2, e3, d0, d1, d2]
    exact Ends_plain rfl rfl
  · have d2 := decide_eq_false h
    rw [d2] at e3
    simp (disch := first | omega | simp only [*, go_sem, ↓reduceIte, dropK_eq]) only [x13b, go_sem, ↓reduceIte, dropK_eq, callX_known (C := CI) (g := 34) rfl, ft_call (C := CI) (g := 34) rfl, callX_known (C := CI) (g := 35) rfl, ft_call (C := CI) (g := 35) rfl, e1, e2, e3, d0, d1, d2]
    exact Ends_plain rfl rfl
set_option maxRecDepth 10000
noncomputable def F36 : List AVal → Option AVal := pureF CI 1 36
theorem sound36 : Sound Tryz.prog 36 F36 := sound_self okI 1 36
noncomputable def F37 : List AVal → Option AVal := pureF CI 1 37
theorem sound37 : Sound Tryz.prog 37 F37 := sound_self okI 1 37
noncomputable def F38 : List AVal → Option AVal := pureF CI 1 38
theorem sound38 : Sound Tryz.prog 38 F38 := sound_self okI 1 38
noncomputable def CJ : Cfg := ((CI.add 36 F36).add 37 F37).add 38 F38
theorem okJ : CfgOk Tryz.prog CJ := ((okI.add sound36).add sound37).add sound38
set_option maxRecDepth 10000
theorem prd_ppL (w n k : Int) : prd (ppL w n k) = w * w * n * (n - 1) * k * k := by simp [prd, ppL]
theorem prd_ppkL (f n k : Int) : prd (ppkL f n k) = f * f * (n - 1) * k * k := by simp [prd, ppkL]
theorem ppL_nn {w n k : Int} (hw : 0 ≤ w) (hn : 1 ≤ n) (hk : 0 ≤ k) : 0 ≤ prd (ppL w n k) := by
  rw [prd_ppL]
  exact Int.mul_nonneg (Int.mul_nonneg (Int.mul_nonneg (Int.mul_nonneg (Int.mul_nonneg hw hw) (by omega)) (by omega)) hk) hk
theorem ppkL_nn {w n k : Int} (hw : 0 ≤ w) (hn : 1 ≤ n) (hk : 0 ≤ k) : 0 ≤ prd (ppkL w n k) := by
  rw [prd_ppkL]
  exact Int.mul_nonneg (Int.mul_nonneg (Int.mul_nonneg (Int.mul_nonneg hw hw) (by omega)) hk) hk
theorem worth_le {S w n k f : Int} (hS : 0 < S) (hw : 0 ≤ w) (hn : 1 ≤ n) (hk : 0 ≤ k) (hf : 0 ≤ f) (h : 2 * f ≤ n * w) : (ppkA S f n k).1 ≤ (ppA S w n k).1 ∧ (ppkA S f n k).2 ≤ (ppA S w n k).2 := by
  unfold ppkA ppA
  refine rt_mono (ppkL_nn hf hn hk) (Int.mul_pos hS (by omega)) (ppL_nn hw hn hk) (by omega) ?_
  rw [prd_ppL, prd_ppkL]
  have h2 : 2 * f * (2 * f) ≤ n * w * (n * w) := Int.mul_le_mul h h (by omega) (Int.mul_nonneg (by omega) hw)
  have hX : 0 ≤ (n - 1) * k * k * S * 9 := Int.mul_nonneg (Int.mul_nonneg (Int.mul_nonneg (Int.mul_nonneg (by omega) hk) hk) (by omega)) (by decide)
  have h3 := Int.mul_le_mul_of_nonneg_right h2 hX
  have e1 : f * f * (n - 1) * k * k * (S * 36) = 2 * f * (2 * f) * ((n - 1) * k * k * S * 9) := by
    rw [show (36 : Int) = 2 * (2 * 9) by decide]
    ac_rfl
  have e2 : w * w * n * (n - 1) * k * k * (S * (9 * n)) = n * w * (n * w) * ((n - 1) * k * k * S * 9) := by ac_rfl
  rw [e1, e2]
  exact h3
end Go.Proofs.YtkonpbcnekcjjaaGreatDoor.DV
namespace Go.Proofs.YtkonpbcnekcjjaaGreatDoor.DV
open Go Go.Xec
set_option maxRecDepth 10000
theorem rnd_mul {k x c m : Int} (hk : 0 < k) : rnd (k * x) (k * c) m = rnd x c m := by
  unfold rnd
  split
  · exact Int.mul_ediv_mul_of_pos _ _ hk
  · rw [← Int.mul_neg, Int.mul_ediv_mul_of_pos _ _ hk]
theorem cp_eq {b : BS.Bs} {x y k f : Int} (hN : 0 < b.m * b.s) (h1 : y - x = 2 * f) (h2 : nearB b x y = f * (b.m * b.s)) : cpkA b x y k = cpA b x y k := by
  unfold cpkA cpA
  rw [h1, h2]
  have e1 : f * (b.m * b.s) * k * widI b = b.m * b.s * (f * k * widI b) := by ac_rfl
  have e2 : 30000 * b.r * (b.m * b.s) = b.m * b.s * (30000 * b.r) := by ac_rfl
  have e3 : 2 * f * k * widI b = 2 * (f * k * widI b) := by simp only [Int.mul_assoc]
  have e4 : 60000 * b.r = 2 * (30000 * b.r) := by rw [← Int.mul_assoc]; rfl
  rw [e1, e2, e3, e4, rnd_mul hN, rnd_mul hN, rnd_mul (by decide), rnd_mul (by decide)]
theorem worth_eq {S w n k f : Int} (hS : 0 < S) (hw : 0 ≤ w) (hn : 1 ≤ n) (hk : 0 ≤ k) (hf : 0 ≤ f) (h : 2 * f = n * w) : ppkA S f n k = ppA S w n k := by
  obtain ⟨a1, a2⟩ := worth_le hS hw hn hk hf (Int.le_of_eq h)
  have e : prd (ppL w n k) * (S * (9 * n)) ≤ prd (ppkL f n k) * (S * 36) := by
    rw [prd_ppL, prd_ppkL]
    have e1 : f * f * (n - 1) * k * k * (S * 36) = 2 * f * (2 * f) * ((n - 1) * k * k * S * 9) := by
      rw [show (36 : Int) = 2 * (2 * 9) by decide]
      ac_rfl
    have e2 : w * w * n * (n - 1) * k * k * (S * (9 * n)) = n * w * (n * w) * ((n - 1) * k * k * S * 9) := by ac_rfl
    rw [e1, e2, h]
    exact Int.le_refl _
  obtain ⟨b1, b2⟩ := rt_mono (ppL_nn hw hn hk) (show 0 < S * 36 by omega) (ppkL_nn hf hn hk) (Int.mul_pos hS (show 0 < 9 * n by omega)) e
  have c1 : (ppkA S f n k).1 = (ppA S w n k).1 := Int.le_antisymm a1 b1
  have c2 : (ppkA S f n k).2 = (ppA S w n k).2 := Int.le_antisymm a2 b2
  exact Prod.ext c1 c2
theorem pp_eq {S n x y s k f : Int} (hS0 : 0 ≤ S) (hk : 0 ≤ k) (hf : 0 ≤ f) (h1 : y - x = 2 * f) (h2 : nearA x y s n = f * n) : ansA n S (ppkR S x y s n k) = ansA n S (ppA S (y - x) n k) := by
  unfold ansA
  split
  · rfl
  · split
    · rfl
    · rename_i hn hS
      have hnn : 0 ≤ f * n := Int.mul_nonneg hf (by omega)
      have e : ppkR S x y s n k = ppA S (y - x) n k := by
        unfold ppkR
        rw [h2, if_neg (by omega), h1]
        exact worth_eq (by omega) (by omega) (by omega) hk hnn (by rw [← Int.mul_assoc, Int.mul_comm])
      rw [e]
theorem new_mul {c n d : Int} (hc : 0 < c) (hd : 0 < d) : newN (c * n) (c * d) = newN n d ∧ newD (c * n) (c * d) = newD n d := by
  have hneg : (c * n < 0) ↔ n < 0 := by
    constructor
    · intro h
      refine Classical.byContradiction fun hn => ?_
      have := Int.mul_nonneg (show 0 ≤ c by omega) (show 0 ≤ n by omega)
      omega
    · intro h; exact Int.mul_neg_of_pos_of_neg hc h
  have habs : absI (c * n) = c * absI n := by
    unfold absI
    by_cases h : n < 0
    · rw [if_pos (hneg.2 h), if_pos h, Int.mul_neg]
    · rw [if_neg (fun h' => h (hneg.1 h')), if_neg h]
  have ha : 0 ≤ absI n := by unfold absI; split <;> omega
  have hg := gcdI_mul (c := c) (a := absI n) (b := d) hc ha (by omega)
  unfold newN newD
  rw [habs, hg, Int.mul_ediv_mul_of_pos _ _ hc, Int.mul_ediv_mul_of_pos _ _ hc, decide_eq_decide.2 hneg]
  exact ⟨rfl, rfl⟩
theorem Rw_slice {a : AVal} {l : List Int} (h : Rw a l) {lo hi : Nat} (h1 : lo ≤ hi) (h2 : hi ≤ l.length) : ∃ x, slVA 1 a (some (.int .i64 (lo : Int))) (some (.int .i64 (hi : Int))) none = some x ∧ Rw x ((l.drop lo).take (hi - lo)) := by
  rcases h with ⟨rfl, rfl⟩ | ⟨rfl, rfl⟩ | rfl
  · obtain rfl : hi = 0 := by simpa using h2
    obtain rfl : lo = 0 := by omega
    exact ⟨.nils, rfl, Rw.nils⟩
  · obtain rfl : hi = 0 := by simpa using h2
    obtain rfl : lo = 0 := by omega
    exact ⟨.emp, rfl, .inr (.inl ⟨rfl, rfl⟩)⟩
  · refine ⟨.slc 1 (((i64s l).drop lo).take (hi - lo)), by simp [slVA, bnd, h1, h2], .inr (.inr ?_)⟩
    rw [i64s, i64s, List.map_take, List.map_drop]
def bsK (n : Nat) (l : List Int) : Nat → BS.Bs
  | 0 => ⟨n, 0, 0, 0, 0⟩
  | k + 1 => BS.takeB (bsK n l k) ((l.drop (k * n)).take n)
theorem sumL_app (a b : List Int) : sumL (a ++ b) = sumL a + sumL b := by
  have : ∀ (b : List Int) (x : Int), b.foldl (· + ·) x = x + b.foldl (· + ·) 0 := by
    intro b
    induction b with
    | nil => intro x; simp
    | cons y b ih => intro x; rw [List.foldl_cons, List.foldl_cons, ih, ih (0 + y)]; omega
  unfold sumL
  rw [List.foldl_append, this]
theorem bsK_ok {n : Nat} {l : List Int} (hn : 2 ≤ n ∧ n ≤ 10) (hin : ∀ x ∈ l, inM x) : ∀ k : Nat, k ≤ 25 → k * n ≤ l.length → BS.baOk (bsK n l k) ∧ (bsK n l k).s = n ∧ (bsK n l k).m = k ∧ (bsK n l k).u = sumL (l.take (k * n))
  | 0, _, _ => by
    refine ⟨?_, rfl, rfl, ?_⟩
    · unfold BS.baOk BS.baOk1 BS.baOk2 BS.Bs.steps bsK
      simp
      omega
    · simp [bsK, sumL]
  | k + 1, hk, hl => by
    have e : (k + 1) * n = k * n + n := by rw [Nat.add_mul, Nat.one_mul]
    obtain ⟨h1, h2, h3, h4⟩ := bsK_ok hn hin k (by omega) (by omega)
    have hlen : ((l.drop (k * n)).take n).length = n := by rw [List.length_take, List.length_drop]; omega
    have hrow : ∀ x ∈ (l.drop (k * n)).take n, inM x := fun x hx => hin x (List.mem_of_mem_drop (List.mem_of_mem_take hx))
    refine ⟨BS.takeB_ok h1 (by rw [h3]; omega) (by rw [hlen, h2]) hrow, h2, ?_, ?_⟩
    · show (bsK n l k).m + 1 = ((k + 1 : Nat) : Int)
      rw [h3]; omega
    · show (bsK n l k).u + sumL _ = _
      rw [h4, ← sumL_app, e, List.take_add]
end Go.Proofs.YtkonpbcnekcjjaaGreatDoor.DV
namespace Go.Proofs.YtkonpbcnekcjjaaGreatDoor.DV
open Go Go.Xec
attribute [local go_sem] tm0 ne_eq not_false_eq_true List.length_append List.length_replicate List.replicate_succ List.replicate_zero Int.cast_ofNat_Int not_true_eq_false decide_true decide_false ite_self beq_self_eq_true Bool.true_beq Bool.false_beq Bool.not_true Bool.not_false
attribute [local go_sem_proc] Nat.reduceAdd Nat.reduceMul Nat.reduceSub Nat.reduceLeDiff Nat.reduceLT Nat.reduceEqDiff Int.reduceLT Int.reduceLE Int.reduceAdd Int.reduceSub Int.reduceMul Int.reduceToNat Int.reducePow Int.reduceNe Int.reduceMod Int.reduceDiv Int.reduceEq Nat.reducePow Int.reduceNeg
set_option maxRecDepth 10000
noncomputable def C5m (F8 : List AVal → Option AVal) : Cfg := ((((((((((CJ.add 6 F6).add 7 F7).add 8 F8).add 11 F11).add 12 F12).add 13 F13).add 15 BS.F15).add 16 BS.F16).add 17 BS.F17).add 18 F18).add 19 F19
theorem mod_range {x m : Int} (hm : 0 < m) : ∃ r : Nat, (x.tmod m + m).tmod m = (r : Int) ∧ (r : Int) < m ∧ -m < x.tmod m ∧ x.tmod m < m := by
  have r1 := Int.lt_tmod_of_pos x hm
  have r2 := Int.tmod_lt_of_pos x hm
  have r3 := Int.tmod_nonneg m (show 0 ≤ x.tmod m + m by omega)
  have r4 := Int.tmod_lt_of_pos (x.tmod m + m) hm
  exact ⟨((x.tmod m + m).tmod m).toNat, by omega, by omega, r1, r2⟩
theorem law5 {F8 : List AVal → Option AVal} (e8 : F8 [] = some (.bool true)) {a : AVal} {l : List Int} {x y : Int} (ha : Rw a l) (hl : l.length ≤ 100000000000000) (hx : -9223372036854775808 ≤ x ∧ x ≤ 9223372036854775807) (hy : -9223372036854775808 ≤ y ∧ y ≤ 9223372036854775807) :
    pureF (C5m F8) 1 5 [a, .int .i64 x, .int .i64 y] = some (.bool true) := by
  obtain ⟨r, hr1, hr2, hr3, hr4⟩ := mod_range (x := x) (m := 9) (by decide)
  obtain ⟨g, hg1, hg2, hg3, hg4⟩ := mod_range (x := y) (m := 1000) (by decide)
  generalize hT1 : x.tmod 9 = p at *
  generalize hT2 : y.tmod 1000 = q at *
  obtain ⟨n, hn⟩ : ∃ n : Nat, n = 2 + r := ⟨_, rfl⟩
  have hnI : (2 : Int) + (r : Int) = (n : Int) := by omega
  have hnb : 2 ≤ n ∧ n ≤ 10 := by omega
  clear hn hr2
  have e6 := F6_eq (a := a) (m := 10 * n) ha hl (by omega)
  have hm10 : ((10 * n : Nat) : Int) = 10 * (n : Int) := by omega
  rw [hm10] at e6
  have hap := ha.plain
  have hinC : ∀ x ∈ (l.take (min l.length (10 * n))).map clip, -100000 ≤ x ∧ x ≤ 100000 := fun x hx => by obtain ⟨y, _, rfl⟩ := List.mem_map.1 hx; unfold clip; omega
  have hL : ((l.take (min l.length (10 * n))).map clip).length ≤ 10 * n := by rw [List.length_map, List.length_take]; omega
  generalize (l.take (min l.length (10 * n))).map clip = L0 at *
  have hrw0 := rowN_rw L0
  have hlen0 := hrw0.len
  have hLp0 := hrw0.plain
  obtain ⟨k, hk⟩ : ∃ k : Nat, k = L0.length / n := ⟨_, rfl⟩
  have hkn : k * n ≤ L0.length := by rw [hk]; exact Nat.div_mul_le_self _ _
  have hk10 : k ≤ 10 := by
    rw [hk]
    exact Nat.div_le_of_le_mul (by rw [Nat.mul_comm]; exact hL)
  have hq1 : (L0.length : Int).tdiv (n : Int) = (k : Int) := by
    rw [Int.tdiv_eq_ediv_of_nonneg (by omega), hk]
    exact (Int.natCast_ediv _ _).symm
  have hq2 : (k : Int) * (n : Int) = ((k * n : Nat) : Int) := (Int.natCast_mul k n).symm
  have hst := hrw0.sliceTo hkn
  have hrw := hrw0.take (k * n)
  have hLlen : (L0.take (k * n)).length = k * n := by rw [List.length_take]; omega
  have hinL : ∀ x ∈ L0.take (k * n), -100000 ≤ x ∧ x ≤ 100000 := fun x hx => hinC x (List.mem_of_mem_take hx)
  generalize L0.take (k * n) = L at *
  generalize rwTake (k * n) (rowN 1 (i64s L0)) = aL at *
  generalize rowN 1 (i64s L0) = a0 at *
  clear hinC hL hk hkn hrw0
  have hlen := hrw.len
  have hLp := hrw.plain
  have hinM : ∀ x ∈ L, inM x := fun x hx => by have := hinL x hx; unfold inM; omega
  have hN100 : k * n ≤ 100 := Nat.le_trans (Nat.mul_le_mul hk10 hnb.2) (by decide)
  have e7 := F7_eq hrw (by omega) hinM
  have hG := stG_of hinL (by omega)
  obtain ⟨t1, t2, t3⟩ := ofL_eq (l := L)
  have e15 : BS.F15 [.int .i64 (n : Int)] = some (.tup [BS.BK (bsK n L 0), .int .i64 0]) := by
    rw [BS.F15_eq, if_pos (by omega)]
    rfl
  have hbs := fun i (h : i ≤ k) => bsK_ok (n := n) (l := L) hnb hinM i (by omega) (by rw [hLlen]; exact Nat.mul_le_mul_right n h)
  refine pureF_of (x := x5) rfl rfl ?_
  rw [x5_eq.1, x5_eq.2.1]
  simp (disch := first | omega | simp only [*, go_sem, ↓reduceIte, dropK_eq]) only [x5b, go_sem, ↓reduceIte, dropK_eq, callX_known (C := C5m F8) (g := 6) rfl, ft_call (C := C5m F8) (g := 6) rfl, callX_known (C := C5m F8) (g := 7) rfl, ft_call (C := C5m F8) (g := 7) rfl, callX_known (C := C5m F8) (g := 8) rfl, ft_call (C := C5m F8) (g := 8) rfl, callX_known (C := C5m F8) (g := 11) rfl, ft_call (C := C5m F8) (g := 11) rfl, callX_known (C := C5m F8) (g := 12) rfl, ft_call (C := C5m F8) (g := 12) rfl, callX_known (C := C5m F8) (g := 13) rfl, ft_call (C := C5m F8) (g := 13) rfl, callX_known (C := C5m F8) (g := 15) rfl, ft_call (C := C5m F8) (g := 15) rfl, callX_known (C := C5m F8) (g := 16) rfl, ft_call (C := C5m F8) (g := 16) rfl, callX_known (C := C5m F8) (g := 17) rfl, ft_call (C := C5m F8) (g := 17) rfl, callX_known (C := C5m F8) (g := 18) rfl, ft_call (C := C5m F8) (g := 18) rfl, callX_known (C := C5m F8) (g := 19) rfl, ft_call (C := C5m F8) (g := 19) rfl, hT1, hr1, hnI, e6, hap, hlen0, hLp0, hq1, hq2, hst, e15]
  refine Ev_loopW (I := fun m tm hp nc => ∃ i : Nat, i ≤ k ∧ m = k - i ∧ tm 9 = .int .i64 ((i * n : Nat) : Int) ∧ hp (5004005, 4) = some (.var (BS.BC (bsK n L i)))) (n := k) ⟨0, Nat.zero_le _, rfl, by simp only [go_sem, ↓reduceIte, dropK_eq, Nat.zero_mul], by simp only [go_sem, ↓reduceIte, dropK_eq]⟩ (by omega) ?_
  rintro m tm hp nc hc ⟨i, hi, rfl, k9, kb⟩
  have k0 := hc 0 rfl; have k1 := hc 1 rfl; have k2 := hc 2 rfl; have k7 := hc 7 rfl; have k8 := hc 8 rfl; simp only [go_sem, ↓reduceIte, dropK_eq] at k0 k1 k2 k7 k8
  have hin1 : (i + 1) * n = i * n + n := by rw [Nat.add_mul, Nat.one_mul]
  have hadd : ((i * n : Nat) : Int) + (n : Int) = (((i + 1) * n : Nat) : Int) := by rw [hin1]; omega
  rcases Nat.lt_or_ge i k with hlt | hge
  · have hle : (i + 1) * n ≤ k * n := Nat.mul_le_mul_right n (by omega)
    have d1 : decide ((((i + 1) * n : Nat) : Int) ≤ (L.length : Int)) = true := decide_eq_true (by rw [hLlen]; omega)
    obtain ⟨ar, hsl, hrr⟩ := Rw_slice hrw (lo := i * n) (hi := (i + 1) * n) (by omega) (by rw [hLlen]; exact hle)
    rw [show (i + 1) * n - i * n = n by omega] at hrr
    have hrp := hrr.plain
    obtain ⟨b1, b2, b3, b4⟩ := hbs i hi
    have e16 := BS.F16_ok hrr b1 (by rw [b3]; omega) (by rw [b2, List.length_take, List.length_drop, hLlen]; omega) (fun x hx => hinM x (List.mem_of_mem_drop (List.mem_of_mem_take hx)))
    have hbn : BS.takeB (bsK n L i) ((L.drop (i * n)).take n) = bsK n L (i + 1) := rfl
    rw [hbn] at e16
    clear hbs b1 b2 b3 b4 hrr e15 hbn
    generalize bsK n L i = bi at *
    generalize hbj : bsK n L (i + 1) = bj at *
    generalize ((i * n : Nat) : Int) = v0 at *
    generalize hv1 : (((i + 1) * n : Nat) : Int) = v1 at *
    simp (disch := first | omega | simp only [*, go_sem, ↓reduceIte, dropK_eq]) only [x5l6, go_sem, ↓reduceIte, dropK_eq, callX_known (C := C5m F8) (g := 6) rfl, ft_call (C := C5m F8) (g := 6) rfl, callX_known (C := C5m F8) (g := 7) rfl, ft_call (C := C5m F8) (g := 7) rfl, callX_known (C := C5m F8) (g := 8) rfl, ft_call (C := C5m F8) (g := 8) rfl, callX_known (C := C5m F8) (g := 11) rfl, ft_call (C := C5m F8) (g := 11) rfl, callX_known (C := C5m F8) (g := 12) rfl, ft_call (C := C5m F8) (g := 12) rfl, callX_known (C := C5m F8) (g := 13) rfl, ft_call (C := C5m F8) (g := 13) rfl, callX_known (C := C5m F8) (g := 15) rfl, ft_call (C := C5m F8) (g := 15) rfl, callX_known (C := C5m F8) (g := 16) rfl, ft_call (C := C5m F8) (g := 16) rfl, callX_known (C := C5m F8) (g := 17) rfl, ft_call (C := C5m F8) (g := 17) rfl, callX_known (C := C5m F8) (g := 18) rfl, ft_call (C := C5m F8) (g := 18) rfl, callX_known (C := C5m F8) (g := 19) rfl, ft_call (C := C5m F8) (g := 19) rfl, k0, k1, k2, k7, k8, k9, kb, hadd, hlen, d1, hsl, hLp, hrp, e16]
    exact ⟨k - (i + 1), by omega, i + 1, by omega, rfl, by rw [hv1], by rw [hbj]⟩
  · obtain rfl : i = k := by omega
    have d1 : decide ((((i + 1) * n : Nat) : Int) ≤ (L.length : Int)) = false := decide_eq_false (by rw [hLlen, hin1]; omega)
    obtain ⟨b1, b2, b3, b4⟩ := hbs i (Nat.le_refl _)
    clear hbs e15
    rw [show L.take (i * n) = L by rw [← hLlen]; exact List.take_length, ← t2] at b4
    have hN1 : (bsK n L i).m * (n : Int) = (ofL L).n := by rw [t1, hLlen, b3]; exact hq2
    have hmc : -((ofL L).n * 100000) ≤ (ofL L).s ∧ (ofL L).s ≤ (ofL L).n * 100000 := by
      have := (sqL_c hinL).1
      rw [← t2] at this
      rw [show (ofL L).n = (L.length : Int) by rw [t1, hLlen]]
      exact this
    clear t1 t2 t3 b3 hLlen hin1 hq1 hq2 hnI hinL hinM hrw hlen0
    generalize bsK n L i = b at *
    generalize sprd (ofL L) = S at *
    generalize ofL L = t at *
    have hs2 : 2 ≤ b.s := by omega
    have hGn := hG.n
    by_cases hm : b.m < 2
    · have e17 := BS.F17_few b1 hm
      simp only [BS.BK, BS.BC, b4] at e17
      have dm := decide_eq_true hm
      clear hm
      simp (disch := first | omega | simp only [*, go_sem, ↓reduceIte, dropK_eq]) only [x5l6, go_sem, ↓reduceIte, dropK_eq, callX_known (C := C5m F8) (g := 6) rfl, ft_call (C := C5m F8) (g := 6) rfl, callX_known (C := C5m F8) (g := 7) rfl, ft_call (C := C5m F8) (g := 7) rfl, callX_known (C := C5m F8) (g := 8) rfl, ft_call (C := C5m F8) (g := 8) rfl, callX_known (C := C5m F8) (g := 11) rfl, ft_call (C := C5m F8) (g := 11) rfl, callX_known (C := C5m F8) (g := 12) rfl, ft_call (C := C5m F8) (g := 12) rfl, callX_known (C := C5m F8) (g := 13) rfl, ft_call (C := C5m F8) (g := 13) rfl, callX_known (C := C5m F8) (g := 15) rfl, ft_call (C := C5m F8) (g := 15) rfl, callX_known (C := C5m F8) (g := 16) rfl, ft_call (C := C5m F8) (g := 16) rfl, callX_known (C := C5m F8) (g := 17) rfl, ft_call (C := C5m F8) (g := 17) rfl, callX_known (C := C5m F8) (g := 18) rfl, ft_call (C := C5m F8) (g := 18) rfl, callX_known (C := C5m F8) (g := 19) rfl, ft_call (C := C5m F8) (g := 19) rfl, k0, k1, k2, k7, k8, k9, kb, hadd, hlen, d1, hLp, e7, e8, e17, dm, hN1, b4]
      exact Ends_plain rfl rfl
    have dm := decide_eq_false hm
    have e17 := BS.F17_ok (x := 0) b1 (by omega) (by omega)
    obtain ⟨c0, hc0⟩ : ∃ c, 30000 * b.u = c := ⟨_, rfl⟩
    obtain ⟨q0, hq0⟩ : ∃ c, 30000 * t.n = c := ⟨_, rfl⟩
    have hpt : BS.ptB b 0 = ⟨c0, q0, (BS.ptB b 0).v, (BS.ptB b 0).h, (BS.ptB b 0).l⟩ := by
      have g1 : (BS.ptB b 0).c = c0 := by
        show BS.byB b * b.u = c0
        unfold BS.byB
        rw [if_neg (show ¬ b.s = 1 by omega)]
        exact hc0
      have g2 : (BS.ptB b 0).d = q0 := by
        show BS.denB b = q0
        unfold BS.denB
        rw [if_neg (show ¬ b.s = 1 by omega), ← hq0, ← hN1, ← b2, Int.mul_assoc]
      rw [← g1, ← g2]
    rw [hpt] at e17
    generalize (BS.ptB b 0).v = v0 at *
    generalize (BS.ptB b 0).h = h0 at *
    generalize (BS.ptB b 0).l = l0 at *
    clear hpt
    simp only [BS.BK, BS.BC, b4] at e17
    have hms := sq_b2 (m := b.m) (s := b.s) ⟨by omega, b1.1.2.1.2⟩ ⟨hs2, b1.1.1.2⟩
    have hN2 := hN1
    rw [← b2] at hN1
    have hNb : 4 ≤ t.n ∧ t.n ≤ 100 := ⟨by omega, hG.n.2⟩
    have hsb := hG.s
    have e13a := F13_eq (n := c0) (d := q0) (by omega) (by omega)
    rw [← hc0, ← hq0, (new_mul (c := 30000) (n := b.u) (d := t.n) (by decide) (by omega)).1, (new_mul (c := 30000) (n := b.u) (d := t.n) (by decide) (by omega)).2, hc0, hq0, b4] at e13a
    have e13b := F13_eq (n := t.s) (d := t.n) (by omega) (by omega)
    generalize newN t.s t.n = nn at *
    generalize newD t.s t.n = nd at *
    by_cases hz : t.s.tmod t.n = 0
    · have dz : decide (¬ t.s.tmod t.n = 0) = false := decide_eq_false (fun h => h hz)
      obtain ⟨mid, hmid⟩ : ∃ mid, t.s.tdiv t.n = mid := ⟨_, rfl⟩
      have hmul : mid * t.n = t.s := by
        have := Int.tmod_add_mul_tdiv t.s t.n
        rw [hz, hmid, Int.mul_comm] at this
        omega
      have hmidb : -10000000 ≤ mid ∧ mid ≤ 10000000 := by
        constructor
        · refine Classical.byContradiction fun hc => ?_
          have : mid * t.n ≤ -10000001 * t.n := Int.mul_le_mul_of_nonneg_right (by omega) (by omega)
          omega
        · refine Classical.byContradiction fun hc => ?_
          have : 10000001 * t.n ≤ mid * t.n := Int.mul_le_mul_of_nonneg_right (by omega) (by omega)
          omega
      obtain ⟨f, hf⟩ : ∃ f : Int, 1 + (g : Int) = f := ⟨_, rfl⟩
      have hfb : 1 ≤ f ∧ f ≤ 1000 := by omega
      obtain ⟨lo, hlo⟩ : ∃ lo, mid - f = lo := ⟨_, rfl⟩
      obtain ⟨hi', hhi⟩ : ∃ hi', mid + f = hi' := ⟨_, rfl⟩
      have hmidc : -100000 ≤ mid ∧ mid ≤ 100000 := by
        have h1 := hmc.1
        have h2 := hmc.2
        rw [← hmul] at h1 h2
        constructor
        · refine Classical.byContradiction fun hc => ?_
          have : mid * t.n ≤ -100001 * t.n := Int.mul_le_mul_of_nonneg_right (by omega) (by omega)
          omega
        · refine Classical.byContradiction fun hc => ?_
          have : 100001 * t.n ≤ mid * t.n := Int.mul_le_mul_of_nonneg_right (by omega) (by omega)
          omega
      have hfn : 0 ≤ f * t.n := Int.mul_nonneg (by omega) (by omega)
      have p1 : lo * t.n = t.s - f * t.n := by rw [← hlo, Int.sub_mul, hmul]
      have p2 : hi' * t.n = t.s + f * t.n := by rw [← hhi, Int.add_mul, hmul]
      have hAB : AskB b lo hi' 1000 := ⟨b1, by omega, hs2, by omega, by omega, by omega, by decide, by rw [hN1, b4, p1]; omega, by rw [hN1, b4, p2]; omega⟩
      have hA : Ask t S lo hi' 1000 := ⟨hG, by omega, by omega, by omega, by decide, by decide⟩
      have e18 := F18_eq hAB
      have e19 := F19_eq hAB
      have e11 := F11_eq hA
      have e12 := F12_eq hA
      rw [cp_eq (f := f) (by rw [hN1]; omega) (by omega) (by unfold nearB; rw [hN1, b4, p1, p2]; omega)] at e19
      rw [pp_eq (f := f) hG.Sb.1 (by decide) (by omega) (by omega) (by unfold nearA; rw [p1, p2]; omega)] at e12
      simp only [BS.BK, BS.BC, b4] at e18 e19
      generalize ansB b.r (cpA b lo hi' 1000) = z1 at *
      generalize ansA t.n S (ppA S (hi' - lo) t.n 1000) = z2 at *
      clear hz hmul hAB hA p1 p2 hfn hG hm
      simp (disch := first | omega | simp only [*, go_sem, ↓reduceIte, dropK_eq]) only [x5l6, go_sem, ↓reduceIte, dropK_eq, callX_known (C := C5m F8) (g := 6) rfl, ft_call (C := C5m F8) (g := 6) rfl, callX_known (C := C5m F8) (g := 7) rfl, ft_call (C := C5m F8) (g := 7) rfl, callX_known (C := C5m F8) (g := 8) rfl, ft_call (C := C5m F8) (g := 8) rfl, callX_known (C := C5m F8) (g := 11) rfl, ft_call (C := C5m F8) (g := 11) rfl, callX_known (C := C5m F8) (g := 12) rfl, ft_call (C := C5m F8) (g := 12) rfl, callX_known (C := C5m F8) (g := 13) rfl, ft_call (C := C5m F8) (g := 13) rfl, callX_known (C := C5m F8) (g := 15) rfl, ft_call (C := C5m F8) (g := 15) rfl, callX_known (C := C5m F8) (g := 16) rfl, ft_call (C := C5m F8) (g := 16) rfl, callX_known (C := C5m F8) (g := 17) rfl, ft_call (C := C5m F8) (g := 17) rfl, callX_known (C := C5m F8) (g := 18) rfl, ft_call (C := C5m F8) (g := 18) rfl, callX_known (C := C5m F8) (g := 19) rfl, ft_call (C := C5m F8) (g := 19) rfl, k0, k1, k2, k7, k8, k9, kb, hadd, hlen, d1, hLp, e7, e8, e17, e13a, e13b, dm, dz, hN2, b4, hmid, hT2, hg1, hf, hlo, hhi, e11, e12, e18, e19]
      exact Ends_plain rfl rfl
    · have dz : decide (¬ t.s.tmod t.n = 0) = true := decide_eq_true hz
      clear hz
      simp (disch := first | omega | simp only [*, go_sem, ↓reduceIte, dropK_eq]) only [x5l6, go_sem, ↓reduceIte, dropK_eq, callX_known (C := C5m F8) (g := 6) rfl, ft_call (C := C5m F8) (g := 6) rfl, callX_known (C := C5m F8) (g := 7) rfl, ft_call (C := C5m F8) (g := 7) rfl, callX_known (C := C5m F8) (g := 8) rfl, ft_call (C := C5m F8) (g := 8) rfl, callX_known (C := C5m F8) (g := 11) rfl, ft_call (C := C5m F8) (g := 11) rfl, callX_known (C := C5m F8) (g := 12) rfl, ft_call (C := C5m F8) (g := 12) rfl, callX_known (C := C5m F8) (g := 13) rfl, ft_call (C := C5m F8) (g := 13) rfl, callX_known (C := C5m F8) (g := 15) rfl, ft_call (C := C5m F8) (g := 15) rfl, callX_known (C := C5m F8) (g := 16) rfl, ft_call (C := C5m F8) (g := 16) rfl, callX_known (C := C5m F8) (g := 17) rfl, ft_call (C := C5m F8) (g := 17) rfl, callX_known (C := C5m F8) (g := 18) rfl, ft_call (C := C5m F8) (g := 18) rfl, callX_known (C := C5m F8) (g := 19) rfl, ft_call (C := C5m F8) (g := 19) rfl, k0, k1, k2, k7, k8, k9, kb, hadd, hlen, d1, hLp, e7, e8, e17, e13a, e13b, dm, dz, hN2, b4]
      exact Ends_plain rfl rfl
theorem law5w {F8 : List AVal → Option AVal} (e8 : F8 [] = some (.bool true)) (xs : List AVal) (h : WTL [.slice 1 8 (.int .i64), .int .i64, .int .i64] xs) : pureF (C5m F8) 1 5 xs = some (.bool true) := by
  simp only [WTL] at h
  obtain ⟨q, _, rfl, hq, a, _, rfl, ha, b, _, rfl, hb, rfl⟩ := h
  rw [WT] at ha hb
  obtain ⟨n, rfl, hn1, hn2⟩ := ha
  obtain ⟨m, rfl, hm1, hm2⟩ := hb
  obtain ⟨l, hl, hl2, hl3⟩ := wt_ints hq
  exact law5 e8 hl (by omega) ⟨hn1, hn2⟩ ⟨hm1, hm2⟩
end Go.Proofs.YtkonpbcnekcjjaaGreatDoor.DV
namespace Go.Xec
open Go
section
variable {α β : Type}
noncomputable def lenR (l : List α) : Nat := List.rec (motive := fun _ => Nat) 0 (fun _ _ ih => Nat.succ ih) l
noncomputable def nthR (l : List α) (i : Nat) : Option α := List.rec (motive := fun _ => Nat → Option α) (fun _ => none) (fun x _ ih i => Nat.rec (motive := fun _ => Option α) (some x) (fun j _ => ih j) i) l i
noncomputable def dropR (n : Nat) (l : List α) : List α := Nat.rec (motive := fun _ => List α → List α) (fun l => l) (fun _ ih l => List.rec (motive := fun _ => List α) [] (fun _ xs _ => ih xs) l) n l
noncomputable def takeR (n : Nat) (l : List α) : List α := Nat.rec (motive := fun _ => List α → List α) (fun _ => []) (fun _ ih l => List.rec (motive := fun _ => List α) [] (fun x xs _ => x :: ih xs) l) n l
noncomputable def mapR (f : α → β) (l : List α) : List β := List.rec (motive := fun _ => List β) [] (fun x _ ih => f x :: ih) l
noncomputable def allR (f : α → Bool) (l : List α) : Bool := List.rec (motive := fun _ => Bool) true (fun x _ ih => Bool.rec (motive := fun _ => Bool) false ih (f x)) l
noncomputable def ovl (cells : List α) (off : Nat) (new : List α) : List α :=
  List.rec (motive := fun _ => Nat → List α → List α) (fun _ _ => []) (fun x xs ih off new => Nat.rec (motive := fun _ => List α) (List.rec (motive := fun _ => List α) (x :: xs) (fun v vs _ => v :: ih 0 vs) new) (fun j _ => x :: ih j new) off) cells off new
theorem lenR_eq (l : List α) : lenR l = l.length := by induction l with
  | nil => rfl
  | cons x l ih => exact congrArg Nat.succ ih
theorem nthR_eq (l : List α) (i : Nat) : nthR l i = l[i]? := by
  induction l generalizing i with
  | nil => simp [nthR]
  | cons x l ih => cases i with
    | zero => rfl
    | succ i => exact (ih i).trans (List.getElem?_cons_succ).symm
theorem dropR_eq (n : Nat) (l : List α) : dropR n l = l.drop n := by
  induction n generalizing l with
  | zero => rfl
  | succ n ih => cases l with
    | nil => rfl
    | cons x l => exact ih l
theorem takeR_eq (n : Nat) (l : List α) : takeR n l = l.take n := by
  induction n generalizing l with
  | zero => rfl
  | succ n ih => cases l with
    | nil => rfl
    | cons x l => exact congrArg (x :: ·) (ih l)
theorem mapR_eq (f : α → β) (l : List α) : mapR f l = l.map f := by induction l with
  | nil => rfl
  | cons x l ih => exact congrArg (f x :: ·) ih
theorem allR_eq (f : α → Bool) (l : List α) : allR f l = l.all f := by induction l with
  | nil => rfl
  | cons x l ih =>
    rw [List.all_cons, ← ih]
    show Bool.rec (motive := fun _ => Bool) false (allR f l) (f x) = _
    cases f x <;> rfl
theorem ovl_eq (cells : List α) (off : Nat) (new : List α) (h : off + new.length ≤ cells.length) : ovl cells off new = cells.take off ++ (new ++ cells.drop (off + new.length)) := by
  induction cells generalizing off new with
  | nil =>
    have h1 : off = 0 := by simp at h; omega
    have h2 : new = [] := by
      cases new with
      | nil => rfl
      | cons v vs => simp at h
    subst h1 h2
    rfl
  | cons x xs ih =>
    cases off with
    | zero =>
      cases new with
      | nil => rfl
      | cons v vs =>
        have := ih 0 vs (by simp at h ⊢; omega)
        show v :: ovl xs 0 vs = _
        rw [this]
        simp
    | succ j =>
      have := ih j new (by simp at h ⊢; omega)
      show x :: ovl xs j new = _
      rw [this, show j + 1 + new.length = (j + new.length) + 1 by omega]
      simp
end
inductive D16 where
  | d0 | d1 | d2 | d3 | d4 | d5 | d6 | d7 | d8 | d9 | dA | dB | dC | dD | dE | dF
  deriving DecidableEq
inductive N16 (α : Type) where
  | mk (a0 a1 a2 a3 a4 a5 a6 a7 a8 a9 aA aB aC aD aE aF : α)
namespace N16
variable {α : Type}
noncomputable def get (n : N16 α) (d : D16) : α := N16.rec (fun a0 a1 a2 a3 a4 a5 a6 a7 a8 a9 aA aB aC aD aE aF => D16.rec a0 a1 a2 a3 a4 a5 a6 a7 a8 a9 aA aB aC aD aE aF d) n
noncomputable def set (n : N16 α) (d : D16) (x : α) : N16 α := N16.rec (fun a0 a1 a2 a3 a4 a5 a6 a7 a8 a9 aA aB aC aD aE aF => D16.rec (.mk x a1 a2 a3 a4 a5 a6 a7 a8 a9 aA aB aC aD aE aF) (.mk a0 x a2 a3 a4 a5 a6 a7 a8 a9 aA aB aC aD aE aF) (.mk a0 a1 x a3 a4 a5 a6 a7 a8 a9 aA aB aC aD aE aF) (.mk a0 a1 a2 x a4 a5 a6 a7 a8 a9 aA aB aC aD aE aF) (.mk a0 a1 a2 a3 x a5 a6 a7 a8 a9 aA aB aC aD aE aF) (.mk a0 a1 a2 a3 a4 x a6 a7 a8 a9 aA aB aC aD aE aF) (.mk a0 a1 a2 a3 a4 a5 x a7 a8 a9 aA aB aC aD aE aF) (.mk a0 a1 a2 a3 a4 a5 a6 x a8 a9 aA aB aC aD aE aF) (.mk a0 a1 a2 a3 a4 a5 a6 a7 x a9 aA aB aC aD aE aF) (.mk a0 a1 a2 a3 a4 a5 a6 a7 a8 x aA aB aC aD aE aF) (.mk a0 a1 a2 a3 a4 a5 a6 a7 a8 a9 x aB aC aD aE aF) (.mk a0 a1 a2 a3 a4 a5 a6 a7 a8 a9 aA x aC aD aE aF) (.mk a0 a1 a2 a3 a4 a5 a6 a7 a8 a9 aA aB x aD aE aF) (.mk a0 a1 a2 a3 a4 a5 a6 a7 a8 a9 aA aB aC x aE aF) (.mk a0 a1 a2 a3 a4 a5 a6 a7 a8 a9 aA aB aC aD x aF) (.mk a0 a1 a2 a3 a4 a5 a6 a7 a8 a9 aA aB aC aD aE x) d) n
def all (x : α) : N16 α := .mk x x x x x x x x x x x x x x x x
theorem get_set (n : N16 α) (d e : D16) (x : α) : (n.set d x).get e = if e = d then x else n.get e := by
  cases n; cases d <;> cases e <;> rfl
theorem get_all (d : D16) (x : α) : (all x).get d = x := by cases d <;> rfl
end N16
noncomputable def dg (n : Nat) : D16 :=
  Bool.rec (Bool.rec (Bool.rec (Bool.rec .dF .dE (Nat.ble n 14)) (Bool.rec .dD .dC (Nat.ble n 12)) (Nat.ble n 13)) (Bool.rec (Bool.rec .dB .dA (Nat.ble n 10)) (Bool.rec .d9 .d8 (Nat.ble n 8)) (Nat.ble n 9)) (Nat.ble n 11)) (Bool.rec (Bool.rec (Bool.rec .d7 .d6 (Nat.ble n 6)) (Bool.rec .d5 .d4 (Nat.ble n 4)) (Nat.ble n 5)) (Bool.rec (Bool.rec .d3 .d2 (Nat.ble n 2)) (Bool.rec .d1 .d0 (Nat.ble n 0)) (Nat.ble n 1)) (Nat.ble n 3)) (Nat.ble n 7)
def dgv : D16 → Nat
  | .d0 => 0
  | .d1 => 1
  | .d2 => 2
  | .d3 => 3
  | .d4 => 4
  | .d5 => 5
  | .d6 => 6
  | .d7 => 7
  | .d8 => 8
  | .d9 => 9
  | .dA => 10
  | .dB => 11
  | .dC => 12
  | .dD => 13
  | .dE => 14
  | .dF => 15
theorem dgv_dg {n : Nat} (h : n < 16) : dgv (dg n) = n := by
  match n, h with
  | 0, _ => exact rfl
  | 1, _ => exact rfl
  | 2, _ => exact rfl
  | 3, _ => exact rfl
  | 4, _ => exact rfl
  | 5, _ => exact rfl
  | 6, _ => exact rfl
  | 7, _ => exact rfl
  | 8, _ => exact rfl
  | 9, _ => exact rfl
  | 10, _ => exact rfl
  | 11, _ => exact rfl
  | 12, _ => exact rfl
  | 13, _ => exact rfl
  | 14, _ => exact rfl
  | 15, _ => exact rfl
  | n + 16, h => exact absurd h (by omega)
theorem dg_inj {a b : Nat} (ha : a < 16) (hb : b < 16) : dg a = dg b ↔ a = b := ⟨fun h => by rw [← dgv_dg ha, h, dgv_dg hb], fun h => by rw [h]⟩
inductive Dt where
  | in2 (a b : D16)
  | out
noncomputable def dt (n : Nat) : Dt := Bool.rec .out (.in2 (dg (Nat.div n 16)) (dg (Nat.mod n 16))) (Nat.ble n 255)
inductive Dk where
  | in4 (a b c d : D16)
  | out
noncomputable def dk (n : Nat) : Dk := Bool.rec .out (.in4 (dg (Nat.div n 4096)) (dg (Nat.mod (Nat.div n 256) 16)) (dg (Nat.mod (Nat.div n 16) 16)) (dg (Nat.mod n 16))) (Nat.ble n 65535)
theorem beq_spec (a b : Nat) : Nat.beq a b = decide (a = b) := by
  by_cases h : a = b
  · subst h; simp
  · rw [decide_eq_false h]
    cases hb : Nat.beq a b
    · rfl
    · exact absurd (Nat.eq_of_beq_eq_true hb) h
theorem ble_cases (n m : Nat) : (Nat.ble n m = true ∧ n ≤ m) ∨ (Nat.ble n m = false ∧ m < n) := by
  cases h : Nat.ble n m
  · exact .inr ⟨rfl, Nat.lt_of_not_le fun h2 => by rw [Nat.ble_eq_true_of_le h2] at h; cases h⟩
  · exact .inl ⟨rfl, Nat.le_of_ble_eq_true h⟩
theorem dt_in {n : Nat} (h : n ≤ 255) : dt n = .in2 (dg (n / 16)) (dg (n % 16)) := by
  unfold dt; rw [Nat.ble_eq_true_of_le h]; rfl
theorem dt_out {n : Nat} (h : 255 < n) : dt n = .out := by
  unfold dt
  rcases ble_cases n 255 with ⟨_, h2⟩ | ⟨h2, _⟩
  · omega
  · rw [h2]
theorem dk_in {n : Nat} (h : n ≤ 65535) : dk n = .in4 (dg (n / 4096)) (dg (n / 256 % 16)) (dg (n / 16 % 16)) (dg (n % 16)) := by
  unfold dk; rw [Nat.ble_eq_true_of_le h]; rfl
theorem dk_out {n : Nat} (h : 65535 < n) : dk n = .out := by
  unfold dk
  rcases ble_cases n 65535 with ⟨_, h2⟩ | ⟨h2, _⟩
  · omega
  · rw [h2]
structure KTm where
  top : N16 (N16 AVal)
  over : Nat → AVal
def KTm.e : KTm := ⟨.all (.all .undef), fun _ => .undef⟩
noncomputable def KTm.get (t : KTm) (n : Nat) : AVal := Dt.rec (fun a b => (t.top.get a).get b) (t.over n) (dt n)
noncomputable def KTm.set (t : KTm) (n : Nat) (x : AVal) : KTm := Dt.rec (fun a b => ⟨t.top.set a ((t.top.get a).set b x), t.over⟩) ⟨t.top, fun k => if k = n then x else t.over k⟩ (dt n)
theorem KTm.get_set (t : KTm) (n j : Nat) (x : AVal) : (t.set n x).get j = if j = n then x else t.get j := by
  unfold KTm.set KTm.get
  rcases Nat.lt_or_ge 255 n with hn | hn
  · rw [dt_out hn]
    rcases Nat.lt_or_ge 255 j with hj | hj
    · rw [dt_out hj]
    · rw [dt_in hj, if_neg (by omega)]
  · rw [dt_in hn]
    rcases Nat.lt_or_ge 255 j with hj | hj
    · rw [dt_out hj, if_neg (by omega)]
    · rw [dt_in hj]
      simp only [N16.get_set, dg_inj (show j / 16 < 16 by omega) (show n / 16 < 16 by omega)]
      by_cases h1 : j / 16 = n / 16
      · rw [if_pos h1]
        simp only [N16.get_set, dg_inj (show j % 16 < 16 by omega) (show n % 16 < 16 by omega)]
        by_cases h2 : j % 16 = n % 16
        · rw [if_pos h2, if_pos (by omega)]
        · rw [if_neg h2, if_neg (by omega), h1]
      · rw [if_neg h1, if_neg (by omega)]
theorem KTm.get_e (n : Nat) : KTm.e.get n = .undef := by
  unfold KTm.get KTm.e
  cases dt n with
  | in2 a b => simp only [N16.get_all]
  | out => rfl
abbrev Cell := List (Nat × Option Blk)
structure KHeap where
  top : N16 (N16 (N16 (N16 Cell)))
  over : Nat → Cell
def KHeap.e : KHeap := ⟨.all (.all (.all (.all []))), fun _ => []⟩
noncomputable def KHeap.get (t : KHeap) (n : Nat) : Cell := Dk.rec (fun a b c d => (((t.top.get a).get b).get c).get d) (t.over n) (dk n)
noncomputable def KHeap.set (t : KHeap) (n : Nat) (x : Cell) : KHeap := Dk.rec (fun a b c d => ⟨t.top.set a ((t.top.get a).set b (((t.top.get a).get b).set c ((((t.top.get a).get b).get c).set d x))), t.over⟩) ⟨t.top, fun k => if k = n then x else t.over k⟩ (dk n)
theorem KHeap.get_set (t : KHeap) (n j : Nat) (x : Cell) : (t.set n x).get j = if j = n then x else t.get j := by
  unfold KHeap.set KHeap.get
  rcases Nat.lt_or_ge 65535 n with hn | hn
  · rw [dk_out hn]
    rcases Nat.lt_or_ge 65535 j with hj | hj
    · rw [dk_out hj]
    · rw [dk_in hj, if_neg (by omega)]
  · rw [dk_in hn]
    rcases Nat.lt_or_ge 65535 j with hj | hj
    · rw [dk_out hj, if_neg (by omega)]
    · rw [dk_in hj]
      simp only [N16.get_set, dg_inj (show j / 4096 < 16 by omega) (show n / 4096 < 16 by omega)]
      by_cases h1 : j / 4096 = n / 4096
      · rw [if_pos h1]
        simp only [N16.get_set, dg_inj (show j / 256 % 16 < 16 by omega) (show n / 256 % 16 < 16 by omega)]
        by_cases h2 : j / 256 % 16 = n / 256 % 16
        · rw [if_pos h2]
          simp only [N16.get_set, dg_inj (show j / 16 % 16 < 16 by omega) (show n / 16 % 16 < 16 by omega)]
          by_cases h3 : j / 16 % 16 = n / 16 % 16
          · rw [if_pos h3]
            simp only [N16.get_set, dg_inj (show j % 16 < 16 by omega) (show n % 16 < 16 by omega)]
            by_cases h4 : j % 16 = n % 16
            · rw [if_pos h4, if_pos (by omega)]
            · rw [if_neg h4, if_neg (by omega), h1, h2, h3]
          · rw [if_neg h3, if_neg (by omega), h1, h2]
        · rw [if_neg h2, if_neg (by omega), h1]
      · rw [if_neg h1, if_neg (by omega)]
theorem KHeap.get_e (n : Nat) : KHeap.e.get n = [] := by
  unfold KHeap.get KHeap.e
  cases dk n with
  | in4 a b c d => simp only [N16.get_all]
  | out => rfl
noncomputable def look (l : Cell) (s : Nat) : Option Blk := List.rec (motive := fun _ => Option Blk) none (fun p _ ih => Bool.rec (motive := fun _ => Option Blk) ih p.2 (Nat.beq p.1 s)) l
theorem look_cons (s' : Nat) (b : Option Blk) (r : Cell) (s : Nat) : look ((s', b) :: r) s = bif Nat.beq s' s then b else look r s := by
  show Bool.rec (motive := fun _ => Option Blk) (look r s) b (Nat.beq s' s) = _
  cases Nat.beq s' s <;> rfl
theorem look_nil (s : Nat) : look [] s = none := rfl
def put : List (Nat × Option Blk) → Nat → Option Blk → List (Nat × Option Blk)
  | [], s, b => [(s, b)]
  | (s', b') :: r, s, b => bif Nat.beq s' s then (s, b) :: r else (s', b') :: put r s b
theorem look_put (l : List (Nat × Option Blk)) (s j : Nat) (b : Option Blk) : look (put l s b) j = if j = s then b else look l j := by
  induction l with
  | nil =>
    simp only [put, look_cons, look_nil, beq_spec]
    by_cases h : j = s
    · subst h; simp
    · rw [if_neg h, decide_eq_false (fun e => h e.symm)]; rfl
  | cons x l ih =>
    obtain ⟨s', b'⟩ := x
    simp only [put, beq_spec]
    by_cases h : s' = s
    · subst h
      simp only [decide_true, cond_true, look_cons, beq_spec]
      by_cases h2 : j = s'
      · subst h2; simp
      · rw [if_neg h2, decide_eq_false (fun e => h2 e.symm)]; rfl
    · rw [decide_eq_false h]
      simp only [cond_false, look_cons, beq_spec, ih]
      by_cases h2 : s' = j
      · subst h2
        simp [h]
      · rw [decide_eq_false h2]
        simp
noncomputable def toHeap (kh : KHeap) : Heap := fun k => look (kh.get k.2) k.1
noncomputable def setH (kh : KHeap) (k : Key) (b : Option Blk) : KHeap := kh.set k.2 (put (kh.get k.2) k.1 b)
theorem toHeap_set (kh : KHeap) (k : Key) (b : Option Blk) : toHeap (setH kh k b) = upd (toHeap kh) k b := by
  funext j
  obtain ⟨s, c⟩ := k
  obtain ⟨s', c'⟩ := j
  simp only [toHeap, setH, upd, KHeap.get_set]
  by_cases h : c' = c
  · subst h
    rw [if_pos rfl]
    simp only [look_put]
    by_cases h2 : s' = s
    · subst h2; simp
    · rw [if_neg h2, if_neg (fun e => h2 (Prod.mk.inj e).1)]
  · rw [if_neg h, if_neg (fun e => h (Prod.mk.inj e).2)]
noncomputable def applyK (kh : KHeap) : Wr → KHeap
  | [] => kh
  | (k, b) :: ws => applyK (setH kh k b) ws
theorem toHeap_apply (kh : KHeap) (ws : Wr) : toHeap (applyK kh ws) = applyW (toHeap kh) ws := by
  induction ws generalizing kh with
  | nil => rfl
  | cons x ws ih => obtain ⟨k, b⟩ := x; simp only [applyK, applyW, ih, toHeap_set]
theorem toHeap_empty : toHeap .e = fun _ => none := by funext k; unfold toHeap; rw [KHeap.get_e]; rfl
def lendW (f : AVal → Rd (AVal × List Key)) : List AVal → Rd (List AVal × List Key)
  | [] => .ret ([], [])
  | x :: xs => (f x).bind fun r => (lendW f xs).bind fun q => .ret (r.1 :: q.1, r.2 ++ q.2)
def lendK : Nat → AVal → Rd (AVal × List Key)
  | 0, x => match x with
    | .sl .. => .fail
    | .agg _ => .fail
    | .tup _ => .fail
    | .fn .. => .fail
    | .ifc .. => .fail
    | .ptr .. => .fail
    | .mp .. => .fail
    | x => .ret (x, [])
  | d + 1, x => match x with
    | .sl k g es off len => .get k fun b => match b with
      | none => .fail
      | some b => match b.els g es off len with
        | none => .fail
        | some xs => (lendW (lendK d) xs).bind fun r => .ret (.slc es r.1, k :: r.2)
    | .agg xs => (lendW (lendK d) xs).bind fun r => .ret (.agg r.1, r.2)
    | .tup xs => (lendW (lendK d) xs).bind fun r => .ret (.tup r.1, r.2)
    | .fn f first cap => (lendW (lendK d) first).bind fun r => (lendW (lendK d) cap).bind fun q => .ret (.fn f r.1 q.1, r.2 ++ q.2)
    | .ifc t v => (lendK d v).bind fun r => .ret (.ifc t r.1, r.2)
    | .ptr k g i es off => .get k fun b => match b with
      | some (.var cells) => if g = 0 then (lendW (lendK d) cells).bind fun r => .ret (.pvo r.1 (i * es + off), k :: r.2) else .fail
      | _ => .fail
    | .mp .. => .fail
    | x => .ret (x, [])
theorem lendW_lend (d : Nat) : lendW (lend d) = lendL d := by
  funext xs
  induction xs with
  | nil => rw [lendL]; rfl
  | cons x xs ih => rw [lendL, lendW, ih]
theorem lendK_eq (d : Nat) : lendK d = lend d := by
  induction d with
  | zero => funext x; cases x <;> (rw [lend]; rfl) <;> simp [lendK, lend]
  | succ d ih =>
    funext x
    cases x <;> simp only [lendK, lend, ih, lendW_lend] <;> rfl
theorem lendLK_eq (d : Nat) (xs : List AVal) : lendW (lendK d) xs = lendL d xs := by rw [lendK_eq, lendW_lend]
def callRK (F : List AVal → Option AVal) (args : List AVal) : Rd Outp :=
  (lendW (lendK freeze) args).bind fun r => match F r.1 with
    | some v => .ret (v, if hasRef v then r.2.map (fun k => (k, none)) else [])
    | none => .fail
theorem callRK_eq : callRK = callR := by funext F args; unfold callRK callR; rw [lendLK_eq]; rfl
def callNRK (key : Key) (F : List AVal → Option (Option (Nat × List AVal))) (args : List AVal) : Rd Outp :=
  (lendW (lendK freeze) args).bind fun r => match F r.1 with
    | some (some p) => if p.1 = 0 then
        match entsOf 0 p.2 with
        | some es => if r.2.isEmpty = true then .ret (.mp key, [(key, some (.obj (.map es p.2.length)))]) else .fail
        | none => .fail
      else if hasRefL p.2 = false then .ret (.sl key 0 p.1 0 p.2.length, [(key, some (.row 0 p.1 p.2))]) else .fail
    | some none => .ret (.nils, [])
    | none => .fail
theorem callNRK_eq : callNRK = callNR := by funext key F args; unfold callNRK callNR; rw [lendLK_eq]; rfl
def appRK (es bytes : Nat) (key : Key) (x y : AVal) : Rd Outp :=
  (elemsR es y).bind fun new0 => (lendW (lendK freeze) new0).bind fun r =>
  let new := r.1
  let gone : Wr := r.2.map fun k => (k, none)
  match x with
  | .nils => if new.isEmpty then .ret (.nils, gone) else
      if new.length * bytes ≤ 140737488355328 then .ret (.sl key 0 es 0 new.length, gone ++ [(key, some (.row 0 es new))]) else .fail
  | .emp => if new.isEmpty then .ret (.emp, gone) else
      if new.length * bytes ≤ 140737488355328 then .ret (.sl key 0 es 0 new.length, gone ++ [(key, some (.row 0 es new))]) else .fail
  | .sl k g es' off len => if es' = es ∧ r.2.contains k = false then .get k fun b => match b with
      | some (.row g' es'' elems) =>
        if g = g' ∧ es'' = es ∧ off + len = elems.length ∧ (len + new.length) * bytes ≤ 140737488355328 ∧ new.all (fun e => (cellsOf e).all isSc) = true then
          .ret (.sl k (g + 1) es 0 (len + new.length), gone ++ [(k, some (.row (g + 1) es (elems.drop off ++ new)))])
        else .fail
      | _ => .fail
    else .fail
  | _ => .fail
theorem appRK_eq : appRK = appR := by
  funext es bytes key x y
  unfold appRK appR
  refine congrArg _ (funext fun new0 => ?_)
  rw [lendLK_eq]
  rfl
def rdOfK (C : Cfg) (key : Key) (op : XOp) (e : XArg → AVal) : Rd Outp ⊕ (FuncId × List AVal) :=
  match op with
  | .call f as0 => match target (e f) (as0.map e) with
    | some (g, vs) => match C.Γ g with
      | some F => .inl (callRK F vs)
      | none => .inr (g, vs)
    | none => .inl .fail
  | .callN f as0 => match target (e f) (as0.map e) with
    | some (g, vs) => match C.Γn g with
      | some F => .inl (callNRK key F vs)
      | none => .inl .fail
    | none => .inl .fail
  | .callM f as0 => match target (e f) (as0.map e) with
    | some (g, vs) => match C.Γm g with
      | some F => .inl (callMR key F vs)
      | none => .inl .fail
    | none => .inl .fail
  | .callA f as0 => match target (e f) (as0.map e) with
    | some (g, vs) => match C.Γa g with
      | some q => .inl (q vs)
      | none => .inl .fail
    | none => .inl .fail
  | .inv m x as0 => match e x with
    | .ifc t v => match C.μ t m with
      | some g => match C.Γ g with
        | some F => .inl (callRK F (v :: as0.map e))
        | none => .inr (g, v :: as0.map e)
      | none => .inl .fail
    | _ => .inl .fail
  | .app es bytes x y => .inl (appRK es bytes key (e x) (e y))
  | op => .inl (opR key op e)
theorem rdOfK_eq (C : Cfg) (key : Key) (op : XOp) (e : XArg → AVal) : rdOfK C key op e = rdOf C key op e := by
  cases op <;> simp only [rdOfK, rdOf, callRK_eq, callNRK_eq, appRK_eq, opR] <;> rfl
structure KSt where
  tm : KTm
  hp : KHeap
  nc : Nat
noncomputable def KSt.tmf (s : KSt) : Nat → AVal := s.tm.get
noncomputable def KSt.st (s : KSt) : St := ⟨s.tmf, toHeap s.hp, s.nc⟩
abbrev InlK := FuncId → List AVal → KHeap → Nat → Option (AVal × KHeap × Nat)
noncomputable def runPK (inl : InlK) (p : Rd Outp ⊕ (FuncId × List AVal)) (h : KHeap) (nc : Nat) : Option (AVal × KHeap × Nat) :=
  match p with
  | .inl r => match r.run (toHeap h) with
    | some r => some (r.1, applyK h r.2, nc)
    | none => none
  | .inr (g, vs) => inl g vs h nc
noncomputable def putK (t : KTm) (d : Option Nat) (v : AVal) : KTm :=
  match d with
  | some d => t.set d v
  | none => t
noncomputable def progK (C : Cfg) (key : Key) (o : XOper) (tm : Nat → AVal) : Option (Rd Outp ⊕ (FuncId × List AVal)) :=
  match goes tm o.g with
  | none => none
  | some b => some (if b then rdOfK C key o.op (arg tm) else .inl (.ret (.undef, [])))
theorem progK_eq (C : Cfg) (key : Key) (o : XOper) (tm : Nat → AVal) : progK C key o tm = progO C key o tm := by
  unfold progK progO; simp only [rdOfK_eq]; rfl
inductive ClP where
  | p (f : (XArg → AVal) → Option AVal)
  | h (f : Key → (XArg → AVal) → KHeap → Option (AVal × KHeap))
  | c (f : XArg) (xs : List XArg)
  | g
noncomputable def takeVK (agg : Bool) (n off : Nat) (cs : List AVal) : Option AVal :=
  bif agg then (bif Nat.ble (off + n) (lenR cs) then some (.agg (takeR n (dropR off cs))) else none) else nthR cs off
theorem ble_dec (a b : Nat) : Nat.ble a b = decide (a ≤ b) := by
  rcases ble_cases a b with ⟨h, h2⟩ | ⟨h, h2⟩
  · rw [h, decide_eq_true h2]
  · rw [h, decide_eq_false (by omega)]
theorem takeVK_eq (agg : Bool) (n off : Nat) (cs : List AVal) : takeVK agg n off cs = takeV agg n off cs := by
  unfold takeVK takeV
  rw [lenR_eq, nthR_eq, takeR_eq, dropR_eq, ble_dec]
  cases agg
  · rfl
  · by_cases h : off + n ≤ cs.length <;> simp [h]
noncomputable def loadK (agg : Bool) (n : Nat) (hp : KHeap) : AVal → Option AVal
  | .ptr k g i es off => match look (hp.get k.2) k.1 with
    | some (.var cells) => bif Nat.beq g 0 then takeVK agg n off (dropR (i * es) cells) else none
    | some (.row g' es' elems) => bif Nat.beq g g' && Nat.beq es es' then match nthR elems i with
        | some x => takeVK agg n off (cellsOf x)
        | none => none
      else none
    | _ => none
  | .pvo cs off => takeVK agg n off cs
  | _ => none
noncomputable def storeK (n : Nat) (hp : KHeap) : AVal → AVal → Option KHeap
  | .ptr k g i es off, y => bif Nat.beq (lenR (cellsOf y)) n && allR isSc (cellsOf y) then
      match look (hp.get k.2) k.1 with
      | some (.var cells) => bif Nat.beq g 0 && Nat.ble (i * es + off + n) (lenR cells) then some (setH hp k (some (.var (ovl cells (i * es + off) (cellsOf y))))) else none
      | some (.row g' es' elems) => bif Nat.beq g g' && Nat.beq es es' then match nthR elems i with
          | some e => bif Nat.ble (off + n) (lenR (cellsOf e)) then some (setH hp k (some (.row g' es' (ovl elems i [remake e (ovl (cellsOf e) off (cellsOf y))])))) else none
          | none => none
        else none
      | _ => none
    else none
  | _, _ => none
noncomputable def pop : XOp → ClP
  | .mv x => .p fun e => some (e x)
  | .pick c a b => .p fun e => match e c with
    | .bool t => some (bif t then e a else e b)
    | _ => none
  | .bin op x y => .p fun e => binA op (e x) (e y)
  | .eqB neg x y => .p fun e => match e x, e y with
    | .bool a, .bool b => some (.bool (if neg then !(a == b) else a == b))
    | _, _ => none
  | .eqN neg kd x => .p fun e => match nilA kd (e x) with
    | some b => some (.bool (if neg then !b else b))
    | none => none
  | .un op x => .p fun e => unA op (e x)
  | .conv k x => .p fun e => match e x with
    | .int _ n => some (.int k (k.wrap n))
    | _ => none
  | .fa off x => .p fun e => faA off (e x)
  | .fld agg n off x => .p fun e => match e x with
    | .agg cs => takeVK agg n off cs
    | _ => none
  | .iaA n es x i => .p fun e => iaAA n es (e x) (e i)
  | .iaS es x i => .p fun e => iaSA es (e x) (e i)
  | .ixA agg n es x i => .p fun e => ixAA agg n es (e x) (e i)
  | .ixS x i => .p fun e => ixSA (e x) (e i)
  | .lenS x => .p fun e => match e x with
    | .str s => some (.int .i64 s.size)
    | _ => none
  | .lenV x => .p fun e => lenVA (e x)
  | .ext x i => .p fun e => match e x with
    | .tup xs => nthR xs i
    | _ => none
  | .mkf f first cap => .p fun e => some (.fn f (mapR e first) (mapR e cap))
  | .mki t x => .p fun e => some (.ifc t (e x))
  | .alloc cells => .h fun key e hp => some (.ptr key 0 0 0 0, setH hp key (some (.var cells)))
  | .load agg n x => .h fun key e hp => match loadK agg n hp (e x) with
    | some v => some (v, hp)
    | none => none
  | .store n x y => .h fun key e hp => match storeK n hp (e x) (e y) with
    | some hp' => some (.undef, hp')
    | none => none
  | .call f xs => .c f xs
  | _ => .g
theorem pop_ok (C : Cfg) (key : Key) {op : XOp} {f : (XArg → AVal) → Option AVal} (h : pop op = .p f) (e : XArg → AVal) {v : AVal} (hv : f e = some v) : rdOf C key op e = .inl (.ret (v, [])) := by
  cases op <;> simp only [pop, ClP.p.injEq, reduceCtorEq] at h <;> subst h <;> simp only [rdOf, opR] <;> simp only [takeVK_eq, nthR_eq, mapR_eq] at hv
  all_goals first
    | (rw [hv]; rfl)
    | (obtain rfl := Option.some.inj hv; rfl)
    | (split at hv <;> simp_all [Rd.ofO, Rd.bind] <;> done)
    | (split at hv <;> simp_all [Rd.ofO, Rd.bind] <;> (rw [← hv]; rename_i t _; cases t <;> rfl))
theorem loadK_ok {agg : Bool} {n : Nat} {hp : KHeap} {x v : AVal} (h : loadK agg n hp x = some v) : (loadR agg n x).run (toHeap hp) = some v := by
  unfold loadK at h
  split at h
  · rename_i k g i es off
    simp only [loadR, Rd.run]
    change (match toHeap hp k with | some (.var cells) => _ | some (.row g' es' elems) => _ | _ => none) = _ at h
    split at h
    · rename_i cells hk
      rw [hk]
      rw [beq_spec, Bool.cond_eq_ite] at h
      split at h
      · rename_i hg
        simp only [decide_eq_true_eq] at hg
        simp only [Blk.cs]
        rw [if_pos hg, Option.bind_some, ← dropR_eq, ← takeVK_eq, h]
        rfl
      · cases h
    · rename_i g' es' elems hk
      rw [hk]
      rw [beq_spec, beq_spec, Bool.cond_eq_ite] at h
      split at h
      · rename_i hg
        simp only [Bool.and_eq_true, decide_eq_true_eq] at hg
        simp only [Blk.cs]
        rw [if_pos hg, ← nthR_eq]
        cases hn : nthR elems i with
        | none => rw [hn] at h; cases h
        | some x =>
          rw [hn] at h
          simp only at h
          rw [Option.map_some, Option.bind_some, ← takeVK_eq, h]
          rfl
      · cases h
    · cases h
  · simp only [loadR]; rw [← takeVK_eq, h]; rfl
  · cases h
theorem storeK_ok {n : Nat} {hp hp' : KHeap} {x y : AVal} (h : storeK n hp x y = some hp') : ∃ ws, (storeR n x y).run (toHeap hp) = some (.undef, ws) ∧ toHeap hp' = applyW (toHeap hp) ws := by
  unfold storeK at h
  split at h
  · rename_i k g i es off
    rw [Bool.cond_eq_ite] at h
    split at h
    · rename_i hc
      rw [Bool.and_eq_true, beq_spec, decide_eq_true_eq, lenR_eq, allR_eq] at hc
      change (match toHeap hp k with | some (.var cells) => _ | some (.row g' es' elems) => _ | _ => none) = _ at h
      simp only [storeR]
      rw [if_pos hc]
      simp only [Rd.run]
      split at h
      · rename_i cells hk
        rw [Bool.cond_eq_ite] at h
        split at h
        · rename_i hg
          rw [Bool.and_eq_true, beq_spec, decide_eq_true_eq, lenR_eq] at hg
          have hg2 := Nat.le_of_ble_eq_true hg.2
          rw [hk]
          simp only
          rw [if_pos ⟨hg.1, hg2⟩]
          obtain rfl := Option.some.inj h
          refine ⟨_, rfl, ?_⟩
          rw [toHeap_set, ovl_eq _ _ _ (by rw [hc.1]; exact hg2)]
          rfl
        · cases h
      · rename_i g' es' elems hk
        rw [hk]
        rw [beq_spec, beq_spec, Bool.cond_eq_ite] at h
        split at h
        · rename_i hg
          simp only [Bool.and_eq_true, decide_eq_true_eq] at hg
          simp only
          rw [if_pos hg, ← nthR_eq]
          cases hn : nthR elems i with
          | none => rw [hn] at h; cases h
          | some e =>
            rw [hn] at h
            simp only at h ⊢
            rw [Bool.cond_eq_ite] at h
            split at h
            · rename_i hle
              rw [lenR_eq] at hle
              have hle := Nat.le_of_ble_eq_true hle
              obtain rfl := Option.some.inj h
              rw [if_pos hle]
              have hi : i < elems.length := by
                rw [nthR_eq] at hn
                exact (List.getElem?_eq_some_iff.1 hn).1
              refine ⟨_, rfl, ?_⟩
              rw [toHeap_set, ovl_eq (cellsOf e) off _ (by rw [hc.1]; exact hle), ovl_eq elems i _ (by simp; omega), List.set_eq_take_append_cons_drop, if_pos hi]
              rfl
            · cases h
        · cases h
      · cases h
    · cases h
  · cases h
theorem pop_h (C : Cfg) {key : Key} {op : XOp} {f : Key → (XArg → AVal) → KHeap → Option (AVal × KHeap)} (h : pop op = .h f) {e : XArg → AVal} {hp hp' : KHeap} {v : AVal} (hv : f key e hp = some (v, hp')) :
    ∃ rd ws, rdOf C key op e = .inl rd ∧ rd.run (toHeap hp) = some (v, ws) ∧ toHeap hp' = applyW (toHeap hp) ws := by
  cases op <;> simp only [pop, ClP.h.injEq, reduceCtorEq] at h <;> subst h <;> simp only [rdOf, opR] <;> simp only at hv
  · simp only [Option.some.injEq, Prod.mk.injEq] at hv
    obtain ⟨rfl, rfl⟩ := hv
    exact ⟨_, _, rfl, rfl, by rw [toHeap_set]; rfl⟩
  · rename_i agg n x
    cases hl : loadK agg n hp (e x) with
    | none => rw [hl] at hv; cases hv
    | some u =>
      rw [hl] at hv
      simp only [Option.some.injEq, Prod.mk.injEq] at hv
      obtain ⟨rfl, rfl⟩ := hv
      refine ⟨_, [], rfl, ?_, rfl⟩
      rw [Rd.run_bind, loadK_ok hl]
      rfl
  · rename_i n x y
    cases hl : storeK n hp (e x) (e y) with
    | none => rw [hl] at hv; cases hv
    | some u =>
      rw [hl] at hv
      simp only [Option.some.injEq, Prod.mk.injEq] at hv
      obtain ⟨rfl, rfl⟩ := hv
      obtain ⟨ws, h1, h2⟩ := storeK_ok hl
      exact ⟨_, ws, rfl, h1, h2⟩
theorem pop_c {op : XOp} {f : XArg} {xs : List XArg} (h : pop op = .c f xs) : op = .call f xs := by
  cases op <;> simp only [pop, ClP.c.injEq, reduceCtorEq] at h
  obtain ⟨rfl, rfl⟩ := h
  rfl
noncomputable def callK (C : Cfg) (inl : InlK) (f : AVal) (xs : List AVal) (hp : KHeap) (nc : Nat) : Option (AVal × KHeap × Nat) :=
  match target f xs with
  | some (g, vs) => match C.Γ g with
    | some F => match (callRK F vs).run (toHeap hp) with
      | some r => some (r.1, applyK hp r.2, nc)
      | none => none
    | none => inl g vs hp nc
  | none => none
theorem callK_eq (C : Cfg) (inl : InlK) (key : Key) (f : XArg) (xs : List XArg) (e : XArg → AVal) (hp : KHeap) (nc : Nat) : callK C inl (e f) (xs.map e) hp nc = runPK inl (rdOf C key (.call f xs) e) hp nc := by
  unfold callK
  simp only [rdOf]
  cases target (e f) (xs.map e) with
  | none => rfl
  | some q =>
    obtain ⟨g, vs⟩ := q
    simp only
    cases C.Γ g with
    | none => rfl
    | some F => simp only [runPK, callRK_eq]
noncomputable def stepK (C : Cfg) (inl : InlK) (key : Key) (o : XOper) (s : KSt) : Option KSt :=
  match goes s.tmf o.g with
  | none => none
  | some b => bif b then
      match pop o.op with
      | .p f => match f (arg s.tmf) with
        | some v => some ⟨putK s.tm o.dst v, s.hp, s.nc⟩
        | none => none
      | .h f => match f key (arg s.tmf) s.hp with
        | some r => some ⟨putK s.tm o.dst r.1, r.2, s.nc⟩
        | none => none
      | .c f xs => match callK C inl (arg s.tmf f) (mapR (arg s.tmf) xs) s.hp s.nc with
        | some r => some ⟨putK s.tm o.dst r.1, r.2.1, r.2.2⟩
        | none => none
      | .g => match runPK inl (rdOfK C key o.op (arg s.tmf)) s.hp s.nc with
        | some r => some ⟨putK s.tm o.dst r.1, r.2.1, r.2.2⟩
        | none => none
    else some ⟨putK s.tm o.dst .undef, s.hp, s.nc⟩
def InlKOk (inlK : InlK) (inl : Inl) : Prop := ∀ f as0 kh nc v kh' nc', inlK f as0 kh nc = some (v, kh', nc') → inl f as0 (toHeap kh) nc = some (v, toHeap kh', nc')
section
variable {C : Cfg} {inlK : InlK} {inl : Inl}
theorem runPK_ok (hi : InlKOk inlK inl) {p : Rd Outp ⊕ (FuncId × List AVal)} {h : KHeap} {nc : Nat} {v : AVal} {h' : KHeap} {nc' : Nat} (hr : runPK inlK p h nc = some (v, h', nc')) : runP inl p (toHeap h) nc = some (v, toHeap h', nc') := by
  cases p with
  | inl r =>
    simp only [runPK] at hr
    simp only [runP]
    cases hq : r.run (toHeap h) with
    | none => rw [hq] at hr; cases hr
    | some q =>
      rw [hq] at hr
      simp only [Option.some.injEq, Prod.mk.injEq] at hr
      obtain ⟨rfl, rfl, rfl⟩ := hr
      simp only [Option.map_some, toHeap_apply]
  | inr q => exact hi _ _ _ _ _ _ _ hr
theorem putK_ok (s : KSt) (d : Option Nat) (v : AVal) (h : KHeap) (nc : Nat) : (KSt.mk (putK s.tm d v) h nc).st = ⟨putO s.tmf d v, toHeap h, nc⟩ := by
  unfold KSt.st
  congr 1
  funext m
  cases d with
  | none => rfl
  | some d =>
    simp only [KSt.tmf, putK, putO, updT, KTm.get_set]
theorem stepK_ok (hi : InlKOk inlK inl) {key : Key} {o : XOper} {s s' : KSt} (h : stepK C inlK key o s = some s') : stepO C inl key o s.st = some s'.st := by
  unfold stepK at h
  unfold stepO progO
  change (match (match goes s.tmf o.g with | none => none | some b => some (if b = true then rdOf C key o.op (arg s.tmf) else Sum.inl (Rd.ret (AVal.undef, [])))) with | none => none | some p => _) = _
  cases hg : goes s.tmf o.g with
  | none => rw [hg] at h; cases h
  | some b =>
    rw [hg] at h
    cases b with
    | false =>
      simp only [cond_false, Option.some.injEq] at h
      subst h
      rw [putK_ok]
      rfl
    | true =>
      simp only [cond_true] at h
      simp only [if_true]
      cases hp : pop o.op with
      | p f =>
        rw [hp] at h
        simp only at h
        cases hv : f (arg s.tmf) with
        | none => rw [hv] at h; cases h
        | some v =>
          rw [hv] at h
          simp only [Option.some.injEq] at h
          subst h
          rw [putK_ok, pop_ok C key hp _ hv]
          rfl
      | h f =>
        rw [hp] at h
        simp only at h
        cases hv : f key (arg s.tmf) s.hp with
        | none => rw [hv] at h; cases h
        | some r =>
          obtain ⟨v, h'⟩ := r
          rw [hv] at h
          simp only [Option.some.injEq] at h
          subst h
          obtain ⟨rd, ws, h1, h2, h3⟩ := pop_h C hp hv
          rw [putK_ok, h1, h3]
          simp only [runP]
          change (((rd.run (toHeap s.hp)).map _).map _) = _
          rw [h2]
          rfl
      | c f xs =>
        rw [hp] at h
        simp only at h
        rw [mapR_eq, callK_eq C inlK key, ← pop_c hp] at h
        cases hr : runPK inlK (rdOf C key o.op (arg s.tmf)) s.hp s.nc with
        | none => rw [hr] at h; cases h
        | some r =>
          obtain ⟨v, h', nc'⟩ := r
          rw [hr] at h
          simp only [Option.some.injEq] at h
          subst h
          have := runPK_ok hi hr
          change (runP inl _ (toHeap s.hp) s.nc).map _ = _
          rw [this, putK_ok]
          rfl
      | g =>
        rw [hp, rdOfK_eq] at h
        simp only at h
        cases hr : runPK inlK (rdOf C key o.op (arg s.tmf)) s.hp s.nc with
        | none => rw [hr] at h; cases h
        | some r =>
          obtain ⟨v, h', nc'⟩ := r
          rw [hr] at h
          simp only [Option.some.injEq] at h
          subst h
          have := runPK_ok hi hr
          change (runP inl _ (toHeap s.hp) s.nc).map _ = _
          rw [this, putK_ok]
          rfl
noncomputable def runOpsK (C : Cfg) (inl : InlK) (fid rid c : Nat) : Nat → List XOper → KSt → Option KSt
  | _, [], st => some st
  | i, o :: os, st => match stepK C inl (site fid rid i, c) o st with
    | some st' => runOpsK C inl fid rid c (i + 1) os st'
    | none => none
theorem runOpsK_ok (hi : InlKOk inlK inl) {fid rid c i : Nat} {os : List XOper} {s s' : KSt} (h : runOpsK C inlK fid rid c i os s = some s') : runOps C inl fid rid c i os s.st = some s'.st := by
  induction os generalizing i s with
  | nil => simp only [runOpsK, Option.some.injEq] at h; subst h; rfl
  | cons o os ih =>
    simp only [runOpsK] at h
    simp only [runOps]
    cases hs : stepK C inlK (site fid rid i, c) o s with
    | none => rw [hs] at h; cases h
    | some s1 => rw [hs] at h; rw [stepK_ok hi hs, Option.bind_some]; exact ih h
mutual
def avEq : AVal → AVal → Bool
  | .bool a, .bool b => a == b
  | .int k a, .int k' b => decide (k = k') && decide (a = b)
  | .str a, .str b => a.data.toList == b.data.toList
  | .agg a, .agg b => avEqL a b
  | .nilp, .nilp => true
  | .nils, .nils => true
  | .emp, .emp => true
  | .nili, .nili => true
  | .nilf, .nilf => true
  | .undef, .undef => true
  | .ptr k g i es o, .ptr k' g' i' es' o' => decide (k = k') && (decide (g = g') && (decide (i = i') && (decide (es = es') && decide (o = o'))))
  | .sl k g es o l, .sl k' g' es' o' l' => decide (k = k') && (decide (g = g') && (decide (es = es') && (decide (o = o') && decide (l = l'))))
  | .slc es a, .slc es' b => decide (es = es') && avEqL a b
  | .ifc t a, .ifc t' b => decide (t = t') && avEq a b
  | .mp k, .mp k' => decide (k = k')
  | _, _ => false
def avEqL : List AVal → List AVal → Bool
  | [], [] => true
  | x :: xs, y :: ys => avEq x y && avEqL xs ys
  | _, _ => false
end
mutual
theorem avEq_ok : ∀ (a b : AVal), avEq a b = true → a = b
  | .bool a, b, h => by cases b <;> simp_all [avEq]
  | .int k a, b, h => by cases b <;> simp_all [avEq]
  | .str a, b, h => by
    cases b <;> simp [avEq] at h
    rename_i b
    cases a; cases b; simp at h; rename_i a b; cases a; cases b; simp at h; subst h; rfl
  | .agg a, b, h => by
    cases b <;> simp [avEq] at h
    rw [avEqL_ok _ _ h]
  | .slc es a, b, h => by
    cases b <;> simp [avEq] at h
    rw [avEqL_ok _ _ h.2, h.1]
  | .ifc t a, b, h => by
    cases b <;> simp [avEq] at h
    rw [avEq_ok _ _ h.2, h.1]
  | .nilp, b, h => by cases b <;> simp_all [avEq]
  | .nils, b, h => by cases b <;> simp_all [avEq]
  | .emp, b, h => by cases b <;> simp_all [avEq]
  | .nili, b, h => by cases b <;> simp_all [avEq]
  | .nilf, b, h => by cases b <;> simp_all [avEq]
  | .undef, b, h => by cases b <;> simp_all [avEq]
  | .ptr .., b, h => by cases b <;> simp_all [avEq]
  | .sl .., b, h => by cases b <;> simp_all [avEq]
  | .mp .., b, h => by cases b <;> simp_all [avEq]
  | .any, b, h => by cases b <;> simp [avEq] at h
  | .tup .., b, h => by cases b <;> simp [avEq] at h
  | .pvo .., b, h => by cases b <;> simp [avEq] at h
  | .fn .., b, h => by cases b <;> simp [avEq] at h
theorem avEqL_ok : ∀ (a b : List AVal), avEqL a b = true → a = b
  | [], b, h => by cases b <;> simp_all [avEqL]
  | x :: xs, b, h => by
    cases b with
    | nil => simp [avEqL] at h
    | cons y ys =>
      simp [avEqL] at h
      rw [avEq_ok _ _ h.1, avEqL_ok _ _ h.2]
end
def blkEq : Option Blk → Option Blk → Bool
  | none, none => true
  | some (.var a), some (.var b) => avEqL a b
  | some (.row g es a), some (.row g' es' b) => decide (g = g') && (decide (es = es') && avEqL a b)
  | _, _ => false
theorem blkEq_ok {a b : Option Blk} (h : blkEq a b = true) : a = b := by
  match a, b with
  | none, none => rfl
  | some (.var a), some (.var b) => rw [avEqL_ok _ _ h]
  | some (.row g es a), some (.row g' es' b) => simp [blkEq] at h; rw [avEqL_ok _ _ h.2.2, h.1, h.2.1]
  | none, some (.var b) => simp [blkEq] at h
  | none, some (.row ..) => simp [blkEq] at h
  | none, some (.obj b) => simp [blkEq] at h
  | some (.var b), none => simp [blkEq] at h
  | some (.row ..), none => simp [blkEq] at h
  | some (.obj b), none => simp [blkEq] at h
  | some (.var b), some (.row ..) => simp [blkEq] at h
  | some (.var b), some (.obj ..) => simp [blkEq] at h
  | some (.row ..), some (.var ..) => simp [blkEq] at h
  | some (.row ..), some (.obj ..) => simp [blkEq] at h
  | some (.obj ..), some (.var ..) => simp [blkEq] at h
  | some (.obj ..), some (.row ..) => simp [blkEq] at h
  | some (.obj ..), some (.obj ..) => simp [blkEq] at h
inductive RdsK where
  | kn (l : List Key)
  | cl (a b : KHeap)
abbrev FootK := RdsK × List Key
noncomputable def toFoot (f : FootK) : Foot := (match f.1 with
  | .kn l => .kn l
  | .cl a b => .cl fun k => toHeap b k = toHeap a k, f.2)
noncomputable def footPK (p : Rd Outp ⊕ (FuncId × List AVal)) (h h' : KHeap) : FootK :=
  match p with
  | .inl r => (.kn (r.reads (toHeap h)), match r.run (toHeap h) with | some r => r.2.map (·.1) | none => [])
  | .inr _ => (.cl h h', [])
noncomputable def footK (C : Cfg) (key : Key) (o : XOper) (s : KSt) (h' : KHeap) : FootK :=
  match progK C key o s.tmf with
  | some p => footPK p s.hp h'
  | none => (.kn [], [])
theorem footK_eq (C : Cfg) (key : Key) (o : XOper) (s : KSt) (h' : KHeap) : foot C key o s.st (toHeap h') = toFoot (footK C key o s h') := by
  unfold foot footK
  rw [progK_eq]
  change (match progO C key o s.tmf with | some p => _ | none => _) = _
  cases progO C key o s.tmf with
  | none => rfl
  | some p => cases p <;> rfl
noncomputable def runOpsFK (C : Cfg) (inl : InlK) (fid rid c : Nat) : Nat → List XOper → KSt → Option (KSt × List FootK)
  | _, [], st => some (st, [])
  | i, o :: os, st => match stepK C inl (site fid rid i, c) o st with
    | some st' => match runOpsFK C inl fid rid c (i + 1) os st' with
      | some r => some (r.1, footK C (site fid rid i, c) o st st'.hp :: r.2)
      | none => none
    | none => none
theorem runOpsFK_ok (hi : InlKOk inlK inl) {fid rid c i : Nat} {os : List XOper} {s s' : KSt} {fs : List FootK} (h : runOpsFK C inlK fid rid c i os s = some (s', fs)) : runOpsF C inl fid rid c i os s.st = some (s'.st, fs.map toFoot) := by
  induction os generalizing i s fs with
  | nil => simp only [runOpsFK, Option.some.injEq, Prod.mk.injEq] at h; obtain ⟨rfl, rfl⟩ := h; rfl
  | cons o os ih =>
    simp only [runOpsFK] at h
    simp only [runOpsF]
    cases hs : stepK C inlK (site fid rid i, c) o s with
    | none => rw [hs] at h; cases h
    | some s1 =>
      rw [hs] at h
      simp only at h
      rw [stepK_ok hi hs, Option.bind_some]
      cases hr : runOpsFK C inlK fid rid c (i + 1) os s1 with
      | none => rw [hr] at h; cases h
      | some r =>
        obtain ⟨s2, fs2⟩ := r
        rw [hr] at h
        simp only [Option.some.injEq, Prod.mk.injEq] at h
        obtain ⟨rfl, rfl⟩ := h
        rw [ih hr]
        simp only [Option.map_some, List.map_cons]
        rw [← footK_eq]
        rfl
noncomputable def apartK (x y : FootK) : Bool :=
  match x.1, y.1 with
  | .kn rx, .kn ry => disj x.2 (ry ++ y.2) && disj y.2 rx
  | .cl a b, .kn ry => y.2.isEmpty && ry.all fun k => blkEq (toHeap b k) (toHeap a k)
  | .kn rx, .cl a b => x.2.isEmpty && rx.all fun k => blkEq (toHeap b k) (toHeap a k)
  | .cl .., .cl .. => false
theorem apartK_ok {x y : FootK} (h : apartK x y = true) : apartF (toFoot x) (toFoot y) = true := by
  obtain ⟨x1, x2⟩ := x
  obtain ⟨y1, y2⟩ := y
  unfold apartF
  cases x1 <;> cases y1
  · exact h
  · simp only [apartK, Bool.and_eq_true] at h
    simp only [toFoot, Bool.and_eq_true, decide_eq_true_eq]
    exact ⟨h.1, fun k hk => blkEq_ok (List.all_eq_true.1 h.2 k hk)⟩
  · simp only [apartK, Bool.and_eq_true] at h
    simp only [toFoot, Bool.and_eq_true, decide_eq_true_eq]
    exact ⟨h.1, fun k hk => blkEq_ok (List.all_eq_true.1 h.2 k hk)⟩
  · cases h
noncomputable def hotK (fs : List FootK) (hot : List (Nat × Nat)) : Bool :=
  hot.all fun p => match fs[p.1]?, fs[p.2]? with
    | some x, some y => apartK x y
    | _, _ => false
theorem hotK_ok {fs : List FootK} {hot : List (Nat × Nat)} (h : hotK fs hot = true) : hotOk (fs.map toFoot) hot = true := by
  unfold hotOk
  refine List.all_eq_true.2 fun p hp => ?_
  have := List.all_eq_true.1 h p hp
  rw [List.getElem?_map, List.getElem?_map]
  cases h1 : fs[p.1]? with
  | none => rw [h1] at this; cases this
  | some x =>
    cases h2 : fs[p.2]? with
    | none => rw [h1, h2] at this; cases this
    | some y => rw [h1, h2] at this; exact apartK_ok this
noncomputable def runRegK (C : Cfg) (inl : InlK) (fid rid : Nat) (ops : List XOper) (draw : Option XDraw) (s : KSt) : Option KSt :=
  match draw with
  | none => runOpsK C inl fid rid s.nc 0 ops ⟨s.tm, s.hp, s.nc + 1⟩
  | some d => match d.hot with
    | [] => runOpsK C inl fid rid s.nc 0 ops ⟨s.tm, s.hp, s.nc + 1⟩
    | hot => match runOpsFK C inl fid rid s.nc 0 ops ⟨s.tm, s.hp, s.nc + 1⟩ with
      | some (st', fs) => if hotK fs hot = true then some st' else none
      | none => none
theorem runRegK_ok (hi : InlKOk inlK inl) {fid rid : Nat} {ops : List XOper} {draw : Option XDraw} {s s' : KSt} (h : runRegK C inlK fid rid ops draw s = some s') : runReg C inl fid rid ops draw s.st = some s'.st := by
  unfold runRegK at h
  unfold runReg
  match draw, h with
  | none, h => exact runOpsK_ok hi h
  | some ⟨[]⟩, h => exact runOpsK_ok hi h
  | some ⟨p :: ps⟩, h =>
    simp only at h ⊢
    cases hr : runOpsFK C inlK fid rid s.nc 0 ops ⟨s.tm, s.hp, s.nc + 1⟩ with
    | none => rw [hr] at h; cases h
    | some r =>
      obtain ⟨s1, fs⟩ := r
      rw [hr] at h
      simp only at h
      have := runOpsFK_ok hi hr
      change (match runOpsF C inl fid rid s.nc 0 ops (KSt.mk s.tm s.hp (s.nc + 1)).st with | some (st', fs) => _ | none => _) = _
      rw [this]
      simp only
      by_cases hh : hotK fs (p :: ps) = true
      · rw [if_pos hh] at h
        rw [if_pos (hotK_ok hh)]
        rw [Option.some.inj h]
      · rw [if_neg hh] at h; cases h
abbrev ResK := Option (Out × KSt)
def iterK : Nat → (KSt → ResK) → KSt → ResK
  | 0, _, _ => none
  | n + 1, f, s => match f s with
    | some (.nrm, s') => iterK n f s'
    | r => r
theorem iterK_ok {f : KSt → ResK} {g : St → Res} (hf : ∀ s o s', f s = some (o, s') → g s.st = some (o, s'.st)) {n m : Nat} (hn : n ≤ m) {s s' : KSt} {o : Out} (h : iterK n f s = some (o, s')) : iterN m g s.st = some (o, s'.st) := by
  induction n generalizing m s with
  | zero => cases h
  | succ n ih =>
    obtain ⟨m, rfl⟩ : ∃ k, m = k + 1 := ⟨m - 1, by omega⟩
    simp only [iterK] at h
    simp only [iterN]
    cases hs : f s with
    | none => rw [hs] at h; cases h
    | some r =>
      obtain ⟨o1, s1⟩ := r
      rw [hs] at h
      rw [hf _ _ _ hs]
      cases o1 with
      | nrm => exact ih (by omega) h
      | ext i => simp only [Option.some.injEq, Prod.mk.injEq] at h ⊢; obtain ⟨rfl, rfl⟩ := h; exact ⟨rfl, rfl⟩
      | ret => simp only [Option.some.injEq, Prod.mk.injEq] at h ⊢; obtain ⟨rfl, rfl⟩ := h; exact ⟨rfl, rfl⟩
noncomputable def execK (C : Cfg) (inl : InlK) (fid : Nat) : XCode → KSt → ResK
  | .skip, s => some (.nrm, s)
  | .reg id ops draw, s => match runRegK C inl fid id ops draw s with
    | some s' => some (.nrm, s')
    | none => none
  | .seq a b, s => match execK C inl fid a s with
    | some (.nrm, s') => execK C inl fid b s'
    | r => r
  | .cond c a b, s => match arg s.tmf c with
    | .bool t => bif t then execK C inl fid a s else execK C inl fid b s
    | _ => none
  | .block id c, s => match execK C inl fid c s with
    | some (.ext i, s') => if i = id then some (.nrm, s') else some (.ext i, s')
    | r => r
  | .loop c, s => iterK 100000 (fun s => execK C inl fid c s) s
  | .scope c, s => execK C inl fid c s
  | .exit id, s => some (.ext id, s)
  | .ret, s => some (.ret, s)
  | .bad, _ => none
theorem execK_ok (hi : InlKOk inlK inl) {fid : Nat} {c : XCode} {s s' : KSt} {o : Out} (h : execK C inlK fid c s = some (o, s')) : execC C inl fid c s.st = some (o, s'.st) := by
  induction c generalizing s s' o with
  | skip => simp only [execK, Option.some.injEq, Prod.mk.injEq] at h; obtain ⟨rfl, rfl⟩ := h; rfl
  | exit i => simp only [execK, Option.some.injEq, Prod.mk.injEq] at h; obtain ⟨rfl, rfl⟩ := h; rfl
  | ret => simp only [execK, Option.some.injEq, Prod.mk.injEq] at h; obtain ⟨rfl, rfl⟩ := h; rfl
  | bad => cases h
  | reg id ops draw =>
    simp only [execK] at h
    cases hr : runRegK C inlK fid id ops draw s with
    | none => rw [hr] at h; cases h
    | some s1 =>
      rw [hr] at h
      simp only [Option.some.injEq, Prod.mk.injEq] at h
      obtain ⟨rfl, rfl⟩ := h
      rw [execC, runRegK_ok hi hr]
      rfl
  | seq a b iha ihb =>
    simp only [execK] at h
    rw [execC]
    cases ha : execK C inlK fid a s with
    | none => rw [ha] at h; cases h
    | some r =>
      obtain ⟨o1, s1⟩ := r
      rw [ha] at h
      rw [iha ha]
      cases o1 with
      | nrm => exact ihb h
      | ext i => simp only [Option.some.injEq, Prod.mk.injEq] at h ⊢; obtain ⟨rfl, rfl⟩ := h; exact ⟨rfl, rfl⟩
      | ret => simp only [Option.some.injEq, Prod.mk.injEq] at h ⊢; obtain ⟨rfl, rfl⟩ := h; exact ⟨rfl, rfl⟩
  | cond c a b iha ihb =>
    simp only [execK] at h
    rw [execC]
    change (match arg s.tmf c with | .bool t => _ | _ => _) = _
    cases hc : arg s.tmf c with
    | bool t =>
      rw [hc] at h
      cases t with
      | true => exact iha h
      | false => exact ihb h
    | _ => rw [hc] at h; cases h
  | block id c ih =>
    simp only [execK] at h
    rw [execC]
    cases hc : execK C inlK fid c s with
    | none => rw [hc] at h; cases h
    | some r =>
      obtain ⟨o1, s1⟩ := r
      rw [hc] at h
      rw [ih hc]
      cases o1 with
      | nrm => simp only [Option.some.injEq, Prod.mk.injEq] at h ⊢; obtain ⟨rfl, rfl⟩ := h; exact ⟨rfl, rfl⟩
      | ret => simp only [Option.some.injEq, Prod.mk.injEq] at h ⊢; obtain ⟨rfl, rfl⟩ := h; exact ⟨rfl, rfl⟩
      | ext i =>
        simp only at h ⊢
        by_cases e : i = id
        · rw [if_pos e] at h ⊢; simp only [Option.some.injEq, Prod.mk.injEq] at h ⊢; obtain ⟨rfl, rfl⟩ := h; exact ⟨rfl, rfl⟩
        · rw [if_neg e] at h ⊢; simp only [Option.some.injEq, Prod.mk.injEq] at h ⊢; obtain ⟨rfl, rfl⟩ := h; exact ⟨rfl, rfl⟩
  | loop c ih =>
    simp only [execK] at h
    rw [execC]
    exact iterK_ok (fun s o s' => ih) (by decide) h
  | scope c ih => simp only [execK] at h; rw [execC]; exact ih h
end
noncomputable def inK : List AVal → Nat → KTm → KTm
  | [], _, t => t
  | v :: vs, i, t => inK vs (i + 1) (t.set i v)
theorem inK_get (vs : List AVal) (i : Nat) (t : KTm) (m : Nat) : (inK vs i t).get m = if i ≤ m then (vs[m - i]?).getD (t.get m) else t.get m := by
  induction vs generalizing i t with
  | nil => simp [inK]
  | cons v vs ih =>
    rw [inK, ih, KTm.get_set]
    by_cases h : i ≤ m
    · rw [if_pos h]
      by_cases h2 : m = i
      · subst h2; rw [if_neg (by omega), if_pos rfl]; simp
      · rw [if_pos (by omega), if_neg h2, show m - i = (m - (i + 1)) + 1 by omega, List.getElem?_cons_succ]
    · rw [if_neg h, if_neg (by omega), if_neg (by omega)]
theorem inK_tm0 (vs : List AVal) : (inK vs 0 .e).get = tm0 vs := by
  funext m
  rw [inK_get, if_pos (Nat.zero_le _), KTm.get_e]
  rfl
noncomputable def execFK (C : Cfg) (inl : InlK) (fid : Nat) (x : XFunc) (args : List AVal) (h : KHeap) (nc : Nat) : Option (AVal × KHeap × Nat) :=
  if args.length = x.np then
    match execK C inl fid x.body ⟨inK args 0 .e, h, nc⟩ with
    | some (.nrm, s) => match resL s.st x.res with
      | some vs => some (one vs, s.hp, s.nc)
      | none => none
    | some (.ret, s) => match resL s.st x.res with
      | some vs => some (one vs, s.hp, s.nc)
      | none => none
    | _ => none
  else none
theorem execFK_ok {C : Cfg} {inlK : InlK} {inl : Inl} (hi : InlKOk inlK inl) (fid : Nat) (x : XFunc) : InlKOk (fun _ as0 h nc => execFK C inlK fid x as0 h nc) (fun _ as0 h nc => execF C inl fid x as0 h nc) := by
  intro f as0 kh nc v kh' nc' h
  simp only [execFK] at h
  simp only [execF]
  by_cases hl : as0.length = x.np
  · rw [if_pos hl] at h ⊢
    rw [show St.mk (tm0 as0) (toHeap kh) nc = (KSt.mk (inK as0 0 .e) kh nc).st by unfold KSt.st KSt.tmf; rw [inK_tm0]]
    change (match execC C inl fid x.body (KSt.mk (inK as0 0 .e) kh nc).st with | some (.nrm, st) => _ | some (.ret, st) => _ | _ => _) = _
    cases he : execK C inlK fid x.body ⟨inK as0 0 .e, kh, nc⟩ with
    | none => rw [he] at h; cases h
    | some r =>
      obtain ⟨o, s⟩ := r
      rw [he] at h
      rw [execK_ok hi he]
      cases o with
      | ext i => cases h
      | nrm =>
        simp only at h ⊢
        cases hr : resL s.st x.res with
        | none => rw [hr] at h; cases h
        | some vs => rw [hr] at h; simp only [Option.some.injEq, Prod.mk.injEq] at h; obtain ⟨rfl, rfl, rfl⟩ := h; rfl
      | ret =>
        simp only at h ⊢
        cases hr : resL s.st x.res with
        | none => rw [hr] at h; cases h
        | some vs => rw [hr] at h; simp only [Option.some.injEq, Prod.mk.injEq] at h; obtain ⟨rfl, rfl, rfl⟩ := h; rfl
  · rw [if_neg hl] at h; cases h
noncomputable def inlDK (C : Cfg) : Nat → InlK
  | 0 => fun _ _ _ _ => none
  | d + 1 => fun f as0 h nc => match C.xf f with
    | some x => execFK C (inlDK C d) f x as0 h nc
    | none => none
theorem inlDK_ok (C : Cfg) (d : Nat) : InlKOk (inlDK C d) (inlD C d) := by
  induction d with
  | zero => intro f as0 kh nc v kh' nc' h; cases h
  | succ d ih =>
    intro f as0 kh nc v kh' nc' h
    simp only [inlDK] at h
    simp only [inlD]
    cases hx : C.xf f with
    | none => rw [hx] at h; cases h
    | some x => rw [hx] at h; exact execFK_ok ih f x f _ _ _ _ _ _ h
noncomputable def pureK (C : Cfg) (d : Nat) (f : FuncId) (as0 : List AVal) : Option AVal :=
  match inlDK C d f as0 .e 0 with
  | some (v, h, _) => match (lendK freeze v).run (toHeap h) with
    | some r => some r.1
    | none => none
  | none => none
theorem pureK_ok {C : Cfg} {d : Nat} {f : FuncId} {as0 : List AVal} {v : AVal} (h : pureK C d f as0 = some v) : pureF C d f as0 = some v := by
  unfold pureK at h
  unfold pureF
  cases hr : inlDK C d f as0 .e 0 with
  | none => rw [hr] at h; cases h
  | some r =>
    obtain ⟨w, kh, nc⟩ := r
    rw [hr] at h
    have := inlDK_ok C d _ _ _ _ _ _ _ hr
    rw [toHeap_empty] at this
    rw [this]
    simp only at h ⊢
    rw [← lendK_eq]
    cases hq : (lendK freeze w).run (toHeap kh) with
    | none => rw [hq] at h; cases h
    | some q => rw [hq] at h; rw [Option.some.inj h.symm]; rfl
end Go.Xec
namespace Go.Xec
open Go
def mapO {α β : Type} (f : α → Option β) : List α → Option (List β)
  | [] => some []
  | x :: xs => match f x with
    | some y => match mapO f xs with
      | some ys => some (y :: ys)
      | none => none
    | none => none
def gS (v : Value) : Option AVal :=
  match v with
  | .bool b => some (.bool b)
  | .int k n => some (.int k n)
  | .string s => some (.str s)
  | .pointer none => some .nilp
  | .slice none 0 0 => some .nils
  | .nilIface => some .nili
  | .nilFunc => some .nilf
  | .map none => some .any
  | _ => none
def gV (v : Value) : Option AVal :=
  match v with
  | .agg cs => (mapO gS cs.toList).map .agg
  | v => gS v
def gA : Operand → Option XArg
  | .tmp t => some (.t t)
  | .const v => (gV v).map .c
  | .func f => some (.c (.fn (.func f) [] []))
  | _ => none
def gAs (a : Array Operand) : Option (List XArg) := mapO gA a.toList
def gO : Option Operand → Option (Option XArg)
  | none => some none
  | some v => (gA v).map some
section
variable (P : Program)
def gZs (t : TypeId) : Option (List AVal) := (zeroOf P t).bind fun z => mapO gS z.cells.toList
def gZ (t : TypeId) : Option AVal := (zeroOf P t).bind fun z => (mapO gS z.cells.toList).bind fun cs => match z, cs with
  | .agg _, cs => some (.agg cs)
  | _, [x] => some x
  | _, _ => none
def gKd (t : TypeId) : Option Nat := match P.underlying t with
  | some (.int _) => some 0
  | some .bool => some 1
  | some .string => some 2
  | some (.struct fs) => some (fs.size + 3)
  | _ => none
def gCall (cn cm ca : List FuncId) (c : Call) : Option XOp :=
  match c.callee with
  | .value f => match gA f, gAs c.args with
    | some x, some as0 => some (match f with
      | .func g => if cn.contains g then .callN x as0 else if cm.contains g then .callM x as0 else if ca.contains g then .callA x as0 else .call x as0
      | _ => .call x as0)
    | _, _ => none
  | .invoke r m => match gA r, gAs c.args with
    | some x, some as0 => some (.inv m x as0)
    | _, _ => none
  | .builtin b => match gAs c.args, c.argTypes[0]? with
    | some as0, some t => match b, P.underlying t, as0 with
      | .len, some .string, [x] => some (.lenS x)
      | .len, some (.slice _), [x] => some (.lenV x)
      | .len, some (.array m _), _ => some (.mv (.c (.int .i64 m)))
      | .append, some (.slice e), [x, y] => (szOf P e).bind fun s => (byOf P e).map fun b => .app s b x y
      | .copy, some (.slice e), [x, y] => (szOf P e).map fun s => .cpy s x y
      | .max, _, x :: xs => some (.mnx true x xs)
      | .min, _, x :: xs => some (.mnx false x xs)
      | .delete, some (.map k _), [x, y] => (gKd P k).map fun k => .mdel k x y
      | _, _, _ => none
    | _, _ => none
def gOp (cn cm ca : List FuncId) (op : Op) : Option XOp :=
  match op with
  | .move x => (gA x).map .mv
  | .assign x => (gA x).map .mv
  | .pick c a b => (gA c).bind fun c => (gA a).bind fun a => (gA b).map fun b => .pick c a b
  | .alloc t => (gZs P t).map .alloc
  | .box _ x => (gA x).map .box
  | .build t parts => (gZs P t).bind fun z => match P.underlying t with
    | some (.struct fs) => (mapO (fun p => (fs[p.1]?).bind fun f => (szOf P f.type).bind fun n => (gA p.2).map fun x => (f.offset, n, x)) parts.toList).map fun ps => .build z ps
    | some (.array _ e) => (szOf P e).bind fun s => (mapO (fun p => (gA p.2).map fun x => (p.1 * s, s, x)) parts.toList).map fun ps => .build z ps
    | _ => none
  | .buildSlice t len parts => match P.underlying t with
    | some (.slice e) => (szOf P e).bind fun es => (gZ P e).bind fun z => (mapO (fun p => (gA p.2).map fun x => (p.1, x)) parts.toList).map fun ps => .mkslice es z len ps
    | _ => none
  | .load t x => (aggOf P t).bind fun a => (szOf P t).bind fun s => (gA x).map fun x => .load a s x
  | .store t x y => (szOf P t).bind fun s => (gA x).bind fun x => (gA y).map fun y => .store s x y
  | .binOp op t x y _ => (gA x).bind fun x' => (gA y).bind fun y' =>
    match (match op with | .neq => some true | .eql => some false | _ => none) with
    | none => some (.bin op x' y')
    | some neg => match P.underlying t with
      | some .bool => some (.eqB neg x' y')
      | some (.slice _) => some (.eqN neg 0 x')
      | some (.interface _) => match y with
        | .const .nilIface => some (.eqN neg 1 x')
        | _ => none
      | some (.pointer _) => match y with
        | .const (.pointer none) => some (.eqN neg 2 x')
        | _ => none
      | some (.struct _) => (kinds P 20 t).map fun ks => .eqA neg ks x' y'
      | some (.array _ _) => none
      | _ => some (.bin op x' y')
  | .nilCheck x => (gA x).map .nilChk
  | .unOp op _ x => (gA x).map fun x => .un op x
  | .convert s d x => (gA x).bind fun x => match P.underlying s, P.underlying d with
    | some .string, some .string => some (.idS x)
    | some (.slice u), some .string => match P.underlying u with
      | some (.int .u8) => some (.b2s x)
      | _ => none
    | some (.int _), some (.int k) => some (.conv k x)
    | _, _ => none
  | .fieldAddr s x f => match P.underlying s with
    | some (.struct fs) => (fs[f]?).bind fun fd => (gA x).map fun x => .fa fd.offset x
    | _ => none
  | .field s x f => match P.underlying s with
    | some (.struct fs) => (fs[f]?).bind fun fd => (aggOf P fd.type).bind fun a => (szOf P fd.type).bind fun n => (gA x).map fun x => .fld a n fd.offset x
    | _ => none
  | .indexAddr t x i => (gA x).bind fun x => (gA i).bind fun i => match P.underlying t with
    | some (.array n e) => (szOf P e).map fun s => .iaA n s x i
    | some (.slice e) => (szOf P e).map fun s => .iaS s x i
    | _ => none
  | .index t x i => (gA x).bind fun x => (gA i).bind fun i => match P.underlying t with
    | some (.array n e) => (aggOf P e).bind fun a => (szOf P e).map fun s => .ixA a n s x i
    | some .string => some (.ixS x i)
    | _ => none
  | .makeSlice t l c => match P.underlying t with
    | some (.slice e) => (szOf P e).bind fun s => (byOf P e).bind fun b => (gZ P e).bind fun z => (gA l).bind fun l => (gA c).map fun c => .mkS s b z l c
    | _ => none
  | .slice t x lo hi mx => (gA x).bind fun x => (gO lo).bind fun lo => (gO hi).bind fun hi => (gO mx).bind fun mx => match P.underlying t with
    | some .string => some (.slS x lo hi)
    | some (.slice e) => (szOf P e).map fun s => .slV s x lo hi mx
    | some (.array n e) => (szOf P e).map fun s => .slA n s x lo hi
    | _ => none
  | .extract x i => (gA x).map fun x => .ext x i
  | .makeFunc f first cap => (gAs first).bind fun a => (gAs cap).map fun b => .mkf f a b
  | .makeInterface t x => (gA x).map fun x => .mki t x
  | .call c => gCall P cn cm ca c
  | .range t x => match P.underlying t with
    | some .string => (gA x).map .rngS
    | _ => none
  | .next x true => (gA x).map .nxtS
  | .lookup t x i c => match P.underlying t with
    | some (.map k e) => (gKd P k).bind fun k => (gZ P e).bind fun z => (gA x).bind fun x => (gA i).map fun i => .lkp k c z x i
    | _ => none
  | .mapUpdate t x i v => match P.underlying t with
    | some (.map k _) => (gKd P k).bind fun k => (gA x).bind fun x => (gA i).bind fun i => (gA v).map fun v => .mset k x i v
    | _ => none
  | .insert t x i v => match P.underlying t with
    | some (.map k _) => (gKd P k).bind fun k => (gA x).bind fun x => (gA i).bind fun i => (gA v).map fun v => .mset k x i v
    | _ => none
  | .mapEntry t x i => match P.underlying t with
    | some (.map k e) => (gKd P k).bind fun k => (gZ P e).bind fun z => (gA x).bind fun x => (gA i).map fun i => .ment k z x i
    | _ => none
  | .entryStore _ x i v => (gA x).bind fun x => (gA i).bind fun i => (gA v).map fun v => .msto x i v
  | .makeMap _ none => some .mkM
  | .typeAssert x _ t true => match P.underlying t with
    | some (.interface _) => none
    | _ => (gZ P t).bind fun z => (gA x).map fun x => .tas t z x
  | _ => none
def gHot (ops : List Oper) (xs : List XOper) : List (Nat × Nat) :=
  let bef := befC [] ops
  (List.range xs.length).flatMap fun j => (List.range j).filterMap fun i =>
    if (bef[j]?.getD []).contains i then none else match xs[i]?, xs[j]? with
      | some x, some y => if isPure x.op || isPure y.op || (isLook x.op && isLook y.op) then none else some (i, j)
      | _, _ => none
def gCode (cn cm ca : List FuncId) : Code → XCode
  | .skip => .skip
  | .label _ => .skip
  | .region id ops draw =>
    let xs := ops.toList.map fun o => ({ dst := o.dst, g := o.guard.bind fun g => ((ops[g.1]?).bind (·.dst)).map fun s => (s, g.2), op := (gOp P cn cm ca o.op).getD .bad } : XOper)
    .reg id xs (if draw then some ⟨gHot ops.toList xs⟩ else none)
  | .seq a b => .seq (gCode cn cm ca a) (gCode cn cm ca b)
  | .cond c a b => match gA c with
    | some c => .cond c (gCode cn cm ca a) (gCode cn cm ca b)
    | none => .bad
  | .block id a => .block id (gCode cn cm ca a)
  | .loop a => .loop (gCode cn cm ca a)
  | .scope a => .scope (gCode cn cm ca a)
  | .exit id => .exit id
  | .ret => .ret
  | _ => .bad
def gRes : ResultVar → Option XRes
  | .tmp t => some (.tmp t)
  | .cell a t => (aggOf P t).bind fun g => (szOf P t).map fun s => .cell a g s
def gF (cn cm ca : List FuncId) (fn : Func) : Option XFunc := match fn.body with
  | some c => (mapO (gRes P) fn.results.toList).map fun r => ⟨fn.ntmps, fn.params.size + fn.nfree, r, gCode P cn cm ca c⟩
  | none => none
end
end Go.Xec
namespace Go.Proofs.YtkonpbcnekcjjaaGreatDoor
open Go Go.Xec
def idsK : List Nat := [8, 9, 15, 16, 17, 23, 24, 39, 40, 41, 42, 43, 49, 51, 52, 55, 59, 60, 65, 68, 69, 71, 72, 73, 74, 77, 78, 79, 84, 85, 86, 96, 97, 100, 101, 102, 103, 104, 112, 113, 122, 123, 124, 125, 126, 127, 128, 131, 132, 133, 134, 135, 136, 137, 138, 139, 140, 141, 142, 155, 158, 159, 160, 169, 170, 171, 172, 173, 174, 175, 176, 196, 203, 204, 205, 206, 207, 208, 209, 210, 212, 214, 215, 216, 217, 218, 238, 239, 240, 241, 242, 243, 244, 245, 246, 247, 248, 249, 250, 252, 254, 255, 256, 257, 258, 259, 287, 288, 289, 290, 291, 296, 298, 334, 385, 386, 387, 388, 404, 406, 408, 409, 410, 411, 412, 413, 414, 415, 416, 417, 418, 420, 421, 422, 423, 424, 425]
noncomputable def xfK (g : FuncId) : Option XFunc := if idsK.contains g then (Tryz.prog.funcs[g]?).bind (gF Tryz.prog [188, 419] [177] []) else none
theorem chkK : (idsK.all fun g => match Tryz.prog.funcs[g]? with
  | some fn => match gF Tryz.prog [188, 419] [177] [] fn with
    | some x => chkF Tryz.prog fn x
    | none => true
  | none => true) = true := by kernel_rfl
set_option maxRecDepth 100000 in
theorem xfK_ok (g : FuncId) (x : XFunc) (h : xfK g = some x) : ∃ fn, Tryz.prog.funcs[g]? = some fn ∧ chkF Tryz.prog fn x = true := by
  unfold xfK at h
  split at h
  · rename_i hg
    have := List.all_eq_true.1 chkK g (by simpa using hg)
    cases hf : Tryz.prog.funcs[g]? with
    | none => rw [hf] at h; cases h
    | some fn =>
      rw [hf] at h this
      change gF Tryz.prog [188, 419] [177] [] fn = some x at h
      change (match gF Tryz.prog [188, 419] [177] [] fn with | some x => chkF Tryz.prog fn x | none => true) = true at this
      rw [h] at this
      exact ⟨fn, rfl, this⟩
  · cases h
end Go.Proofs.YtkonpbcnekcjjaaGreatDoor
namespace Go.Proofs
open Go.Shelf
def Tryz.lays169_ren : Go.Shelf.Ren := ⟨fun | 169 => 76 | n => n, fun | 70 => 148 | 9 => 9 | 0 => 0 | 72 => 151 | 37 => 149 | 127 => 208 | 3 => 3 | 5 => 5 | n => n, fun | n => n⟩
theorem Tryz.lays169 : Go.Proofs.Lays.n169 Tryz.prog Tryz.lays169_ren := {
  mixed := by kernel_rfl
  f169 := Tryz.func76.trans (congrArg some (by kernel_rfl))
  t0 := Tryz.underlying0
  a0 := Tryz.isAgg0
  z0 := Tryz.sizeOf0
  v0 := Tryz.zeroValue0
  t3 := Tryz.underlying3
  a3 := Tryz.isAgg3
  z3 := Tryz.sizeOf3
  v3 := Tryz.zeroValue3
  t9 := Tryz.underlying9
  a9 := Tryz.isAgg9
  z9 := Tryz.sizeOf9
  v9 := Tryz.zeroValue9
  t37 := Tryz.underlying149
  a37 := Tryz.isAgg149
  z37 := Tryz.sizeOf149
  v37 := Tryz.zeroValue149
  t70 := Tryz.underlying148
  a70 := Tryz.isAgg148
  z70 := Tryz.sizeOf148
  v70 := Tryz.zeroValue148
  t72 := Tryz.underlying151
  a72 := Tryz.isAgg151
  z72 := Tryz.sizeOf151
  v72 := Tryz.zeroValue151
  t127 := Tryz.underlying208
  a127 := Tryz.isAgg208
  z127 := Tryz.sizeOf208
  v127 := Tryz.zeroValue208 }
theorem Tryz.Builder_Extra_169 : Builder.Extra Tryz.prog Tryz.lays169_ren := {
  sizeBuilder := by kernel_rfl
  liesBuilder := by kernel_rfl
  t5 := Tryz.underlying5
  a5 := Tryz.isAgg5
  z5 := Tryz.sizeOf5
  v5 := Tryz.zeroValue5
  infoByte := by kernel_rfl
  cellsByte := by kernel_rfl
  sizeByte := by kernel_rfl
  neB5 := by decide }
def Tryz.lays137_ren : Go.Shelf.Ren := ⟨fun | 137 => 253 | 217 => 297 | 266 => 336 | n => n, fun | 9 => 9 | 5 => 5 | 3 => 3 | n => n, fun | n => n⟩
theorem Tryz.lays137 : Go.Proofs.Lays.n137 Tryz.prog Tryz.lays137_ren := {
  mixed := by kernel_rfl
  f137 := Tryz.func253.trans (congrArg some (by kernel_rfl))
  f217 := Tryz.func297.trans (congrArg some (by kernel_rfl))
  f266 := Tryz.func336.trans (congrArg some (by kernel_rfl))
  t3 := Tryz.underlying3
  a3 := Tryz.isAgg3
  z3 := Tryz.sizeOf3
  v3 := Tryz.zeroValue3
  t5 := Tryz.underlying5
  a5 := Tryz.isAgg5
  z5 := Tryz.sizeOf5
  v5 := Tryz.zeroValue5
  t9 := Tryz.underlying9
  a9 := Tryz.isAgg9
  z9 := Tryz.sizeOf9
  v9 := Tryz.zeroValue9 }
open Go.RowKit in

theorem Tryz.strings_IndexByte (s : ByteArray) (c : Int) (w : World) :
    Calls Tryz.prog 253 #[.string s, .int .u8 c] w fun e w' => e = .returned (.int .i64 (Lib.indexByte s.data.toList c.toNat.toUInt8)) ∧ w' = w := Any.strings_IndexByte Tryz.lays137 s c w
open Go.RowKit in

theorem Tryz.Builder_String_any_k (B b : Nat) (l : List UInt8) (w : World) (h : Lib.IsBuilderF 151 5 B b (Lib.byteCells l) w) (hBw : B ≤ w.heap.size) :
    Calls Tryz.prog 76 #[.pointer (some ⟨b, 0, none⟩)] w fun e w' => e = .returned (.string ⟨l.toArray⟩) ∧ (Lib.IsBuilderF 151 5 B b (Lib.byteCells l) w' ∧ Below B w w' ∧ Lib.OthersKept 5 (some b) w w') := Any.Builder_String_any_k Tryz.lays169 Tryz.Builder_Extra_169 B b l w h hBw
def Tryz.laysM171_ren : Go.Shelf.Ren := ⟨fun | 171 => 75 | 243 => 99 | 246 => 130 | 283 => 161 | 284 => 162 | 285 => 163 | 286 => 164 | 129 => 85 | 317 => 193 | 318 => 194 | 319 => 195 | 320 => 196 | 337 => 232 | 338 => 233 | n => n, fun | 3 => 3 | 9 => 9 | 2 => 2 | 4 => 4 | 171 => 291 | 0 => 0 | 53 => 24 | 37 => 149 | 5 => 5 | 173 => 293 | 212 => 361 | 51 => 184 | 20 => 20 | 213 => 362 | 46 => 172 | 232 => 434 | 233 => 435 | n => n, fun | 17 => 3 | 18 => 4 | 19 => 5 | n => n⟩
theorem Tryz.laysM171 : Go.Proofs.LaysM.n171 Tryz.prog Tryz.laysM171_ren := {
  mixed := by kernel_rfl
  f129 := Tryz.func85.trans (congrArg some (by kernel_rfl))
  f171 := Tryz.func75.trans (congrArg some (by kernel_rfl))
  f243 := Tryz.func99.trans (congrArg some (by kernel_rfl))
  f246 := Tryz.func130.trans (congrArg some (by kernel_rfl))
  f283 := Tryz.func161.trans (congrArg some (by kernel_rfl))
  f284 := Tryz.func162.trans (congrArg some (by kernel_rfl))
  f285 := Tryz.func163.trans (congrArg some (by kernel_rfl))
  f286 := Tryz.func164.trans (congrArg some (by kernel_rfl))
  f317 := Tryz.func193.trans (congrArg some (by kernel_rfl))
  f318 := Tryz.func194.trans (congrArg some (by kernel_rfl))
  f319 := Tryz.func195.trans (congrArg some (by kernel_rfl))
  f320 := Tryz.func196.trans (congrArg some (by kernel_rfl))
  f337 := Tryz.func232.trans (congrArg some (by kernel_rfl))
  f338 := Tryz.func233.trans (congrArg some (by kernel_rfl))
  t0 := Tryz.underlying0
  a0 := Tryz.isAgg0
  z0 := Tryz.sizeOf0
  v0 := Tryz.zeroValue0
  t2 := Tryz.underlying2
  a2 := Tryz.isAgg2
  z2 := Tryz.sizeOf2
  v2 := Tryz.zeroValue2
  t3 := Tryz.underlying3
  a3 := Tryz.isAgg3
  z3 := Tryz.sizeOf3
  v3 := Tryz.zeroValue3
  t4 := Tryz.underlying4
  a4 := Tryz.isAgg4
  z4 := Tryz.sizeOf4
  v4 := Tryz.zeroValue4
  t5 := Tryz.underlying5
  a5 := Tryz.isAgg5
  z5 := Tryz.sizeOf5
  v5 := Tryz.zeroValue5
  t9 := Tryz.underlying9
  a9 := Tryz.isAgg9
  z9 := Tryz.sizeOf9
  v9 := Tryz.zeroValue9
  t20 := Tryz.underlying20
  a20 := Tryz.isAgg20
  z20 := Tryz.sizeOf20
  v20 := Tryz.zeroValue20
  t37 := Tryz.underlying149
  a37 := Tryz.isAgg149
  z37 := Tryz.sizeOf149
  v37 := Tryz.zeroValue149
  t46 := Tryz.underlying172
  a46 := Tryz.isAgg172
  z46 := Tryz.sizeOf172
  v46 := Tryz.zeroValue172
  t51 := Tryz.underlying184
  a51 := Tryz.isAgg184
  z51 := Tryz.sizeOf184
  v51 := Tryz.zeroValue184
  t53 := Tryz.underlying24
  a53 := Tryz.isAgg24
  z53 := Tryz.sizeOf24
  v53 := Tryz.zeroValue24
  t171 := Tryz.underlying291
  a171 := Tryz.isAgg291
  z171 := Tryz.sizeOf291
  v171 := Tryz.zeroValue291
  t173 := Tryz.underlying293
  a173 := Tryz.isAgg293
  z173 := Tryz.sizeOf293
  v173 := Tryz.zeroValue293
  t212 := Tryz.underlying361
  a212 := Tryz.isAgg361
  z212 := Tryz.sizeOf361
  v212 := Tryz.zeroValue361
  t213 := Tryz.underlying362
  a213 := Tryz.isAgg362
  z213 := Tryz.sizeOf362
  t232 := Tryz.underlying434
  a232 := Tryz.isAgg434
  z232 := Tryz.sizeOf434
  v232 := Tryz.zeroValue434
  t233 := Tryz.underlying435
  a233 := Tryz.isAgg435
  z233 := Tryz.sizeOf435
  v233 := Tryz.zeroValue435
  g17 := by kernel_rfl
  g18 := by kernel_rfl
  g19 := by kernel_rfl
  i0 := by kernel_rfl
  i2 := by kernel_rfl
  i3 := by kernel_rfl
  i4 := by kernel_rfl
  i5 := by kernel_rfl
  i9 := by kernel_rfl
  i20 := by kernel_rfl
  i37 := by kernel_rfl
  i46 := by kernel_rfl
  i51 := by kernel_rfl
  i53 := by kernel_rfl
  i171 := by kernel_rfl
  i173 := by kernel_rfl
  i212 := by kernel_rfl
  i232 := by kernel_rfl
  i233 := by kernel_rfl
  m17 := by kernel_rfl
  m18 := by kernel_rfl
  m19 := by kernel_rfl }
open Go.RowKit Go.Sort Go.Lib in

theorem Tryz.strconv_Itoa (n : Int) (h0 : -9223372036854775808 ≤ n) (h1 : n ≤ 9223372036854775807) (w : World) (htab : Lib.TabIs Tryz.prog w "internal/strconv.uint64pow10" .u64 Lib.pow10Tab) :
    Calls Tryz.prog 75 #[.int .i64 n] w fun e w' => e = .returned (.string ⟨(Lib.itoa n).toArray⟩) ∧ ∃ k os, w' = grow (w.drewN k) os := Any.strconv_Itoa Tryz.laysM171 n h0 h1 w htab
def Tryz.laysC172_ren : Go.Shelf.Ren := ⟨fun | 172 => 272 | 244 => 324 | 245 => 325 | 247 => 353 | 279 => 354 | 280 => 355 | 281 => 356 | 282 => 357 | 287 => 362 | 316 => 363 | 171 => 75 | 205 => 364 | 321 => 366 | 322 => 367 | 243 => 99 | 246 => 130 | 283 => 161 | 284 => 162 | 285 => 163 | 286 => 164 | 129 => 85 | 317 => 193 | 318 => 194 | 319 => 195 | 320 => 196 | 337 => 232 | 338 => 233 | n => n, fun | 9 => 9 | 3 => 3 | 75 => 153 | 76 => 154 | 4 => 4 | 5 => 5 | 167 => 480 | 37 => 149 | 0 => 0 | 85 => 481 | 2 => 2 | 168 => 483 | 53 => 24 | 175 => 495 | 46 => 172 | 210 => 498 | 127 => 208 | 145 => 504 | 143 => 502 | 21 => 21 | 171 => 291 | 173 => 293 | 212 => 361 | 51 => 184 | 20 => 20 | 213 => 362 | 232 => 434 | 233 => 435 | 80 => 167 | n => n, fun | 15 => 9 | 16 => 10 | 17 => 3 | 18 => 4 | 19 => 5 | n => n⟩
theorem Tryz.laysC172 : Go.Proofs.LaysC.n172 Tryz.prog Tryz.laysC172_ren := {
  mixed := by kernel_rfl
  f129 := Tryz.func85.trans (congrArg some (by kernel_rfl))
  f171 := Tryz.func75.trans (congrArg some (by kernel_rfl))
  f172 := Tryz.func272.trans (congrArg some (by kernel_rfl))
  f205 := Tryz.func364.trans (congrArg some (by kernel_rfl))
  f243 := Tryz.func99.trans (congrArg some (by kernel_rfl))
  f244 := Tryz.func324.trans (congrArg some (by kernel_rfl))
  f245 := Tryz.func325.trans (congrArg some (by kernel_rfl))
  f246 := Tryz.func130.trans (congrArg some (by kernel_rfl))
  f247 := Tryz.func353.trans (congrArg some (by kernel_rfl))
  f279 := Tryz.func354.trans (congrArg some (by kernel_rfl))
  f280 := Tryz.func355.trans (congrArg some (by kernel_rfl))
  f281 := Tryz.func356.trans (congrArg some (by kernel_rfl))
  f282 := Tryz.func357.trans (congrArg some (by kernel_rfl))
  f283 := Tryz.func161.trans (congrArg some (by kernel_rfl))
  f284 := Tryz.func162.trans (congrArg some (by kernel_rfl))
  f285 := Tryz.func163.trans (congrArg some (by kernel_rfl))
  f286 := Tryz.func164.trans (congrArg some (by kernel_rfl))
  f287 := Tryz.func362.trans (congrArg some (by kernel_rfl))
  f316 := Tryz.func363.trans (congrArg some (by kernel_rfl))
  f317 := Tryz.func193.trans (congrArg some (by kernel_rfl))
  f318 := Tryz.func194.trans (congrArg some (by kernel_rfl))
  f319 := Tryz.func195.trans (congrArg some (by kernel_rfl))
  f320 := Tryz.func196.trans (congrArg some (by kernel_rfl))
  f321 := Tryz.func366.trans (congrArg some (by kernel_rfl))
  f322 := Tryz.func367.trans (congrArg some (by kernel_rfl))
  f337 := Tryz.func232.trans (congrArg some (by kernel_rfl))
  f338 := Tryz.func233.trans (congrArg some (by kernel_rfl))
  t0 := Tryz.underlying0
  a0 := Tryz.isAgg0
  z0 := Tryz.sizeOf0
  v0 := Tryz.zeroValue0
  t2 := Tryz.underlying2
  a2 := Tryz.isAgg2
  z2 := Tryz.sizeOf2
  v2 := Tryz.zeroValue2
  t3 := Tryz.underlying3
  a3 := Tryz.isAgg3
  z3 := Tryz.sizeOf3
  v3 := Tryz.zeroValue3
  t4 := Tryz.underlying4
  a4 := Tryz.isAgg4
  z4 := Tryz.sizeOf4
  v4 := Tryz.zeroValue4
  t5 := Tryz.underlying5
  a5 := Tryz.isAgg5
  z5 := Tryz.sizeOf5
  v5 := Tryz.zeroValue5
  t9 := Tryz.underlying9
  a9 := Tryz.isAgg9
  z9 := Tryz.sizeOf9
  v9 := Tryz.zeroValue9
  t20 := Tryz.underlying20
  a20 := Tryz.isAgg20
  z20 := Tryz.sizeOf20
  v20 := Tryz.zeroValue20
  t21 := Tryz.underlying21
  a21 := Tryz.isAgg21
  z21 := Tryz.sizeOf21
  v21 := Tryz.zeroValue21
  t37 := Tryz.underlying149
  a37 := Tryz.isAgg149
  z37 := Tryz.sizeOf149
  v37 := Tryz.zeroValue149
  t46 := Tryz.underlying172
  a46 := Tryz.isAgg172
  z46 := Tryz.sizeOf172
  v46 := Tryz.zeroValue172
  t51 := Tryz.underlying184
  a51 := Tryz.isAgg184
  z51 := Tryz.sizeOf184
  v51 := Tryz.zeroValue184
  t53 := Tryz.underlying24
  a53 := Tryz.isAgg24
  z53 := Tryz.sizeOf24
  v53 := Tryz.zeroValue24
  t75 := Tryz.underlying153
  a75 := Tryz.isAgg153
  z75 := Tryz.sizeOf153
  v75 := Tryz.zeroValue153
  t76 := Tryz.underlying154
  a76 := Tryz.isAgg154
  z76 := Tryz.sizeOf154
  v76 := Tryz.zeroValue154
  t85 := Tryz.underlying481
  a85 := Tryz.isAgg481
  z85 := Tryz.sizeOf481
  v85 := Tryz.zeroValue481
  t127 := Tryz.underlying208
  a127 := Tryz.isAgg208
  z127 := Tryz.sizeOf208
  v127 := Tryz.zeroValue208
  t143 := Tryz.underlying502
  a143 := Tryz.isAgg502
  z143 := Tryz.sizeOf502
  v143 := Tryz.zeroValue502
  t145 := Tryz.underlying504
  a145 := Tryz.isAgg504
  z145 := Tryz.sizeOf504
  v145 := Tryz.zeroValue504
  t167 := Tryz.underlying480
  a167 := Tryz.isAgg480
  z167 := Tryz.sizeOf480
  v167 := Tryz.zeroValue480
  t168 := Tryz.underlying483
  a168 := Tryz.isAgg483
  z168 := Tryz.sizeOf483
  v168 := Tryz.zeroValue483
  t171 := Tryz.underlying291
  a171 := Tryz.isAgg291
  z171 := Tryz.sizeOf291
  v171 := Tryz.zeroValue291
  t173 := Tryz.underlying293
  a173 := Tryz.isAgg293
  z173 := Tryz.sizeOf293
  v173 := Tryz.zeroValue293
  t175 := Tryz.underlying495
  a175 := Tryz.isAgg495
  z175 := Tryz.sizeOf495
  v175 := Tryz.zeroValue495
  t210 := Tryz.underlying498
  a210 := Tryz.isAgg498
  z210 := Tryz.sizeOf498
  v210 := Tryz.zeroValue498
  t212 := Tryz.underlying361
  a212 := Tryz.isAgg361
  z212 := Tryz.sizeOf361
  v212 := Tryz.zeroValue361
  t213 := Tryz.underlying362
  a213 := Tryz.isAgg362
  z213 := Tryz.sizeOf362
  t232 := Tryz.underlying434
  a232 := Tryz.isAgg434
  z232 := Tryz.sizeOf434
  v232 := Tryz.zeroValue434
  t233 := Tryz.underlying435
  a233 := Tryz.isAgg435
  z233 := Tryz.sizeOf435
  v233 := Tryz.zeroValue435
  g15 := by kernel_rfl
  g16 := by kernel_rfl
  g17 := by kernel_rfl
  g18 := by kernel_rfl
  g19 := by kernel_rfl
  t80 := Tryz.underlying167
  a80 := Tryz.isAgg167
  z80 := Tryz.sizeOf167
  v80 := Tryz.zeroValue167
  i0 := by kernel_rfl
  i2 := by kernel_rfl
  i3 := by kernel_rfl
  i4 := by kernel_rfl
  i5 := by kernel_rfl
  i9 := by kernel_rfl
  i20 := by kernel_rfl
  i21 := by kernel_rfl
  i37 := by kernel_rfl
  i46 := by kernel_rfl
  i51 := by kernel_rfl
  i53 := by kernel_rfl
  i75 := by kernel_rfl
  i76 := by kernel_rfl
  i80 := by kernel_rfl
  i85 := by kernel_rfl
  i127 := by kernel_rfl
  i143 := by kernel_rfl
  i145 := by kernel_rfl
  i167 := by kernel_rfl
  i168 := by kernel_rfl
  i171 := by kernel_rfl
  i173 := by kernel_rfl
  i175 := by kernel_rfl
  i210 := by kernel_rfl
  i212 := by kernel_rfl
  i232 := by kernel_rfl
  i233 := by kernel_rfl
  m15 := by kernel_rfl
  m16 := by kernel_rfl
  m17 := by kernel_rfl
  m18 := by kernel_rfl
  m19 := by kernel_rfl
  c0 := by kernel_rfl
  c2 := by kernel_rfl
  c3 := by kernel_rfl
  c4 := by kernel_rfl
  c5 := by kernel_rfl
  c9 := by kernel_rfl
  c20 := by kernel_rfl
  c21 := by kernel_rfl
  c37 := by kernel_rfl
  c46 := by kernel_rfl
  c51 := by kernel_rfl
  c53 := by kernel_rfl
  c75 := by kernel_rfl
  c76 := by kernel_rfl
  c80 := by kernel_rfl
  c85 := by kernel_rfl
  c127 := by kernel_rfl
  c143 := by kernel_rfl
  c145 := by kernel_rfl
  c167 := by kernel_rfl
  c168 := by kernel_rfl
  c171 := by kernel_rfl
  c173 := by kernel_rfl
  c175 := by kernel_rfl
  c210 := by kernel_rfl
  c212 := by kernel_rfl
  c213 := by kernel_rfl
  c232 := by kernel_rfl
  c233 := by kernel_rfl }
open Go.RowKit in

theorem Tryz.strconv_Atoi_ok (s : ByteArray) (hmax : s.size ≤ 9223372036854775806) (v : Int) (h : Lib.atoiAll s.data.toList = .ok v) (w : World) :
    Calls Tryz.prog 272 #[.string s] w fun e w' => e = .returned (.tuple #[.int .i64 v, .nilIface]) ∧ (w' = w ∨ ∃ t, w' = Lib.bytesWorld w 5 t) := Any.strconv_Atoi_ok Tryz.laysC172 s hmax v h w
open Go.RowKit in
theorem Tryz.strconv_Atoi_range_var (s : ByteArray) (hlim : s.size ≤ 281474976710656) (h : Lib.atoiAll s.data.toList = .range) (tp : TypeId) (p : Value) (w : World) (hvar : w.var? Tryz.prog "strconv.ErrRange" = some #[.iface tp p]) :
    Calls Tryz.prog 272 #[.string s] w fun e w' => ∃ N, e = .returned (.tuple #[.int .i64 (Lib.atoiSat s.data.toList), .iface 483 (.pointer (some ⟨N, 0, none⟩))]) ∧ w.heap.size ≤ N ∧ w'.heap[N]? = some (.cells #[.string ⟨#[65, 116, 111, 105]⟩, .string s, .iface tp p] 498 (0, 0)) ∧ Below w.heap.size w w' := Any.strconv_Atoi_range_var Tryz.laysC172 s hlim h tp p w hvar
def Tryz.sortA_ren : Go.Shelf.Ren := ⟨fun | 6 => 219 | 15 => 241 | 14 => 260 | 28 => 286 | 29 => 85 | 20 => 299 | 21 => 300 | 22 => 301 | 23 => 302 | 24 => 303 | 25 => 304 | 26 => 305 | 27 => 306 | 46 => 337 | 47 => 338 | 48 => 339 | 49 => 340 | 50 => 341 | 57 => 358 | n => n, fun | 22 => 61 | 24 => 221 | 25 => 314 | 3 => 3 | 39 => 172 | 0 => 0 | 53 => 184 | 55 => 24 | 4 => 4 | 46 => 444 | 45 => 443 | 50 => 133 | 5 => 5 | 9 => 9 | 66 => 470 | 70 => 166 | 76 => 486 | 77 => 437 | n => n, fun | n => n⟩
theorem Tryz.sortA : Go.Proofs.SlLaysF0.n6 Tryz.prog Tryz.sortA_ren := {
  mixed := by kernel_rfl
  f6 := ⟨Tryz.f219.name, by decide, Tryz.func219.trans (congrArg some (by kernel_rfl))⟩
  f14 := ⟨Tryz.f260.name, by decide, Tryz.func260.trans (congrArg some (by kernel_rfl))⟩
  f15 := Tryz.func241.trans (congrArg some (by kernel_rfl))
  f20 := ⟨Tryz.f299.name, by decide, Tryz.func299.trans (congrArg some (by kernel_rfl))⟩
  f21 := ⟨Tryz.f300.name, by decide, Tryz.func300.trans (congrArg some (by kernel_rfl))⟩
  f22 := ⟨Tryz.f301.name, by decide, Tryz.func301.trans (congrArg some (by kernel_rfl))⟩
  f23 := ⟨Tryz.f302.name, by decide, Tryz.func302.trans (congrArg some (by kernel_rfl))⟩
  f24 := ⟨Tryz.f303.name, by decide, Tryz.func303.trans (congrArg some (by kernel_rfl))⟩
  f25 := ⟨Tryz.f304.name, by decide, Tryz.func304.trans (congrArg some (by kernel_rfl))⟩
  f26 := ⟨Tryz.f305.name, by decide, Tryz.func305.trans (congrArg some (by kernel_rfl))⟩
  f27 := ⟨Tryz.f306.name, by decide, Tryz.func306.trans (congrArg some (by kernel_rfl))⟩
  f28 := Tryz.func286.trans (congrArg some (by kernel_rfl))
  f29 := Tryz.func85.trans (congrArg some (by kernel_rfl))
  f46 := ⟨Tryz.f337.name, by decide, Tryz.func337.trans (congrArg some (by kernel_rfl))⟩
  f47 := Tryz.func338.trans (congrArg some (by kernel_rfl))
  f48 := Tryz.func339.trans (congrArg some (by kernel_rfl))
  f49 := ⟨Tryz.f340.name, by decide, Tryz.func340.trans (congrArg some (by kernel_rfl))⟩
  f50 := ⟨Tryz.f341.name, by decide, Tryz.func341.trans (congrArg some (by kernel_rfl))⟩
  f57 := ⟨Tryz.f358.name, by decide, Tryz.func358.trans (congrArg some (by kernel_rfl))⟩
  t0 := Tryz.underlying0
  a0 := Tryz.isAgg0
  z0 := Tryz.sizeOf0
  v0 := Tryz.zeroValue0
  t3 := Tryz.underlying3
  a3 := Tryz.isAgg3
  z3 := Tryz.sizeOf3
  v3 := Tryz.zeroValue3
  t4 := Tryz.underlying4
  a4 := Tryz.isAgg4
  z4 := Tryz.sizeOf4
  v4 := Tryz.zeroValue4
  t5 := Tryz.underlying5
  a5 := Tryz.isAgg5
  z5 := Tryz.sizeOf5
  v5 := Tryz.zeroValue5
  t9 := Tryz.underlying9
  a9 := Tryz.isAgg9
  z9 := Tryz.sizeOf9
  v9 := Tryz.zeroValue9
  t22 := Tryz.underlying61
  a22 := Tryz.isAgg61
  z22 := Tryz.sizeOf61
  v22 := Tryz.zeroValue61
  t25 := Tryz.underlying314
  a25 := Tryz.isAgg314
  z25 := Tryz.sizeOf314
  v25 := Tryz.zeroValue314
  t39 := Tryz.underlying172
  a39 := Tryz.isAgg172
  z39 := Tryz.sizeOf172
  v39 := Tryz.zeroValue172
  t45 := Tryz.underlying443
  a45 := Tryz.isAgg443
  z45 := Tryz.sizeOf443
  v45 := Tryz.zeroValue443
  t46 := Tryz.underlying444
  a46 := Tryz.isAgg444
  z46 := Tryz.sizeOf444
  v46 := Tryz.zeroValue444
  t50 := Tryz.underlying133
  a50 := Tryz.isAgg133
  z50 := Tryz.sizeOf133
  v50 := Tryz.zeroValue133
  t53 := Tryz.underlying184
  a53 := Tryz.isAgg184
  z53 := Tryz.sizeOf184
  v53 := Tryz.zeroValue184
  t55 := Tryz.underlying24
  a55 := Tryz.isAgg24
  z55 := Tryz.sizeOf24
  v55 := Tryz.zeroValue24
  t66 := Tryz.underlying470
  a66 := Tryz.isAgg470
  z66 := Tryz.sizeOf470
  v66 := Tryz.zeroValue470
  t70 := Tryz.underlying166
  a70 := Tryz.isAgg166
  z70 := Tryz.sizeOf166
  v70 := Tryz.zeroValue166
  t76 := Tryz.underlying486
  a76 := Tryz.isAgg486
  z76 := Tryz.sizeOf486
  v76 := Tryz.zeroValue486
  t77 := Tryz.underlying437
  a77 := Tryz.isAgg437
  z77 := Tryz.sizeOf437
  v77 := Tryz.zeroValue437 }
def Tryz.cmpIA_ren : Go.Shelf.Ren := ⟨fun | 5 => 207 | 7 => 250 | n => n, fun | 22 => 3 | 3 => 3 | 4 => 4 | n => n, fun | n => n⟩
theorem Tryz.cmpIA : Go.Proofs.SlLaysC2.n5 Tryz.prog Tryz.cmpIA_ren := {
  mixed := by kernel_rfl
  f5 := ⟨Tryz.f207.name, by decide, Tryz.func207.trans (congrArg some (by kernel_rfl))⟩
  f7 := ⟨Tryz.f250.name, by decide, Tryz.func250.trans (congrArg some (by kernel_rfl))⟩
  t3 := Tryz.underlying3
  a3 := Tryz.isAgg3
  z3 := Tryz.sizeOf3
  v3 := Tryz.zeroValue3
  t4 := Tryz.underlying4
  a4 := Tryz.isAgg4
  z4 := Tryz.sizeOf4
  v4 := Tryz.zeroValue4
  t22 := Tryz.underlying3
  a22 := Tryz.isAgg3
  z22 := Tryz.sizeOf3
  v22 := Tryz.zeroValue3 }
end Go.Proofs
namespace Go.Proofs.YtkonpbcnekcjjaaGreatDoor
open Go Go.Xec Go.RowKit
theorem named1 : Tryz.prog.globalNamed "internal/strconv.uint64pow10" ≠ none := by
  have e : (Tryz.prog.globalNamed "internal/strconv.uint64pow10").isSome = true := by kernel_rfl
  intro h; rw [h] at e; cases e
theorem named2 : Tryz.prog.globalNamed "strconv.ErrSyntax" ≠ none := by
  have e : (Tryz.prog.globalNamed "strconv.ErrSyntax").isSome = true := by kernel_rfl
  intro h; rw [h] at e; cases e
theorem named3 : Tryz.prog.globalNamed "strconv.ErrRange" ≠ none := by
  have e : (Tryz.prog.globalNamed "strconv.ErrRange").isSome = true := by kernel_rfl
  intro h; rw [h] at e; cases e
theorem tab10 {w : World} (h : Laid Tryz.prog w) : Lib.TabIs Tryz.prog w "internal/strconv.uint64pow10" .u64 Lib.pow10Tab :=
  h.1 ("internal/strconv.uint64pow10", .u64, Lib.pow10Tab) (by simp [tabs]) named1
theorem sound75 : Sound Tryz.prog 75 F_itoa := by
  refine sound_calls Tryz.func75 (by kernel_rfl) (by kernel_rfl) ?_
  intro ys r hr w S vs hS hL hl
  unfold F_itoa at hr
  split at hr
  · rename_i n
    split at hr
    · rename_i hn
      cases hr
      obtain ⟨u, rfl, hu⟩ := VL_1 hl
      have hu := V_int hu
      subst hu
      refine (Tryz.strconv_Itoa n hn.1 hn.2 w (tab10 hL)).mono ?_
      rintro e w' ⟨rfl, k, os, rfl⟩
      obtain ⟨h1, h2, h3⟩ := env_grow w k os
      exact ⟨_, rfl, h1, h2, h3, by simp only [V]; rfl⟩
    · cases hr
  · cases hr
theorem sound253 : Sound Tryz.prog 253 F_index := by
  refine sound_calls Tryz.func253 (by kernel_rfl) (by kernel_rfl) ?_
  intro ys r hr w S vs hS hL hl
  unfold F_index at hr
  split at hr
  · rename_i s c
    cases hr
    obtain ⟨u, v, rfl, hu, hv⟩ := VL_2 hl
    have hu := V_str hu
    have hv := V_int hv
    subst hu; subst hv
    refine (Tryz.strings_IndexByte s c w).mono ?_
    rintro e w' ⟨rfl, rfl⟩
    exact ⟨_, rfl, Nat.le_refl _, fun _ _ => rfl, SameEnv.refl _, by simp only [V]⟩
  · cases hr
theorem sound272 : Sound Tryz.prog 272 (F_atoi 483) := by
  refine sound_calls Tryz.func272 (by kernel_rfl) (by kernel_rfl) ?_
  intro ys r hr w S vs hS hL hl
  unfold F_atoi at hr
  split at hr
  · rename_i s
    split at hr
    · rename_i hsz
      obtain ⟨u, rfl, hu⟩ := VL_1 hl
      have hu := V_str hu
      subst hu
      cases hv : Lib.atoiAll s.data.toList with
      | ok v =>
        rw [hv] at hr
        cases hr
        refine (Tryz.strconv_Atoi_ok s (by omega) v hv w).mono ?_
        rintro e w' ⟨rfl, rfl | ⟨t, rfl⟩⟩
        · refine ⟨_, rfl, Nat.le_refl _, fun _ _ => rfl, SameEnv.refl _, ?_⟩
          simp only [V, VL]
          exact ⟨_, rfl, _, _, rfl, rfl, _, _, rfl, rfl, rfl⟩
        · obtain ⟨h1, h2, h3⟩ := env_bytes w 5 t
          refine ⟨_, rfl, h1, h2, h3, ?_⟩
          simp only [V, VL]
          exact ⟨_, rfl, _, _, rfl, rfl, _, _, rfl, rfl, rfl⟩
      | range =>
        rw [hv] at hr
        cases hr
        obtain ⟨tp, p, hp⟩ := hL.2.1 "strconv.ErrRange" (by simp [errs]) named3
        refine (Tryz.strconv_Atoi_range_var s hsz hv tp p w hp).mono ?_
        rintro e w' ⟨N, rfl, _, _, hb⟩
        obtain ⟨h1, h2, h3⟩ := env_below hb
        refine ⟨_, rfl, h1, h2, h3, ?_⟩
        simp only [V, VL]
        exact ⟨_, rfl, _, _, rfl, rfl, _, _, rfl, ⟨_, rfl, trivial⟩, rfl⟩
      | _ =>
        rw [hv] at hr
        cases hr
        obtain ⟨tp, p, hp⟩ := hL.2.1 "strconv.ErrSyntax" (by simp [errs]) named2
        refine (Any.strconv_Atoi_syntax_var Tryz.laysC172 s hsz hv tp p w hp).mono ?_
        rintro e w' ⟨N, rfl, _, _, hb⟩
        obtain ⟨h1, h2, h3⟩ := env_below hb
        refine ⟨_, rfl, h1, h2, h3, ?_⟩
        simp only [V, VL]
        exact ⟨_, rfl, _, _, rfl, rfl, _, _, rfl, ⟨_, rfl, trivial⟩, rfl⟩
    · cases hr
  · cases hr
end Go.Proofs.YtkonpbcnekcjjaaGreatDoor
namespace Go.Proofs.YtkonpbcnekcjjaaGreatDoor
open Go
def Tryz.lays7x29_ren : Go.Shelf.Ren := ⟨fun | 29 => 233 | n => n, fun | 22 => 24 | 3 => 3 | 4 => 4 | 25 => 172 | 54 => 435 | 0 => 0 | 5 => 5 | n => n, fun | 1 => 5 | n => n⟩
theorem Tryz.lays7x29 : Go.Proofs.Lays7.n29 Tryz.prog Tryz.lays7x29_ren := {
  mixed := by kernel_rfl
  f29 := Tryz.func233.trans (congrArg some (by kernel_rfl))
  t0 := Tryz.underlying0
  a0 := Tryz.isAgg0
  z0 := Tryz.sizeOf0
  v0 := Tryz.zeroValue0
  i0 := by kernel_rfl
  t3 := Tryz.underlying3
  a3 := Tryz.isAgg3
  z3 := Tryz.sizeOf3
  v3 := Tryz.zeroValue3
  i3 := by kernel_rfl
  t4 := Tryz.underlying4
  a4 := Tryz.isAgg4
  z4 := Tryz.sizeOf4
  v4 := Tryz.zeroValue4
  i4 := by kernel_rfl
  t5 := Tryz.underlying5
  a5 := Tryz.isAgg5
  z5 := Tryz.sizeOf5
  v5 := Tryz.zeroValue5
  i5 := by kernel_rfl
  t22 := Tryz.underlying24
  a22 := Tryz.isAgg24
  z22 := Tryz.sizeOf24
  v22 := Tryz.zeroValue24
  i22 := by kernel_rfl
  t25 := Tryz.underlying172
  a25 := Tryz.isAgg172
  z25 := Tryz.sizeOf172
  v25 := Tryz.zeroValue172
  i25 := by kernel_rfl
  t54 := Tryz.underlying435
  a54 := Tryz.isAgg435
  z54 := Tryz.sizeOf435
  g1 := by kernel_rfl }
open Go.Xec Go.RowKit
theorem named_db : Tryz.prog.globalNamed "math/bits.deBruijn64tab" = some 5 := by kernel_rfl
def F_tz : List AVal → Option AVal
  | [.int .u64 x] => if 0 ≤ x ∧ x < 18446744073709551616 then some (.int .i64 (Lib.ctz 64 x.toNat : Nat)) else none
  | _ => none
theorem sound233 : Sound Tryz.prog 233 F_tz := by
  refine sound_calls Tryz.func233 (by kernel_rfl) (by kernel_rfl) ?_
  intro ys r hr w S vs hS hL hl
  unfold F_tz at hr
  split at hr
  · rename_i x
    split at hr
    · rename_i hx
      cases hr
      obtain ⟨u, rfl, hu⟩ := VL_1 hl
      have hu := V_int hu
      subst hu
      obtain ⟨n, rfl⟩ : ∃ n : Nat, x = n := ⟨x.toNat, by omega⟩
      have hT : TabAt 5 Lib.deBruijn64tab w := by
        intro j hj
        have h := hL.1 ("math/bits.deBruijn64tab", .u8, Lib.deBruijn64tab.map Int.ofNat) (by simp [tabs]) (by rw [named_db]; simp)
        rw [h.cell named_db j (by simpa using hj)]
        simp [List.getD_eq_getElem?_getD, List.getElem?_map, List.getElem?_eq_getElem hj]
      refine (Any7.bits_TrailingZeros64 Tryz.lays7x29 n (by omega) w (fun _ => hT)).mono ?_
      rintro e w' ⟨rfl, rfl⟩
      exact ⟨_, rfl, Nat.le_refl _, fun _ _ => rfl, SameEnv.refl _, by simp only [V, Int.toNat_natCast]⟩
    · cases hr
  · cases hr
end Go.Proofs.YtkonpbcnekcjjaaGreatDoor
namespace Go.Proofs.YtkonpbcnekcjjaaGreatDoor
open Go Go.Xec
set_option maxRecDepth 10000
structure Fd where
  w : List UInt8
  lo : Int
  hi : Int
  nd : Int
abbrev FK (b : Fd) : AVal := .agg [sv b.w, .int .i64 b.lo, .int .i64 b.hi, .int .i64 b.nd]
def needB (b : Fd) (c : Int) : Bool := decide (b.nd / 2 ^ c.toNat % 2 = 1)
def fdL : List Fd := [⟨[115, 105, 122, 101], 1, 1000, 45⟩, ⟨[108, 111, 119], -1000000, 1000000, 195⟩, ⟨[104, 105, 103, 104], -1000000, 1000000, 195⟩, ⟨[98, 97, 115, 101], 2, 25, 63⟩, ⟨[99, 97, 112], 1, 1000000000, 255⟩,
  ⟨[116, 97, 114, 103, 101, 116], -1000000, 1000000, 192⟩, ⟨[115, 116, 101, 112], 0, 1000000, 64⟩, ⟨[98, 111, 117, 110, 100], 1, 1000000000, 64⟩, ⟨[119, 101, 105, 103, 104, 116], 1, 99, 128⟩, ⟨[115, 105, 103, 109, 97], 1, 1000000, 128⟩,
  ⟨[108, 111, 119, 101, 114], -1000000, 1000000, 0⟩, ⟨[117, 112, 112, 101, 114], -1000000, 1000000, 0⟩]
def fd (f : Nat) : Fd := fdL.getD f ⟨[], 0, 0, 0⟩
def chW : List (List UInt8) := [[120, 98, 97, 114], [115, 105, 110, 103, 108, 101], [112], [110, 112], [99], [117], [99, 117, 115, 117, 109], [101, 119, 109, 97]]
structure Ch where
  n : List UInt8
  t : Int
  f0 : Int
  f1 : Int
  f2 : Int
  f3 : Int
  f4 : Int
  f5 : Int
  f6 : Int
  f7 : Int
  f8 : Int
  f9 : Int
  f10 : Int
  f11 : Int
  deriving DecidableEq
abbrev CK (c : Ch) : AVal := .agg [sv c.n, .int .i64 c.t, .int .i64 c.f0, .int .i64 c.f1, .int .i64 c.f2, .int .i64 c.f3, .int .i64 c.f4, .int .i64 c.f5, .int .i64 c.f6, .int .i64 c.f7, .int .i64 c.f8, .int .i64 c.f9, .int .i64 c.f10, .int .i64 c.f11]
def Ch.fs (c : Ch) : List Int := [c.f0, c.f1, c.f2, c.f3, c.f4, c.f5, c.f6, c.f7, c.f8, c.f9, c.f10, c.f11]
def chanW : List UInt8 := [99, 104, 97, 110, 110, 101, 108]
def vl (c : Ch) (k : Nat) : Int := c.fs.getD k 0
def flB (c : Ch) (k : Nat) : Bool := needB (fd k) c.t || (decide (10 ≤ k) && !decide (c.f10 = c.f11))
def fl (c : Ch) : List Nat := (List.range 12).filter (flB c)
abbrev itz (n : Int) : List UInt8 := Lib.itoa n
def fP (c : Ch) (k : Nat) : List UInt8 := (fd k).w ++ ([32] ++ (itz (vl c k) ++ [59, 10]))
def chP (c : Ch) : List UInt8 := chanW ++ ([32] ++ (c.n ++ ([32] ++ (chW.getD c.t.toNat [] ++ ([32, 123, 10] ++ ((fl c).flatMap (fP c) ++ [125, 10]))))))
def prtR (r : List Ch) : List UInt8 := r.flatMap chP
def hdP (c : Ch) : List UInt8 := chanW ++ ([32] ++ (c.n ++ ([32] ++ (chW.getD c.t.toNat [] ++ [32, 123, 10]))))
theorem chP_eq (c : Ch) : chP c = hdP c ++ ((fl c).flatMap (fP c) ++ [125, 10]) := by simp [chP, hdP]
theorem range_next (p : Nat → Bool) (g : Nat → List UInt8) (i : Nat) : ((List.range (i + 1)).filter p).flatMap g = ((List.range i).filter p).flatMap g ++ (if p i then g i else []) := by
  rw [List.range_succ, List.filter_append, List.flatMap_append]
  congr 1
  by_cases h : p i = true
  · simp [h]
  · simp [h]
abbrev RC (a : AVal) (r : List Ch) : Prop := Rg 14 CK a r
def chOk (c : Ch) : Prop := (True ∧ True ∧ c.n.length ≤ 20) ∧ (0 ≤ c.t ∧ c.t ≤ 7) ∧ (∀ i < 12, (-1000000000 ≤ vl c i ∧ vl c i ≤ 1000000000) ∧ (itz (vl c i)).length ≤ 21) ∧ (∀ i ≤ 12, (((List.range i).filter (flB c)).flatMap (fP c)).length ≤ 400)
theorem vl_num {c : Ch} (hc : chOk c) {i : Nat} (hi : i < 12) (h : flB c i = true) : -1000000000 ≤ vl c i ∧ vl c i ≤ 1000000000 := (hc.2.2.1 i hi).1
theorem fls_len {c : Ch} (hc : chOk c) {i : Nat} (hi : i ≤ 12) : (((List.range i).filter (flB c)).flatMap (fP c)).length ≤ 400 := hc.2.2.2 i hi
def rOk (r : List Ch) : Prop := (∀ c ∈ r, chOk c) ∧ True ∧ True ∧ r.length ≤ 4
theorem chP_len {c : Ch} (hc : chOk c) : (chP c).length ≤ 500 := by
  have h1 := hc.1.2.2
  have h2 := hc.2.1
  have h3 : ((fl c).flatMap (fP c)).length ≤ 400 := hc.2.2.2 12 (by decide)
  have h4 : ∀ t < 8, (chW.getD t []).length ≤ 6 := by decide
  have h5 := h4 c.t.toNat (by omega)
  unfold chP
  simp only [List.length_append, List.length_cons, List.length_nil, chanW]
  omega
theorem prtR_len : ∀ {r : List Ch}, (∀ c ∈ r, chOk c) → (prtR r).length ≤ 500 * r.length
  | [], _ => by simp [prtR]
  | c :: r, h => by
    have h1 := prtR_len (r := r) fun d hd => h d (by simp [hd])
    have h2 := chP_len (h c (by simp))
    simp only [prtR, List.flatMap_cons, List.length_append, List.length_cons] at *
    omega
def avIs (o : Option AVal) (v : AVal) : Bool := match o with
  | some x => avEq x v
  | none => false
theorem pureK_is {C : Cfg} {d : Nat} {f : FuncId} {xs : List AVal} {v : AVal} (h : avIs (pureK C d f xs) v = true) : pureF C d f xs = some v := by
  cases hp : pureK C d f xs with
  | none => rw [hp] at h; cases h
  | some x => rw [hp] at h; rw [pureK_ok hp, avEq_ok _ _ h]
noncomputable def CP : Cfg := ⟨fun _ => none, xfK, fun _ => none, fun _ => none, fun _ => none, fun _ _ => none⟩
theorem okP : CfgOk Tryz.prog CP := ⟨(fun g F h => by cases h), xfK_ok, by kernel_rfl, (fun g F h => by cases h), (fun g F h => by cases h), (fun g F h => by cases h), (fun t m g h => by cases h)⟩
noncomputable def F69 : List AVal → Option AVal := pureF CP 20 69
theorem sound69 : Sound Tryz.prog 69 F69 := sound_self okP 20 69
noncomputable def F71 : List AVal → Option AVal := pureF CP 20 71
theorem sound71 : Sound Tryz.prog 71 F71 := sound_self okP 20 71
theorem F71_eq : F71 [] = some (.agg (chW.map sv)) := pureK_is (by kernel_rfl)
noncomputable def F74 : List AVal → Option AVal := pureF CP 20 74
theorem sound74 : Sound Tryz.prog 74 F74 := sound_self okP 20 74
theorem need_all : ((List.range 8).all fun t => (List.range 12).all fun k => avIs (pureK CP 20 74 [FK (fd k), .int .i64 (Int.ofNat t)]) (.bool (needB (fd k) (Int.ofNat t)))) = true := by kernel_rfl
theorem E26 {t k : Nat} {ct : Int} (ht : t < 8) (hk : k < 12) (hct : ct = (t : Nat)) : F74 [FK (fd k), .int .i64 ct] = some (.bool (needB (fd k) (t : Nat))) := by
  subst hct
  have h1 := List.all_eq_true.1 need_all t (List.mem_range.2 ht)
  exact pureK_is (List.all_eq_true.1 h1 k (List.mem_range.2 hk))
def c0 : Ch := ⟨[97], 1, 0, 0, 100, 2, 9, 0, 0, 0, 0, 0, 0, 0⟩
theorem right0 : F69 [.agg [.slc 14 [CK c0]]] = some (.bool true) := pureK_is (by kernel_rfl)
theorem c0_ok : chOk c0 := ⟨⟨trivial, trivial, by decide⟩, by decide, by decide +kernel, by decide +kernel⟩
def txtL : List UInt8 := [99, 104, 97, 110, 110, 101, 108, 32, 97, 32, 115, 105, 110, 103, 108, 101, 32, 123, 10, 108, 111, 119, 32, 48, 59, 10, 104, 105, 103, 104, 32, 49, 48, 48, 59, 10, 98, 97, 115, 101, 32, 50, 59, 10, 99, 97, 112, 32, 57, 59, 10, 125, 10]
theorem txt_eq : prtR [c0] = txtL := by decide +kernel
end Go.Proofs.YtkonpbcnekcjjaaGreatDoor
namespace Go.Proofs.YtkonpbcnekcjjaaGreatDoor
open Go Go.Xec Go.RowKit
def ren166 : Go.Shelf.Ren := ⟨fun | 166 => 70 | 240 => 98 | 276 => 129 | n => n, fun | 70 => 148 | 9 => 9 | 0 => 0 | 72 => 151 | 37 => 149 | 3 => 3 | 5 => 5 | 4 => 4 | 20 => 20 | 75 => 153 | 80 => 167 | 164 => 246 | n => n, fun | n => n⟩
theorem l166_f166 : Tryz.prog.funcs[70]? = some (Go.Proofs.Body.n166 ren166) := Tryz.func70.trans (congrArg some (by kernel_rfl))
theorem l166_f240 : Tryz.prog.funcs[98]? = some (Go.Proofs.Body.n240 ren166) := Tryz.func98.trans (congrArg some (by kernel_rfl))
theorem l166_f276 : Tryz.prog.funcs[129]? = some (Go.Proofs.Body.n276 ren166) := Tryz.func129.trans (congrArg some (by kernel_rfl))
theorem lays166 : Go.Proofs.Lays.n166 Tryz.prog ren166 := {
  mixed := by kernel_rfl
  f166 := l166_f166
  f240 := l166_f240
  f276 := l166_f276
  t0 := Tryz.underlying0
  a0 := Tryz.isAgg0
  z0 := Tryz.sizeOf0
  v0 := Tryz.zeroValue0
  t3 := Tryz.underlying3
  a3 := Tryz.isAgg3
  z3 := Tryz.sizeOf3
  v3 := Tryz.zeroValue3
  t4 := Tryz.underlying4
  a4 := Tryz.isAgg4
  z4 := Tryz.sizeOf4
  v4 := Tryz.zeroValue4
  t9 := Tryz.underlying9
  a9 := Tryz.isAgg9
  z9 := Tryz.sizeOf9
  v9 := Tryz.zeroValue9
  t20 := Tryz.underlying20
  a20 := Tryz.isAgg20
  z20 := Tryz.sizeOf20
  v20 := Tryz.zeroValue20
  t37 := Tryz.underlying149
  a37 := Tryz.isAgg149
  z37 := Tryz.sizeOf149
  v37 := Tryz.zeroValue149
  t70 := Tryz.underlying148
  a70 := Tryz.isAgg148
  z70 := Tryz.sizeOf148
  v70 := Tryz.zeroValue148
  t72 := Tryz.underlying151
  a72 := Tryz.isAgg151
  z72 := Tryz.sizeOf151
  v72 := Tryz.zeroValue151
  t75 := Tryz.underlying153
  a75 := Tryz.isAgg153
  z75 := Tryz.sizeOf153
  v75 := Tryz.zeroValue153
  t164 := Tryz.underlying246
  a164 := Tryz.isAgg246
  z164 := Tryz.sizeOf246
  v164 := Tryz.zeroValue246
}
theorem ext166 : Builder.Extra Tryz.prog ren166 := {
  sizeBuilder := by kernel_rfl
  liesBuilder := by kernel_rfl
  t5 := Tryz.underlying5
  a5 := Tryz.isAgg5
  z5 := Tryz.sizeOf5
  v5 := Tryz.zeroValue5
  infoByte := by kernel_rfl
  cellsByte := by kernel_rfl
  sizeByte := by kernel_rfl
  neB5 := by decide }
theorem bld_write (B b : Nat) (cs : List Value) (s : ByteArray) (w : World) (h : Lib.IsBuilderF 151 5 B b cs w) (hlen : cs.length + s.size ≤ 140737488355328) (hBw : B ≤ w.heap.size) :
    Calls Tryz.prog 70 #[.pointer (some ⟨b, 0, none⟩), .string s] w fun e w' => e = .returned (.tuple #[.int .i64 s.size, .nilIface]) ∧ (Lib.BuilderAtF 151 5 B b (.pointer (some ⟨b, 0, none⟩)) (cs ++ Lib.strCells s) w' ∧ Below B w w' ∧ Lib.OthersKept 5 (some b) w w') :=
  Any.Builder_WriteString_k lays166 ext166 B b cs s w h hlen hBw
theorem bld_string (B b : Nat) (l : List UInt8) (w : World) (h : Lib.IsBuilderF 151 5 B b (Lib.byteCells l) w) (hBw : B ≤ w.heap.size) :
    Calls Tryz.prog 76 #[.pointer (some ⟨b, 0, none⟩)] w fun e w' => e = .returned (.string ⟨l.toArray⟩) ∧ Below B w w' :=
  (Tryz.Builder_String_any_k B b l w h hBw).mono fun e w' h => ⟨h.1, h.2.2.1⟩
theorem ctx_grow {w w' : World} (h : Below w.heap.size w w') : Grow (ctx0 w fun b => b < w.heap.size) (ctx0 w' fun b => b < w'.heap.size) := by
  refine ⟨fun b hb => Nat.lt_of_lt_of_le hb h.size, fun b hb => h.block b hb, fun _ _ _ hp => hp, fun b => ?_⟩
  show bsz w b ≤ bsz w' b
  unfold bsz
  rcases Nat.lt_or_ge b w.heap.size with hb | hb
  · rw [h.block b hb]
    exact Nat.le_refl _
  · rw [Array.getElem?_eq_none hb]
    exact Nat.zero_le _
def chV (c : Ch) : List Value := [.string (bs c.n), .int .i64 c.t, .int .i64 c.f0, .int .i64 c.f1, .int .i64 c.f2, .int .i64 c.f3, .int .i64 c.f4, .int .i64 c.f5, .int .i64 c.f6, .int .i64 c.f7, .int .i64 c.f8, .int .i64 c.f9, .int .i64 c.f10, .int .i64 c.f11]
theorem vc_ch {x : Ctx} {b o : Nat} {c : Ch} (h : VE x 14 (CK c) b o) : ∀ j v, (chV c)[j]? = some v → x.w.cell? ⟨b, o + j, none⟩ = some v := by
  simp only [VE, VC, V] at h
  obtain ⟨_, ⟨_, h0, rfl⟩, ⟨_, h1, rfl⟩, ⟨_, h2, rfl⟩, ⟨_, h3, rfl⟩, ⟨_, h4, rfl⟩, ⟨_, h5, rfl⟩, ⟨_, h6, rfl⟩, ⟨_, h7, rfl⟩, ⟨_, h8, rfl⟩, ⟨_, h9, rfl⟩, ⟨_, h10, rfl⟩, ⟨_, h11, rfl⟩, ⟨_, h12, rfl⟩, ⟨_, h13, rfl⟩, _⟩ := h
  intro j v hj
  match j with
  | 0 => cases hj; exact h0
  | 1 => cases hj; exact h1
  | 2 => cases hj; exact h2
  | 3 => cases hj; exact h3
  | 4 => cases hj; exact h4
  | 5 => cases hj; exact h5
  | 6 => cases hj; exact h6
  | 7 => cases hj; exact h7
  | 8 => cases hj; exact h8
  | 9 => cases hj; exact h9
  | 10 => cases hj; exact h10
  | 11 => cases hj; exact h11
  | 12 => cases hj; exact h12
  | 13 => cases hj; exact h13
  | j + 14 => simp [chV] at hj
theorem vr_ch {x : Ctx} {b : Nat} : ∀ (l : List Ch) (o : Nat), VR x 14 (l.map CK) b o → ∀ i (hi : i < l.length), ∀ j v, (chV l[i])[j]? = some v → x.w.cell? ⟨b, o + i * 14 + j, none⟩ = some v
  | [], _, _, i, hi => absurd hi (by simp)
  | e :: l, o, h, i, hi => by
    rw [List.map_cons, VR] at h
    cases i with
    | zero => simpa using vc_ch h.1
    | succ i =>
      have := vr_ch l (o + 14) h.2 i (by simp at hi; omega)
      simp only [List.getElem_cons_succ]
      rw [show o + (i + 1) * 14 = o + 14 + i * 14 by omega]
      exact this
theorem rec_val {w : World} {S : Nat → Prop} {a : AVal} {l : List Ch} {v : Value} (ha : RC a l) (h : V (ctx0 w S) (.agg [a]) v) :
    ∃ ao cp, v = .agg #[.slice ao l.length cp] ∧ ∀ i (hi : i < l.length), ∃ b o, ao = some ⟨b, o, none⟩ ∧ (S b) ∧ ∀ j v, (chV l[i])[j]? = some v → w.cell? ⟨b, o + i * 14 + j, none⟩ = some v := by
  simp only [V, VL] at h
  obtain ⟨cs, rfl, u, _, rfl, hu, rfl⟩ := h
  rcases ha with ⟨rfl, rfl⟩ | ⟨rfl, rfl⟩ | rfl
  · simp only [V] at hu
    subst hu
    exact ⟨_, _, rfl, fun i hi => absurd hi (by simp)⟩
  · simp only [V] at hu
    obtain ⟨q, rfl⟩ := hu
    exact ⟨_, _, rfl, fun i hi => absurd hi (by simp)⟩
  · simp only [V] at hu
    obtain ⟨b, o, cp, rfl, _, hS, hr⟩ := hu
    refine ⟨some ⟨b, o, none⟩, cp, by simp, fun i hi => ⟨b, o, rfl, ?_, vr_ch l o hr i hi⟩⟩
    rcases hS with h0 | h0
    · rw [List.map_eq_nil_iff] at h0
      rw [h0] at hi
      simp at hi
    · exact h0
theorem vl_strs {x : Ctx} : ∀ {l : List (List UInt8)} {vs : List Value}, VL x (l.map sv) vs → vs = l.map fun s => Value.string (bs s)
  | [], vs, h => by simpa only [List.map_nil, VL] using h
  | s :: l, vs, h => by
    rw [List.map_cons, VL] at h
    obtain ⟨u, r, rfl, hu, hr⟩ := h
    rw [vl_strs hr, List.map_cons]
    simp only [V] at hu
    rw [hu]
def wsA : Array Value := (chW.map fun s => Value.string (bs s)).toArray
theorem words_calls (w : World) (hL : Laid Tryz.prog w) : Calls Tryz.prog 71 #[] w fun e w' => e = .returned (.agg wsA) ∧ Below w.heap.size w w' := by
  refine (calls_sound Tryz.func71 (by kernel_rfl) (by kernel_rfl) sound71 F71_eq w hL (vs := []) (by simp only [VL])).mono ?_
  rintro e w' ⟨v, rfl, hb, hv⟩
  simp only [V] at hv
  obtain ⟨cs, rfl, h⟩ := hv
  exact ⟨by rw [vl_strs h]; rfl, hb⟩
theorem vl_strs' {x : Ctx} : ∀ {l : List (List UInt8)}, VL x (l.map sv) (l.map fun s => Value.string (bs s))
  | [] => by simp only [List.map_nil, VL]
  | s :: l => by
    rw [List.map_cons, List.map_cons, VL]
    exact ⟨_, _, rfl, by simp only [V], vl_strs'⟩
theorem idx_words {t : Nat} (ht : t < 8) (W : World) : (Instr.index 156 (.agg wsA) (.int .i64 (t : Int))).run Tryz.prog W = .ok (.string (bs (chW.getD t []))) W := by
  have hr : (0 : Int) ≤ (t : Int) ∧ (t : Int) < ((8 : Nat) : Int) := by omega
  have hn : szOf Tryz.prog 9 = some 1 := by kernel_rfl
  simp only [Instr.index, asIntOf, Sem.run_bind, run_underlying Tryz.underlying156, Result.andThen_ok, Sem.run_pure, Sem.run_ite, hr, and_self, if_true, szOf_run hn]
  have htw : t < chW.length := ht
  obtain ⟨u, hu, hvu⟩ := part_ok (P := Tryz.prog) (x := ctx0 W fun _ => True) (t := 9) (agg := false) (off := t * 1) (cs := chW.map sv) (vs := chW.map fun s => Value.string (bs s)) (v := sv (chW.getD t [])) (by kernel_rfl) hn vl_strs'
    (by simp only [takeV, Bool.false_eq_true, if_false, Nat.mul_one, List.getElem?_map, List.getD_eq_getElem?_getD, List.getElem?_eq_getElem htw]; rfl) W
  rw [Int.toNat_natCast]
  simp only [V] at hvu
  subst hvu
  exact hu
def ptrs (b : Nat) : List Value := (List.range 12).map fun k => .pointer (some ⟨b, k + 2, none⟩)
set_option maxRecDepth 100000 in
set_option maxHeartbeats 8000000 in
theorem fields_calls (b : Nat) (w : World) : Calls Tryz.prog 72 #[.pointer (some ⟨b, 0, none⟩)] w fun e w' => ∃ B, e = .returned (.slice (some ⟨B, 0, none⟩) 12 12) ∧ w.heap.size ≤ B ∧ w'.heap[B]? = some (.cells (ptrs b).toArray 166 (0, 0)) ∧ Below w.heap.size w w' := by
  go_enter Tryz.func72, Tryz.ntmps72
  go_wp2_with fail
  go_still_tail 36, (by kernel_rfl)
  change wpList _ _ _ _ _ w.drew
  generalize hw : w.drew = w2
  go_wp2
  go_ret
  subst hw
  refine ⟨w.heap.size, rfl, Nat.le_refl _, heap_alloc_new w.drew _, ?_⟩
  exact Below.alloc (w := w.drew) ((Below.refl _ w).drew) (Nat.le_refl _) _
set_option maxRecDepth 100000 in
set_option maxHeartbeats 8000000 in
theorem bounds_calls (w : World) : Calls Tryz.prog 73 #[] w fun e w' => ∃ B, e = .returned (.slice (some ⟨B, 0, none⟩) 12 12) ∧ w.heap.size ≤ B ∧ (∃ cs : Array Value, w'.heap[B]? = some (.cells cs 164 (0, 0)) ∧ ∀ k < 12, cs[k * 4]? = some (.string (bs (fd k).w)) ∧ cs[k * 4 + 1]? = some (.int .i64 (fd k).lo) ∧ cs[k * 4 + 2]? = some (.int .i64 (fd k).hi) ∧ cs[k * 4 + 3]? = some (.int .i64 (fd k).nd)) ∧ Below w.heap.size w w' := by
  go_enter Tryz.func73, Tryz.ntmps73
  go_wp2
  go_ret
  refine ⟨w.heap.size, rfl, Nat.le_refl _, ⟨_, heap_alloc_new w _, ?_⟩, (Below.refl _ w).alloc (Nat.le_refl _) _⟩
  intro k hk
  match k, hk with
  | 0, _ => exact ⟨rfl, rfl, rfl, rfl⟩
  | 1, _ => exact ⟨rfl, rfl, rfl, rfl⟩
  | 2, _ => exact ⟨rfl, rfl, rfl, rfl⟩
  | 3, _ => exact ⟨rfl, rfl, rfl, rfl⟩
  | 4, _ => exact ⟨rfl, rfl, rfl, rfl⟩
  | 5, _ => exact ⟨rfl, rfl, rfl, rfl⟩
  | 6, _ => exact ⟨rfl, rfl, rfl, rfl⟩
  | 7, _ => exact ⟨rfl, rfl, rfl, rfl⟩
  | 8, _ => exact ⟨rfl, rfl, rfl, rfl⟩
  | 9, _ => exact ⟨rfl, rfl, rfl, rfl⟩
  | 10, _ => exact ⟨rfl, rfl, rfl, rfl⟩
  | 11, _ => exact ⟨rfl, rfl, rfl, rfl⟩
def Stg (w : World) (B : Nat) (acc : List UInt8) (wr : World) : Prop := Lib.IsBuilderF 151 5 B B (Lib.byteCells acc) wr ∧ Below w.heap.size w wr ∧ w.heap.size ≤ B ∧ B < wr.heap.size
theorem Stg.alloc {w wr : World} {B : Nat} {acc : List UInt8} (h : Stg w B acc wr) (o : Obj) : Stg w B acc (wr.alloc o) :=
  ⟨h.1.alloc o, h.2.1.alloc (h.2.1.size) o, h.2.2.1, by have := h.2.2.2; simp; omega⟩
theorem Stg.below {w wr w' : World} {B : Nat} {acc : List UInt8} (h : Stg w B acc wr) (hb : Below wr.heap.size wr w') : Stg w B acc w' :=
  ⟨h.1.below hb, h.2.1.trans (hb.mono h.2.1.size), h.2.2.1, Nat.lt_of_lt_of_le h.2.2.2 hb.size⟩
theorem Stg.drew {w wr : World} {B : Nat} {acc : List UInt8} (h : Stg w B acc wr) : Stg w B acc wr.drew := h.below (Below.refl _ wr).drew
theorem Stg.laid {w wr : World} {B : Nat} {acc : List UInt8} (h : Stg w B acc wr) (hL : Laid Tryz.prog w) : Laid Tryz.prog wr := below_laid hL h.2.1
theorem stg_write {w wr : World} {B : Nat} {acc : List UInt8} (h : Stg w B acc wr) (s : List UInt8) {q : ByteArray} (hq : q = bs s) (hlen : acc.length + s.length ≤ 1000000) :
    Calls Tryz.prog 70 #[.pointer (some ⟨B, 0, none⟩), .string q] wr fun e w' => e = .returned (.tuple #[.int .i64 s.length, .nilIface]) ∧ Stg w B (acc ++ s) w' ∧ wr.heap.size ≤ w'.heap.size ∧ (∀ (k : Nat) (cs : Array Value) (T : TypeId), wr.heap[k]? = some (.cells cs T (0, 0)) → k ≠ B → T ≠ 5 → w'.heap[k]? = some (.cells cs T (0, 0))) := by
  subst hq
  refine (bld_write B B (Lib.byteCells acc) (bs s) wr h.1 (by rw [Lib.byteCells_length, bs_size]; omega) (Nat.le_of_lt h.2.2.2)).mono ?_
  rintro e w' ⟨rfl, h1, h2, h3⟩
  refine ⟨by rw [bs_size], ⟨.inr ?_, h.2.1.trans (h2.mono h.2.2.1), h.2.2.1, Nat.lt_of_lt_of_le h.2.2.2 h2.size⟩, h2.size, ?_⟩
  · rw [Lib.byteCells_append, show Lib.byteCells s = Lib.strCells (bs s) from rfl]
    exact h1
  · intro k cs T hk hne hT
    refine h3 k _ hk (fun h => hne (Option.some.inj h)) ?_
    intro c fz he
    cases he
    exact hT rfl
theorem stg_string {w wr : World} {B : Nat} {acc : List UInt8} (h : Stg w B acc wr) :
    Calls Tryz.prog 76 #[.pointer (some ⟨B, 0, none⟩)] wr fun e w' => e = .returned (.string (bs acc)) ∧ Below w.heap.size w w' :=
  (bld_string B B acc wr h.1 (Nat.le_of_lt h.2.2.2)).mono fun e w' h' => ⟨h'.1, h.2.1.trans (h'.2.mono h.2.2.1)⟩
end Go.Proofs.YtkonpbcnekcjjaaGreatDoor
