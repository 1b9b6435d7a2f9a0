/-
  The program's reader: the next token, an error at it, a token of a kind; a field's place; the fields of a channel.
-/
import Derived.Test.YtppehejnnjlkfaaGreatDoorYM
set_option linter.unusedVariables false
set_option linter.unusedSimpArgs false
namespace Go.Proofs.YtppehejnnjlkfaaGreatDoor
open Go Go.Xec
attribute [local go_sem] tm0 ne_eq not_false_eq_true List.length_append List.length_replicate List.replicate_succ List.replicate_zero Int.cast_ofNat_Int not_true_eq_false decide_true decide_false ite_self beq_self_eq_true Bool.true_beq Bool.false_beq Bool.not_true Bool.not_false
attribute [local go_sem_proc] Nat.reduceAdd Nat.reduceMul Nat.reduceSub Nat.reduceLeDiff Nat.reduceLT Nat.reduceEqDiff Int.reduceLT Int.reduceLE Int.reduceAdd Int.reduceSub Int.reduceMul Int.reduceToNat Int.reducePow Int.reduceNe Int.reduceMod Int.reduceDiv Int.reduceEq Nat.reducePow Int.reduceNeg

set_option maxRecDepth 10000
noncomputable def F43 : List AVal → Option AVal := pureF C0 1 43
theorem sound43 : Sound Tryz.prog 43 F43 := sound_self ok0 1 43
theorem F43_eq {a : AVal} {l : List (List UInt8)} {s : List UInt8} (ha : RS a l) (hl : l.length ≤ 100000) : F43 [a, sv s] = some (.int .i64 (findW l s)) := by
  unfold F43
  refine pureF_of (x := x43) rfl rfl ?_
  rw [x43_eq.1, x43_eq.2.1]
  simp (disch := first | omega | simp only [go_sem, ↓reduceIte, dropK_eq]) only [x43b, go_sem, ↓reduceIte, dropK_eq, ha.len]
  refine Ev_range (ti := 8) (len := l.length) (J := fun i tm hp nc => ∀ j (hj : j < l.length), j < i → l[j] ≠ s) (by omega) (by simp only [go_sem, ↓reduceIte, dropK_eq]) (by intro j _ hj; omega) ?_
  rintro i tm hp nc hi hc k8 hj
  have k0 := hc 0 rfl; have k1 := hc 1 rfl; have k7 := hc 7 rfl; simp only [go_sem, ↓reduceIte, dropK_eq] at k0 k1 k7
  rcases Nat.lt_or_ge i l.length with hlt | hge
  · have d1 : decide ((i : Int) < (l.length : Int)) = true := decide_eq_true (by omega)
    have ia := ha.ia hlt
    have hst := findW_step (s := s) hlt (fun j hj' => hj j (by omega) hj')
    by_cases e : l[i] = s
    · have d2 : decide (s = l[i]) = true := decide_eq_true e.symm
      rw [hst.1 e]
      simp (disch := first | omega | simp only [go_sem, ↓reduceIte, dropK_eq]) only [x43l2, go_sem, ↓reduceIte, dropK_eq, k0, k1, k7, k8, d1, ia, d2]
      exact Ends_plain rfl rfl
    · have d2 : decide (s = l[i]) = false := decide_eq_false (fun h => e h.symm)
      simp (disch := first | omega | simp only [go_sem, ↓reduceIte, dropK_eq]) only [x43l2, go_sem, ↓reduceIte, dropK_eq, k0, k1, k7, k8, d1, ia, d2]
      refine ⟨hlt, by simp, fun j hj1 hj2 => ?_⟩
      by_cases e2 : j = i
      · subst e2; exact e
      · exact hj j hj1 (by omega)
  · obtain rfl : i = l.length := by omega
    have d1 : decide ((l.length : Int) < (l.length : Int)) = false := decide_eq_false (by omega)
    rw [findW_none fun j hj1 => hj j hj1 hj1]
    simp (disch := first | omega | simp only [go_sem, ↓reduceIte, dropK_eq]) only [x43l2, go_sem, ↓reduceIte, dropK_eq, k0, k1, k7, k8, d1]
    exact Ends_plain rfl rfl
noncomputable def C7 : Cfg := C6.add 43 F43
theorem ok7 : CfgOk Tryz.prog C7 := ok6.add sound43
abbrev RdC (a : AVal) (k e : Nat) : List AVal := [a, .int .i64 k, .int .i64 e]
abbrev PK (l : List T.Tok) (e k : Nat) : AVal := .agg [.int .i64 (gt l k).k, sv (gt l k).s, .int .i64 (gt l k).n, .int .i64 (placeS l e k)]
abbrev WV (l : List T.Tok) (e k : Nat) (why : Int) : AVal := .ifc 50 (.agg [.int .i64 (placeS l e k), .int .i64 why])
theorem RdC_plain {a : AVal} {l : List T.Tok} (ha : Rg 4 T.TK a l) (d k e : Nat) : plainL d (RdC a k e) = true := by
  simp only [plainL_cons, plainL_nil, ha.plain, plain_int, Bool.and_self]
noncomputable def F38 : List AVal → Option AVal := pureF C7 1 38
theorem sound38 : Sound Tryz.prog 38 F38 := sound_self ok7 1 38
theorem F38_eq {a : AVal} {l : List T.Tok} {k e : Nat} (ha : Rg 4 T.TK a l) : F38 [.pvo (RdC a k e) 0] = some (PK l e k) := by
  unfold F38
  refine pureF_of (x := x38) rfl rfl ?_
  rw [x38_eq.1, x38_eq.2.1]
  by_cases h : k < l.length
  · have d1 : decide ((k : Int) < (l.length : Int)) = true := decide_eq_true (by omega)
    have ia := ha.ia h
    have hg : gt l k = l[k] := by simp [gt, List.getD, List.getElem?_eq_getElem h]
    have hp1 := place_at (e := e) h
    rw [show PK l e k = .agg [.int .i64 l[k].k, sv l[k].s, .int .i64 l[k].n, .int .i64 l[k].at'] by unfold PK; rw [hp1, hg]]
    simp (disch := first | omega | simp only [*, go_sem, ↓reduceIte, dropK_eq]) only [x38b, go_sem, ↓reduceIte, dropK_eq, ha.len, d1, ia]
    exact Ends_plain rfl rfl
  · have d1 : decide ((k : Int) < (l.length : Int)) = false := decide_eq_false (by omega)
    have hg : gt l k = tok0 := by simp [gt, List.getD, List.getElem?_eq_none (Nat.le_of_not_lt h)]
    have hp1 : placeS l e k = e := by unfold placeS; rw [if_neg h]
    rw [show PK l e k = .agg [.int .i64 0, sv [], .int .i64 0, .int .i64 (e : Nat)] by unfold PK; rw [hp1, hg]; rfl]
    simp (disch := first | omega | simp only [*, go_sem, ↓reduceIte, dropK_eq]) only [x38b, go_sem, ↓reduceIte, dropK_eq, ha.len, d1]
    exact Ends_plain rfl rfl
noncomputable def C8 : Cfg := C7.add 38 F38
theorem ok8 : CfgOk Tryz.prog C8 := ok7.add sound38
noncomputable def F39 : List AVal → Option AVal := pureF C8 1 39
theorem sound39 : Sound Tryz.prog 39 F39 := sound_self ok8 1 39
theorem F39_eq {a : AVal} {l : List T.Tok} {k e : Nat} {why : Int} (ha : Rg 4 T.TK a l) : F39 [.pvo (RdC a k e) 0, .int .i64 why] = some (WV l e k why) := by
  have e38 := F38_eq (k := k) (e := e) ha
  unfold F39
  refine pureF_of (x := x39) rfl rfl ?_
  rw [x39_eq.1, x39_eq.2.1]
  have hcp := RdC_plain ha 63 k e
  simp (disch := first | omega | simp only [*, go_sem, ↓reduceIte, dropK_eq]) only [x39b, go_sem, ↓reduceIte, dropK_eq, callX_names (C := C8) (g := 38) rfl, ftC_names (C := C8) (g := 38) rfl, e38]
  rw [Ends_eq]
  simp (disch := first | omega | simp only [*, go_sem, ↓reduceIte, dropK_eq]) only [go_sem, ↓reduceIte, dropK_eq]
noncomputable def C9 : Cfg := C8.add 39 F39
theorem ok9 : CfgOk Tryz.prog C9 := ok8.add sound39
theorem wd_get {i : Nat} (h : i < wdL.length) (h2 : i < fdL.length) : wdL[i] = fdL[i].w := by
  simp only [wdL, List.getElem_map]
/-- The place of a field whose word a token is. -/
theorem clos74 {d : Nat} {b : Fd} {t : T.Tok} {hp : Heap} {nc : Nat} {K : AVal × Heap × Nat → Prop} (hb : b.w ≠ [63]) (hK : ∀ hp' nc', K (.bool (decide (b.w = wordT t)), hp', nc')) : Bd (inlD C9 (d + 1) 74 [FK b, .pvo [.int .i64 t.k, sv t.s, .int .i64 t.n, .int .i64 t.at'] 0] hp nc) K := by
  refine inl_of (x := x74) rfl rfl ?_
  rw [x74_eq.1, x74_eq.2.1]
  unfold wordT at hK
  by_cases h : t.k = 1
  · have d1 := decide_eq_true h
    rw [if_pos h] at hK
    simp (disch := first | omega | simp only [*, go_sem, ↓reduceIte, dropK_eq]) only [x74b, go_sem, ↓reduceIte, dropK_eq, d1]
    exact hK _ _
  · have d1 := decide_eq_false h
    rw [if_neg h, decide_eq_false hb] at hK
    simp (disch := first | omega | simp only [*, go_sem, ↓reduceIte, dropK_eq]) only [x74b, go_sem, ↓reduceIte, dropK_eq, d1]
    exact hK _ _
noncomputable def F73 : List AVal → Option AVal := pureF C9 2 73
theorem sound73 : Sound Tryz.prog 73 F73 := sound_self ok9 2 73
theorem F73_eq {t : T.Tok} : F73 [.slc 4 (fdL.map FK), .fn (.func 74) [] [.pvo [.int .i64 t.k, sv t.s, .int .i64 t.n, .int .i64 t.at'] 0]] = some (.int .i64 (findW wdL (wordT t))) := by
  have ha : Rg 4 FK (.slc 4 (fdL.map FK)) fdL := Rg.slc _
  unfold F73
  refine pureF_of (x := x73) rfl rfl ?_
  rw [x73_eq.1, x73_eq.2.1]
  generalize AVal.slc 4 (fdL.map FK) = a at *
  simp (disch := first | omega | simp only [go_sem, ↓reduceIte, dropK_eq]) only [x73b, go_sem, ↓reduceIte, dropK_eq, ha.len]
  refine Ev_range (ti := 8) (len := fdL.length) (J := fun i tm hp nc => ∀ j (hj : j < wdL.length), j < i → wdL[j] ≠ wordT t) (by decide) (by simp only [go_sem, ↓reduceIte, dropK_eq]) (by intro j _ hj; omega) ?_
  rintro i tm hp nc hi hc k8 hj
  have k0 := hc 0 rfl; have k1 := hc 1 rfl; have k7 := hc 7 rfl; simp only [go_sem, ↓reduceIte, dropK_eq] at k0 k1 k7
  rcases Nat.lt_or_ge i fdL.length with hlt | hge
  · have d1 : decide ((i : Int) < (fdL.length : Int)) = true := decide_eq_true (by omega)
    have ia := ha.ia hlt
    have hlt2 : i < wdL.length := by unfold wdL; rw [List.length_map]; exact hlt
    have hw : wdL[i] = fdL[i].w := wd_get hlt2 hlt
    have h12 : fdL.length = 12 := rfl
    have hst := findW_step (s := wordT t) hlt2 (fun j hj' => hj j (by omega) hj')
    have h63 : fdL[i].w ≠ [63] := fun h => wd_63 (h ▸ hw ▸ List.getElem_mem hlt2)
    simp (disch := first | omega | simp only [go_sem, ↓reduceIte, dropK_eq]) only [x73l2, go_sem, ↓reduceIte, dropK_eq, k0, k1, k7, k8, d1, ia, call_inl (C := C9) (g := 74) rfl, ft_inl (C := C9) (g := 74) rfl]
    refine clos74 (b := fdL[i]) h63 fun hp' nc' => ?_
    rw [hw] at hst
    by_cases e : fdL[i].w = wordT t
    · rw [decide_eq_true e]
      rw [hst.1 e]
      simp (disch := first | omega | simp only [go_sem, ↓reduceIte, dropK_eq]) only [go_sem, ↓reduceIte, dropK_eq, k0, k1, k7, k8]
      exact Ends_plain rfl rfl
    · rw [decide_eq_false e]
      simp (disch := first | omega | simp only [go_sem, ↓reduceIte, dropK_eq]) only [go_sem, ↓reduceIte, dropK_eq, k0, k1, k7, k8]
      refine ⟨hlt, by simp, fun j hj1 hj2 => ?_⟩
      by_cases e2 : j = i
      · subst e2; rw [hw]; exact e
      · exact hj j hj1 (by omega)
  · obtain rfl : i = fdL.length := by omega
    have d1 : decide ((fdL.length : Int) < (fdL.length : Int)) = false := decide_eq_false (by omega)
    rw [findW_none fun j hj1 => hj j hj1 hj1]
    simp (disch := first | omega | simp only [go_sem, ↓reduceIte, dropK_eq]) only [x73l2, go_sem, ↓reduceIte, dropK_eq, k0, k1, k7, k8, d1]
    exact Ends_plain rfl rfl
noncomputable def C10 : Cfg := C9.add 73 F73
theorem ok10 : CfgOk Tryz.prog C10 := ok9.add sound73
theorem clos41 {d : Nat} {c : Ch} {t : T.Tok} {hp : Heap} {nc : Nat} {K : AVal × Heap × Nat → Prop} (hK : ∀ hp' nc', K (.bool (decide (c.n = t.s)), hp', nc')) : Bd (inlD C10 (d + 1) 41 [CK c, .pvo [.int .i64 t.k, sv t.s, .int .i64 t.n, .int .i64 t.at'] 0] hp nc) K := by
  refine inl_of (x := x41) rfl rfl ?_
  rw [x41_eq.1, x41_eq.2.1]
  simp (disch := first | omega | simp only [*, go_sem, ↓reduceIte, dropK_eq]) only [x41b, go_sem, ↓reduceIte, dropK_eq]
  exact hK _ _
noncomputable def F72 : List AVal → Option AVal := pureF C10 2 72
theorem sound72 : Sound Tryz.prog 72 F72 := sound_self ok10 2 72
theorem F72_eq {b : AVal} {out : List Ch} {t : T.Tok} (hb : Rg 14 CK b out) (ho : out.length ≤ 100000) : F72 [b, .fn (.func 41) [] [.pvo [.int .i64 t.k, sv t.s, .int .i64 t.n, .int .i64 t.at'] 0]] = some (.int .i64 (findW (out.map (·.n)) t.s)) := by
  have hpl := hb.plain
  unfold F72
  refine pureF_of (x := x72) rfl rfl ?_
  rw [x72_eq.1, x72_eq.2.1]
  simp (disch := first | omega | simp only [*, go_sem, ↓reduceIte, dropK_eq]) only [x72b, go_sem, ↓reduceIte, dropK_eq, hb.len]
  refine Ev_range (ti := 8) (len := out.length) (J := fun i tm hp nc => ∀ j (hj : j < (out.map (·.n)).length), j < i → (out.map (·.n))[j] ≠ t.s) (by omega) (by simp only [go_sem, ↓reduceIte, dropK_eq]) (by intro j _ hj; omega) ?_
  rintro i tm hp nc hi hc k8 hj
  have k0 := hc 0 rfl; have k1 := hc 1 rfl; have k7 := hc 7 rfl; simp only [go_sem, ↓reduceIte, dropK_eq] at k0 k1 k7
  rcases Nat.lt_or_ge i out.length with hlt | hge
  · have d1 : decide ((i : Int) < (out.length : Int)) = true := decide_eq_true (by omega)
    have ia := hb.ia hlt
    have hlt2 : i < (out.map (·.n)).length := by simpa using hlt
    have hw : (out.map (·.n))[i] = out[i].n := by simp
    have hst := findW_step (s := t.s) hlt2 (fun j hj' => hj j (by omega) hj')
    simp (disch := first | omega | simp only [*, go_sem, ↓reduceIte, dropK_eq]) only [x72l2, go_sem, ↓reduceIte, dropK_eq, k0, k1, k7, k8, d1, ia, call_inl (C := C10) (g := 41) rfl, ft_inl (C := C10) (g := 41) rfl]
    refine clos41 (c := out[i]) fun hp' nc' => ?_
    rw [hw] at hst
    by_cases e : out[i].n = t.s
    · rw [decide_eq_true e]
      rw [hst.1 e]
      simp (disch := first | omega | simp only [go_sem, ↓reduceIte, dropK_eq]) only [go_sem, ↓reduceIte, dropK_eq, k0, k1, k7, k8]
      exact Ends_plain rfl rfl
    · rw [decide_eq_false e]
      simp (disch := first | omega | simp only [go_sem, ↓reduceIte, dropK_eq]) only [go_sem, ↓reduceIte, dropK_eq, k0, k1, k7, k8]
      refine ⟨hlt, by simp, fun j hj1 hj2 => ?_⟩
      by_cases e2 : j = i
      · subst e2; rw [hw]; exact e
      · exact hj j hj1 (by omega)
  · obtain rfl : i = out.length := by omega
    have d1 : decide ((out.length : Int) < (out.length : Int)) = false := decide_eq_false (by omega)
    rw [findW_none fun j hj1 => hj j hj1 (by simpa using hj1)]
    simp (disch := first | omega | simp only [*, go_sem, ↓reduceIte, dropK_eq]) only [x72l2, go_sem, ↓reduceIte, dropK_eq, k0, k1, k7, k8, d1]
    exact Ends_plain rfl rfl
noncomputable def C11 : Cfg := C10.add 72 F72
theorem ok11 : CfgOk Tryz.prog C11 := ok10.add sound72
theorem findW_mem {l : List (List UInt8)} {s : List UInt8} : decide (0 ≤ findW l s) = decide (s ∈ l) := by
  apply decide_eq_decide.2
  unfold findW
  cases h : l.findIdx? (· == s) with
  | none =>
    rw [List.findIdx?_eq_none_iff] at h
    constructor
    · intro e; exact absurd e (by decide)
    · intro e; have := h s e; simp at this
  | some i =>
    obtain ⟨hi, h1, _⟩ := List.findIdx?_eq_some_iff_getElem.1 h
    have h1 : l[i] = s := by simpa using h1
    constructor
    · intro _; exact h1 ▸ List.getElem_mem hi
    · intro _; simp
noncomputable def F40 : List AVal → Option AVal := pureF C11 1 40
theorem sound40 : Sound Tryz.prog 40 F40 := sound_self ok11 1 40
theorem F40_eq {b : AVal} {out : List Ch} {t : T.Tok} (hb : Rg 14 CK b out) (ho : out.length ≤ 100000) : F40 [b, .fn (.func 41) [] [.pvo [.int .i64 t.k, sv t.s, .int .i64 t.n, .int .i64 t.at'] 0]] = some (.bool (decide (t.s ∈ out.map (·.n)))) := by
  have hpl := hb.plain
  have e72 := F72_eq (t := t) hb ho
  rw [← findW_mem]
  unfold F40
  refine pureF_of (x := x40) rfl rfl ?_
  rw [x40_eq.1, x40_eq.2.1]
  simp (disch := first | omega | simp only [*, go_sem, ↓reduceIte, dropK_eq]) only [x40b, go_sem, ↓reduceIte, dropK_eq, callX_names (C := C11) (g := 72) rfl, ftC_names (C := C11) (g := 72) rfl, e72]
  exact Ends_plain rfl rfl
end Go.Proofs.YtppehejnnjlkfaaGreatDoor
