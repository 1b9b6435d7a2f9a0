/-
  The program's reader: a token of a kind is taken; the places of a channel's fields; what a channel lacks.
-/
import Derived.Test.YtppehejnnjlkfaaGreatDoorYAs
set_option linter.unusedVariables false
set_option linter.unusedSimpArgs false
namespace Go.Proofs.YtppehejnnjlkfaaGreatDoor
open Go Go.Xec
attribute [local go_sem] tm0 ne_eq not_false_eq_true List.length_append List.length_replicate List.replicate_succ List.replicate_zero Int.cast_ofNat_Int not_true_eq_false decide_true decide_false ite_self beq_self_eq_true Bool.true_beq Bool.false_beq Bool.not_true Bool.not_false
attribute [local go_sem_proc] Nat.reduceAdd Nat.reduceMul Nat.reduceSub Nat.reduceLeDiff Nat.reduceLT Nat.reduceEqDiff Int.reduceLT Int.reduceLE Int.reduceAdd Int.reduceSub Int.reduceMul Int.reduceToNat Int.reducePow Int.reduceNe Int.reduceMod Int.reduceDiv Int.reduceEq Nat.reducePow Int.reduceNeg
/-! ### O -/

set_option maxRecDepth 10000
noncomputable def C12 : Cfg := (C11.add 40 F40).addA 19 (50, 52, 2)
theorem ok12 : CfgOk Tryz.prog C12 := (ok11.add sound40).addA As.soundA19
abbrev κR (c : Nat) : Key := (8004004, c)
section
variable {C : Cfg} {d c0 : Nat} {hp : Heap} {nc : Nat} {a : AVal} {l : List T.Tok} {k e : Nat} {K : AVal × Heap × Nat → Prop}
theorem take42 {kd : Int} (hkb : k ≤ 120000) (ha : Rg 4 T.TK a l) (hk : hp (κR c0) = some (.var (RdC a k e)))
    (hy : (gt l k).k = kd → ∀ hp' nc', hp' (κR c0) = some (.var (RdC a (k + 1) e)) → (∀ k' : Key, k' ≠ κR c0 → k'.1 / 1000000 ≠ 42 → hp' k' = hp k') → K (.tup [PK l e k, .nili], hp', nc'))
    (hn : ¬ (gt l k).k = kd → ∀ hp' nc', (∀ k' : Key, k'.1 / 1000000 ≠ 42 → hp' k' = hp k') → K (.tup [PK l e k, WV l e k 8], hp', nc')) : Bd (inlD C12 (d + 1) 42 [.ptr (κR c0) 0 0 0 0, .int .i64 kd] hp nc) K := by
  refine inl_of (x := x42) rfl rfl ?_
  rw [x42_eq.1, x42_eq.2.1]
  have hcp := RdC_plain ha 63 k e
  have hcp2 := RdC_plain ha 62 k e
  have e38 := F38_eq (k := k) (e := e) ha
  have e39 := F39_eq (k := k) (e := e) (why := 8) ha
  by_cases h : (gt l k).k = kd
  · have d1 : decide (¬ (gt l k).k = kd) = false := decide_eq_false (fun e => e h)
    simp (disch := first | omega | simp only [*, go_sem, ↓reduceIte, dropK_eq]) only [x42b, go_sem, ↓reduceIte, dropK_eq, hk, callX_names (C := C12) (g := 38) rfl, ftC_names (C := C12) (g := 38) rfl, e38, d1]
    refine hy h _ _ ?_ fun k' h1 h2 => ?_
    · simp only [go_sem, ↓reduceIte, dropK_eq]
      rfl
    · repeat rw [upd_ne _ _ (by first | exact h1 | (rintro rfl; simp at h2))]
  · have d1 : decide (¬ (gt l k).k = kd) = true := decide_eq_true h
    simp (disch := first | omega | simp only [*, go_sem, ↓reduceIte, dropK_eq]) only [x42b, go_sem, ↓reduceIte, dropK_eq, hk, callX_names (C := C12) (g := 38) rfl, ftC_names (C := C12) (g := 38) rfl, callX_names (C := C12) (g := 39) rfl, ftC_names (C := C12) (g := 39) rfl, e38, e39, d1]
    refine hn h _ _ fun k' h2 => ?_
    repeat rw [upd_ne _ _ (by rintro rfl; simp at h2)]
/-- The places of a channel's fields. -/
def ptrL (κ : Key) : List AVal := (List.range 12).map fun j => .ptr κ 0 0 0 (2 + j)
theorem ptrL_get (κ : Key) {f : Nat} (h : f < 12) : (ptrL κ)[f]? = some (.ptr κ 0 0 0 (2 + f)) := by
  simp [ptrL, List.getElem?_map, List.getElem?_range h]
theorem fields24 {κ : Key} (hK : ∀ cr hp' nc', hp' (24001036, cr) = some (.row 0 1 (ptrL κ)) → (∀ k' : Key, k'.1 / 1000000 ≠ 24 → hp' k' = hp k') → K (.sl (24001036, cr) 0 1 0 12, hp', nc')) : Bd (inlD C12 (d + 1) 24 [.ptr κ 0 0 0 0] hp nc) K := by
  refine inl_of (x := x24) rfl rfl ?_
  rw [x24_eq.1, x24_eq.2.1]
  simp (disch := first | omega | simp only [*, go_sem, ↓reduceIte, dropK_eq]) only [x24b, go_sem, ↓reduceIte, dropK_eq]
  refine hK _ _ _ ?_ fun k' h2 => ?_
  · rw [upd_same]
    rfl
  · repeat rw [upd_ne _ _ (by rintro rfl; simp at h2)]
end
/-- Which fields were met, as a map. -/
def MetOk (es : List (AVal × AVal × Nat)) (m : List Nat) : Prop := ∀ f, f < 12 → (f ∈ m → ∃ j n, findA 2 (sv (fd f).w) es 0 = some (some (j, .int .i64 1, n))) ∧ (f ∉ m → findA 2 (sv (fd f).w) es 0 = some none)
def mv (m : List Nat) (f : Nat) : Int := if f ∈ m then 1 else 0
theorem bs_beq (a b : List UInt8) : (bs a == bs b) = decide (a = b) := by
  rw [Bool.eq_iff_iff, decide_eq_true_eq]
  show ((bs a).data == (bs b).data) = true ↔ _
  rw [beq_iff_eq]
  constructor
  · intro e
    have := congrArg Array.toList e
    rwa [bs_data, bs_data] at this
  · rintro rfl; rfl
theorem keq_sv (a b : List UInt8) : keq 2 (sv a) (sv b) = some (decide (a = b)) := by
  simp only [keq, bs_beq]
theorem findA_snoc (w v : List UInt8) (x : AVal) (n : Nat) : ∀ (es : List (AVal × AVal × Nat)) (i : Nat),
    findA 2 (sv w) (es ++ [(sv v, x, n)]) i = match findA 2 (sv w) es i with | some none => some (if w = v then some (i + es.length, x, n) else none) | r => r
  | [], i => by
    simp only [List.nil_append, findA, keq_sv, keyOk, if_true, List.length_nil, Nat.add_zero]
    by_cases h : w = v
    · rw [decide_eq_true h, if_pos h]
    · rw [decide_eq_false h, if_neg h]
  | e :: es, i => by
    simp only [List.cons_append, findA]
    cases hk : keq 2 (sv w) e.1 with
    | none => rfl
    | some b =>
      cases b with
      | true => rfl
      | false =>
        simp only
        rw [findA_snoc w v x n es (i + 1)]
        simp only [List.length_cons]
        rw [show i + 1 + es.length = i + (es.length + 1) by omega]
theorem fd_inj : ∀ f < 12, ∀ g < 12, (fd f).w = (fd g).w → f = g := by decide
theorem met_add {es : List (AVal × AVal × Nat)} {m : List Nat} {f n : Nat} (h : MetOk es m) (hf : f < 12) (hm : f ∉ m) : MetOk (es ++ [(sv (fd f).w, .int .i64 1, n)]) (f :: m) := by
  intro g hg
  rw [findA_snoc]
  constructor
  · intro hgm
    by_cases e : g = f
    · subst e
      rw [(h g hg).2 hm]
      exact ⟨_, _, by simp only [if_true]; rfl⟩
    · obtain ⟨j, n', h1⟩ := (h g hg).1 (by simpa [e] using hgm)
      exact ⟨j, n', by rw [h1]⟩
  · intro hgm
    simp only [List.mem_cons, not_or] at hgm
    rw [(h g hg).2 hgm.2]
    simp only
    rw [if_neg (fun e => hgm.1 (fd_inj g hg f hf e))]
theorem met_nil : MetOk [] [] := fun f hf => ⟨fun h => by simp at h, fun _ => rfl⟩
theorem lk_met {es : List (AVal × AVal × Nat)} {m : List Nat} {f n : Nat} {κ : Key} (h : MetOk es m) (hf : f < 12) (hp : Heap) (hk : hp κ = some (.obj (.map es n))) :
    lkpA 2 false (.int .i64 0) (.mp κ) (sv (fd f).w) hp = some (.int .i64 (mv m f), hp) := by
  rw [lkpA_mp, hk]
  simp only [Option.bind_some, mapB_map]
  unfold mv
  by_cases hm : f ∈ m
  · obtain ⟨j, n', h1⟩ := (h f hf).1 hm
    rw [h1, if_pos hm]
    rfl
  · rw [(h f hf).2 hm, if_neg hm]
    rfl
theorem nd_rng : ∀ f < 12, 0 ≤ (fd f).nd ∧ (fd f).nd ≤ 255 := by decide
theorem nd_high : ∀ t < 8, needB (fd 10) (t : Nat) = false ∧ needB (fd 11) (t : Nat) = false := by decide
theorem E26 {t k : Nat} {ct : Int} (ht : t < 8) (hk : k < 12) (hct : ct = (t : Nat)) : F26 [FK (fd k), .int .i64 ct] = some (.bool (needB (fd k) (t : Nat))) := by
  subst hct
  exact F26_eq (by omega) (nd_rng k hk)
/-! ### P -/

set_option maxRecDepth 10000
abbrev κM (c : Nat) : Key := (18024000, c)
theorem mv_in {m : List Nat} {f : Nat} (h : f ∈ m) : mv m f = 1 := by unfold mv; rw [if_pos h]
theorem mv_out {m : List Nat} {f : Nat} (h : ¬ f ∈ m) : mv m f = 0 := by unfold mv; rw [if_neg h]
theorem lk_low {es : List (AVal × AVal × Nat)} {m : List Nat} {n : Nat} {κ : Key} (h : MetOk es m) (hp : Heap) (hk : hp κ = some (.obj (.map es n))) : lkpA 2 false (.int .i64 0) (.mp κ) (.str (bs [108, 111, 119])) hp = some (.int .i64 (mv m 1), hp) := lk_met (f := 1) h (by decide) hp hk
theorem lk_lower {es : List (AVal × AVal × Nat)} {m : List Nat} {n : Nat} {κ : Key} (h : MetOk es m) (hp : Heap) (hk : hp κ = some (.obj (.map es n))) : lkpA 2 false (.int .i64 0) (.mp κ) (.str (bs [108, 111, 119, 101, 114])) hp = some (.int .i64 (mv m 10), hp) := lk_met (f := 10) h (by decide) hp hk
theorem lk_upper {es : List (AVal × AVal × Nat)} {m : List Nat} {n : Nat} {κ : Key} (h : MetOk es m) (hp : Heap) (hk : hp κ = some (.obj (.map es n))) : lkpA 2 false (.int .i64 0) (.mp κ) (.str (bs [117, 112, 112, 101, 114])) hp = some (.int .i64 (mv m 11), hp) := lk_met (f := 11) h (by decide) hp hk
set_option maxHeartbeats 1000000 in
theorem whole45 {d c2 : Nat} {hp : Heap} {nc : Nat} {K : AVal × Heap × Nat → Prop} {c : Ch} {t : Nat} {m : List Nat} {es : List (AVal × AVal × Nat)} {n : Nat} (ht : t < 8) (hct : c.t = (t : Nat)) (hmet : MetOk es m) (hk : hp (κM c2) = some (.obj (.map es n)))
    (hlow : 1 ∈ m → needB (fd 1) (t : Nat) = true)
    (hK : ∀ hp' nc', (∀ k' : Key, k'.1 / 1000000 ≠ 45 → hp' k' = hp k') → K (.int .i64 (wholeS c t m), hp', nc')) : Bd (inlD C12 (d + 1) 45 [CK c, .mp (κM c2)] hp nc) K := by
  refine inl_of (x := x45) rfl rfl ?_
  rw [x45_eq.1, x45_eq.2.1]
  have e25 := F25_eq
  have ha : Rg 4 FK (.slc 4 (fdL.map FK)) fdL := Rg.slc _
  generalize AVal.slc 4 (fdL.map FK) = a at *
  simp (disch := first | omega | simp only [*, go_sem, ↓reduceIte, dropK_eq]) only [x45b, go_sem, ↓reduceIte, dropK_eq, callX_known (C := C12) (g := 25) rfl, ft_call (C := C12) (g := 25) rfl, e25, ha.len]
  refine Ev_range (ti := 9) (len := fdL.length) (J := fun i tm hp' nc' => hp' (45000000, nc) = some (.var (cellsOf (CK c))) ∧ (∀ k' : Key, k'.1 / 1000000 ≠ 45 → hp' k' = hp k') ∧ ∀ j < i, needB (fd j) (t : Nat) = true → j ∈ m) (by decide) (by simp only [go_sem, ↓reduceIte, dropK_eq]) ?_ ?_
  · simp only [go_sem, ↓reduceIte, dropK_eq]
    refine ⟨fun k' h2 => ?_, fun j hj => by omega⟩
    rw [if_neg (by rintro rfl; simp at h2)]
  · rintro i tm hp' nc' hi hc k9 ⟨hv, hfr, hj⟩
    have k1 := hc 1 rfl; have k2 := hc 2 rfl; have k7 := hc 7 rfl; have k8 := hc 8 rfl; simp only [go_sem, ↓reduceIte, dropK_eq] at k1 k2 k7 k8
    have h12 : fdL.length = 12 := rfl
    rcases Nat.lt_or_ge i fdL.length with hlt | hge
    · have d1 : decide ((i : Int) < (fdL.length : Int)) = true := decide_eq_true (by omega)
      have ia := ha.ia hlt
      rw [fd_eq] at ia
      have e26 := E26 ht hlt hct
      have hm1 : ∀ h2 : Heap, h2 (κM c2) = hp' (κM c2) → lkpA 2 false (.int .i64 0) (.mp (κM c2)) (sv (fd i).w) h2 = some (.int .i64 (mv m i), h2) := fun h2 e => lk_met hmet hlt h2 (e.trans ((hfr _ (by simp)).trans hk))
      cases hnd : needB (fd i) (t : Nat) with
      | false =>
        rw [hnd] at e26
        simp (disch := first | omega | simp only [*, go_sem, ↓reduceIte, dropK_eq]) only [x45l2, go_sem, ↓reduceIte, dropK_eq, k1, k2, k7, k8, k9, d1, ia, hv, callX_known (C := C12) (g := 26) rfl, ft_call (C := C12) (g := 26) rfl, e26]
        refine ⟨hlt, by simp, fun k' h2 => ?_, fun j hj1 hj2 => ?_⟩
        · repeat rw [if_neg (by rintro rfl; simp at h2)]
          exact hfr k' h2
        · by_cases e : j = i
          · subst e; rw [hnd] at hj2; cases hj2
          · exact hj j (by omega) hj2
      | true =>
        rw [hnd] at e26
        by_cases hm2 : i ∈ m
        · rw [mv_in hm2] at hm1
          simp (disch := first | omega | simp only [*, go_sem, ↓reduceIte, dropK_eq]) only [x45l2, go_sem, ↓reduceIte, dropK_eq, hm1, k1, k2, k7, k8, k9, d1, ia, hv, callX_known (C := C12) (g := 26) rfl, ft_call (C := C12) (g := 26) rfl, e26]
          refine ⟨hlt, by simp, fun k' h2 => ?_, fun j hj1 hj2 => ?_⟩
          · repeat rw [if_neg (by rintro rfl; simp at h2)]
            exact hfr k' h2
          · by_cases e : j = i
            · subst e; exact hm2
            · exact hj j (by omega) hj2
        · rw [mv_out hm2] at hm1
          have hi10 : i < 10 := by
            rcases Nat.lt_or_ge i 10 with h | h
            · exact h
            · have h11 := nd_high t ht
              have : i = 10 ∨ i = 11 := by omega
              rcases this with rfl | rfl
              · rw [h11.1] at hnd; cases hnd
              · rw [h11.2] at hnd; cases hnd
          have hw := whole_lack (c := c) (lack_step.2 ⟨i, hi10, hnd, hm2⟩)
          simp (disch := first | omega | simp only [*, go_sem, ↓reduceIte, dropK_eq]) only [x45l2, go_sem, ↓reduceIte, dropK_eq, hm1, k1, k2, k7, k8, k9, d1, ia, hv, callX_known (C := C12) (g := 26) rfl, ft_call (C := C12) (g := 26) rfl, e26]
          rw [← hw]
          refine hK _ _ fun k' h2 => ?_
          repeat rw [upd_ne _ _ (by rintro rfl; simp at h2)]
          exact hfr k' h2
    · obtain rfl : i = fdL.length := by omega
      have d1 : decide ((fdL.length : Int) < (fdL.length : Int)) = false := decide_eq_false (by omega)
      have hno : ¬ lackB t m = true := fun h => by
        obtain ⟨j, h1, h2, h3⟩ := lack_step.1 h
        exact h3 (hj j (by omega) h2)
      have hkm : hp' (κM c2) = some (.obj (.map es n)) := (hfr _ (by simp)).trans hk
      have l1 := fun h2 => lk_low (m := m) (n := n) (κ := κM c2) hmet h2
      have l10 := fun h2 => lk_lower (m := m) (n := n) (κ := κM c2) hmet h2
      have l11 := fun h2 => lk_upper (m := m) (n := n) (κ := κM c2) hmet h2
      have hn1 : needB (fd 1) (t : Nat) = true → 1 ∈ m := hj 1 (by decide)
      by_cases h10 : 10 ∈ m
      · rw [mv_in h10] at l10
        by_cases h11 : 11 ∈ m
        · rw [mv_in h11] at l11
          have hiff : (10 ∈ m ↔ 11 ∈ m) := ⟨fun _ => h11, fun _ => h10⟩
          by_cases h1 : 1 ∈ m
          · rw [mv_in h1] at l1
            by_cases hA : c.f2 ≤ c.f1
            ·
              have hw : wholeS c t m = 3 := by unfold wholeS; rw [if_neg hno, if_neg (fun h => h hiff), if_pos (Or.inl ⟨hlow h1, hA⟩)]
              simp (disch := first | omega | simp only [*, go_sem, ↓reduceIte, dropK_eq]) only [x45l2, go_sem, ↓reduceIte, dropK_eq, l1, l10, l11, k1, k2, k7, k8, k9, d1, hv, hkm, decide_eq_true hA]
              rw [← hw]
              exact hK _ _ hfr
            · by_cases hB : c.f11 ≤ c.f10
              ·
                have hw : wholeS c t m = 3 := by unfold wholeS; rw [if_neg hno, if_neg (fun h => h hiff), if_pos (Or.inr ⟨h10, hB⟩)]
                simp (disch := first | omega | simp only [*, go_sem, ↓reduceIte, dropK_eq]) only [x45l2, go_sem, ↓reduceIte, dropK_eq, l1, l10, l11, k1, k2, k7, k8, k9, d1, hv, hkm, decide_eq_false hA, decide_eq_true hB]
                rw [← hw]
                exact hK _ _ hfr
              ·
                have hw : wholeS c t m = 0 := by unfold wholeS; rw [if_neg hno, if_neg (fun h => h hiff), if_neg (fun h => h.elim (fun h => hA h.2) (fun h => hB h.2))]
                simp (disch := first | omega | simp only [*, go_sem, ↓reduceIte, dropK_eq]) only [x45l2, go_sem, ↓reduceIte, dropK_eq, l1, l10, l11, k1, k2, k7, k8, k9, d1, hv, hkm, decide_eq_false hA, decide_eq_false hB]
                rw [← hw]
                exact hK _ _ hfr
          · rw [mv_out h1] at l1
            by_cases hB : c.f11 ≤ c.f10
            ·
              have hw : wholeS c t m = 3 := by unfold wholeS; rw [if_neg hno, if_neg (fun h => h hiff), if_pos (Or.inr ⟨h10, hB⟩)]
              simp (disch := first | omega | simp only [*, go_sem, ↓reduceIte, dropK_eq]) only [x45l2, go_sem, ↓reduceIte, dropK_eq, l1, l10, l11, k1, k2, k7, k8, k9, d1, hv, hkm, decide_eq_true hB]
              rw [← hw]
              exact hK _ _ hfr
            ·
              have hw : wholeS c t m = 0 := by unfold wholeS; rw [if_neg hno, if_neg (fun h => h hiff), if_neg (fun h => h.elim (fun h => h1 (hn1 h.1)) (fun h => hB h.2))]
              simp (disch := first | omega | simp only [*, go_sem, ↓reduceIte, dropK_eq]) only [x45l2, go_sem, ↓reduceIte, dropK_eq, l1, l10, l11, k1, k2, k7, k8, k9, d1, hv, hkm, decide_eq_false hB]
              rw [← hw]
              exact hK _ _ hfr
        · rw [mv_out h11] at l11
          have hw : wholeS c t m = 10 := by unfold wholeS; rw [if_neg hno, if_pos (fun h => h11 (h.1 h10))]
          simp (disch := first | omega | simp only [*, go_sem, ↓reduceIte, dropK_eq]) only [x45l2, go_sem, ↓reduceIte, dropK_eq, l10, l11, k1, k2, k7, k8, k9, d1, hv, hkm]
          rw [← hw]
          exact hK _ _ hfr
      · rw [mv_out h10] at l10
        by_cases h11 : 11 ∈ m
        · rw [mv_in h11] at l11
          have hw : wholeS c t m = 10 := by unfold wholeS; rw [if_neg hno, if_pos (fun h => h10 (h.2 h11))]
          simp (disch := first | omega | simp only [*, go_sem, ↓reduceIte, dropK_eq]) only [x45l2, go_sem, ↓reduceIte, dropK_eq, l10, l11, k1, k2, k7, k8, k9, d1, hv, hkm]
          rw [← hw]
          exact hK _ _ hfr
        · rw [mv_out h11] at l11
          have hiff : (10 ∈ m ↔ 11 ∈ m) := ⟨fun h => absurd h h10, fun h => absurd h h11⟩
          by_cases h1 : 1 ∈ m
          · rw [mv_in h1] at l1
            by_cases hA : c.f2 ≤ c.f1
            ·
              have hw : wholeS c t m = 3 := by unfold wholeS; rw [if_neg hno, if_neg (fun h => h hiff), if_pos (Or.inl ⟨hlow h1, hA⟩)]
              simp (disch := first | omega | simp only [*, go_sem, ↓reduceIte, dropK_eq]) only [x45l2, go_sem, ↓reduceIte, dropK_eq, l1, l10, l11, k1, k2, k7, k8, k9, d1, hv, hkm, decide_eq_true hA]
              rw [← hw]
              exact hK _ _ hfr
            ·
              have hw : wholeS c t m = 0 := by unfold wholeS; rw [if_neg hno, if_neg (fun h => h hiff), if_neg (fun h => h.elim (fun h => hA h.2) (fun h => h10 h.1))]
              simp (disch := first | omega | simp only [*, go_sem, ↓reduceIte, dropK_eq]) only [x45l2, go_sem, ↓reduceIte, dropK_eq, l1, l10, l11, k1, k2, k7, k8, k9, d1, hv, hkm, decide_eq_false hA]
              rw [← hw]
              exact hK _ _ hfr
          · rw [mv_out h1] at l1
            have hw : wholeS c t m = 0 := by unfold wholeS; rw [if_neg hno, if_neg (fun h => h hiff), if_neg (fun h => h.elim (fun h => h1 (hn1 h.1)) (fun h => h10 h.1))]
            simp (disch := first | omega | simp only [*, go_sem, ↓reduceIte, dropK_eq]) only [x45l2, go_sem, ↓reduceIte, dropK_eq, l1, l10, l11, k1, k2, k7, k8, k9, d1, hv, hkm]
            rw [← hw]
            exact hK _ _ hfr
end Go.Proofs.YtppehejnnjlkfaaGreatDoor
