/-
  The program's reader: one field.
-/
import Derived.Test.YtppehejnnjlkfaaGreatDoorYO
set_option linter.unusedVariables false
set_option linter.unusedSimpArgs false
namespace Go.Proofs.YtppehejnnjlkfaaGreatDoor
open Go Go.Xec
attribute [local go_sem] tm0 ne_eq not_false_eq_true List.length_append List.length_replicate List.replicate_succ List.replicate_zero Int.cast_ofNat_Int not_true_eq_false decide_true decide_false ite_self beq_self_eq_true Bool.true_beq Bool.false_beq Bool.not_true Bool.not_false
attribute [local go_sem_proc] Nat.reduceAdd Nat.reduceMul Nat.reduceSub Nat.reduceLeDiff Nat.reduceLT Nat.reduceEqDiff Int.reduceLT Int.reduceLE Int.reduceAdd Int.reduceSub Int.reduceMul Int.reduceToNat Int.reducePow Int.reduceNe Int.reduceMod Int.reduceDiv Int.reduceEq Nat.reducePow Int.reduceNeg
/-! ### U -/

set_option maxRecDepth 10000
abbrev κC (c : Nat) : Key := (18001000, c)
theorem mayB_eq {t f : Nat} (hf : f < 12) : mayB t f = (needB (fd f) (t : Nat) || (decide (t ≤ 1) && decide (10 ≤ f))) := by
  have h : f < fdL.length := hf
  unfold mayB
  rw [dif_pos h, fd_eq]
theorem E59 {t : Nat} {ct : Int} (hct : ct = (t : Nat)) : F59 [.int .i64 ct] = some (.bool (decide (t ≤ 1))) := by
  subst hct
  rw [F59_eq]
  congr 2
  rw [decide_eq_decide]
  omega
theorem E60 {t k : Nat} {ct v : Int} (hct : ct = (t : Nat)) : F60 [FK (fd k), .int .i64 ct, .int .i64 v] = some (.bool (inF (fd k) (t : Nat) v)) := by
  subst hct
  exact F60_eq
theorem st_put {κ : Key} {c : Ch} {f : Nat} {v : Int} (hf : f < 12) (hp : Heap) (hk : hp κ = some (.var (cellsOf (CK c)))) : stA 1 (.ptr κ 0 0 0 (2 + f)) (.int .i64 v) hp = some (upd hp κ (some (.var (cellsOf (CK (c.put f v)))))) := by
  rw [stA_var (y := .int .i64 v) (n := 1) (off := 2 + f) (es := 0) hk rfl rfl (by show 2 + f + 1 ≤ 14; omega)]
  congr 4
  match f, hf with
  | 0, _ => rfl
  | 1, _ => rfl
  | 2, _ => rfl
  | 3, _ => rfl
  | 4, _ => rfl
  | 5, _ => rfl
  | 6, _ => rfl
  | 7, _ => rfl
  | 8, _ => rfl
  | 9, _ => rfl
  | 10, _ => rfl
  | 11, _ => rfl
  | f + 12, h => exact absurd h (by omega)
theorem wd_fd {f : Nat} (h : f < 12) : wdL.getD f [] = (fd f).w := by
  have h1 : f < fdL.length := h
  have h2 : f < wdL.length := by unfold wdL; rw [List.length_map]; exact h1
  rw [List.getD_eq_getElem?_getD, List.getElem?_eq_getElem h2]
  exact (wd_get h2 h1).trans (by rw [fd_eq])
abbrev FrF (c0 c1 c2 : Nat) (hp hp' : Heap) : Prop := ∀ k' : Key, k' ≠ κR c0 → k' ≠ κC c1 → k' ≠ κM c2 → k'.1 / 1000000 ∉ [24, 42, 44] → hp' k' = hp k'
set_option maxHeartbeats 4000000 in
theorem field44 {d c0 c1 c2 : Nat} {hp : Heap} {nc : Nat} {K : AVal × Heap × Nat → Prop} {a : AVal} {l : List T.Tok} {k e : Nat} {c : Ch} {t : Nat} {m : List Nat} {es : List (AVal × AVal × Nat)} {n : Nat} (ht : t < 8) (hct : c.t = (t : Nat)) (hkb : k ≤ 110000)
    (ha : Rg 4 T.TK a l) (hk : hp (κR c0) = some (.var (RdC a k e))) (hv : hp (κC c1) = some (.var (cellsOf (CK c)))) (hmap : hp (κM c2) = some (.obj (.map es n))) (hmet : MetOk es m)
    (hy : ∀ f, fieldS l t m k = .ok f → ∀ hp' nc' es' n', hp' (κR c0) = some (.var (RdC a (k + 3) e)) → hp' (κC c1) = some (.var (cellsOf (CK (c.put f (gt l (k + 1)).n)))) → hp' (κM c2) = some (.obj (.map es' n')) → MetOk es' (f :: m) → FrF c0 c1 c2 hp hp' → K (.nili, hp', nc'))
    (hn : ∀ i e', fieldS l t m k = .error (i, e') → ∀ hp' nc' c', hp' (κC c1) = some (.var (cellsOf (CK c'))) → FrF c0 c1 c2 hp hp' → K (WV l e i e', hp', nc')) :
    Bd (inlD C12 (d + 2) 44 [.ptr (κR c0) 0 0 0 0, .ptr (κC c1) 0 0 0 0, .mp (κM c2)] hp nc) K := by
  refine inl_of (x := x44) rfl rfl ?_
  rw [x44_eq.1, x44_eq.2.1]
  have e25 := F25_eq
  have e73 : F73 [.slc 4 (fdL.map FK), .fn (.func 74) [] [.pvo [.int .i64 (gt l k).k, sv (gt l k).s, .int .i64 (gt l k).n, .int .i64 (placeS l e k)] 0]] = some (.int .i64 (findW wdL (wordT (gt l k)))) := F73_eq (t := ⟨(gt l k).k, (gt l k).s, (gt l k).n, placeS l e k⟩)
  have hb : Rg 4 FK (.slc 4 (fdL.map FK)) fdL := Rg.slc _
  generalize AVal.slc 4 (fdL.map FK) = b at *
  have hbp := hb.plain
  have hap := ha.plain
  have hcp := RdC_plain ha 63 k e
  have hcp2 := RdC_plain ha 62 k e
  have e38 := F38_eq (k := k) (e := e) ha
  have e39 := F39_eq (k := k) (e := e) (why := 8) ha
  cases hf : wdL.findIdx? (· == wordT (gt l k)) with
  | none =>
    have hw : fieldS l t m k = .error (k, 8) := by unfold fieldS; rw [hf]
    rw [show findW wdL (wordT (gt l k)) = -1 by unfold findW; rw [hf]] at e73
    simp (disch := first | omega | simp only [*, go_sem, ↓reduceIte, dropK_eq]) only [x44b, go_sem, ↓reduceIte, dropK_eq, hk, callX_names (C := C12) (g := 38) rfl, ftC_names (C := C12) (g := 38) rfl, callX_names (C := C12) (g := 25) rfl, ftC_names (C := C12) (g := 25) rfl, callX_names (C := C12) (g := 73) rfl, ftC_names (C := C12) (g := 73) rfl, callX_names (C := C12) (g := 39) rfl, ftC_names (C := C12) (g := 39) rfl, e25, e38, e73, e39]
    refine hn _ _ hw _ _ c ?_ (fun k' h0 h1 h2 h3 => by repeat rw [upd_ne _ _ (by first | exact h0 | exact h1 | exact h2 | (rintro rfl; simp at h3))])
    repeat rw [upd_ne _ _ (by simp)]
    exact hv
  | some f =>
    obtain ⟨hkl, hf12, hk1, hfw⟩ := word_in hf wd_63
    have hf12 : f < 12 := hf12
    have hfs : (fd f).w = (gt l k).s := (wd_fd hf12).symm.trans hfw
    rw [show findW wdL (wordT (gt l k)) = f by unfold findW; rw [hf]] at e73
    have dn : decide ((f : Int) < 0) = false := decide_eq_false (by omega)
    have hf12b : f < fdL.length := hf12
    have ib := hb.ia hf12b
    rw [fd_eq] at ib
    have e26 := E26 ht hf12 hct
    have e59 := E59 hct
    have hmay := mayB_eq (t := t) hf12
    have lkf : ∀ h2 : Heap, h2 (κM c2) = some (.obj (.map es n)) → lkpA 2 false (.int .i64 0) (.mp (κM c2)) (sv (gt l k).s) h2 = some (.int .i64 (mv m f), h2) := fun h2 h => by rw [← hfs]; exact lk_met hmet hf12 h2 h
    cases hnd : needB (fd f) t with
    | true =>
      rw [hnd] at e26 hmay
      have hmay1 : mayB t f = true := hmay
      by_cases hfm : f ∈ m
      · rw [mv_in hfm] at lkf
        have e39 := F39_eq (k := k) (e := e) (why := 9) ha
        have hw : fieldS l t m k = .error (k, 9) := by unfold fieldS; rw [hf]; simp only [hmay1, hfm, if_true, Bool.true_eq_false, if_false]
        simp (disch := first | omega | simp only [*, go_sem, ↓reduceIte, dropK_eq]) only [x44b, go_sem, ↓reduceIte, dropK_eq, hk, hv, hmap, lkf, ib, dn, callX_names (C := C12) (g := 38) rfl, ftC_names (C := C12) (g := 38) rfl, callX_names (C := C12) (g := 25) rfl, ftC_names (C := C12) (g := 25) rfl, callX_names (C := C12) (g := 73) rfl, ftC_names (C := C12) (g := 73) rfl, callX_names (C := C12) (g := 39) rfl, ftC_names (C := C12) (g := 39) rfl, callX_names (C := C12) (g := 26) rfl, ftC_names (C := C12) (g := 26) rfl, callX_names (C := C12) (g := 59) rfl, ftC_names (C := C12) (g := 59) rfl, e25, e38, e73, e39, e26]
        refine hn _ _ hw _ _ c ?_ (fun k' h0 h1 h2 h3 => by repeat rw [upd_ne _ _ (by first | exact h0 | exact h1 | exact h2 | (rintro rfl; simp at h3))])
        repeat rw [upd_ne _ _ (by simp)]
        exact hv
      · rw [mv_out hfm] at lkf
        have hfind : findA 2 (sv (gt l k).s) es 0 = some none := by rw [← hfs]; exact (hmet f hf12).2 hfm
        have e38b : F38 [.pvo [a, .int .i64 ((k : Int) + 1), .int .i64 (e : Nat)] 0] = some (PK l e (k + 1)) := F38_eq (k := k + 1) ha
        by_cases h2 : (gt l (k + 1)).k = 2
        · have d2 := decide_eq_true h2
          have e60 := E60 (k := f) (v := (gt l (k + 1)).n) hct
          cases hin : inF (fd f) t (gt l (k + 1)).n with
          | false =>
            rw [hin] at e60
            have e39b : F39 [.pvo [a, .int .i64 ((k : Int) + 1), .int .i64 (e : Nat)] 0, .int .i64 3] = some (WV l e (k + 1) 3) := F39_eq (k := k + 1) ha
            have hw : fieldS l t m k = .error (k + 1, 3) := by unfold fieldS; rw [hf]; simp only [hmay1, hfm, h2, hin, if_true, Bool.true_eq_false, if_false, not_true_eq_false]
            simp (disch := first | omega | simp only [*, go_sem, ↓reduceIte, dropK_eq]) only [x44b, go_sem, ↓reduceIte, dropK_eq, hk, hv, hmap, lkf, hfind, ib, dn, d2, callX_names (C := C12) (g := 38) rfl, ftC_names (C := C12) (g := 38) rfl, callX_names (C := C12) (g := 25) rfl, ftC_names (C := C12) (g := 25) rfl, callX_names (C := C12) (g := 73) rfl, ftC_names (C := C12) (g := 73) rfl, callX_names (C := C12) (g := 39) rfl, ftC_names (C := C12) (g := 39) rfl, callX_names (C := C12) (g := 26) rfl, ftC_names (C := C12) (g := 26) rfl, callX_names (C := C12) (g := 59) rfl, ftC_names (C := C12) (g := 59) rfl, callX_names (C := C12) (g := 60) rfl, ftC_names (C := C12) (g := 60) rfl, e25, e38, e38b, e73, e39b, e60, e26]
            refine hn _ _ hw _ _ c ?_ (fun k' h0 h1 h2 h3 => by repeat rw [upd_ne _ _ (by first | exact h0 | exact h1 | exact h2 | (rintro rfl; simp at h3))])
            repeat rw [upd_ne _ _ (by simp)]
            exact hv
          | true =>
            rw [hin] at e60
            simp (disch := first | omega | simp only [*, go_sem, ↓reduceIte, dropK_eq]) only [x44b, go_sem, ↓reduceIte, dropK_eq, hk, hv, hmap, lkf, hfind, ib, dn, d2, callX_names (C := C12) (g := 38) rfl, ftC_names (C := C12) (g := 38) rfl, callX_names (C := C12) (g := 25) rfl, ftC_names (C := C12) (g := 25) rfl, callX_names (C := C12) (g := 73) rfl, ftC_names (C := C12) (g := 73) rfl, callX_names (C := C12) (g := 39) rfl, ftC_names (C := C12) (g := 39) rfl, callX_names (C := C12) (g := 26) rfl, ftC_names (C := C12) (g := 26) rfl, callX_names (C := C12) (g := 59) rfl, ftC_names (C := C12) (g := 59) rfl, callX_names (C := C12) (g := 60) rfl, ftC_names (C := C12) (g := 60) rfl, e25, e38, e38b, e73, e60, call_inl (C := C12) (g := 42) rfl, ft_inl (C := C12) (g := 42) rfl, e26]
            refine take42 (k := k + 1) (e := e) (by omega) ha ?_ ?_ ?_
            · simp only [go_sem, ↓reduceIte, dropK_eq]
              rfl
            · intro _ hp1 nc1 g1 gf1
              have v1 : hp1 (κC c1) = some (.var (cellsOf (CK c))) := by
                rw [gf1 _ (by simp) (by simp)]
                repeat rw [upd_ne _ _ (by simp)]
                exact hv
              have m1 : hp1 (κM c2) = some (.obj (.map (es ++ [(sv (gt l k).s, .int .i64 1, n)]) (n + 1))) := by
                rw [gf1 _ (by simp) (by simp)]
                simp only [go_sem, ↓reduceIte, dropK_eq]
              have t1 : hp1 (44010002, nc + 1 + 1 + 1 + 1 + 1 + 1 + 1 + 1) = some (.var [.int .i64 (gt l (k + 1)).k, sv (gt l (k + 1)).s, .int .i64 (gt l (k + 1)).n, .int .i64 (placeS l e (k + 1))]) := by
                rw [gf1 _ (by simp) (by simp)]
                simp only [go_sem, ↓reduceIte, dropK_eq]
              simp (disch := first | omega | simp only [*, go_sem, ↓reduceIte, dropK_eq]) only [go_sem, ↓reduceIte, dropK_eq, T.nilA_nili, call_inl (C := C12) (g := 24) rfl, ft_inl (C := C12) (g := 24) rfl, t1, v1]
              refine fields24 ?_
              rintro cr hp2 nc2 r2 gf2
              have t2 : hp2 (44010002, nc + 1 + 1 + 1 + 1 + 1 + 1 + 1 + 1) = some (.var [.int .i64 (gt l (k + 1)).k, sv (gt l (k + 1)).s, .int .i64 (gt l (k + 1)).n, .int .i64 (placeS l e (k + 1))]) := by
                rw [gf2 _ (by simp)]
                repeat rw [upd_ne _ _ (by simp)]
                exact t1
              have v2 : hp2 (κC c1) = some (.var (cellsOf (CK c))) := by
                rw [gf2 _ (by simp)]
                repeat rw [upd_ne _ _ (by simp)]
                exact v1
              have pg := ptrL_get (κC c1) hf12
              have pg0 : (ptrL (κC c1))[0 + f]? = some (.ptr (κC c1) 0 0 0 (2 + f)) := by rw [Nat.zero_add]; exact pg
              have stp := fun h2 => st_put (κ := κC c1) (c := c) (v := (gt l (k + 1)).n) hf12 h2
              have hok : fieldS l t m k = if ¬ (gt l (k + 2)).k = 5 then .error (k + 2, 8) else .ok f := by unfold fieldS; rw [hf]; simp only [hmay1, hfm, h2, hin, if_true, Bool.true_eq_false, if_false, not_true_eq_false]
              simp (disch := first | omega | simp only [*, go_sem, ↓reduceIte, dropK_eq]) only [go_sem, ↓reduceIte, dropK_eq, T.nilA_nili, t1, t2, v1, v2, r2, pg, pg0, stp, Int.toNat_natCast, call_inl (C := C12) (g := 42) rfl, ft_inl (C := C12) (g := 42) rfl, call_inl (C := C12) (g := 24) rfl, ft_inl (C := C12) (g := 24) rfl]
              refine take42 (k := k + 2) (e := e) (by omega) ha ?_ ?_ ?_
              · repeat rw [upd_ne _ _ (by simp)]
                rw [gf2 _ (by simp)]
                repeat rw [upd_ne _ _ (by simp)]
                exact g1
              · intro h5 hp3 nc3 g3 gf3
                rw [if_neg (fun h => h h5)] at hok
                simp (disch := first | omega | simp only [*, go_sem, ↓reduceIte, dropK_eq]) only [go_sem, ↓reduceIte, dropK_eq, T.nilA_nili]
                refine hy f hok _ _ _ (n + 1) ?_ ?_ ?_ (met_add hmet hf12 hfm (n := n)) ?_
                · repeat rw [upd_ne _ _ (by simp)]
                  exact g3
                · repeat rw [upd_ne _ _ (by simp)]
                  rw [gf3 _ (by simp) (by simp), upd_same]
                  rfl
                · repeat rw [upd_ne _ _ (by simp)]
                  rw [gf3 _ (by simp) (by simp)]
                  repeat rw [upd_ne _ _ (by simp)]
                  rw [gf2 _ (by simp)]
                  repeat rw [upd_ne _ _ (by simp)]
                  rw [hfs]
                  exact m1
                · intro k' h0 h1 h2 h3
                  have h4 : ¬ k'.1 / 1000000 = 24 ∧ ¬ k'.1 / 1000000 = 42 ∧ ¬ k'.1 / 1000000 = 44 := by simpa using h3
                  repeat rw [upd_ne _ _ (by first | exact h0 | exact h1 | exact h2 | (rintro rfl; simp at h3))]
                  rw [gf3 k' h0 h4.2.1]
                  repeat rw [upd_ne _ _ (by first | exact h0 | exact h1 | exact h2 | (rintro rfl; simp at h3))]
                  rw [gf2 k' h4.1]
                  repeat rw [upd_ne _ _ (by first | exact h0 | exact h1 | exact h2 | (rintro rfl; simp at h3))]
                  rw [gf1 k' h0 h4.2.1]
                  repeat rw [upd_ne _ _ (by first | exact h0 | exact h1 | exact h2 | (rintro rfl; simp at h3))]
              · intro h5 hp3 nc3 gf3
                rw [if_pos h5] at hok
                simp (disch := first | omega | simp only [*, go_sem, ↓reduceIte, dropK_eq]) only [go_sem, ↓reduceIte, dropK_eq, T.nilA_nili]
                refine hn _ _ hok _ _ (c.put f (gt l (k + 1)).n) ?_ ?_
                · repeat rw [upd_ne _ _ (by simp)]
                  rw [gf3 _ (by simp), upd_same]
                  rfl
                · intro k' h0 h1 h2 h3
                  have h4 : ¬ k'.1 / 1000000 = 24 ∧ ¬ k'.1 / 1000000 = 42 ∧ ¬ k'.1 / 1000000 = 44 := by simpa using h3
                  repeat rw [upd_ne _ _ (by first | exact h0 | exact h1 | exact h2 | (rintro rfl; simp at h3))]
                  rw [gf3 k' h4.2.1]
                  repeat rw [upd_ne _ _ (by first | exact h0 | exact h1 | exact h2 | (rintro rfl; simp at h3))]
                  rw [gf2 k' h4.1]
                  repeat rw [upd_ne _ _ (by first | exact h0 | exact h1 | exact h2 | (rintro rfl; simp at h3))]
                  rw [gf1 k' h0 h4.2.1]
                  repeat rw [upd_ne _ _ (by first | exact h0 | exact h1 | exact h2 | (rintro rfl; simp at h3))]
            · intro h; exact absurd h2 h
        · have d2 := decide_eq_false h2
          have hw : fieldS l t m k = .error (k + 1, 8) := by unfold fieldS; rw [hf]; simp only [hmay1, hfm, h2, if_true, Bool.true_eq_false, if_false, not_false_eq_true]
          simp (disch := first | omega | simp only [*, go_sem, ↓reduceIte, dropK_eq]) only [x44b, go_sem, ↓reduceIte, dropK_eq, hk, hv, hmap, lkf, hfind, ib, dn, d2, callX_names (C := C12) (g := 38) rfl, ftC_names (C := C12) (g := 38) rfl, callX_names (C := C12) (g := 25) rfl, ftC_names (C := C12) (g := 25) rfl, callX_names (C := C12) (g := 73) rfl, ftC_names (C := C12) (g := 73) rfl, callX_names (C := C12) (g := 39) rfl, ftC_names (C := C12) (g := 39) rfl, callX_names (C := C12) (g := 26) rfl, ftC_names (C := C12) (g := 26) rfl, callX_names (C := C12) (g := 59) rfl, ftC_names (C := C12) (g := 59) rfl, callX_names (C := C12) (g := 60) rfl, ftC_names (C := C12) (g := 60) rfl, e25, e38, e38b, e73, call_inl (C := C12) (g := 42) rfl, ft_inl (C := C12) (g := 42) rfl, e26]
          refine take42 (k := k + 1) (e := e) (by omega) ha ?_ ?_ ?_
          · simp only [go_sem, ↓reduceIte, dropK_eq]
            rfl
          · intro h; exact absurd h h2
          · intro _ hp1 nc1 gf1
            simp (disch := first | omega | simp only [*, go_sem, ↓reduceIte, dropK_eq]) only [go_sem, ↓reduceIte, dropK_eq, T.nilA_ifc1]
            refine hn _ _ hw _ _ c ?_ ?_
            · repeat rw [upd_ne _ _ (by simp)]
              rw [gf1 _ (by simp)]
              repeat rw [upd_ne _ _ (by simp)]
              exact hv
            · intro k' h0 h1 h2 h3
              have h4 : ¬ k'.1 / 1000000 = 24 ∧ ¬ k'.1 / 1000000 = 42 ∧ ¬ k'.1 / 1000000 = 44 := by simpa using h3
              repeat rw [upd_ne _ _ (by first | exact h0 | exact h1 | exact h2 | (rintro rfl; simp at h3))]
              rw [gf1 k' h4.2.1]
              repeat rw [upd_ne _ _ (by first | exact h0 | exact h1 | exact h2 | (rintro rfl; simp at h3))]
    | false =>
      rw [hnd] at e26 hmay
      by_cases h10 : 10 ≤ f
      · have d10 : decide ((f : Int) < 10) = false := decide_eq_false (by omega)
        by_cases ht1 : t ≤ 1
        · rw [decide_eq_true ht1] at e59
          rw [decide_eq_true ht1, decide_eq_true h10] at hmay
          have hmay1 : mayB t f = true := hmay
          by_cases hfm : f ∈ m
          · rw [mv_in hfm] at lkf
            have e39 := F39_eq (k := k) (e := e) (why := 9) ha
            have hw : fieldS l t m k = .error (k, 9) := by unfold fieldS; rw [hf]; simp only [hmay1, hfm, if_true, Bool.true_eq_false, if_false]
            simp (disch := first | omega | simp only [*, go_sem, ↓reduceIte, dropK_eq]) only [x44b, go_sem, ↓reduceIte, dropK_eq, hk, hv, hmap, lkf, ib, dn, callX_names (C := C12) (g := 38) rfl, ftC_names (C := C12) (g := 38) rfl, callX_names (C := C12) (g := 25) rfl, ftC_names (C := C12) (g := 25) rfl, callX_names (C := C12) (g := 73) rfl, ftC_names (C := C12) (g := 73) rfl, callX_names (C := C12) (g := 39) rfl, ftC_names (C := C12) (g := 39) rfl, callX_names (C := C12) (g := 26) rfl, ftC_names (C := C12) (g := 26) rfl, callX_names (C := C12) (g := 59) rfl, ftC_names (C := C12) (g := 59) rfl, e25, e38, e73, e39, e26, d10, e59]
            refine hn _ _ hw _ _ c ?_ (fun k' h0 h1 h2 h3 => by repeat rw [upd_ne _ _ (by first | exact h0 | exact h1 | exact h2 | (rintro rfl; simp at h3))])
            repeat rw [upd_ne _ _ (by simp)]
            exact hv
          · rw [mv_out hfm] at lkf
            have hfind : findA 2 (sv (gt l k).s) es 0 = some none := by rw [← hfs]; exact (hmet f hf12).2 hfm
            have e38b : F38 [.pvo [a, .int .i64 ((k : Int) + 1), .int .i64 (e : Nat)] 0] = some (PK l e (k + 1)) := F38_eq (k := k + 1) ha
            by_cases h2 : (gt l (k + 1)).k = 2
            · have d2 := decide_eq_true h2
              have e60 := E60 (k := f) (v := (gt l (k + 1)).n) hct
              cases hin : inF (fd f) t (gt l (k + 1)).n with
              | false =>
                rw [hin] at e60
                have e39b : F39 [.pvo [a, .int .i64 ((k : Int) + 1), .int .i64 (e : Nat)] 0, .int .i64 3] = some (WV l e (k + 1) 3) := F39_eq (k := k + 1) ha
                have hw : fieldS l t m k = .error (k + 1, 3) := by unfold fieldS; rw [hf]; simp only [hmay1, hfm, h2, hin, if_true, Bool.true_eq_false, if_false, not_true_eq_false]
                simp (disch := first | omega | simp only [*, go_sem, ↓reduceIte, dropK_eq]) only [x44b, go_sem, ↓reduceIte, dropK_eq, hk, hv, hmap, lkf, hfind, ib, dn, d2, callX_names (C := C12) (g := 38) rfl, ftC_names (C := C12) (g := 38) rfl, callX_names (C := C12) (g := 25) rfl, ftC_names (C := C12) (g := 25) rfl, callX_names (C := C12) (g := 73) rfl, ftC_names (C := C12) (g := 73) rfl, callX_names (C := C12) (g := 39) rfl, ftC_names (C := C12) (g := 39) rfl, callX_names (C := C12) (g := 26) rfl, ftC_names (C := C12) (g := 26) rfl, callX_names (C := C12) (g := 59) rfl, ftC_names (C := C12) (g := 59) rfl, callX_names (C := C12) (g := 60) rfl, ftC_names (C := C12) (g := 60) rfl, e25, e38, e38b, e73, e39b, e60, e26, d10, e59]
                refine hn _ _ hw _ _ c ?_ (fun k' h0 h1 h2 h3 => by repeat rw [upd_ne _ _ (by first | exact h0 | exact h1 | exact h2 | (rintro rfl; simp at h3))])
                repeat rw [upd_ne _ _ (by simp)]
                exact hv
              | true =>
                rw [hin] at e60
                simp (disch := first | omega | simp only [*, go_sem, ↓reduceIte, dropK_eq]) only [x44b, go_sem, ↓reduceIte, dropK_eq, hk, hv, hmap, lkf, hfind, ib, dn, d2, callX_names (C := C12) (g := 38) rfl, ftC_names (C := C12) (g := 38) rfl, callX_names (C := C12) (g := 25) rfl, ftC_names (C := C12) (g := 25) rfl, callX_names (C := C12) (g := 73) rfl, ftC_names (C := C12) (g := 73) rfl, callX_names (C := C12) (g := 39) rfl, ftC_names (C := C12) (g := 39) rfl, callX_names (C := C12) (g := 26) rfl, ftC_names (C := C12) (g := 26) rfl, callX_names (C := C12) (g := 59) rfl, ftC_names (C := C12) (g := 59) rfl, callX_names (C := C12) (g := 60) rfl, ftC_names (C := C12) (g := 60) rfl, e25, e38, e38b, e73, e60, call_inl (C := C12) (g := 42) rfl, ft_inl (C := C12) (g := 42) rfl, e26, d10, e59]
                refine take42 (k := k + 1) (e := e) (by omega) ha ?_ ?_ ?_
                · simp only [go_sem, ↓reduceIte, dropK_eq]
                  rfl
                · intro _ hp1 nc1 g1 gf1
                  have v1 : hp1 (κC c1) = some (.var (cellsOf (CK c))) := by
                    rw [gf1 _ (by simp) (by simp)]
                    repeat rw [upd_ne _ _ (by simp)]
                    exact hv
                  have m1 : hp1 (κM c2) = some (.obj (.map (es ++ [(sv (gt l k).s, .int .i64 1, n)]) (n + 1))) := by
                    rw [gf1 _ (by simp) (by simp)]
                    simp only [go_sem, ↓reduceIte, dropK_eq]
                  have t1 : hp1 (44010002, nc + 1 + 1 + 1 + 1 + 1 + 1 + 1 + 1) = some (.var [.int .i64 (gt l (k + 1)).k, sv (gt l (k + 1)).s, .int .i64 (gt l (k + 1)).n, .int .i64 (placeS l e (k + 1))]) := by
                    rw [gf1 _ (by simp) (by simp)]
                    simp only [go_sem, ↓reduceIte, dropK_eq]
                  simp (disch := first | omega | simp only [*, go_sem, ↓reduceIte, dropK_eq]) only [go_sem, ↓reduceIte, dropK_eq, T.nilA_nili, call_inl (C := C12) (g := 24) rfl, ft_inl (C := C12) (g := 24) rfl, t1, v1]
                  refine fields24 ?_
                  rintro cr hp2 nc2 r2 gf2
                  have t2 : hp2 (44010002, nc + 1 + 1 + 1 + 1 + 1 + 1 + 1 + 1) = some (.var [.int .i64 (gt l (k + 1)).k, sv (gt l (k + 1)).s, .int .i64 (gt l (k + 1)).n, .int .i64 (placeS l e (k + 1))]) := by
                    rw [gf2 _ (by simp)]
                    repeat rw [upd_ne _ _ (by simp)]
                    exact t1
                  have v2 : hp2 (κC c1) = some (.var (cellsOf (CK c))) := by
                    rw [gf2 _ (by simp)]
                    repeat rw [upd_ne _ _ (by simp)]
                    exact v1
                  have pg := ptrL_get (κC c1) hf12
                  have pg0 : (ptrL (κC c1))[0 + f]? = some (.ptr (κC c1) 0 0 0 (2 + f)) := by rw [Nat.zero_add]; exact pg
                  have stp := fun h2 => st_put (κ := κC c1) (c := c) (v := (gt l (k + 1)).n) hf12 h2
                  have hok : fieldS l t m k = if ¬ (gt l (k + 2)).k = 5 then .error (k + 2, 8) else .ok f := by unfold fieldS; rw [hf]; simp only [hmay1, hfm, h2, hin, if_true, Bool.true_eq_false, if_false, not_true_eq_false]
                  simp (disch := first | omega | simp only [*, go_sem, ↓reduceIte, dropK_eq]) only [go_sem, ↓reduceIte, dropK_eq, T.nilA_nili, t1, t2, v1, v2, r2, pg, pg0, stp, Int.toNat_natCast, call_inl (C := C12) (g := 42) rfl, ft_inl (C := C12) (g := 42) rfl, call_inl (C := C12) (g := 24) rfl, ft_inl (C := C12) (g := 24) rfl]
                  refine take42 (k := k + 2) (e := e) (by omega) ha ?_ ?_ ?_
                  · repeat rw [upd_ne _ _ (by simp)]
                    rw [gf2 _ (by simp)]
                    repeat rw [upd_ne _ _ (by simp)]
                    exact g1
                  · intro h5 hp3 nc3 g3 gf3
                    rw [if_neg (fun h => h h5)] at hok
                    simp (disch := first | omega | simp only [*, go_sem, ↓reduceIte, dropK_eq]) only [go_sem, ↓reduceIte, dropK_eq, T.nilA_nili]
                    refine hy f hok _ _ _ (n + 1) ?_ ?_ ?_ (met_add hmet hf12 hfm (n := n)) ?_
                    · repeat rw [upd_ne _ _ (by simp)]
                      exact g3
                    · repeat rw [upd_ne _ _ (by simp)]
                      rw [gf3 _ (by simp) (by simp), upd_same]
                      rfl
                    · repeat rw [upd_ne _ _ (by simp)]
                      rw [gf3 _ (by simp) (by simp)]
                      repeat rw [upd_ne _ _ (by simp)]
                      rw [gf2 _ (by simp)]
                      repeat rw [upd_ne _ _ (by simp)]
                      rw [hfs]
                      exact m1
                    · intro k' h0 h1 h2 h3
                      have h4 : ¬ k'.1 / 1000000 = 24 ∧ ¬ k'.1 / 1000000 = 42 ∧ ¬ k'.1 / 1000000 = 44 := by simpa using h3
                      repeat rw [upd_ne _ _ (by first | exact h0 | exact h1 | exact h2 | (rintro rfl; simp at h3))]
                      rw [gf3 k' h0 h4.2.1]
                      repeat rw [upd_ne _ _ (by first | exact h0 | exact h1 | exact h2 | (rintro rfl; simp at h3))]
                      rw [gf2 k' h4.1]
                      repeat rw [upd_ne _ _ (by first | exact h0 | exact h1 | exact h2 | (rintro rfl; simp at h3))]
                      rw [gf1 k' h0 h4.2.1]
                      repeat rw [upd_ne _ _ (by first | exact h0 | exact h1 | exact h2 | (rintro rfl; simp at h3))]
                  · intro h5 hp3 nc3 gf3
                    rw [if_pos h5] at hok
                    simp (disch := first | omega | simp only [*, go_sem, ↓reduceIte, dropK_eq]) only [go_sem, ↓reduceIte, dropK_eq, T.nilA_nili]
                    refine hn _ _ hok _ _ (c.put f (gt l (k + 1)).n) ?_ ?_
                    · repeat rw [upd_ne _ _ (by simp)]
                      rw [gf3 _ (by simp), upd_same]
                      rfl
                    · intro k' h0 h1 h2 h3
                      have h4 : ¬ k'.1 / 1000000 = 24 ∧ ¬ k'.1 / 1000000 = 42 ∧ ¬ k'.1 / 1000000 = 44 := by simpa using h3
                      repeat rw [upd_ne _ _ (by first | exact h0 | exact h1 | exact h2 | (rintro rfl; simp at h3))]
                      rw [gf3 k' h4.2.1]
                      repeat rw [upd_ne _ _ (by first | exact h0 | exact h1 | exact h2 | (rintro rfl; simp at h3))]
                      rw [gf2 k' h4.1]
                      repeat rw [upd_ne _ _ (by first | exact h0 | exact h1 | exact h2 | (rintro rfl; simp at h3))]
                      rw [gf1 k' h0 h4.2.1]
                      repeat rw [upd_ne _ _ (by first | exact h0 | exact h1 | exact h2 | (rintro rfl; simp at h3))]
                · intro h; exact absurd h2 h
            · have d2 := decide_eq_false h2
              have hw : fieldS l t m k = .error (k + 1, 8) := by unfold fieldS; rw [hf]; simp only [hmay1, hfm, h2, if_true, Bool.true_eq_false, if_false, not_false_eq_true]
              simp (disch := first | omega | simp only [*, go_sem, ↓reduceIte, dropK_eq]) only [x44b, go_sem, ↓reduceIte, dropK_eq, hk, hv, hmap, lkf, hfind, ib, dn, d2, callX_names (C := C12) (g := 38) rfl, ftC_names (C := C12) (g := 38) rfl, callX_names (C := C12) (g := 25) rfl, ftC_names (C := C12) (g := 25) rfl, callX_names (C := C12) (g := 73) rfl, ftC_names (C := C12) (g := 73) rfl, callX_names (C := C12) (g := 39) rfl, ftC_names (C := C12) (g := 39) rfl, callX_names (C := C12) (g := 26) rfl, ftC_names (C := C12) (g := 26) rfl, callX_names (C := C12) (g := 59) rfl, ftC_names (C := C12) (g := 59) rfl, callX_names (C := C12) (g := 60) rfl, ftC_names (C := C12) (g := 60) rfl, e25, e38, e38b, e73, call_inl (C := C12) (g := 42) rfl, ft_inl (C := C12) (g := 42) rfl, e26, d10, e59]
              refine take42 (k := k + 1) (e := e) (by omega) ha ?_ ?_ ?_
              · simp only [go_sem, ↓reduceIte, dropK_eq]
                rfl
              · intro h; exact absurd h h2
              · intro _ hp1 nc1 gf1
                simp (disch := first | omega | simp only [*, go_sem, ↓reduceIte, dropK_eq]) only [go_sem, ↓reduceIte, dropK_eq, T.nilA_ifc1]
                refine hn _ _ hw _ _ c ?_ ?_
                · repeat rw [upd_ne _ _ (by simp)]
                  rw [gf1 _ (by simp)]
                  repeat rw [upd_ne _ _ (by simp)]
                  exact hv
                · intro k' h0 h1 h2 h3
                  have h4 : ¬ k'.1 / 1000000 = 24 ∧ ¬ k'.1 / 1000000 = 42 ∧ ¬ k'.1 / 1000000 = 44 := by simpa using h3
                  repeat rw [upd_ne _ _ (by first | exact h0 | exact h1 | exact h2 | (rintro rfl; simp at h3))]
                  rw [gf1 k' h4.2.1]
                  repeat rw [upd_ne _ _ (by first | exact h0 | exact h1 | exact h2 | (rintro rfl; simp at h3))]
        · rw [decide_eq_false ht1] at e59
          rw [decide_eq_false ht1] at hmay
          have hmay0 : mayB t f = false := hmay
          have hw : fieldS l t m k = .error (k, 8) := by unfold fieldS; rw [hf]; simp only [hmay0, if_true]
          simp (disch := first | omega | simp only [*, go_sem, ↓reduceIte, dropK_eq]) only [x44b, go_sem, ↓reduceIte, dropK_eq, hk, hv, ib, dn, d10, callX_names (C := C12) (g := 38) rfl, ftC_names (C := C12) (g := 38) rfl, callX_names (C := C12) (g := 25) rfl, ftC_names (C := C12) (g := 25) rfl, callX_names (C := C12) (g := 73) rfl, ftC_names (C := C12) (g := 73) rfl, callX_names (C := C12) (g := 39) rfl, ftC_names (C := C12) (g := 39) rfl, callX_names (C := C12) (g := 26) rfl, ftC_names (C := C12) (g := 26) rfl, callX_names (C := C12) (g := 59) rfl, ftC_names (C := C12) (g := 59) rfl, e25, e38, e73, e39, e26, e59]
          refine hn _ _ hw _ _ c ?_ (fun k' h0 h1 h2 h3 => by repeat rw [upd_ne _ _ (by first | exact h0 | exact h1 | exact h2 | (rintro rfl; simp at h3))])
          repeat rw [upd_ne _ _ (by simp)]
          exact hv
      · have d10 : decide ((f : Int) < 10) = true := decide_eq_true (by omega)
        rw [decide_eq_false h10, Bool.and_false] at hmay
        have hmay0 : mayB t f = false := hmay
        have hw : fieldS l t m k = .error (k, 8) := by unfold fieldS; rw [hf]; simp only [hmay0, if_true]
        simp (disch := first | omega | simp only [*, go_sem, ↓reduceIte, dropK_eq]) only [x44b, go_sem, ↓reduceIte, dropK_eq, hk, hv, ib, dn, d10, callX_names (C := C12) (g := 38) rfl, ftC_names (C := C12) (g := 38) rfl, callX_names (C := C12) (g := 25) rfl, ftC_names (C := C12) (g := 25) rfl, callX_names (C := C12) (g := 73) rfl, ftC_names (C := C12) (g := 73) rfl, callX_names (C := C12) (g := 39) rfl, ftC_names (C := C12) (g := 39) rfl, callX_names (C := C12) (g := 26) rfl, ftC_names (C := C12) (g := 26) rfl, e25, e38, e73, e39, e26]
        refine hn _ _ hw _ _ c ?_ (fun k' h0 h1 h2 h3 => by repeat rw [upd_ne _ _ (by first | exact h0 | exact h1 | exact h2 | (rintro rfl; simp at h3))])
        repeat rw [upd_ne _ _ (by simp)]
        exact hv
/-! ### V -/

set_option maxRecDepth 10000
def tlX : XCode → XCode
  | .seq _ q => q
  | c => c
def x18q : XCode := tlX (tlX (tlX (tlX (tlX (tlX (tlX (tlX (tlX (tlX (tlX (tlX (tlX (tlX x18b)))))))))))))
theorem x18q_eq : x18q = (.seq (.block 1
    (.loop x18l25))
  (.seq (.seq (.reg 29 x18r29 none)
  (.seq (.reg 30 x18r30 none)
  (.cond (.t 122)
    (.seq (.reg 31 x18r31 (some ⟨[(0, 3)]⟩))
    .ret)
    .skip)))
  (.seq (.reg 32 x18r32 none)
  (.seq (.reg 33 x18r33 none)
  .ret)))) := rfl
theorem fieldS_may {l : List T.Tok} {t k f : Nat} {m : List Nat} (h : fieldS l t m k = .ok f) : mayB t f = true := by
  unfold fieldS at h
  split at h
  · cases h
  · repeat' split at h
    all_goals first | (cases h; done) | (cases h; simp_all)
theorem fieldS_err {l : List T.Tok} {t k i : Nat} {e : Int} {m : List Nat} (h : fieldS l t m k = .error (i, e)) : ¬ e = 0 := by
  unfold fieldS at h
  repeat' split at h
  all_goals first | (cases h; done) | (cases h; decide)
abbrev FrT (c0 : Nat) (hp hp' : Heap) : Prop := ∀ k' : Key, k' ≠ κR c0 → k'.1 / 1000000 ∉ [18, 24, 42, 44, 45] → hp' k' = hp k'
set_option maxHeartbeats 4000000 in
theorem tail18 {d c0 c1 c2 n0 : Nat} {tm : Nat → AVal} {hp : Heap} {nc : Nat} {K : AVal × Heap × Nat → Prop} {a : AVal} {l : List T.Tok} {k e t : Nat} {c c00 : Ch} {R : Ch × Nat × Int} (ht : t < 8) (hct : c.t = (t : Nat)) (hl : l.length ≤ 100000) (hkb : k ≤ 110000)
    (ha : Rg 4 T.TK a l) (k0 : tm 0 = .ptr (κR c0) 0 0 0 0) (k4 : tm 4 = .ptr (18000000, n0) 0 0 0 0) (k6 : tm 6 = .ptr (κC c1) 0 0 0 0) (k15 : tm 15 = .mp (κM c2))
    (hk : hp (κR c0) = some (.var (RdC a k e))) (hv : hp (κC c1) = some (.var (cellsOf (CK c)))) (hm : hp (κM c2) = some (.obj (.map [] 0))) (hr : hp (18000000, n0) = some (.var (cellsOf (CK c00))))
    (hR : fieldsS l t c [] k = R)
    (hy : R.2.2 = 0 → ∀ hp' nc', hp' (κR c0) = some (.var (RdC a R.2.1 e)) → FrT c0 hp hp' → K (.tup [CK R.1, .nili], hp', nc'))
    (hn : ¬ R.2.2 = 0 → ∀ c' hp' nc', FrT c0 hp hp' → K (.tup [CK c', WV l e R.2.1 R.2.2], hp', nc')) :
    Ev (C := C12) (inl := inlD C12 (d + 2)) 18 x18q ⟨tm, hp, nc⟩ fun o st => Xec.Fin o fun _ => Bd (resL st [.cell 4 true 14, .tmp 5]) fun vs => K (one vs, st.hp, st.nc) := by
  have hap := ha.plain
  rw [x18q_eq]
  simp (disch := first | omega | simp only [*, go_sem, ↓reduceIte, dropK_eq]) only [go_sem, ↓reduceIte, dropK_eq]
  refine Ev_loopW (I := fun n tm hp' nc => ∃ (c : Ch) (m : List Nat) (k n' : Nat) (es : List (AVal × AVal × Nat)), c.t = (t : Nat) ∧ k ≤ 110000 ∧ n = l.length - k ∧ hp' (κR c0) = some (.var (RdC a k e)) ∧ hp' (κC c1) = some (.var (cellsOf (CK c))) ∧ hp' (κM c2) = some (.obj (.map es n')) ∧ hp' (18000000, n0) = some (.var (cellsOf (CK c00))) ∧
      MetOk es m ∧ (1 ∈ m → needB (fd 1) (t : Nat) = true) ∧ FrT c0 hp hp' ∧ fieldsS l t c m k = R) (n := l.length - k) ?_ (by omega) ?_
  · exact ⟨c, [], k, 0, [], hct, hkb, rfl, hk, hv, hm, hr, met_nil, (fun h => by simp at h), fun _ _ _ => rfl, hR⟩
  · clear hk hv hm hr hR hct hkb
    rintro n tm' hp1 nc1 hc ⟨c, m, k, n', es, hct, hkb, rfl, hk, hv, hm, hr, hmet, hlow, hfr, hR⟩
    have k0 := (hc 0 rfl).trans k0
    have k4 := (hc 4 rfl).trans k4
    have k6 := (hc 6 rfl).trans k6
    have k15 := (hc 15 rfl).trans k15
    have hcp2 := RdC_plain ha 62 k e
    have e38 := F38_eq (k := k) (e := e) ha
    by_cases h4 : (gt l k).k = 4
    · have d4 : decide (¬ (gt l k).k = 4) = false := decide_eq_false (fun h => h h4)
      rw [fieldsS_end h4] at hR
      simp (disch := first | omega | simp only [*, go_sem, ↓reduceIte, dropK_eq]) only [x18l25, go_sem, ↓reduceIte, dropK_eq, k0, k4, k6, k15, hk, hv, callX_names (C := C12) (g := 38) rfl, ftC_names (C := C12) (g := 38) rfl, e38, d4, call_inl (C := C12) (g := 45) rfl, ft_inl (C := C12) (g := 45) rfl]
      refine whole45 (c := c) (m := m) (n := n') ht hct hmet hm hlow ?_
      intro hp2 nc2 gf2
      have gk : hp2 (κR c0) = some (.var (RdC a k e)) := (gf2 _ (by simp)).trans hk
      have gv : hp2 (κC c1) = some (.var (cellsOf (CK c))) := (gf2 _ (by simp)).trans hv
      have gr : hp2 (18000000, n0) = some (.var (cellsOf (CK c00))) := (gf2 _ (by simp)).trans hr
      by_cases hw : wholeS c t m = 0
      · rw [if_pos hw] at hR
        subst hR
        have dw : decide (¬ wholeS c t m = 0) = false := decide_eq_false (fun h => h hw)
        simp (disch := first | omega | simp only [*, go_sem, ↓reduceIte, dropK_eq]) only [go_sem, ↓reduceIte, dropK_eq, k0, k4, k6, k15, gk, gv, gr, dw]
        refine hy rfl _ _ ?_ ?_
        · rw [upd_ne _ _ (by simp), upd_same]
          rfl
        · intro k' h0 h3
          have h4 : ¬ k'.1 / 1000000 = 18 ∧ ¬ k'.1 / 1000000 = 24 ∧ ¬ k'.1 / 1000000 = 42 ∧ ¬ k'.1 / 1000000 = 44 ∧ ¬ k'.1 / 1000000 = 45 := by simpa using h3
          repeat rw [upd_ne _ _ (by first | exact h0 | (rintro rfl; simp at h3))]
          rw [gf2 k' h4.2.2.2.2]
          exact hfr k' h0 h3
      · rw [if_neg hw] at hR
        subst hR
        have dw : decide (¬ wholeS c t m = 0) = true := decide_eq_true hw
        have e39 := F39_eq (k := k) (e := e) (why := wholeS c t m) ha
        simp (disch := first | omega | simp only [*, go_sem, ↓reduceIte, dropK_eq]) only [go_sem, ↓reduceIte, dropK_eq, k0, k4, k6, k15, gk, gv, gr, dw, callX_names (C := C12) (g := 39) rfl, ftC_names (C := C12) (g := 39) rfl, e39]
        refine hn hw c _ _ ?_
        intro k' h0 h3
        have h4 : ¬ k'.1 / 1000000 = 18 ∧ ¬ k'.1 / 1000000 = 24 ∧ ¬ k'.1 / 1000000 = 42 ∧ ¬ k'.1 / 1000000 = 44 ∧ ¬ k'.1 / 1000000 = 45 := by simpa using h3
        repeat rw [upd_ne _ _ (by first | exact h0 | (rintro rfl; simp at h3))]
        rw [gf2 k' h4.2.2.2.2]
        exact hfr k' h0 h3
    · have d4 : decide (¬ (gt l k).k = 4) = true := decide_eq_true h4
      simp (disch := first | omega | simp only [*, go_sem, ↓reduceIte, dropK_eq]) only [x18l25, go_sem, ↓reduceIte, dropK_eq, k0, k4, k6, k15, hk, callX_names (C := C12) (g := 38) rfl, ftC_names (C := C12) (g := 38) rfl, e38, d4, call_inl (C := C12) (g := 44) rfl, ft_inl (C := C12) (g := 44) rfl]
      refine field44 (e := e) ht hct hkb ha hk hv hm hmet ?_ ?_
      · intro f hf hp2 nc2 es2 n2 g1 g2 g3 g4 gf2
        rw [fieldsS_ok h4 hf] at hR
        have hin := fieldS_in hf
        simp (disch := first | omega | simp only [*, go_sem, ↓reduceIte, dropK_eq]) only [go_sem, ↓reduceIte, dropK_eq, T.nilA_nili]
        have g5 : hp2 (18000000, n0) = some (.var (cellsOf (CK c00))) := (gf2 _ (by simp) (by simp) (by simp) (by simp)).trans hr
        refine ⟨l.length - (k + 3), by omega, c.put f (gt l (k + 1)).n, f :: m, k + 3, n2, es2, hct, by omega, rfl, g1, g2, g3, g5, g4, ?_, ?_, hR⟩
        · intro h1
          rcases List.mem_cons.1 h1 with h1 | h1
          · subst h1
            have := fieldS_may hf
            rw [mayB_eq (by decide)] at this
            simpa using this
          · exact hlow h1
        · intro k' h0 h3
          have h4 : ¬ k'.1 / 1000000 = 18 ∧ ¬ k'.1 / 1000000 = 24 ∧ ¬ k'.1 / 1000000 = 42 ∧ ¬ k'.1 / 1000000 = 44 ∧ ¬ k'.1 / 1000000 = 45 := by simpa using h3
          repeat rw [upd_ne _ _ (by first | exact h0 | (rintro rfl; simp at h3))]
          rw [gf2 k' h0 (by rintro rfl; simp at h3) (by rintro rfl; simp at h3) (by simp [h4])]
          exact hfr k' h0 h3
      · intro i e' hf hp2 nc2 c' g2 gf2
        rw [fieldsS_err h4 hf] at hR
        subst hR
        have gr : hp2 (18000000, n0) = some (.var (cellsOf (CK c00))) := (gf2 _ (by simp) (by simp) (by simp) (by simp)).trans hr
        simp (disch := first | omega | simp only [*, go_sem, ↓reduceIte, dropK_eq]) only [go_sem, ↓reduceIte, dropK_eq, T.nilA_ifc1, k4, k6, g2, gr]
        refine hn (fieldS_err hf) c' _ _ ?_
        intro k' h0 h3
        have h4 : ¬ k'.1 / 1000000 = 18 ∧ ¬ k'.1 / 1000000 = 24 ∧ ¬ k'.1 / 1000000 = 42 ∧ ¬ k'.1 / 1000000 = 44 ∧ ¬ k'.1 / 1000000 = 45 := by simpa using h3
        repeat rw [upd_ne _ _ (by first | exact h0 | (rintro rfl; simp at h3))]
        rw [gf2 k' h0 (by rintro rfl; simp at h3) (by rintro rfl; simp at h3) (by simp [h4])]
        exact hfr k' h0 h3
end Go.Proofs.YtppehejnnjlkfaaGreatDoor
