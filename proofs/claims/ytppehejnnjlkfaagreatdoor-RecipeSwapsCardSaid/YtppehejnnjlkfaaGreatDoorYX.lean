/-
  The program's Parse.
-/
import Derived.Test.YtppehejnnjlkfaaGreatDoorYW
set_option linter.unusedVariables false
set_option linter.unusedSimpArgs false
namespace Go.Proofs.YtppehejnnjlkfaaGreatDoor
open Go Go.Xec
attribute [local go_sem] tm0 ne_eq not_false_eq_true List.length_append List.length_replicate List.replicate_succ List.replicate_zero Int.cast_ofNat_Int not_true_eq_false decide_true decide_false ite_self beq_self_eq_true Bool.true_beq Bool.false_beq Bool.not_true Bool.not_false
attribute [local go_sem_proc] Nat.reduceAdd Nat.reduceMul Nat.reduceSub Nat.reduceLeDiff Nat.reduceLT Nat.reduceEqDiff Int.reduceLT Int.reduceLE Int.reduceAdd Int.reduceSub Int.reduceMul Int.reduceToNat Int.reducePow Int.reduceNe Int.reduceMod Int.reduceDiv Int.reduceEq Nat.reducePow Int.reduceNeg

set_option maxRecDepth 10000
def asB (n : Nat) (k : Key) (cs : List AVal) (hp : Heap) (nc : Nat) (b : Blk) : Option (AVal × Heap × Nat) := match b with
  | .var cells => if cells.length = n then some (.bool true, upd hp k (some (.var cs)), nc) else none
  | _ => none
theorem asB_var (n : Nat) (k : Key) (cs cells : List AVal) (hp : Heap) (nc : Nat) : asB n k cs hp nc (.var cells) = if cells.length = n then some (.bool true, upd hp k (some (.var cs)), nc) else none := rfl
theorem callAX_at (t tp n : Nat) (cs : List AVal) (k : Key) (hp : Heap) (nc : Nat) : callAX (t, tp, n) [.ifc t (.agg cs), .ifc tp (.ptr k 0 0 0 0)] hp nc = if cs.length = n ∧ cs.all isSc = true then (hp k).bind (asB n k cs hp nc) else none := by
  unfold callAX callAR
  by_cases h : cs.length = n ∧ cs.all isSc = true
  · rw [if_pos h]
    simp only [h, and_self, if_true, Rd.run]
    cases hp k with
    | none => rfl
    | some b =>
      cases b with
      | row => rfl
      | obj => rfl
      | var cells =>
        simp only [Option.bind_some, asB]
        split <;> rfl
  · have h2 : ¬ (True ∧ True ∧ cs.length = n ∧ cs.all isSc = true) := fun e => h e.2.2
    rw [if_neg h]
    simp only
    rw [if_neg h2]
    rfl
noncomputable def F8 : List AVal → Option AVal := pureF C12 6 8
theorem sound8 : Sound Tryz.prog 8 F8 := sound_self ok12 6 8
set_option maxHeartbeats 2000000 in
theorem F8_eq {s : List UInt8} (hs : s.length ≤ 100000) : F8 [sv s] = some (parV (parse s)) := by
  have e17 := T.F17_eq hs
  unfold F8 parse
  refine pureF_of (x := x8) rfl rfl ?_
  rw [x8_eq.1, x8_eq.2.1]
  cases ht : T.text s with
  | error x =>
    obtain ⟨i, e⟩ := x
    have he := (text_err ht).1
    have d1 := decide_eq_true he
    rw [ht] at e17
    simp only [T.scanV] at e17
    simp (disch := first | omega | simp only [*, go_sem, ↓reduceIte, dropK_eq]) only [x8b, go_sem, ↓reduceIte, dropK_eq, callX_known (C := C12) (g := 17) rfl, ft_call (C := C12) (g := 17) rfl, e17, d1]
    exact Ends_plain rfl rfl
  | ok l =>
    have hs4 := text_len ht
    have hsl : T.scan s 0 = .ok l := by unfold T.text at ht; rw [if_pos hs4] at ht; exact ht
    have hl := (scan_len _ _ _ _ (Nat.le_refl _) hsl).1
    have ha : Rg 4 T.TK (rowN 4 (l.map T.TK)) l := rowN_rg l
    rw [ht] at e17
    simp only [T.scanV] at e17
    simp only
    generalize hP : parseS l 0 [] = P
    generalize rowN 4 (l.map T.TK) = a at *
    have hap := ha.plain
    have hac := ha.cells
    have has := ha.sc
    simp (disch := first | omega | simp only [*, go_sem, ↓reduceIte, dropK_eq]) only [x8b, go_sem, ↓reduceIte, dropK_eq, hac, has, callX_known (C := C12) (g := 17) rfl, ft_call (C := C12) (g := 17) rfl, e17]
    refine Ev_loopW (I := fun n tm hp nc => ∃ (k : Nat) (out : List Ch), n = l.length - k ∧ k ≤ l.length ∧ out.length ≤ k ∧ hp (κR 3) = some (.var (RdC a k s.length)) ∧ hp (8000000, 0) = some (.var [.nils]) ∧ Own [8011003] 14 hp (tm 9) (out.map CK) ∧ (out.map CK = [] → tm 9 = .nils) ∧ parseS l k out = P) (n := l.length) ?_ (by omega) ?_
    · refine ⟨0, [], ?_⟩
      simp only [go_sem, ↓reduceIte, dropK_eq, List.map_nil]
      exact ⟨by omega, by omega, rfl, Own.nils _ _ _, fun _ => trivial, hP⟩
    · clear hP
      rintro n tm hp nc hc ⟨k, out, rfl, hk, hok, hR, hr, ho, h0, hP⟩
      have k0 := hc 0 rfl; have k2 := hc 2 rfl; have k5 := hc 5 rfl; have k8 := hc 8 rfl; simp only [go_sem, ↓reduceIte, dropK_eq] at k0 k2 k5 k8
      have hmp : ∀ d, plainL (d + 1) (out.map CK) = true := fun d => plainL_map (enc := CK) (d + 1) (fun x => CK_plain d x) out
      have hlv := ho.len
      rw [List.length_map] at hlv
      by_cases hgo : k < l.length ∨ out = []
      · obtain ⟨ks, hks, hlx⟩ := ho.lendXs h0 63 (hmp 62)
        have hlx' : ∀ hp', (∀ k : Key, k.1 = 8011003 → hp' k = hp k) → lendX 64 (tm 9) hp' = some (rowN 14 (out.map CK), ks) := fun hp' h => hlx hp' fun k hk => h k (by simpa using hk)
        have hb : Rg 14 CK (rowN 14 (out.map CK)) out := rowN_rg out
        have hgo2 : out = [] ∨ (¬ out = [] ∧ k < l.length) := by
          by_cases h : out = []
          · exact .inl h
          · exact .inr ⟨h, hgo.resolve_right h⟩
        rcases hgo2 with h | h
        · have d1 : decide ((out.length : Int) = 0) = true := decide_eq_true (by rw [h]; rfl)
          simp (disch := first | omega | simp only [*, go_sem, ↓reduceIte, dropK_eq]) only [x8l6, go_sem, ↓reduceIte, dropK_eq, k0, k2, k5, k8, hlv, hR, d1, call_inl (C := C12) (g := 18) rfl, ft_inl (C := C12) (g := 18) rfl]
          refine channel18 (c0 := 3) (out := out) (k := k) (e := s.length) (b' := rowN 14 (out.map CK)) (ks := ks) (by omega) (by omega) (by omega) ha hlv hb hlx' hR ?_ ?_
          · intro he hp1 nc1 g1 gf1
            have h3 := chanS_ok he
            rw [parseS_ok hgo he] at hP
            generalize chanS l k out = R at *
            have gr : hp1 (8000000, 0) = some (.var [.nils]) := (gf1 _ (by simp) (by simp)).trans hr
            have ho1 : Own [8011003] 14 hp1 (tm 9) (out.map CK) := ho.keep fun k hk => gf1 k (by rintro rfl; simp at hk) (by simp at hk; rw [hk]; simp)
            obtain ⟨V, H, hA, hO⟩ := (ho1.keep (hp' := upd (upd (upd (upd hp1 (8007006, nc + 1) (some (.var [.str (bs []), .int .i64 0, .int .i64 0, .int .i64 0, .int .i64 0, .int .i64 0, .int .i64 0, .int .i64 0, .int .i64 0, .int .i64 0, .int .i64 0, .int .i64 0, .int .i64 0, .int .i64 0]))) (8007006, nc + 1) (some (.var [sv R.1.n, .int .i64 R.1.t, .int .i64 R.1.f0, .int .i64 R.1.f1, .int .i64 R.1.f2, .int .i64 R.1.f3, .int .i64 R.1.f4, .int .i64 R.1.f5, .int .i64 R.1.f6, .int .i64 R.1.f7, .int .i64 R.1.f8, .int .i64 R.1.f9, .int .i64 R.1.f10, .int .i64 R.1.f11]))) (8008001, nc1) (some (.var [.int .i64 0, .int .i64 0]))) (8008001, nc1) (some (.var [.int .i64 0, .int .i64 0]))) (fun k hk => by repeat rw [upd_ne _ _ (by rintro rfl; simp at hk)])).push (s0 := 8011003) (s1 := 8011002) (z := CK R.1) (bytes := 120) (by simp) (by simp) (CK_plain _ R.1) (CK_sc R.1) (by simp; omega)
            simp (disch := first | omega | simp only [*, go_sem, ↓reduceIte, List.mem_cons, List.not_mem_nil, or_false, or_self]) only [go_sem, ↓reduceIte, op_callA (C := C12) (g := 19) rfl, k2, k5, k8, hA]
            refine ⟨l.length - R.2.1, by omega, R.2.1, out ++ [R.1], rfl, h3.2.2, by simp; omega, ?_, ?_, ?_, fun h => by simp at h, hP⟩
            · refine ((hO _ _).2 (κR 3) (by simp) (by simp)).trans ?_
              repeat rw [upd_ne _ _ (by simp)]
              exact g1
            · refine ((hO _ _).2 (8000000, 0) (by simp) (by simp)).trans ?_
              repeat rw [upd_ne _ _ (by simp)]
              exact gr
            · rw [List.map_append]
              exact (hO _ _).1
          · intro he c' hp1 nc1 gf1
            rw [parseS_err hgo he] at hP
            subst hP
            generalize chanS l k out = R at *
            have gr : hp1 (8000000, 0) = some (.var [.nils]) := (gf1 _ (by simp) (by simp)).trans hr
            simp (disch := first | omega | simp only [*, go_sem, ↓reduceIte, dropK_eq]) only [go_sem, ↓reduceIte, dropK_eq, op_callA (C := C12) (g := 19) rfl, callAX_at, asB_var, gr, k2, k5, k8]
            exact Ends_plain rfl rfl
        · have d1 : decide ((out.length : Int) = 0) = false := decide_eq_false (fun e => h.1 (List.length_eq_zero_iff.1 (by omega)))
          have d2 : decide ((k : Int) < (l.length : Int)) = true := decide_eq_true (by omega)
          simp (disch := first | omega | simp only [*, go_sem, ↓reduceIte, dropK_eq]) only [x8l6, go_sem, ↓reduceIte, dropK_eq, k0, k2, k5, k8, hlv, hR, ha.len, d1, d2, call_inl (C := C12) (g := 18) rfl, ft_inl (C := C12) (g := 18) rfl]
          refine channel18 (c0 := 3) (out := out) (k := k) (e := s.length) (b' := rowN 14 (out.map CK)) (ks := ks) (by omega) (by omega) (by omega) ha hlv hb hlx' hR ?_ ?_
          · intro he hp1 nc1 g1 gf1
            have h3 := chanS_ok he
            rw [parseS_ok hgo he] at hP
            generalize chanS l k out = R at *
            have gr : hp1 (8000000, 0) = some (.var [.nils]) := (gf1 _ (by simp) (by simp)).trans hr
            have ho1 : Own [8011003] 14 hp1 (tm 9) (out.map CK) := ho.keep fun k hk => gf1 k (by rintro rfl; simp at hk) (by simp at hk; rw [hk]; simp)
            obtain ⟨V, H, hA, hO⟩ := (ho1.keep (hp' := upd (upd (upd (upd hp1 (8007006, nc + 1) (some (.var [.str (bs []), .int .i64 0, .int .i64 0, .int .i64 0, .int .i64 0, .int .i64 0, .int .i64 0, .int .i64 0, .int .i64 0, .int .i64 0, .int .i64 0, .int .i64 0, .int .i64 0, .int .i64 0]))) (8007006, nc + 1) (some (.var [sv R.1.n, .int .i64 R.1.t, .int .i64 R.1.f0, .int .i64 R.1.f1, .int .i64 R.1.f2, .int .i64 R.1.f3, .int .i64 R.1.f4, .int .i64 R.1.f5, .int .i64 R.1.f6, .int .i64 R.1.f7, .int .i64 R.1.f8, .int .i64 R.1.f9, .int .i64 R.1.f10, .int .i64 R.1.f11]))) (8008001, nc1) (some (.var [.int .i64 0, .int .i64 0]))) (8008001, nc1) (some (.var [.int .i64 0, .int .i64 0]))) (fun k hk => by repeat rw [upd_ne _ _ (by rintro rfl; simp at hk)])).push (s0 := 8011003) (s1 := 8011002) (z := CK R.1) (bytes := 120) (by simp) (by simp) (CK_plain _ R.1) (CK_sc R.1) (by simp; omega)
            simp (disch := first | omega | simp only [*, go_sem, ↓reduceIte, List.mem_cons, List.not_mem_nil, or_false, or_self]) only [go_sem, ↓reduceIte, op_callA (C := C12) (g := 19) rfl, k2, k5, k8, hA]
            refine ⟨l.length - R.2.1, by omega, R.2.1, out ++ [R.1], rfl, h3.2.2, by simp; omega, ?_, ?_, ?_, fun h => by simp at h, hP⟩
            · refine ((hO _ _).2 (κR 3) (by simp) (by simp)).trans ?_
              repeat rw [upd_ne _ _ (by simp)]
              exact g1
            · refine ((hO _ _).2 (8000000, 0) (by simp) (by simp)).trans ?_
              repeat rw [upd_ne _ _ (by simp)]
              exact gr
            · rw [List.map_append]
              exact (hO _ _).1
          · intro he c' hp1 nc1 gf1
            rw [parseS_err hgo he] at hP
            subst hP
            generalize chanS l k out = R at *
            have gr : hp1 (8000000, 0) = some (.var [.nils]) := (gf1 _ (by simp) (by simp)).trans hr
            simp (disch := first | omega | simp only [*, go_sem, ↓reduceIte, dropK_eq]) only [go_sem, ↓reduceIte, dropK_eq, op_callA (C := C12) (g := 19) rfl, callAX_at, asB_var, gr, k2, k5, k8]
            exact Ends_plain rfl rfl
      · have d1 : decide ((k : Int) < (l.length : Int)) = false := decide_eq_false (by omega)
        have d2 : decide ((out.length : Int) = 0) = false := decide_eq_false (fun h => hgo (.inr (List.length_eq_zero_iff.1 (by omega))))
        rw [parseS_end hgo] at hP
        subst hP
        have hsc := ho.sc
        have hcl := ho.cells
        have hne : out ≠ [] := fun h => hgo (.inr h)
        have hlv2 := ho.lendN h0 61 (hmp 60) (hp' := upd hp (8000000, 0) (some (.var [tm 9]))) (fun k hk' => by repeat rw [upd_ne _ _ (by rintro rfl; simp at hk')])
        simp (disch := first | omega | simp only [*, go_sem, ↓reduceIte, dropK_eq]) only [x8l6, go_sem, ↓reduceIte, dropK_eq, k0, k2, k5, k8, ha.len, hlv, hR, d1, d2, hr, hsc, hcl]
        rw [Ends_eq]
        simp (disch := first | omega | simp only [*, go_sem, ↓reduceIte, dropK_eq]) only [go_sem, ↓reduceIte, dropK_eq, hlv2]
        cases out with
        | nil => exact absurd rfl hne
        | cons => rfl
end Go.Proofs.YtppehejnnjlkfaaGreatDoor
