/-
  What a text is parsed as, in plain words; the reference's Parse.
-/
import Derived.Test.YtppehejnnjlkfaaGreatDoorYH
set_option linter.unusedVariables false
set_option linter.unusedSimpArgs false
namespace Go.Proofs.YtppehejnnjlkfaaGreatDoor
open Go Go.Xec
attribute [local go_sem] tm0 ne_eq not_false_eq_true List.length_append List.length_replicate List.replicate_succ List.replicate_zero Int.cast_ofNat_Int not_true_eq_false decide_true decide_false ite_self beq_self_eq_true Bool.true_beq Bool.false_beq Bool.not_true Bool.not_false
attribute [local go_sem_proc] Nat.reduceAdd Nat.reduceMul Nat.reduceSub Nat.reduceLeDiff Nat.reduceLT Nat.reduceEqDiff Int.reduceLT Int.reduceLE Int.reduceAdd Int.reduceSub Int.reduceMul Int.reduceToNat Int.reducePow Int.reduceNe Int.reduceMod Int.reduceDiv Int.reduceEq Nat.reducePow Int.reduceNeg

set_option maxRecDepth 10000
theorem fieldsS_le (l : List T.Tok) (t : Nat) : ∀ (n : Nat) (c : Ch) (m : List Nat) (k : Nat), l.length - k ≤ n → k ≤ (fieldsS l t c m k).2.1 ∧ ((fieldsS l t c m k).2.2 = 0 → (fieldsS l t c m k).2.1 ≤ l.length) := by
  intro n
  induction n with
  | zero =>
    intro c m k hk
    have h4 : ¬ (gt l k).k = 4 := by simp [gt, List.getD, List.getElem?_eq_none (show l.length ≤ k by omega), tok0]
    cases hf : fieldS l t m k with
    | ok f => have := fieldS_in hf; omega
    | error x =>
      obtain ⟨i, e⟩ := x
      rw [fieldsS_err h4 hf]
      unfold fieldS at hf
      repeat' split at hf
      all_goals (cases hf; try simp)
  | succ n ih =>
    intro c m k hk
    by_cases h4 : (gt l k).k = 4
    · have hlt : k < l.length := by
        rcases Nat.lt_or_ge k l.length with h | h
        · exact h
        · simp [gt, List.getD, List.getElem?_eq_none h, tok0] at h4
      rw [fieldsS_end h4]
      split
      · simp; omega
      · rename_i h; exact ⟨Nat.le_refl _, fun e => absurd e h⟩
    · cases hf : fieldS l t m k with
      | ok f =>
        have h3 := fieldS_in hf
        rw [fieldsS_ok h4 hf]
        have := ih (c.put f (gt l (k + 1)).n) (f :: m) (k + 3) (by omega)
        exact ⟨by omega, this.2⟩
      | error x =>
        obtain ⟨i, e⟩ := x
        rw [fieldsS_err h4 hf]
        unfold fieldS at hf
        repeat' split at hf
        all_goals (cases hf; try simp)
theorem chanS_ok {l : List T.Tok} {k : Nat} {out : List Ch} (h : (chanS l k out).2.2 = 0) : k < l.length ∧ k < (chanS l k out).2.1 ∧ (chanS l k out).2.1 ≤ l.length := by
  have h0 : wordT (gt l k) = chanW := by
    refine Classical.byContradiction fun h1 => ?_
    unfold chanS at h
    rw [if_pos h1] at h
    exact absurd h (by simp)
  refine ⟨?_, ?_⟩
  · rcases Nat.lt_or_ge k l.length with h | h
    · exact h
    · simp [gt, List.getD, List.getElem?_eq_none h, tok0, wordT, chanW] at h0
  · unfold chanS at h ⊢
    rw [if_neg (fun h => h h0)] at h ⊢
    split
    · rename_i h1; rw [if_pos h1] at h; exact absurd h (by simp)
    rename_i h1; rw [if_neg h1] at h
    split
    · rename_i h1; rw [if_pos h1] at h; exact absurd h (by simp)
    rename_i h1; rw [if_neg h1] at h
    split
    · rename_i h1; rw [if_pos h1] at h; exact absurd h (by simp)
    rename_i h1; rw [if_neg h1] at h
    split
    · rename_i h1; rw [h1] at h; exact absurd h (by simp)
    rename_i t h1; rw [h1] at h; simp only at h
    split
    · rename_i h1; rw [if_pos h1] at h; exact absurd h (by simp)
    rename_i h1; rw [if_neg h1] at h
    have := fieldsS_le l t (l.length - (k + 4)) (Ch.new (gt l (k + 1)).s t) [] (k + 4) (Nat.le_refl _)
    exact ⟨by omega, this.2 h⟩
/-- Channels, from a token on, behind others; or the token that is wrong, and why. -/
def parseS (l : List T.Tok) (k : Nat) (out : List Ch) : Except (Nat × Int) (List Ch) :=
  if k < l.length ∨ out = [] then
    if h : (chanS l k out).2.2 = 0 then parseS l (chanS l k out).2.1 (out ++ [(chanS l k out).1]) else .error (chanS l k out).2
  else .ok out
termination_by l.length - k
decreasing_by have := chanS_ok h; omega
theorem parseS_ok {l : List T.Tok} {k : Nat} {out : List Ch} (h : k < l.length ∨ out = []) (h0 : (chanS l k out).2.2 = 0) : parseS l k out = parseS l (chanS l k out).2.1 (out ++ [(chanS l k out).1]) := by
  rw [parseS, if_pos h, dif_pos h0]
theorem parseS_err {l : List T.Tok} {k : Nat} {out : List Ch} (h : k < l.length ∨ out = []) (h0 : ¬ (chanS l k out).2.2 = 0) : parseS l k out = .error (chanS l k out).2 := by
  rw [parseS, if_pos h, dif_neg h0]
theorem parseS_end {l : List T.Tok} {k : Nat} {out : List Ch} (h : ¬ (k < l.length ∨ out = [])) : parseS l k out = .ok out := by
  rw [parseS, if_neg h]
/-- The place of a token. -/
def placeS (l : List T.Tok) (e n : Nat) : Int := if n < l.length then (gt l n).at' else e
def parse (s : List UInt8) : Except (Int × Int) (List Ch) :=
  match T.text s with
  | .error (i, e) => .error ((i : Nat), e)
  | .ok l => match parseS l 0 [] with
    | .error (n, e) => .error (placeS l s.length n, e)
    | .ok out => .ok out
def parV : Except (Int × Int) (List Ch) → AVal
  | .error (p, e) => .tup [.agg [.nils], .int .i64 p, .int .i64 e]
  | .ok out => .tup [.agg [.slc 14 (out.map CK)], .int .i64 0, .int .i64 0]
theorem text_len {s : List UInt8} {l : List T.Tok} (h : T.text s = .ok l) : s.length ≤ 4000 := by
  unfold T.text at h
  split at h
  · assumption
  · cases h
theorem scan_len : ∀ (n : Nat) (r : List UInt8) (i : Nat) (l : List T.Tok), r.length ≤ n → T.scan r i = .ok l → l.length ≤ r.length ∧ ∀ t ∈ l, (i : Int) ≤ t.at' ∧ t.at' < (i + r.length : Nat) := by
  intro n
  induction n with
  | zero =>
    intro r i l hr h
    have : r = [] := by simpa using hr
    subst this
    rw [T.scan_nil] at h
    cases h
    simp
  | succ n ih =>
    intro r i l hr h
    by_cases hb : 0 < T.blk r
    · rw [T.scan_blk hb] at h
      have h2 := T.blk_le r
      have := ih _ _ _ (by rw [List.length_drop]; omega) h
      rw [List.length_drop] at this
      refine ⟨by omega, fun t ht => ?_⟩
      have := this.2 t ht
      omega
    · have hb0 : T.blk r = 0 := by omega
      by_cases h0 : r = []
      · subst h0
        rw [T.scan_nil] at h
        cases h
        simp
      · cases h1 : T.oneR r with
        | error e => rw [T.scan_bad h0 hb0 h1] at h; cases h
        | ok x =>
          obtain ⟨t, k⟩ := x
          have hk := T.oneR_len h1
          rw [T.scan_one h0 hb0 h1 hk.1] at h
          cases h2 : T.scan (r.drop k) (i + k) with
          | error e => rw [h2] at h; cases h
          | ok m =>
            rw [h2] at h
            cases h
            have := ih _ _ _ (by rw [List.length_drop]; omega) h2
            rw [List.length_drop] at this
            have hp : 0 < r.length := List.length_pos_iff.2 h0
            refine ⟨by simp; omega, fun t ht => ?_⟩
            rcases List.mem_cons.1 ht with rfl | ht
            · simp; omega
            · have := this.2 t ht
              omega
theorem scan_err : ∀ (n : Nat) (r : List UInt8) (i p : Nat) (e : Int), r.length ≤ n → T.scan r i = .error (p, e) → ¬ e = 0 ∧ p ≤ i + r.length := by
  intro n
  induction n with
  | zero =>
    intro r i p e hr h
    have : r = [] := by simpa using hr
    subst this
    rw [T.scan_nil] at h
    cases h
  | succ n ih =>
    intro r i p e hr h
    by_cases hb : 0 < T.blk r
    · rw [T.scan_blk hb] at h
      have h2 := T.blk_le r
      have := ih _ _ _ _ (by rw [List.length_drop]; omega) h
      rw [List.length_drop] at this
      exact ⟨this.1, by omega⟩
    · have hb0 : T.blk r = 0 := by omega
      by_cases h0 : r = []
      · subst h0
        rw [T.scan_nil] at h
        cases h
      · cases h1 : T.oneR r with
        | error e =>
          rw [T.scan_bad h0 hb0 h1] at h
          cases h
          exact ⟨T.oneR_err h1, by omega⟩
        | ok x =>
          obtain ⟨t, k⟩ := x
          have hk := T.oneR_len h1
          rw [T.scan_one h0 hb0 h1 hk.1] at h
          cases h2 : T.scan (r.drop k) (i + k) with
          | ok m => rw [h2] at h; cases h
          | error x =>
            rw [h2] at h
            cases h
            have := ih _ _ _ _ (by rw [List.length_drop]; omega) h2
            rw [List.length_drop] at this
            exact ⟨this.1, by omega⟩
theorem text_err {s : List UInt8} {i : Nat} {e : Int} (h : T.text s = .error (i, e)) : ¬ e = 0 ∧ i ≤ s.length := by
  unfold T.text at h
  split at h
  · have := scan_err _ _ _ _ _ (Nat.le_refl _) h
    exact ⟨this.1, by omega⟩
  · cases h; exact ⟨by decide, by omega⟩
theorem place_at {l : List T.Tok} {e n : Nat} (h : n < l.length) : placeS l e n = l[n].at' := by
  unfold placeS
  rw [if_pos h]
  simp [List.getD, List.getElem?_eq_getElem h]
theorem own_lendG {ss : List Nat} {es : Nat} {hp : Heap} {v : AVal} {xs : List AVal} (h : Own ss es hp v xs) (h0 : v ≠ .nils) (d : Nat) (hl : plainL d xs = true) :
    ∃ ks, (∀ k ∈ ks, k.1 ∈ ss) ∧ ∀ hp', (∀ k, k.1 ∈ ss → hp' k = hp k) → Xec.lendX (d + 1) v hp' = some (.slc es xs, ks) := by
  rcases h with ⟨h, _⟩ | ⟨s, c, g, hs, rfl, h2⟩
  · exact absurd h h0
  · refine ⟨[(s, c)], by simpa using hs, fun hp' hk => ?_⟩
    rw [lendX_sl, hk _ hs, h2]
    simp only [Option.bind_some, els_row, Nat.zero_add, Nat.le_refl, if_true, List.drop_zero, List.take_length, lendXL_plain hl, Option.map_some]
noncomputable def C6 : Cfg := C5.add 21 F21
theorem ok6 : CfgOk Tryz.prog C6 := ok5.add sound21
noncomputable def F9 : List AVal → Option AVal := pureF C6 1 9
theorem sound9 : Sound Tryz.prog 9 F9 := sound_self ok6 1 9
theorem F9_eq {s : List UInt8} (hs : s.length ≤ 100000) : F9 [sv s] = some (parV (parse s)) := by
  have e20 := T.F20_eq hs
  unfold F9 parse
  refine pureF_of (x := x9) rfl rfl ?_
  rw [x9_eq.1, x9_eq.2.1]
  cases ht : T.text s with
  | error x =>
    obtain ⟨i, e⟩ := x
    have he := (text_err ht).1
    have d1 := decide_eq_true he
    rw [ht] at e20
    simp only [T.scanV] at e20
    simp (disch := first | omega | simp only [*, go_sem, ↓reduceIte, dropK_eq]) only [x9b, go_sem, ↓reduceIte, dropK_eq, callX_known (C := C6) (g := 20) rfl, ft_call (C := C6) (g := 20) rfl, e20, d1]
    exact Ends_plain rfl rfl
  | ok l =>
    have hs4 := text_len ht
    have hsl : T.scan s 0 = .ok l := by unfold T.text at ht; rw [if_pos hs4] at ht; exact ht
    have hl := (scan_len _ _ _ _ (Nat.le_refl _) hsl).1
    have hpl := plainL_map (enc := T.TK) 63 (fun x => T.TK_plain 62 x) l
    have ha : Rg 4 T.TK (.slc 4 (l.map T.TK)) l := Rg.slc _
    rw [ht] at e20
    simp only [T.scanV] at e20
    simp only
    generalize hP : parseS l 0 [] = P
    generalize AVal.slc 4 (l.map T.TK) = a at *
    have hap := ha.plain
    simp (disch := first | omega | simp only [*, go_sem, ↓reduceIte, dropK_eq]) only [x9b, go_sem, ↓reduceIte, dropK_eq, callX_known (C := C6) (g := 20) rfl, ft_call (C := C6) (g := 20) rfl, e20]
    refine Ev_loopW (I := fun n tm hp nc => ∃ (k : Nat) (out : List Ch), n = l.length - k ∧ k ≤ l.length ∧ out.length ≤ k ∧ tm 9 = .int .i64 k ∧ hp (9000000, 0) = some (.var [.nils]) ∧ Own [9004000, 9013003] 14 hp (tm 8) (out.map CK) ∧ tm 8 ≠ .nils ∧ parseS l k out = P) (n := l.length) ?_ (by omega) ?_
    · refine ⟨0, [], ?_⟩
      simp only [go_sem, ↓reduceIte, dropK_eq, List.map_nil]
      exact ⟨by omega, by omega, Own.sl (ss := [9004000, 9013003]) (s := 9004000) (c := 3) (g := 0) (by simp) rfl (upd_same _ _ _), by simp, hP⟩
    · clear hP
      rintro n tm hp nc hc ⟨k, out, rfl, hk, hok, k9, hr, ho, h0, hP⟩
      have k0 := hc 0 rfl; have k2 := hc 2 rfl; have k5 := hc 5 rfl; simp only [go_sem, ↓reduceIte, dropK_eq] at k0 k2 k5
      have hmp : ∀ d, plainL (d + 1) (out.map CK) = true := fun d => plainL_map (enc := CK) (d + 1) (fun x => CK_plain d x) out
      have hlv := ho.len
      rw [List.length_map] at hlv
      by_cases hgo : k < l.length ∨ out = []
      · obtain ⟨ks, hks, hlx⟩ := own_lendG ho h0 63 (hmp 62)
        have hb : Rg 14 CK (.slc 14 (out.map CK)) out := Rg.slc _
        have e21 := F21_eq ha hb (by omega) (k := k) (by omega) (by omega)
        have hgo2 : k < l.length ∨ (¬ k < l.length ∧ out = []) := by
          rcases hgo with h | h
          · exact .inl h
          · by_cases h2 : k < l.length
            · exact .inl h2
            · exact .inr ⟨h2, h⟩
        by_cases he : (chanS l k out).2.2 = 0
        · have h3 := chanS_ok he
          rw [parseS_ok hgo he] at hP
          have d2 : decide (¬ (chanS l k out).2.2 = 0) = false := decide_eq_false (fun h => h he)
          have d1 : decide ((k : Int) < (l.length : Int)) = true := decide_eq_true (by omega)
          generalize chanS l k out = R at *
          simp (disch := first | omega | simp only [*, go_sem, ↓reduceIte, List.mem_cons, List.not_mem_nil, or_false, or_self]) only [x9l6, go_sem, ↓reduceIte, k0, k2, k5, k9, ha.len, hlv, d1, callX_names (C := C6) (g := 21) rfl, ftC_names (C := C6) (g := 21) rfl]
          rw [hlx _ (fun k hk => rfl)]
          have hdk : dropK (fldV R) ks hp = hp := rfl
          obtain ⟨V, H, hA, hO⟩ := (ho.keep (hp' := upd (upd hp (9007008, nc + 1) (some (.var [.str (bs []), .int .i64 0, .int .i64 0, .int .i64 0, .int .i64 0, .int .i64 0, .int .i64 0, .int .i64 0, .int .i64 0, .int .i64 0, .int .i64 0, .int .i64 0, .int .i64 0, .int .i64 0]))) (9007008, nc + 1) (some (.var [sv R.1.n, .int .i64 R.1.t, .int .i64 R.1.f0, .int .i64 R.1.f1, .int .i64 R.1.f2, .int .i64 R.1.f3, .int .i64 R.1.f4, .int .i64 R.1.f5, .int .i64 R.1.f6, .int .i64 R.1.f7, .int .i64 R.1.f8, .int .i64 R.1.f9, .int .i64 R.1.f10, .int .i64 R.1.f11]))) (fun k hk => by repeat rw [upd_ne _ _ (by rintro rfl; simp at hk)])).push (s0 := 9013003) (s1 := 9013002) (z := CK R.1) (bytes := 120) (by simp) (by simp) (CK_plain _ R.1) (CK_sc R.1) (by simp; omega)
          simp (disch := first | omega | simp only [*, go_sem, ↓reduceIte, List.mem_cons, List.not_mem_nil, or_false, or_self]) only [go_sem, ↓reduceIte, e21, hasRef, hdk, d2, k2, k5, k9, hA]
          refine ⟨l.length - R.2.1, by omega, R.2.1, out ++ [R.1], rfl, h3.2.2, by simp; omega, rfl, ?_, ?_, ?_, hP⟩
          · refine ((hO _ _).2 (9000000, 0) (by simp) (by simp)).trans ?_
            rw [upd_ne _ _ (by simp), upd_ne _ _ (by simp)]
            exact hr
          · rw [List.map_append]
            exact (hO _ _).1
          · exact T.own_ne (ss := [9004000, 9013003]) (hO _ _).1 (by simp)
        · rw [parseS_err hgo he] at hP
          have d2 : decide (¬ (chanS l k out).2.2 = 0) = true := decide_eq_true he
          subst hP
          generalize chanS l k out = R at *
          rcases hgo2 with h | h
          · have d1 : decide ((k : Int) < (l.length : Int)) = true := decide_eq_true (by omega)
            simp (disch := first | omega | simp only [*, go_sem, ↓reduceIte, List.mem_cons, List.not_mem_nil, or_false, or_self]) only [x9l6, go_sem, ↓reduceIte, k0, k2, k5, k9, ha.len, hlv, d1, callX_names (C := C6) (g := 21) rfl, ftC_names (C := C6) (g := 21) rfl]
            rw [hlx _ (fun k hk => rfl)]
            have hdk : dropK (fldV R) ks hp = hp := rfl
            by_cases hp1 : R.2.1 < l.length
            · have d3 : decide ((R.2.1 : Int) < (l.length : Int)) = true := decide_eq_true (by omega)
              have ia := ha.ia hp1
              simp (disch := first | omega | simp only [*, go_sem, ↓reduceIte, List.mem_cons, List.not_mem_nil, or_false, or_self]) only [go_sem, ↓reduceIte, e21, hasRef, hdk, d2, d3, ia, hr, k0, k2, k5, k9, ha.len]
              rw [place_at hp1]
              exact Ends_plain rfl rfl
            · have d3 : decide ((R.2.1 : Int) < (l.length : Int)) = false := decide_eq_false (by omega)
              simp (disch := first | omega | simp only [*, go_sem, ↓reduceIte, List.mem_cons, List.not_mem_nil, or_false, or_self]) only [go_sem, ↓reduceIte, e21, hasRef, hdk, d2, d3, hr, k0, k2, k5, k9, ha.len]
              rw [show placeS l s.length R.2.1 = s.length by unfold placeS; rw [if_neg hp1]]
              exact Ends_plain rfl rfl
          · have d1 : decide ((k : Int) < (l.length : Int)) = false := decide_eq_false (by omega)
            have d4 : decide ((out.length : Int) = 0) = true := decide_eq_true (by rw [h.2]; rfl)
            simp (disch := first | omega | simp only [*, go_sem, ↓reduceIte, List.mem_cons, List.not_mem_nil, or_false, or_self]) only [x9l6, go_sem, ↓reduceIte, k0, k2, k5, k9, ha.len, hlv, d1, d4, callX_names (C := C6) (g := 21) rfl, ftC_names (C := C6) (g := 21) rfl]
            rw [hlx _ (fun k hk => rfl)]
            have hdk : dropK (fldV R) ks hp = hp := rfl
            by_cases hp1 : R.2.1 < l.length
            · have d3 : decide ((R.2.1 : Int) < (l.length : Int)) = true := decide_eq_true (by omega)
              have ia := ha.ia hp1
              simp (disch := first | omega | simp only [*, go_sem, ↓reduceIte, List.mem_cons, List.not_mem_nil, or_false, or_self]) only [go_sem, ↓reduceIte, e21, hasRef, hdk, d2, d3, ia, hr, k0, k2, k5, k9, ha.len]
              rw [place_at hp1]
              exact Ends_plain rfl rfl
            · have d3 : decide ((R.2.1 : Int) < (l.length : Int)) = false := decide_eq_false (by omega)
              simp (disch := first | omega | simp only [*, go_sem, ↓reduceIte, List.mem_cons, List.not_mem_nil, or_false, or_self]) only [go_sem, ↓reduceIte, e21, hasRef, hdk, d2, d3, hr, k0, k2, k5, k9, ha.len]
              rw [show placeS l s.length R.2.1 = s.length by unfold placeS; rw [if_neg hp1]]
              exact Ends_plain rfl rfl
      · have d1 : decide ((k : Int) < (l.length : Int)) = false := decide_eq_false (by omega)
        have d2 : decide ((out.length : Int) = 0) = false := decide_eq_false (fun h => hgo (.inr (List.length_eq_zero_iff.1 (by omega))))
        rw [parseS_end hgo] at hP
        subst hP
        have hsc := ho.sc
        have hcl := ho.cells
        have hlv2 := (ho.keep (hp' := upd hp (9000000, 0) (some (.var [tm 8]))) (fun k hk => by repeat rw [upd_ne _ _ (by rintro rfl; simp at hk)])).lend 61 (hmp 60)
        rw [T.own_slc h0] at hlv2
        simp (disch := first | omega | simp only [*, go_sem, ↓reduceIte, dropK_eq]) only [x9l6, go_sem, ↓reduceIte, dropK_eq, k0, k2, k5, k9, ha.len, hlv, d1, d2, hr, hsc, hcl]
        rw [Ends_eq]
        simp (disch := first | omega | simp only [*, go_sem, ↓reduceIte, dropK_eq]) only [go_sem, ↓reduceIte, dropK_eq, hlv2]
        rfl
end Go.Proofs.YtppehejnnjlkfaaGreatDoor
