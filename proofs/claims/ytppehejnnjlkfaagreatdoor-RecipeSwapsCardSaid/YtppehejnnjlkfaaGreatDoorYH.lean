/-
  The reference: the token at a place, a token's word.
-/
import Derived.Test.YtppehejnnjlkfaaGreatDoorYT
set_option linter.unusedVariables false
set_option linter.unusedSimpArgs false
namespace Go.Proofs.YtppehejnnjlkfaaGreatDoor
open Go Go.Xec
attribute [local go_sem] tm0 ne_eq not_false_eq_true List.length_append List.length_replicate List.replicate_succ List.replicate_zero Int.cast_ofNat_Int not_true_eq_false decide_true decide_false ite_self beq_self_eq_true Bool.true_beq Bool.false_beq Bool.not_true Bool.not_false
attribute [local go_sem_proc] Nat.reduceAdd Nat.reduceMul Nat.reduceSub Nat.reduceLeDiff Nat.reduceLT Nat.reduceEqDiff Int.reduceLT Int.reduceLE Int.reduceAdd Int.reduceSub Int.reduceMul Int.reduceToNat Int.reducePow Int.reduceNe Int.reduceMod Int.reduceDiv Int.reduceEq Nat.reducePow Int.reduceNeg
/-! ### H -/

set_option maxRecDepth 10000
def tok0 : T.Tok := ⟨0, [], 0, 0⟩
noncomputable def F53 : List AVal → Option AVal := pureF C0 1 53
theorem sound53 : Sound Tryz.prog 53 F53 := sound_self ok0 1 53
theorem F53_eq {a : AVal} {l : List T.Tok} {k : Nat} (ha : Rg 4 T.TK a l) : F53 [a, .int .i64 k] = some (T.TK (l.getD k tok0)) := by
  unfold F53
  refine pureF_of (x := x53) rfl rfl ?_
  rw [x53_eq.1, x53_eq.2.1]
  by_cases h : k < l.length
  · have d1 : decide ((k : Int) < (l.length : Int)) = true := decide_eq_true (by omega)
    have ia := ha.ia h
    rw [show l.getD k tok0 = l[k] by simp [List.getD, h]]
    simp (disch := first | omega | simp only [go_sem, ↓reduceIte, dropK_eq]) only [x53b, go_sem, ↓reduceIte, dropK_eq, ha.len, d1, ia]
    exact Ends_plain rfl rfl
  · have d1 : decide ((k : Int) < (l.length : Int)) = false := decide_eq_false (by omega)
    rw [show l.getD k tok0 = tok0 by simp [List.getD, List.getElem?_eq_none (Nat.le_of_not_lt h)]]
    simp (disch := first | omega | simp only [go_sem, ↓reduceIte, dropK_eq]) only [x53b, go_sem, ↓reduceIte, dropK_eq, ha.len, d1]
    exact Ends_plain rfl rfl
/-- A token's word; a text that is none else. -/
def wordT (t : T.Tok) : List UInt8 := if t.k = 1 then t.s else [63]
noncomputable def F52 : List AVal → Option AVal := pureF C0 1 52
theorem sound52 : Sound Tryz.prog 52 F52 := sound_self ok0 1 52
theorem F52_eq {t : T.Tok} : F52 [T.TK t] = some (sv (wordT t)) := by
  unfold F52 wordT
  refine pureF_of (x := x52) rfl rfl ?_
  rw [x52_eq.1, x52_eq.2.1]
  by_cases h : t.k = 1
  · have d1 := decide_eq_true h
    rw [if_pos h]
    simp (disch := first | omega | simp only [go_sem, ↓reduceIte, dropK_eq]) only [x52b, go_sem, ↓reduceIte, dropK_eq, d1]
    exact Ends_plain rfl rfl
  · have d1 := decide_eq_false h
    rw [if_neg h]
    simp (disch := first | omega | simp only [go_sem, ↓reduceIte, dropK_eq]) only [x52b, go_sem, ↓reduceIte, dropK_eq, d1]
    exact Ends_plain rfl rfl
/-! ### I -/

set_option maxRecDepth 10000
noncomputable def C3 : Cfg := ((((((((C2.add 63 F63).add 53 F53).add 52 F52).add 17 T.F17).add 20 T.F20).add 58 T.F58).add 61 T.F61).add 34 T.F34).add 27 F_itoa
theorem ok3 : CfgOk Tryz.prog C3 := ((((((((ok2.add sound63).add sound53).add sound52).add T.sound17).add T.sound20).add T.sound58).add T.sound61).add T.sound34).add sound27
def mkCh (n : List UInt8) (t : Int) (l : List Int) : Ch := ⟨n, t, l.getD 0 0, l.getD 1 0, l.getD 2 0, l.getD 3 0, l.getD 4 0, l.getD 5 0, l.getD 6 0, l.getD 7 0, l.getD 8 0, l.getD 9 0, l.getD 10 0, l.getD 11 0⟩
def Ch.put (c : Ch) (k : Nat) (v : Int) : Ch := mkCh c.n c.t (c.fs.set k v)
def Ch.nil : Ch := ⟨[], 0, 0, 0, 0, 0, 0, 0, 0, 0, 0, 0, 0, 0⟩
theorem put_fs (c : Ch) (k : Nat) (v : Int) : (c.put k v).fs = c.fs.set k v := by
  have h : (c.fs.set k v).length = 12 := by rw [List.length_set]; rfl
  unfold Ch.put
  generalize c.fs.set k v = l at *
  match l, h with
  | [a, b, c, d, e, f, g, h, i, j, k, l], _ => rfl
theorem put_n (c : Ch) (k : Nat) (v : Int) : (c.put k v).n = c.n := rfl
theorem put_t (c : Ch) (k : Nat) (v : Int) : (c.put k v).t = c.t := rfl
theorem CK_plain (d : Nat) (c : Ch) : plain (d + 1) (CK c) = true := by
  rw [plain_agg]
  simp only [plainL_cons, plainL_nil, plain_int, plain_str, Bool.and_self]
theorem CK_sc (c : Ch) : (cellsOf (CK c)).all isSc = true := rfl
noncomputable def F81 : List AVal → Option AVal := pureF C1 1 81
theorem sound81 : Sound Tryz.prog 81 F81 := sound_self ok1 1 81
theorem F81_eq {c : Ch} {k : Nat} {v : Int} (hk : k < 12) : F81 [CK c, .int .i64 k, .int .i64 v] = some (CK (c.put k v)) := by
  have hl : (c.fs.set k v).length = 12 := by rw [List.length_set]; rfl
  unfold F81
  refine pureF_of (x := x81) rfl rfl ?_
  rw [x81_eq.1, x81_eq.2.1]
  simp (disch := first | omega | simp only [go_sem, ↓reduceIte, dropK_eq]) only [x81b, go_sem, ↓reduceIte, dropK_eq]
  refine Ev_range (ti := 8) (len := 12) (J := fun i tm hp nc => hp (81000000, 0) = some (.var (cellsOf (CK c))) ∧ hp (81000001, 0) = some (.var (cellsOf (CK Ch.nil))) ∧ Own [81001000, 81008003] 1 hp (tm 7) (i64s ((c.fs.set k v).take i))) (by omega) (by simp only [go_sem, ↓reduceIte, dropK_eq]) ?_ ?_
  · simp only [go_sem, ↓reduceIte, dropK_eq]
    exact ⟨rfl, Own.sl (ss := [81001000, 81008003]) (s := 81001000) (c := 1) (g := 0) (by simp) rfl (upd_same _ _ _)⟩
  · rintro i tm hp nc hi hc k8 ⟨hv, hr, ho⟩
    have k1 := hc 1 rfl; have k2 := hc 2 rfl; have k3 := hc 3 rfl; have k6 := hc 6 rfl; simp only [go_sem, ↓reduceIte, dropK_eq] at k1 k2 k3 k6
    rcases Nat.lt_or_ge i 12 with hlt | hge
    · have d1 : decide ((i : Int) < 12) = true := decide_eq_true (by omega)
      have e35 := F35_eq (c := c) hlt
      have hx : ∀ h : i < c.fs.length, c.fs[i]'h = c.fs[i]'hlt := fun _ => rfl
      generalize (c.fs[i]'hlt) = x at *
      have hi' : i < (c.fs.set k v).length := by omega
      have hnx : i64s ((c.fs.set k v).take (i + 1)) = i64s ((c.fs.set k v).take i) ++ [.int .i64 ((c.fs.set k v)[i])] := by rw [take_next hi']; unfold i64s; rw [List.map_append]; rfl
      by_cases h : i = k
      · have d2 : decide ((i : Int) = (k : Int)) = true := decide_eq_true (by omega)
        obtain ⟨V, H, hA, hO⟩ := ho.push (s0 := 81008003) (s1 := 81008002) (z := .int .i64 v) (bytes := 8) (by simp) (by simp) rfl rfl (by simp; omega)
        simp (disch := first | omega | simp only [*, go_sem, ↓reduceIte, dropK_eq]) only [x81l3, go_sem, ↓reduceIte, dropK_eq, k1, k2, k3, k6, k8, d1, hv, callX_known (C := C1) (g := 35) rfl, ft_call (C := C1) (g := 35) rfl, e35, d2, hA]
        refine ⟨hlt, by simp, ?_, ?_, ?_⟩
        · exact ((hO _ _).2 _ (by simp) (by simp)).trans hv
        · exact ((hO _ _).2 _ (by simp) (by simp)).trans hr
        · rw [hnx]
          subst h
          rw [List.getElem_set_self]
          exact (hO _ _).1
      · have d2 : decide ((i : Int) = (k : Int)) = false := decide_eq_false (by omega)
        obtain ⟨V, H, hA, hO⟩ := ho.push (s0 := 81008003) (s1 := 81008002) (z := .int .i64 x) (bytes := 8) (by simp) (by simp) rfl rfl (by simp; omega)
        simp (disch := first | omega | simp only [*, go_sem, ↓reduceIte, dropK_eq]) only [x81l3, go_sem, ↓reduceIte, dropK_eq, k1, k2, k3, k6, k8, d1, hv, callX_known (C := C1) (g := 35) rfl, ft_call (C := C1) (g := 35) rfl, e35, d2, hA]
        refine ⟨hlt, by simp, ?_, ?_, ?_⟩
        · exact ((hO _ _).2 _ (by simp) (by simp)).trans hv
        · exact ((hO _ _).2 _ (by simp) (by simp)).trans hr
        · rw [hnx, List.getElem_set_ne (by omega), hx]
          exact (hO _ _).1
    · obtain rfl : i = 12 := by omega
      rw [List.take_of_length_le (by omega)] at ho
      unfold Ch.put
      generalize c.fs.set k v = l at *
      match l, hl with
      | [a0, a1, a2, a3, a4, a5, a6, a7, a8, a9, a10, a11], _ =>
        rcases ho with ⟨_, h⟩ | ⟨s, cc, g, hs, h1, h2⟩
        · simp at h
        · have e7 := h1
          simp only [List.map_cons, List.map_nil, List.length_cons, List.length_nil] at e7 h2
          have hne : (81000001, 0) ≠ (s, cc) := by
            rintro h
            cases h
            simp at hs
          simp (disch := first | omega | simp only [*, go_sem, ↓reduceIte, dropK_eq]) only [x81l3, go_sem, ↓reduceIte, dropK_eq, k1, k2, k3, k6, k8, hv, hr, e7, h2]
          exact Ends_plain rfl rfl
/-! ### J -/

set_option maxRecDepth 10000
abbrev gt (l : List T.Tok) (k : Nat) : T.Tok := l.getD k tok0
def fd (f : Nat) : Fd := fdL.getD f ⟨[], 0, 0, 0⟩
theorem fd_eq {f : Nat} (h : f < fdL.length) : fdL[f] = fd f := by unfold fd; rw [List.getD_eq_getElem?_getD, List.getElem?_eq_getElem h]; rfl
def wdL : List (List UInt8) := fdL.map (·.w)
/-- One field, from a token on: its number, or what is wrong, and where. -/
def fieldS (l : List T.Tok) (t : Nat) (m : List Nat) (k : Nat) : Except (Nat × Int) Nat :=
  match wdL.findIdx? (· == wordT (gt l k)) with
  | none => .error (k, 8)
  | some f =>
    if mayB t f = false then .error (k, 8)
    else if f ∈ m then .error (k, 9)
    else if ¬ (gt l (k + 1)).k = 2 then .error (k + 1, 8)
    else if inF (fd f) t (gt l (k + 1)).n = false then .error (k + 1, 3)
    else if ¬ (gt l (k + 2)).k = 5 then .error (k + 2, 8)
    else .ok f
def lackB (t : Nat) (m : List Nat) : Bool := (List.range 10).any fun f => needB (fd f) t && !decide (f ∈ m)
/-- What a channel lacks at its end. -/
def wholeS (c : Ch) (t : Nat) (m : List Nat) : Int :=
  if lackB t m = true then 10
  else if ¬ (10 ∈ m ↔ 11 ∈ m) then 10
  else if (needB (fd 1) t = true ∧ c.f2 ≤ c.f1) ∨ (10 ∈ m ∧ c.f11 ≤ c.f10) then 3 else 0
theorem word_in {l : List T.Tok} {k : Nat} {ws : List (List UInt8)} {f : Nat} (h : ws.findIdx? (· == wordT (gt l k)) = some f) (hw : [63] ∉ ws) : k < l.length ∧ f < ws.length ∧ (gt l k).k = 1 ∧ ws.getD f [] = (gt l k).s := by
  obtain ⟨hf, h1, _⟩ := List.findIdx?_eq_some_iff_getElem.1 h
  have h1 : ws[f] = wordT (gt l k) := by simpa using h1
  have h2 : (gt l k).k = 1 := by
    by_cases e : (gt l k).k = 1
    · exact e
    · unfold wordT at h1
      rw [if_neg e] at h1
      exact absurd (h1 ▸ List.getElem_mem hf) hw
  refine ⟨?_, hf, h2, ?_⟩
  · rcases Nat.lt_or_ge k l.length with h | h
    · exact h
    · simp [gt, List.getD, List.getElem?_eq_none h, tok0] at h2
  · unfold wordT at h1
    rw [if_pos h2] at h1
    simp [List.getD, List.getElem?_eq_getElem hf, h1]
theorem wd_63 : [63] ∉ wdL := by decide
theorem fieldS_in {l : List T.Tok} {t k f : Nat} {m : List Nat} (h : fieldS l t m k = .ok f) : k < l.length ∧ f < 12 ∧ f ∉ m := by
  unfold fieldS at h
  split at h
  · cases h
  · rename_i g hg
    have h2 := word_in hg wd_63
    repeat' split at h
    all_goals first | (cases h; done) | skip
    cases h
    exact ⟨h2.1, h2.2.1, by assumption⟩
/-- The fields, from a token on. -/
def fieldsS (l : List T.Tok) (t : Nat) (c : Ch) (m : List Nat) (k : Nat) : Ch × Nat × Int :=
  if (gt l k).k = 4 then (if wholeS c t m = 0 then (c, k + 1, 0) else (c, k, wholeS c t m))
  else match h : fieldS l t m k with
    | .error (n, e) => (c, n, e)
    | .ok f => fieldsS l t (c.put f (gt l (k + 1)).n) (f :: m) (k + 3)
termination_by l.length - k
decreasing_by have := fieldS_in h; omega
theorem fieldsS_end {l : List T.Tok} {t k : Nat} {c : Ch} {m : List Nat} (h : (gt l k).k = 4) : fieldsS l t c m k = if wholeS c t m = 0 then (c, k + 1, 0) else (c, k, wholeS c t m) := by
  rw [fieldsS, if_pos h]
theorem fieldsS_err {l : List T.Tok} {t k n : Nat} {e : Int} {c : Ch} {m : List Nat} (h : ¬ (gt l k).k = 4) (h1 : fieldS l t m k = .error (n, e)) : fieldsS l t c m k = (c, n, e) := by
  rw [fieldsS, if_neg h]
  split
  · rename_i h2; rw [h1] at h2; cases h2; rfl
  · rename_i h2; rw [h1] at h2; cases h2
theorem fieldsS_ok {l : List T.Tok} {t k f : Nat} {c : Ch} {m : List Nat} (h : ¬ (gt l k).k = 4) (h1 : fieldS l t m k = .ok f) : fieldsS l t c m k = fieldsS l t (c.put f (gt l (k + 1)).n) (f :: m) (k + 3) := by
  rw [fieldsS, if_neg h]
  split
  · rename_i h2; rw [h1] at h2; cases h2
  · rename_i h2; rw [h1] at h2; cases h2; rfl
/-- Which fields were met. -/
def metB (m : List Nat) : List AVal := (List.range 12).map fun j => .bool (decide (j ∈ m))
theorem metB_len (m : List Nat) : (metB m).length = 12 := by simp [metB]
theorem metB_get (m : List Nat) {f : Nat} (h : f < 12) : (metB m)[f]? = some (.bool (decide (f ∈ m))) := by
  simp [metB, List.getElem?_map, List.getElem?_range h]
theorem metB_set (m : List Nat) {f : Nat} (h : f < 12) : (metB m).take f ++ .bool true :: (metB m).drop (f + 1) = metB (f :: m) := by
  have e : (metB m).take f ++ .bool true :: (metB m).drop (f + 1) = (metB m).set f (.bool true) := by rw [List.set_eq_take_append_cons_drop, if_pos (by rw [metB_len]; exact h)]
  rw [e]
  apply List.ext_getElem?
  intro i
  rw [List.getElem?_set, metB_len]
  by_cases hi : f = i
  · subst hi
    rw [if_pos rfl, if_pos h, metB_get _ h]
    simp
  · rw [if_neg hi]
    rcases Nat.lt_or_ge i 12 with h2 | h2
    · rw [metB_get _ h2, metB_get _ h2]
      simp [Ne.symm hi]
    · rw [List.getElem?_eq_none (by rw [metB_len]; exact h2), List.getElem?_eq_none (by rw [metB_len]; exact h2)]
/-! ### K -/

set_option maxRecDepth 10000
noncomputable def C4 : Cfg := C3.add 81 F81
theorem ok4 : CfgOk Tryz.prog C4 := ok3.add sound81
abbrev fldV (r : Ch × Nat × Int) : AVal := .tup [CK r.1, .int .i64 r.2.1, .int .i64 r.2.2]
theorem lack_step {t : Nat} {m : List Nat} : lackB t m = true ↔ ∃ j < 10, needB (fd j) t = true ∧ j ∉ m := by
  unfold lackB
  rw [List.any_eq_true]
  constructor
  · rintro ⟨j, hj, h⟩
    rw [List.mem_range] at hj
    simp only [Bool.and_eq_true, Bool.not_eq_true', decide_eq_false_iff_not] at h
    exact ⟨j, hj, h⟩
  · rintro ⟨j, hj, h1, h2⟩
    exact ⟨j, List.mem_range.2 hj, by simp [h1, h2]⟩
theorem ix1 (i : Nat) : 0 + ((i : Int)).toNat * 1 = i := by simp
theorem E33 {t k : Nat} {ct : Int} (ht : t < 8) (hk : k < 12) (hct : ct = (t : Nat)) : F33 [.int .i64 ct, .int .i64 k] = some (.bool (needB (fd k) (t : Nat))) := by
  subst hct
  have h : k < fdL.length := hk
  rw [F33_eq ht h, fd_eq]
theorem E63 {t k : Nat} {ct : Int} (ht : t < 8) (hk : k < 12) (hct : ct = (t : Nat)) : F63 [.int .i64 ct, .int .i64 k] = some (.bool (mayB t k)) := by
  subst hct
  exact F63_eq ht (by exact hk)
theorem E62 {t k : Nat} {ct v : Int} (hk : k < 12) (hct : ct = (t : Nat)) : F62 [.int .i64 ct, .int .i64 k, .int .i64 v] = some (.bool (inF (fd k) (t : Nat) v)) := by
  subst hct
  have h : k < fdL.length := hk
  rw [F62_eq h, fd_eq]
theorem whole_lack {c : Ch} {t : Nat} {m : List Nat} (h : lackB t m = true) : wholeS c t m = 10 := by unfold wholeS; rw [if_pos h]
noncomputable def F55 : List AVal → Option AVal := pureF C4 1 55
theorem sound55 : Sound Tryz.prog 55 F55 := sound_self ok4 1 55
set_option maxHeartbeats 2000000 in
theorem F55_eq {a : AVal} {l : List T.Tok} {k : Nat} {c : Ch} {t : Nat} (ha : Rg 4 T.TK a l) (hl : l.length ≤ 100000) (hk : k ≤ 100000) (ht : t < 8) (hct : c.t = (t : Nat)) :
    F55 [a, .int .i64 k, CK c] = some (fldV (fieldsS l t c [] k)) := by
  have hpl := ha.plain
  have e32 : F32 [] = some (.slc 1 (wdL.map sv)) := F32_eq
  generalize hR : fieldsS l t c [] k = R
  unfold F55
  refine pureF_of (x := x55) rfl rfl ?_
  rw [x55_eq.1, x55_eq.2.1]
  simp (disch := first | omega | simp only [*, go_sem, ↓reduceIte, dropK_eq]) only [x55b, go_sem, ↓reduceIte, dropK_eq]
  refine Ev_loopW (I := fun n tm hp nc => ∃ (c : Ch) (m : List Nat) (k : Nat), c.t = (t : Nat) ∧ k ≤ 110000 ∧ n = l.length - k ∧ tm 1 = .int .i64 k ∧ hp (55000000, 0) = some (.var (cellsOf (CK c))) ∧ hp (55000001, 0) = some (.var (cellsOf (CK Ch.nil))) ∧ hp (55001001, 1) = some (.var (metB m)) ∧ fieldsS l t c m k = R) (n := l.length - k) ?_ (by omega) ?_
  · refine ⟨c, [], k, hct, by omega, rfl, ?_⟩
    simp only [go_sem, ↓reduceIte, dropK_eq]
    exact ⟨rfl, rfl, hR⟩
  · clear hR hct hk
    rintro n tm hp nc hc ⟨c, m, k, hct, hk, rfl, k1, hv, hr, hm, hR⟩
    have k0 := hc 0 rfl; have k5 := hc 5 rfl; have k6 := hc 6 rfl; have k9 := hc 9 rfl; simp only [go_sem, ↓reduceIte, dropK_eq] at k0 k5 k6 k9
    have e53 := F53_eq (k := k) ha
    by_cases h4 : (gt l k).k = 4
    · have d1 : decide (¬ (gt l k).k = 4) = false := decide_eq_false (fun h => h h4)
      rw [fieldsS_end h4] at hR
      simp (disch := first | omega | simp only [*, go_sem, ↓reduceIte, dropK_eq]) only [x55l2, go_sem, ↓reduceIte, dropK_eq, k0, k1, k5, k6, k9, callX_known (C := C4) (g := 53) rfl, ft_call (C := C4) (g := 53) rfl, e53, d1]
      refine Ev_rangeH (ti := 12) (len := 10) (J := fun i tm => ∀ j < i, needB (fd j) t = true → j ∈ m) (by omega) (by simp only [go_sem, ↓reduceIte, dropK_eq]) (by intro j hj; omega) ?_
      rintro i tm2 nc2 hi hc k12 hj
      have q0 := hc 0 rfl; have q1 := hc 1 rfl; have q5 := hc 5 rfl; have q6 := hc 6 rfl; have q9 := hc 9 rfl; simp only [go_sem, ↓reduceIte, dropK_eq, k0, k1, k5, k6, k9] at q0 q1 q5 q6 q9
      rcases Nat.lt_or_ge i 10 with hlt | hge
      · have d2 : decide ((i : Int) < 10) = true := decide_eq_true (by omega)
        have e33 := E33 (k := i) ht (by omega) hct
        have hget := metB_get m (f := i) (by omega)
        cases hnd : needB (fd i) t with
        | false =>
          rw [hnd] at e33
          simp (disch := first | omega | simp only [*, go_sem, ↓reduceIte, dropK_eq]) only [x55l20, go_sem, ↓reduceIte, dropK_eq, q0, q1, q5, q6, q9, k12, d2, hv, callX_known (C := C4) (g := 33) rfl, ft_call (C := C4) (g := 33) rfl, e33]
          refine ⟨hlt, by simp, fun j hj1 hj2 => ?_⟩
          by_cases e : j = i
          · subst e; rw [hnd] at hj2; cases hj2
          · exact hj j (by omega) hj2
        | true =>
          rw [hnd] at e33
          by_cases hm2 : i ∈ m
          · rw [decide_eq_true hm2] at hget
            simp (disch := first | omega | simp only [*, go_sem, ↓reduceIte, dropK_eq]) only [x55l20, go_sem, ↓reduceIte, dropK_eq, q0, q1, q5, q6, q9, k12, d2, hv, hm, hget, ix1, callX_known (C := C4) (g := 33) rfl, ft_call (C := C4) (g := 33) rfl, e33]
            refine ⟨hlt, by simp, fun j hj1 hj2 => ?_⟩
            by_cases e : j = i
            · subst e; exact hm2
            · exact hj j (by omega) hj2
          · rw [decide_eq_false hm2] at hget
            rw [whole_lack (lack_step.2 ⟨i, hlt, hnd, hm2⟩), if_neg (by decide)] at hR
            subst hR
            simp (disch := first | omega | simp only [*, go_sem, ↓reduceIte, dropK_eq]) only [x55l20, go_sem, ↓reduceIte, dropK_eq, q0, q1, q5, q6, q9, k12, d2, hv, hr, hm, hget, ix1, callX_known (C := C4) (g := 33) rfl, ft_call (C := C4) (g := 33) rfl, e33]
            exact Ends_plain rfl rfl
      · obtain rfl : i = 10 := by omega
        have d2 : decide (((10 : Nat) : Int) < 10) = false := by decide
        have hno : ¬ lackB t m = true := fun h => by
          obtain ⟨j, h1, h2, h3⟩ := lack_step.1 h
          exact h3 (hj j h1 h2)
        have g10 := metB_get m (f := 10) (by omega)
        have g11 := metB_get m (f := 11) (by omega)
        have e33 : F33 [.int .i64 c.t, .int .i64 1] = some (.bool (needB (fd 1) (t : Nat))) := E33 (k := 1) ht (by decide) hct
        by_cases hi2 : (10 ∈ m ↔ 11 ∈ m)
        · have dq : (decide (10 ∈ m) == decide (11 ∈ m)) = true := by simp [hi2]
          cases hnd : needB (fd 1) t with
          | true =>
            rw [hnd] at e33
            by_cases h12 : c.f2 ≤ c.f1
            · have d3 := decide_eq_true h12
              have hw : wholeS c t m = 3 := by unfold wholeS; rw [if_neg hno, if_neg (fun h => h hi2), if_pos (Or.inl ⟨hnd, h12⟩)]
              rw [hw, if_neg (by decide)] at hR
              subst hR
              simp (disch := first | omega | simp only [*, go_sem, ↓reduceIte, dropK_eq]) only [x55l20, go_sem, ↓reduceIte, dropK_eq, q0, q1, q5, q6, q9, k12, d2, hv, hr, hm, g10, g11, ix1, dq, callX_known (C := C4) (g := 33) rfl, ft_call (C := C4) (g := 33) rfl, e33, d3]
              exact Ends_plain rfl rfl
            · have d3 := decide_eq_false h12
              by_cases h10 : 10 ∈ m
              · rw [decide_eq_true h10] at g10 dq
                by_cases h1011 : c.f11 ≤ c.f10
                · have d4 := decide_eq_true h1011
                  have hw : wholeS c t m = 3 := by unfold wholeS; rw [if_neg hno, if_neg (fun h => h hi2), if_pos (Or.inr ⟨h10, h1011⟩)]
                  rw [hw, if_neg (by decide)] at hR
                  subst hR
                  simp (disch := first | omega | simp only [*, go_sem, ↓reduceIte, dropK_eq]) only [x55l20, go_sem, ↓reduceIte, dropK_eq, q0, q1, q5, q6, q9, k12, d2, hv, hr, hm, g10, g11, ix1, dq, callX_known (C := C4) (g := 33) rfl, ft_call (C := C4) (g := 33) rfl, e33, d4, d3]
                  exact Ends_plain rfl rfl
                · have d4 := decide_eq_false h1011
                  have hw : wholeS c t m = 0 := by unfold wholeS; rw [if_neg hno, if_neg (fun h => h hi2), if_neg (fun h => h.elim (fun h => h12 h.2) (fun h => h1011 h.2))]
                  rw [hw, if_pos rfl] at hR
                  subst hR
                  simp (disch := first | omega | simp only [*, go_sem, ↓reduceIte, dropK_eq]) only [x55l20, go_sem, ↓reduceIte, dropK_eq, q0, q1, q5, q6, q9, k12, d2, hv, hr, hm, g10, g11, ix1, dq, callX_known (C := C4) (g := 33) rfl, ft_call (C := C4) (g := 33) rfl, e33, d4, d3]
                  exact Ends_plain rfl rfl
              · rw [decide_eq_false h10] at g10 dq
                have hw : wholeS c t m = 0 := by unfold wholeS; rw [if_neg hno, if_neg (fun h => h hi2), if_neg (fun h => h.elim (fun h => h12 h.2) (fun h => h10 h.1))]
                rw [hw, if_pos rfl] at hR
                subst hR
                simp (disch := first | omega | simp only [*, go_sem, ↓reduceIte, dropK_eq]) only [x55l20, go_sem, ↓reduceIte, dropK_eq, q0, q1, q5, q6, q9, k12, d2, hv, hr, hm, g10, g11, ix1, dq, callX_known (C := C4) (g := 33) rfl, ft_call (C := C4) (g := 33) rfl, e33, d3]
                exact Ends_plain rfl rfl
          | false =>
            rw [hnd] at e33
            by_cases h10 : 10 ∈ m
            · rw [decide_eq_true h10] at g10 dq
              by_cases h1011 : c.f11 ≤ c.f10
              · have d4 := decide_eq_true h1011
                have hw : wholeS c t m = 3 := by unfold wholeS; rw [if_neg hno, if_neg (fun h => h hi2), if_pos (Or.inr ⟨h10, h1011⟩)]
                rw [hw, if_neg (by decide)] at hR
                subst hR
                simp (disch := first | omega | simp only [*, go_sem, ↓reduceIte, dropK_eq]) only [x55l20, go_sem, ↓reduceIte, dropK_eq, q0, q1, q5, q6, q9, k12, d2, hv, hr, hm, g10, g11, ix1, dq, callX_known (C := C4) (g := 33) rfl, ft_call (C := C4) (g := 33) rfl, e33, d4]
                exact Ends_plain rfl rfl
              · have d4 := decide_eq_false h1011
                have hw : wholeS c t m = 0 := by unfold wholeS; rw [if_neg hno, if_neg (fun h => h hi2), if_neg (fun h => h.elim (fun h => by rw [hnd] at h; cases h.1) (fun h => h1011 h.2))]
                rw [hw, if_pos rfl] at hR
                subst hR
                simp (disch := first | omega | simp only [*, go_sem, ↓reduceIte, dropK_eq]) only [x55l20, go_sem, ↓reduceIte, dropK_eq, q0, q1, q5, q6, q9, k12, d2, hv, hr, hm, g10, g11, ix1, dq, callX_known (C := C4) (g := 33) rfl, ft_call (C := C4) (g := 33) rfl, e33, d4]
                exact Ends_plain rfl rfl
            · rw [decide_eq_false h10] at g10 dq
              have hw : wholeS c t m = 0 := by unfold wholeS; rw [if_neg hno, if_neg (fun h => h hi2), if_neg (fun h => h.elim (fun h => by rw [hnd] at h; cases h.1) (fun h => h10 h.1))]
              rw [hw, if_pos rfl] at hR
              subst hR
              simp (disch := first | omega | simp only [*, go_sem, ↓reduceIte, dropK_eq]) only [x55l20, go_sem, ↓reduceIte, dropK_eq, q0, q1, q5, q6, q9, k12, d2, hv, hr, hm, g10, g11, ix1, dq, callX_known (C := C4) (g := 33) rfl, ft_call (C := C4) (g := 33) rfl, e33]
              exact Ends_plain rfl rfl
        · have hw : wholeS c t m = 10 := by unfold wholeS; rw [if_neg hno, if_pos hi2]
          rw [hw, if_neg (by decide)] at hR
          have dq : (decide (10 ∈ m) == decide (11 ∈ m)) = false := by
            by_cases h1 : 10 ∈ m <;> by_cases h2 : 11 ∈ m <;> simp [h1, h2] at hi2 ⊢
          subst hR
          simp (disch := first | omega | simp only [*, go_sem, ↓reduceIte, dropK_eq]) only [x55l20, go_sem, ↓reduceIte, dropK_eq, q0, q1, q5, q6, q9, k12, d2, hv, hr, hm, g10, g11, ix1, dq]
          exact Ends_plain rfl rfl
    · have d1 : decide (¬ (gt l k).k = 4) = true := decide_eq_true h4
      have e52 := F52_eq (t := gt l k)
      have e54 := F54_eq (a := .slc 1 (wdL.map sv)) (l := wdL) (s := wordT (gt l k)) (Rg.slc _) (by decide)
      have e53a : F53 [a, .int .i64 ((k : Int) + 1)] = some (T.TK (gt l (k + 1))) := F53_eq (k := k + 1) ha
      have e53b : F53 [a, .int .i64 ((k : Int) + 2)] = some (T.TK (gt l (k + 2))) := F53_eq (k := k + 2) ha
      cases hf : wdL.findIdx? (· == wordT (gt l k)) with
      | none =>
        have hw : fieldS l t m k = .error (k, 8) := by unfold fieldS; rw [hf]
        rw [fieldsS_err h4 hw] at hR
        subst hR
        rw [show findW wdL (wordT (gt l k)) = -1 by unfold findW; rw [hf]] at e54
        simp (disch := first | omega | simp only [*, go_sem, ↓reduceIte, dropK_eq]) only [x55l2, go_sem, ↓reduceIte, dropK_eq, k0, k1, k5, k6, k9, hv, hr, callX_known (C := C4) (g := 53) rfl, ft_call (C := C4) (g := 53) rfl, callX_known (C := C4) (g := 32) rfl, ft_call (C := C4) (g := 32) rfl, callX_known (C := C4) (g := 52) rfl, ft_call (C := C4) (g := 52) rfl, callX_known (C := C4) (g := 54) rfl, ft_call (C := C4) (g := 54) rfl, e53, e32, e52, e54, d1]
        exact Ends_plain rfl rfl
      | some f =>
        obtain ⟨hkl, hf12, hk1, hfw⟩ := word_in hf wd_63
        have hf12 : f < 12 := hf12
        rw [show findW wdL (wordT (gt l k)) = f by unfold findW; rw [hf]] at e54
        have dn : decide ((f : Int) < 0) = false := decide_eq_false (by omega)
        have e63 := E63 (k := f) ht hf12 hct
        have hget := metB_get m hf12
        have hset : (metB m).take (0 + f) ++ .bool true :: (metB m).drop (0 + f + 1) = metB (f :: m) := by rw [Nat.zero_add]; exact metB_set m hf12
        have hlen := metB_len m
        cases hmay : mayB t f with
        | false =>
          rw [hmay] at e63
          have hw : fieldS l t m k = .error (k, 8) := by unfold fieldS; rw [hf]; simp only [hmay, if_true]
          rw [fieldsS_err h4 hw] at hR
          subst hR
          simp (disch := first | omega | simp only [*, go_sem, ↓reduceIte, dropK_eq]) only [x55l2, go_sem, ↓reduceIte, dropK_eq, k0, k1, k5, k6, k9, hv, hr, callX_known (C := C4) (g := 53) rfl, ft_call (C := C4) (g := 53) rfl, callX_known (C := C4) (g := 32) rfl, ft_call (C := C4) (g := 32) rfl, callX_known (C := C4) (g := 52) rfl, ft_call (C := C4) (g := 52) rfl, callX_known (C := C4) (g := 54) rfl, ft_call (C := C4) (g := 54) rfl, callX_known (C := C4) (g := 63) rfl, ft_call (C := C4) (g := 63) rfl, e53, e32, e52, e54, e63, d1, dn]
          exact Ends_plain rfl rfl
        | true =>
          rw [hmay] at e63
          by_cases hfm : f ∈ m
          · rw [decide_eq_true hfm] at hget
            have hw : fieldS l t m k = .error (k, 9) := by unfold fieldS; rw [hf]; simp only [hmay, hfm, if_true, Bool.true_eq_false, if_false]
            rw [fieldsS_err h4 hw] at hR
            subst hR
            simp (disch := first | omega | simp only [*, go_sem, ↓reduceIte, dropK_eq]) only [x55l2, go_sem, ↓reduceIte, dropK_eq, k0, k1, k5, k6, k9, hv, hr, hm, hget, ix1, callX_known (C := C4) (g := 53) rfl, ft_call (C := C4) (g := 53) rfl, callX_known (C := C4) (g := 32) rfl, ft_call (C := C4) (g := 32) rfl, callX_known (C := C4) (g := 52) rfl, ft_call (C := C4) (g := 52) rfl, callX_known (C := C4) (g := 54) rfl, ft_call (C := C4) (g := 54) rfl, callX_known (C := C4) (g := 63) rfl, ft_call (C := C4) (g := 63) rfl, e53, e32, e52, e54, e63, d1, dn]
            exact Ends_plain rfl rfl
          · rw [decide_eq_false hfm] at hget
            by_cases h2 : (gt l (k + 1)).k = 2
            · have d2 : decide (¬ (gt l (k + 1)).k = 2) = false := decide_eq_false (fun h => h h2)
              have e62 := E62 (k := f) (v := (gt l (k + 1)).n) hf12 hct
              cases hin : inF (fd f) t (gt l (k + 1)).n with
              | false =>
                rw [hin] at e62
                have hw : fieldS l t m k = .error (k + 1, 3) := by unfold fieldS; rw [hf]; simp only [hmay, hfm, h2, hin, if_true, Bool.true_eq_false, if_false, not_true_eq_false]
                rw [fieldsS_err h4 hw] at hR
                subst hR
                simp (disch := first | omega | simp only [*, go_sem, ↓reduceIte, dropK_eq]) only [x55l2, go_sem, ↓reduceIte, dropK_eq, k0, k1, k5, k6, k9, hv, hr, hm, hget, hset, hlen, ix1, callX_known (C := C4) (g := 53) rfl, ft_call (C := C4) (g := 53) rfl, callX_known (C := C4) (g := 32) rfl, ft_call (C := C4) (g := 32) rfl, callX_known (C := C4) (g := 52) rfl, ft_call (C := C4) (g := 52) rfl, callX_known (C := C4) (g := 54) rfl, ft_call (C := C4) (g := 54) rfl, callX_known (C := C4) (g := 63) rfl, ft_call (C := C4) (g := 63) rfl, callX_known (C := C4) (g := 62) rfl, ft_call (C := C4) (g := 62) rfl, e53, e53a, e32, e52, e54, e63, e62, d1, dn, d2]
                exact Ends_plain rfl rfl
              | true =>
                rw [hin] at e62
                by_cases h5 : (gt l (k + 2)).k = 5
                · have d5 : decide (¬ (gt l (k + 2)).k = 5) = false := decide_eq_false (fun h => h h5)
                  have hw : fieldS l t m k = .ok f := by unfold fieldS; rw [hf]; simp only [hmay, hfm, h2, hin, h5, if_true, Bool.true_eq_false, if_false, not_true_eq_false]
                  rw [fieldsS_ok h4 hw] at hR
                  have e81 := F81_eq (c := c) (k := f) (v := (gt l (k + 1)).n) hf12
                  simp (disch := first | omega | simp only [*, go_sem, ↓reduceIte, dropK_eq]) only [x55l2, go_sem, ↓reduceIte, dropK_eq, k0, k1, k5, k6, k9, hv, hr, hm, hget, hset, hlen, ix1, callX_known (C := C4) (g := 53) rfl, ft_call (C := C4) (g := 53) rfl, callX_known (C := C4) (g := 32) rfl, ft_call (C := C4) (g := 32) rfl, callX_known (C := C4) (g := 52) rfl, ft_call (C := C4) (g := 52) rfl, callX_known (C := C4) (g := 54) rfl, ft_call (C := C4) (g := 54) rfl, callX_known (C := C4) (g := 63) rfl, ft_call (C := C4) (g := 63) rfl, callX_known (C := C4) (g := 62) rfl, ft_call (C := C4) (g := 62) rfl, callX_known (C := C4) (g := 81) rfl, ft_call (C := C4) (g := 81) rfl, e53, e53a, e53b, e32, e52, e54, e63, e62, e81, d1, dn, d2, d5]
                  exact ⟨l.length - (k + 3), by omega, c.put f (gt l (k + 1)).n, f :: m, k + 3, hct, by omega, rfl, rfl, rfl, rfl, hR⟩
                · have d5 : decide (¬ (gt l (k + 2)).k = 5) = true := decide_eq_true h5
                  have hw : fieldS l t m k = .error (k + 2, 8) := by unfold fieldS; rw [hf]; simp only [hmay, hfm, h2, hin, h5, if_true, Bool.true_eq_false, if_false, not_true_eq_false, not_false_eq_true]
                  rw [fieldsS_err h4 hw] at hR
                  subst hR
                  simp (disch := first | omega | simp only [*, go_sem, ↓reduceIte, dropK_eq]) only [x55l2, go_sem, ↓reduceIte, dropK_eq, k0, k1, k5, k6, k9, hv, hr, hm, hget, hset, hlen, ix1, callX_known (C := C4) (g := 53) rfl, ft_call (C := C4) (g := 53) rfl, callX_known (C := C4) (g := 32) rfl, ft_call (C := C4) (g := 32) rfl, callX_known (C := C4) (g := 52) rfl, ft_call (C := C4) (g := 52) rfl, callX_known (C := C4) (g := 54) rfl, ft_call (C := C4) (g := 54) rfl, callX_known (C := C4) (g := 63) rfl, ft_call (C := C4) (g := 63) rfl, callX_known (C := C4) (g := 62) rfl, ft_call (C := C4) (g := 62) rfl, e53, e53a, e53b, e32, e52, e54, e63, e62, d1, dn, d2, d5]
                  exact Ends_plain rfl rfl
            · have d2 : decide (¬ (gt l (k + 1)).k = 2) = true := decide_eq_true h2
              have hw : fieldS l t m k = .error (k + 1, 8) := by unfold fieldS; rw [hf]; simp only [hmay, hfm, h2, if_true, Bool.true_eq_false, if_false, not_false_eq_true]
              rw [fieldsS_err h4 hw] at hR
              subst hR
              simp (disch := first | omega | simp only [*, go_sem, ↓reduceIte, dropK_eq]) only [x55l2, go_sem, ↓reduceIte, dropK_eq, k0, k1, k5, k6, k9, hv, hr, hm, hget, hset, hlen, ix1, callX_known (C := C4) (g := 53) rfl, ft_call (C := C4) (g := 53) rfl, callX_known (C := C4) (g := 32) rfl, ft_call (C := C4) (g := 32) rfl, callX_known (C := C4) (g := 52) rfl, ft_call (C := C4) (g := 52) rfl, callX_known (C := C4) (g := 54) rfl, ft_call (C := C4) (g := 54) rfl, callX_known (C := C4) (g := 63) rfl, ft_call (C := C4) (g := 63) rfl, e53, e53a, e32, e52, e54, e63, d1, dn, d2]
              exact Ends_plain rfl rfl
/-! ### L -/

set_option maxRecDepth 10000
def chanW : List UInt8 := [99, 104, 97, 110, 110, 101, 108]
/-- A channel of a name and a chart, its fields 0. -/
def Ch.new (n : List UInt8) (t : Int) : Ch := ⟨n, t, 0, 0, 0, 0, 0, 0, 0, 0, 0, 0, 0, 0⟩
theorem new_n (n : List UInt8) (t : Int) : (Ch.new n t).n = n := rfl
theorem new_t (n : List UInt8) (t : Int) : (Ch.new n t).t = t := rfl
theorem new_f0 (n : List UInt8) (t : Int) : (Ch.new n t).f0 = 0 := rfl
theorem new_f1 (n : List UInt8) (t : Int) : (Ch.new n t).f1 = 0 := rfl
theorem new_f2 (n : List UInt8) (t : Int) : (Ch.new n t).f2 = 0 := rfl
theorem new_f3 (n : List UInt8) (t : Int) : (Ch.new n t).f3 = 0 := rfl
theorem new_f4 (n : List UInt8) (t : Int) : (Ch.new n t).f4 = 0 := rfl
theorem new_f5 (n : List UInt8) (t : Int) : (Ch.new n t).f5 = 0 := rfl
theorem new_f6 (n : List UInt8) (t : Int) : (Ch.new n t).f6 = 0 := rfl
theorem new_f7 (n : List UInt8) (t : Int) : (Ch.new n t).f7 = 0 := rfl
theorem new_f8 (n : List UInt8) (t : Int) : (Ch.new n t).f8 = 0 := rfl
theorem new_f9 (n : List UInt8) (t : Int) : (Ch.new n t).f9 = 0 := rfl
theorem new_f10 (n : List UInt8) (t : Int) : (Ch.new n t).f10 = 0 := rfl
theorem new_f11 (n : List UInt8) (t : Int) : (Ch.new n t).f11 = 0 := rfl
attribute [go_sem] new_n new_t new_f0 new_f1 new_f2 new_f3 new_f4 new_f5 new_f6 new_f7 new_f8 new_f9 new_f10 new_f11
/-- A channel, from a token on, behind others: it, the next token, what is wrong. -/
def chanS (l : List T.Tok) (k : Nat) (ahead : List Ch) : Ch × Nat × Int :=
  if ¬ wordT (gt l k) = chanW then (Ch.new [] 0, k, 8)
  else if ahead.length = 4 then (Ch.new [] 0, k, 2)
  else if ¬ (gt l (k + 1)).k = 1 then (Ch.new [] 0, k + 1, 8)
  else if (gt l (k + 1)).s ∈ ahead.map (·.n) then (Ch.new (gt l (k + 1)).s 0, k + 1, 9)
  else match chW.findIdx? (· == wordT (gt l (k + 2))) with
    | none => (Ch.new (gt l (k + 1)).s 0, k + 2, 8)
    | some t => if ¬ (gt l (k + 3)).k = 3 then (Ch.new (gt l (k + 1)).s (t : Nat), k + 3, 8) else fieldsS l t (Ch.new (gt l (k + 1)).s (t : Nat)) [] (k + 4)
theorem ch_63 : [63] ∉ chW := by decide
noncomputable def C5 : Cfg := C4.add 55 F55
theorem ok5 : CfgOk Tryz.prog C5 := ok4.add sound55
noncomputable def F21 : List AVal → Option AVal := pureF C5 1 21
theorem sound21 : Sound Tryz.prog 21 F21 := sound_self ok5 1 21
set_option maxHeartbeats 2000000 in
theorem F21_eq {a b : AVal} {l : List T.Tok} {k : Nat} {out : List Ch} (ha : Rg 4 T.TK a l) (hb : Rg 14 CK b out) (hl : l.length ≤ 100000) (hk : k ≤ 90000) (ho : out.length ≤ 100000) :
    F21 [a, .int .i64 k, b] = some (fldV (chanS l k out)) := by
  have hpl := ha.plain
  have e31 : F31 [] = some (.slc 1 (chW.map sv)) := F31_eq
  have e53 := F53_eq (k := k) ha
  have e52 := F52_eq (t := gt l k)
  have e53a : F53 [a, .int .i64 ((k : Int) + 1)] = some (T.TK (gt l (k + 1))) := F53_eq (k := k + 1) ha
  have e53b : F53 [a, .int .i64 ((k : Int) + 2)] = some (T.TK (gt l (k + 2))) := F53_eq (k := k + 2) ha
  have e53c : F53 [a, .int .i64 ((k : Int) + 3)] = some (T.TK (gt l (k + 3))) := F53_eq (k := k + 3) ha
  have e52b := F52_eq (t := gt l (k + 2))
  have e54 := F54_eq (a := .slc 1 (chW.map sv)) (l := chW) (s := wordT (gt l (k + 2))) (Rg.slc _) (by decide)
  generalize hR : chanS l k out = R
  unfold chanS at hR
  unfold F21
  refine pureF_of (x := x21) rfl rfl ?_
  rw [x21_eq.1, x21_eq.2.1]
  by_cases h0 : wordT (gt l k) = chanW
  · have d0 : decide (¬ wordT (gt l k) = [99, 104, 97, 110, 110, 101, 108]) = false := decide_eq_false (fun h => h h0)
    rw [if_neg (fun h => h h0)] at hR
    by_cases h1 : out.length = 4
    · have d1 : decide ((out.length : Int) = 4) = true := decide_eq_true (by omega)
      rw [if_pos h1] at hR
      subst hR
      simp (disch := first | omega | simp only [*, go_sem, ↓reduceIte, dropK_eq]) only [x21b, go_sem, ↓reduceIte, dropK_eq, hb.len, callX_known (C := C5) (g := 53) rfl, ft_call (C := C5) (g := 53) rfl, callX_known (C := C5) (g := 52) rfl, ft_call (C := C5) (g := 52) rfl, e53, e52, d0, d1]
      exact Ends_plain rfl rfl
    · have d1 : decide ((out.length : Int) = 4) = false := decide_eq_false (by omega)
      rw [if_neg h1] at hR
      by_cases h2 : (gt l (k + 1)).k = 1
      · have d2 : decide (¬ (gt l (k + 1)).k = 1) = false := decide_eq_false (fun h => h h2)
        rw [if_neg (fun h => h h2)] at hR
        simp (disch := first | omega | simp only [*, go_sem, ↓reduceIte, dropK_eq]) only [x21b, go_sem, ↓reduceIte, dropK_eq, hb.len, callX_known (C := C5) (g := 53) rfl, ft_call (C := C5) (g := 53) rfl, callX_known (C := C5) (g := 52) rfl, ft_call (C := C5) (g := 52) rfl, e53, e53a, e52, d0, d1, d2]
        refine Ev_range (ti := 43) (len := out.length) (J := fun i tm hp nc => (gt l (k + 1)).s ∉ (out.take i).map (·.n) ∧ hp (21000000, 0) = some (.var (cellsOf (CK (Ch.new [] 0)))) ∧ hp (21001001, 1) = some (.var (cellsOf (CK (Ch.new (gt l (k + 1)).s 0))))) (by omega) (by simp only [go_sem, ↓reduceIte, dropK_eq]) ?_ ?_
        · simp only [go_sem, ↓reduceIte, dropK_eq, List.take_zero, List.map_nil]
          simp
        · rintro i tm hp nc hi hc k43 ⟨hj, hr, hv⟩
          have k0 := hc 0 rfl; have k1 := hc 1 rfl; have k6 := hc 6 rfl; have k9 := hc 9 rfl; have k41 := hc 41 rfl; have k42 := hc 42 rfl; simp only [go_sem, ↓reduceIte, dropK_eq] at k0 k1 k6 k9 k41 k42
          rcases Nat.lt_or_ge i out.length with hlt | hge
          · have d3 : decide ((i : Int) < (out.length : Int)) = true := decide_eq_true (by omega)
            have ib := hb.ia hlt
            by_cases h3 : out[i].n = (gt l (k + 1)).s
            · have d4 := decide_eq_true h3
              have hin : (gt l (k + 1)).s ∈ out.map (·.n) := List.mem_map.2 ⟨_, List.getElem_mem hlt, h3⟩
              rw [if_pos hin] at hR
              subst hR
              simp (disch := first | omega | simp only [*, go_sem, ↓reduceIte, dropK_eq]) only [x21l10, go_sem, ↓reduceIte, dropK_eq, k0, k1, k6, k9, k41, k42, k43, hv, hr, ib, d3, d4]
              exact Ends_plain rfl rfl
            · have d4 := decide_eq_false h3
              simp (disch := first | omega | simp only [*, go_sem, ↓reduceIte, dropK_eq]) only [x21l10, go_sem, ↓reduceIte, dropK_eq, k0, k1, k6, k9, k41, k42, k43, hv, hr, ib, d3, d4]
              refine ⟨hlt, by simp, ?_⟩
              rw [take_next hlt, List.map_append, List.mem_append]
              rintro (h | h)
              · exact hj h
              · simp at h; exact h3 h.symm
          · obtain rfl : i = out.length := by omega
            have d3 : decide ((out.length : Int) < (out.length : Int)) = false := decide_eq_false (by omega)
            rw [List.take_length] at hj
            rw [if_neg hj] at hR
            cases hf : chW.findIdx? (· == wordT (gt l (k + 2))) with
            | none =>
              rw [hf] at hR
              simp only at hR
              subst hR
              rw [show findW chW (wordT (gt l (k + 2))) = -1 by unfold findW; rw [hf]] at e54
              simp (disch := first | omega | simp only [*, go_sem, ↓reduceIte, dropK_eq]) only [x21l10, go_sem, ↓reduceIte, dropK_eq, k0, k1, k6, k9, k41, k42, k43, hv, hr, d3, callX_known (C := C5) (g := 31) rfl, ft_call (C := C5) (g := 31) rfl, callX_known (C := C5) (g := 53) rfl, ft_call (C := C5) (g := 53) rfl, callX_known (C := C5) (g := 52) rfl, ft_call (C := C5) (g := 52) rfl, callX_known (C := C5) (g := 54) rfl, ft_call (C := C5) (g := 54) rfl, e31, e53b, e52b, e54]
              exact Ends_plain rfl rfl
            | some t =>
              obtain ⟨_, ht8, _, _⟩ := word_in hf ch_63
              have ht8 : t < 8 := ht8
              rw [hf] at hR
              simp only at hR
              rw [show findW chW (wordT (gt l (k + 2))) = t by unfold findW; rw [hf]] at e54
              have dn : decide ((t : Int) < 0) = false := decide_eq_false (by omega)
              by_cases h4 : (gt l (k + 3)).k = 3
              · have d4 : decide (¬ (gt l (k + 3)).k = 3) = false := decide_eq_false (fun h => h h4)
                rw [if_neg (fun h => h h4)] at hR
                have e55 : F55 [a, .int .i64 ((k : Int) + 4), .agg [sv (gt l (k + 1)).s, .int .i64 t, .int .i64 0, .int .i64 0, .int .i64 0, .int .i64 0, .int .i64 0, .int .i64 0, .int .i64 0, .int .i64 0, .int .i64 0, .int .i64 0, .int .i64 0, .int .i64 0]] = some (fldV (fieldsS l t (Ch.new (gt l (k + 1)).s (t : Nat)) [] (k + 4))) := F55_eq (k := k + 4) (c := Ch.new (gt l (k + 1)).s (t : Nat)) (t := t) ha hl (by omega) ht8 rfl
                rw [hR] at e55
                simp (disch := first | omega | simp only [*, go_sem, ↓reduceIte, dropK_eq]) only [x21l10, go_sem, ↓reduceIte, dropK_eq, k0, k1, k6, k9, k41, k42, k43, hv, hr, d3, callX_known (C := C5) (g := 31) rfl, ft_call (C := C5) (g := 31) rfl, callX_known (C := C5) (g := 53) rfl, ft_call (C := C5) (g := 53) rfl, callX_known (C := C5) (g := 52) rfl, ft_call (C := C5) (g := 52) rfl, callX_known (C := C5) (g := 54) rfl, ft_call (C := C5) (g := 54) rfl, callX_known (C := C5) (g := 55) rfl, ft_call (C := C5) (g := 55) rfl, e31, e53b, e53c, e52b, e54, e55, dn, d4]
                exact Ends_plain rfl rfl
              · have d4 : decide (¬ (gt l (k + 3)).k = 3) = true := decide_eq_true h4
                rw [if_pos h4] at hR
                subst hR
                simp (disch := first | omega | simp only [*, go_sem, ↓reduceIte, dropK_eq]) only [x21l10, go_sem, ↓reduceIte, dropK_eq, k0, k1, k6, k9, k41, k42, k43, hv, hr, d3, callX_known (C := C5) (g := 31) rfl, ft_call (C := C5) (g := 31) rfl, callX_known (C := C5) (g := 53) rfl, ft_call (C := C5) (g := 53) rfl, callX_known (C := C5) (g := 52) rfl, ft_call (C := C5) (g := 52) rfl, callX_known (C := C5) (g := 54) rfl, ft_call (C := C5) (g := 54) rfl, e31, e53b, e53c, e52b, e54, dn, d4]
                exact Ends_plain rfl rfl
      · have d2 : decide (¬ (gt l (k + 1)).k = 1) = true := decide_eq_true h2
        rw [if_pos h2] at hR
        subst hR
        simp (disch := first | omega | simp only [*, go_sem, ↓reduceIte, dropK_eq]) only [x21b, go_sem, ↓reduceIte, dropK_eq, hb.len, callX_known (C := C5) (g := 53) rfl, ft_call (C := C5) (g := 53) rfl, callX_known (C := C5) (g := 52) rfl, ft_call (C := C5) (g := 52) rfl, e53, e53a, e52, d0, d1, d2]
        exact Ends_plain rfl rfl
  · have d0 : decide (¬ wordT (gt l k) = [99, 104, 97, 110, 110, 101, 108]) = true := decide_eq_true h0
    rw [if_pos h0] at hR
    subst hR
    simp (disch := first | omega | simp only [*, go_sem, ↓reduceIte, dropK_eq]) only [x21b, go_sem, ↓reduceIte, dropK_eq, callX_known (C := C5) (g := 53) rfl, ft_call (C := C5) (g := 53) rfl, callX_known (C := C5) (g := 52) rfl, ft_call (C := C5) (g := 52) rfl, e53, e52, d0]
    exact Ends_plain rfl rfl
end Go.Proofs.YtppehejnnjlkfaaGreatDoor
