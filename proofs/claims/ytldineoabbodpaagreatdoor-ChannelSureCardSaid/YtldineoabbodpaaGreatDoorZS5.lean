/-
  Laid together: part 5.
-/
import Derived.Test.YtldineoabbodpaaGreatDoorZS4
set_option linter.unusedVariables false
set_option linter.unusedSimpArgs false
namespace Go.Proofs.YtldineoabbodpaaGreatDoor
open Go Go.Xec
attribute [local go_sem] tm0 ne_eq not_false_eq_true List.length_append List.length_replicate List.replicate_succ List.replicate_zero Int.cast_ofNat_Int not_true_eq_false decide_true decide_false ite_self beq_self_eq_true Bool.true_beq Bool.false_beq Bool.not_true Bool.not_false
attribute [local go_sem_proc] Nat.reduceAdd Nat.reduceMul Nat.reduceSub Nat.reduceLeDiff Nat.reduceLT Nat.reduceEqDiff Int.reduceLT Int.reduceLE Int.reduceAdd Int.reduceSub Int.reduceMul Int.reduceToNat Int.reducePow Int.reduceNe Int.reduceMod Int.reduceDiv Int.reduceEq Nat.reducePow Int.reduceNeg
set_option maxRecDepth 10000
theorem getD_mem {l : List Int} {i : Nat} (hi : i < l.length) : l.getD i 0 ∈ l := by
  rw [List.getD_eq_getElem?_getD, List.getElem?_eq_getElem hi]
  exact List.getElem_mem hi
abbrev natL (l : List Int) : List Nat := l.map Int.toNat
theorem natL_mk {l : List Int} (h : ∀ m ∈ l, 0 < m ∧ m < 512) : ∀ m ∈ natL l, Mk m := by
  intro m hm
  obtain ⟨x, hx, rfl⟩ := List.mem_map.1 hm
  have := h x hx
  exact ⟨by omega, by omega⟩
def tell8 (l : List Nat) : List Int := [ruleI l 0, ruleI l 1, ruleI l 2, ruleI l 3, ruleI l 4, ruleI l 5, ruleI l 6, ruleI l 7]
abbrev z8 : List AVal := [.int .i64 0, .int .i64 0, .int .i64 0, .int .i64 0, .int .i64 0, .int .i64 0, .int .i64 0, .int .i64 0]
noncomputable def F59 : List AVal → Option AVal := pureF C18 1 59
theorem sound59 : Sound Tryz.prog 59 F59 := sound_self ok18 1 59
theorem F59_no {a : AVal} {l : List Int} (ha : Rw a l) (hl : Lg l) (h : ¬ mksOk l) : F59 [a] = some (.tup [.agg z8, .int .i64 1]) := by
  have e102 := F102_eq ha hl
  rw [decide_eq_false h] at e102
  have ap := ha.plain
  unfold F59
  refine pureF_of (x := x59) rfl rfl ?_
  rw [x59_eq.1, x59_eq.2.1]
  simp (disch := first | omega | simp only [*, go_sem, ↓reduceIte, dropK_eq]) only [x59b, go_sem, ↓reduceIte, dropK_eq, callX_known (C := C18) (g := 102) rfl, ft_call (C := C18) (g := 102) rfl, e102]
  exact Ends_plain rfl rfl
def tl8 (l : List Nat) : Nat → List AVal
  | 0 => [.int .i64 0, .int .i64 0, .int .i64 0, .int .i64 0, .int .i64 0, .int .i64 0, .int .i64 0, .int .i64 0]
  | 1 => [.int .i64 (ruleI l 0), .int .i64 0, .int .i64 0, .int .i64 0, .int .i64 0, .int .i64 0, .int .i64 0, .int .i64 0]
  | 2 => [.int .i64 (ruleI l 0), .int .i64 (ruleI l 1), .int .i64 0, .int .i64 0, .int .i64 0, .int .i64 0, .int .i64 0, .int .i64 0]
  | 3 => [.int .i64 (ruleI l 0), .int .i64 (ruleI l 1), .int .i64 (ruleI l 2), .int .i64 0, .int .i64 0, .int .i64 0, .int .i64 0, .int .i64 0]
  | 4 => [.int .i64 (ruleI l 0), .int .i64 (ruleI l 1), .int .i64 (ruleI l 2), .int .i64 (ruleI l 3), .int .i64 0, .int .i64 0, .int .i64 0, .int .i64 0]
  | 5 => [.int .i64 (ruleI l 0), .int .i64 (ruleI l 1), .int .i64 (ruleI l 2), .int .i64 (ruleI l 3), .int .i64 (ruleI l 4), .int .i64 0, .int .i64 0, .int .i64 0]
  | 6 => [.int .i64 (ruleI l 0), .int .i64 (ruleI l 1), .int .i64 (ruleI l 2), .int .i64 (ruleI l 3), .int .i64 (ruleI l 4), .int .i64 (ruleI l 5), .int .i64 0, .int .i64 0]
  | 7 => [.int .i64 (ruleI l 0), .int .i64 (ruleI l 1), .int .i64 (ruleI l 2), .int .i64 (ruleI l 3), .int .i64 (ruleI l 4), .int .i64 (ruleI l 5), .int .i64 (ruleI l 6), .int .i64 0]
  | _ => [.int .i64 (ruleI l 0), .int .i64 (ruleI l 1), .int .i64 (ruleI l 2), .int .i64 (ruleI l 3), .int .i64 (ruleI l 4), .int .i64 (ruleI l 5), .int .i64 (ruleI l 6), .int .i64 (ruleI l 7)]
theorem F59_ok {a : AVal} {l : List Int} (ha : Rw a l) (hl : Lg l) (h : mksOk l) : F59 [a] = some (.tup [.agg (i64s (tell8 (natL l))), .int .i64 0]) := by
  have e102 := F102_eq ha hl
  rw [decide_eq_true h] at e102
  have ap := ha.plain
  have hmk := natL_mk h.2
  have hln : (natL l).length = l.length := List.length_map ..
  unfold F59
  refine pureF_of (x := x59) rfl rfl ?_
  rw [x59_eq.1, x59_eq.2.1]
  simp (disch := first | omega | simp only [*, go_sem, ↓reduceIte, dropK_eq]) only [x59b, go_sem, ↓reduceIte, dropK_eq, callX_known (C := C18) (g := 102) rfl, ft_call (C := C18) (g := 102) rfl, e102, ha.len]
  refine Ev_range (ti := 19) (len := l.length) (J := fun i tm hp nc => Own [59009006] 3 hp (tm 5) (((natL l).take i).map PK) ∧ (((natL l).take i).map PK = [] → tm 5 = .nils) ∧ hp (59001000, 1) = some (.var z8) ∧ hp (59000000, 0) = some (.var z8)) (by omega) (by simp only [go_sem, ↓reduceIte, dropK_eq]) ?_ ?_
  · simp only [go_sem, ↓reduceIte, dropK_eq, List.take_zero, List.map_nil]
    exact ⟨Own.nils _ _ _, fun _ => trivial⟩
  rintro i tm hp nc hi hc k19 ⟨ho, h0, kz, kr⟩
  have k2 := hc 2 rfl; have k3 := hc 3 rfl; have k4 := hc 4 rfl; have k17 := hc 17 rfl; have k18 := hc 18 rfl; simp only [go_sem, ↓reduceIte, dropK_eq] at k2 k3 k4 k17 k18
  rcases Nat.lt_or_ge i l.length with hlt | hge
  · have d1 : decide ((i : Int) < (l.length : Int)) = true := decide_eq_true (by omega)
    have ia := ha.ia hlt
    have hlt' : i < (natL l).length := by rw [hln]; exact hlt
    have hmi := hmk _ (List.getElem_mem hlt')
    have hmm := getD_mem hlt
    have em : l.getD i 0 = (((natL l)[i] : Nat) : Int) := by
      have hx := h.2 _ hmm
      rw [List.getElem_map]
      have e2 : l.getD i 0 = l[i] := by rw [List.getD_eq_getElem?_getD, List.getElem?_eq_getElem hlt]; rfl
      rw [← e2]
      omega
    rw [em] at ia
    have e103 := F103_eq hmi
    obtain ⟨V, H, hA, hO⟩ := ho.push (s0 := 59009006) (s1 := 59009005) (z := PK (natL l)[i]) (bytes := 24) (by simp) (by simp) (PK_plain _ _) (PK_sc _) (by rw [List.length_map, List.length_take]; omega)
    rw [take_next hlt', List.map_append]
    generalize (natL l)[i] = m at *
    simp (disch := first | omega | simp only [*, go_sem, ↓reduceIte, dropK_eq]) only [x59l6, go_sem, ↓reduceIte, dropK_eq, k17, k18, k19, d1, ia, callX_known (C := C18) (g := 103) rfl, ft_call (C := C18) (g := 103) rfl, e103, hA]
    refine ⟨hlt, by simp, (hO _ _).1, fun h => ?_, ?_, ?_⟩
    · simp at h
    · rw [(hO _ _).2 _ (by decide) (by decide)]; exact kz
    · rw [(hO _ _).2 _ (by decide) (by decide)]; exact kr
  · obtain rfl : i = l.length := by omega
    have d1 : decide ((l.length : Int) < (l.length : Int)) = false := decide_eq_false (by omega)
    rw [show (natL l).take l.length = natL l from List.take_of_length_le (by rw [hln]; exact Nat.le_refl _)] at ho h0
    obtain ⟨ks, hks, hlx⟩ := ho.lendXs h0 63 (plainL_map 63 (fun x => PK_plain 62 x) _)
    have hr : Rg 3 PK (rowN 3 ((natL l).map PK)) (natL l) := rowN_rg _
    have hl15 : (natL l).length ≤ 15 := by rw [hln]; exact h.1
    have e141 := F141_eq hr hl15 hmk
    have e142 := F142_eq hr hl15 hmk
    have e143 := F143_eq hr hl15 hmk
    have e144 := F144_eq hr hl15 hmk
    have e145 := F145_eq hr hl15 hmk
    have e146 := F146_eq hr hl15 hmk
    have e147 := F147_eq hr hl15 hmk
    have e148 := F148_eq hr hl15 hmk
    have e104 := F104_eq
    generalize hrow : rowN 3 ((natL l).map PK) = row at *
    simp (disch := first | omega | simp only [*, go_sem, ↓reduceIte, dropK_eq]) only [x59l6, go_sem, ↓reduceIte, dropK_eq, k2, k3, k4, k17, k18, k19, d1, callX_known (C := C18) (g := 104) rfl, ft_call (C := C18) (g := 104) rfl, e104]
    refine Ev_range (ti := 38) (len := 8) (J := fun i tm hp' nc => hp' (59001000, 1) = some (.var (tl8 (natL l) i)) ∧ hp' (59000000, 0) = some (.var z8) ∧ ∀ k, k.1 ∈ [59009006] → hp' k = hp k) (by decide) (by simp only [go_sem, ↓reduceIte, dropK_eq]) ?_ ?_
    · simp only [go_sem, ↓reduceIte, dropK_eq, kz, kr]
      exact ⟨rfl, fun _ _ => trivial⟩
    clear hc
    rintro j tm' hp' nc' hj hc k38 ⟨kz, kr, ko⟩
    have q2 := hc 2 rfl; have q3 := hc 3 rfl; have q4 := hc 4 rfl; have q5 := hc 5 rfl; have q37 := hc 37 rfl; simp only [go_sem, ↓reduceIte, dropK_eq] at q2 q3 q4 q5 q37
    have hlv := hlx hp' ko
    rcases Nat.lt_or_ge j 8 with h8 | h8
    · rcases (show j = 0 ∨ j = 1 ∨ j = 2 ∨ j = 3 ∨ j = 4 ∨ j = 5 ∨ j = 6 ∨ j = 7 by omega) with rfl | rfl | rfl | rfl | rfl | rfl | rfl | rfl
      ·
        simp (disch := first | omega | simp only [*, go_sem, ↓reduceIte, dropK_eq]) only [x59l13, go_sem, ↓reduceIte, dropK_eq, k38, q2, q4, q5, q37, k2, k4, kz, kr, tl8, ruleFs, hlv, callX_names (C := C18) (g := 141) rfl, e141]
        intro k hk
        rw [if_neg (by rintro rfl; simp at hk)]
        exact ko k hk
      ·
        simp (disch := first | omega | simp only [*, go_sem, ↓reduceIte, dropK_eq]) only [x59l13, go_sem, ↓reduceIte, dropK_eq, k38, q2, q4, q5, q37, k2, k4, kz, kr, tl8, ruleFs, hlv, callX_names (C := C18) (g := 142) rfl, e142]
        intro k hk
        rw [if_neg (by rintro rfl; simp at hk)]
        exact ko k hk
      ·
        simp (disch := first | omega | simp only [*, go_sem, ↓reduceIte, dropK_eq]) only [x59l13, go_sem, ↓reduceIte, dropK_eq, k38, q2, q4, q5, q37, k2, k4, kz, kr, tl8, ruleFs, hlv, callX_names (C := C18) (g := 143) rfl, e143]
        intro k hk
        rw [if_neg (by rintro rfl; simp at hk)]
        exact ko k hk
      ·
        simp (disch := first | omega | simp only [*, go_sem, ↓reduceIte, dropK_eq]) only [x59l13, go_sem, ↓reduceIte, dropK_eq, k38, q2, q4, q5, q37, k2, k4, kz, kr, tl8, ruleFs, hlv, callX_names (C := C18) (g := 144) rfl, e144]
        intro k hk
        rw [if_neg (by rintro rfl; simp at hk)]
        exact ko k hk
      ·
        simp (disch := first | omega | simp only [*, go_sem, ↓reduceIte, dropK_eq]) only [x59l13, go_sem, ↓reduceIte, dropK_eq, k38, q2, q4, q5, q37, k2, k4, kz, kr, tl8, ruleFs, hlv, callX_names (C := C18) (g := 145) rfl, e145]
        intro k hk
        rw [if_neg (by rintro rfl; simp at hk)]
        exact ko k hk
      ·
        simp (disch := first | omega | simp only [*, go_sem, ↓reduceIte, dropK_eq]) only [x59l13, go_sem, ↓reduceIte, dropK_eq, k38, q2, q4, q5, q37, k2, k4, kz, kr, tl8, ruleFs, hlv, callX_names (C := C18) (g := 146) rfl, e146]
        intro k hk
        rw [if_neg (by rintro rfl; simp at hk)]
        exact ko k hk
      ·
        simp (disch := first | omega | simp only [*, go_sem, ↓reduceIte, dropK_eq]) only [x59l13, go_sem, ↓reduceIte, dropK_eq, k38, q2, q4, q5, q37, k2, k4, kz, kr, tl8, ruleFs, hlv, callX_names (C := C18) (g := 147) rfl, e147]
        intro k hk
        rw [if_neg (by rintro rfl; simp at hk)]
        exact ko k hk
      ·
        simp (disch := first | omega | simp only [*, go_sem, ↓reduceIte, dropK_eq]) only [x59l13, go_sem, ↓reduceIte, dropK_eq, k38, q2, q4, q5, q37, k2, k4, kz, kr, tl8, ruleFs, hlv, callX_names (C := C18) (g := 148) rfl, e148]
        intro k hk
        rw [if_neg (by rintro rfl; simp at hk)]
        exact ko k hk
    · obtain rfl : j = 8 := by omega
      simp (disch := first | omega | simp only [*, go_sem, ↓reduceIte, dropK_eq]) only [x59l13, go_sem, ↓reduceIte, dropK_eq, k38, q2, q4, q5, q37, k2, k3, k4, q3, kz, kr, tl8]
      exact Ends_plain rfl rfl
def isIK : AVal → Bool
  | .int .i64 _ => true
  | _ => false
theorem isIK_all (l : List Int) : (i64s l).all isIK = true := by rw [List.all_eq_true]; intro x hx; obtain ⟨e, _, rfl⟩ := List.mem_map.1 hx; rfl
theorem isIK_inv : ∀ (xs : List AVal), xs.all isIK = true → ∃ l : List Int, xs = i64s l
  | [], _ => ⟨[], rfl⟩
  | x :: xs, h => by
    simp only [List.all_cons, Bool.and_eq_true] at h
    obtain ⟨l, rfl⟩ := isIK_inv xs h.2
    have h1 := h.1
    unfold isIK at h1
    split at h1
    · exact ⟨_ :: l, rfl⟩
    · cases h1
def clI : List AVal → Option (Option (Nat × List AVal))
  | [.nils] => some none
  | [.emp] => some (some (1, []))
  | [.slc 1 xs] => if xs.all isIK = true ∧ xs.length ≤ 100000 then some (some (1, xs)) else none
  | _ => none
theorem clI_nil : clI [.nils] = some none := rfl
theorem clI_row {a : AVal} {l : List Int} (ha : Rw a l) (h0 : a ≠ .nils) (hl : l.length ≤ 100000) : clI [a] = some (some (1, i64s l)) := by
  rcases ha with ⟨rfl, rfl⟩ | ⟨rfl, rfl⟩ | rfl
  · exact absurd rfl h0
  · rfl
  · simp only [clI]
    rw [if_pos ⟨isIK_all l, by simpa using hl⟩]
theorem clone237 {a : AVal} {l : List Int} (ha : Rw a l) (h0 : a ≠ .nils) (hl : l.length ≤ 100000) : Bd (inlD C18 1 237 [a] (fun _ => none) 0) fun q => ∃ k g, q.1 = .sl k g 1 0 (i64s l).length ∧ q.2.1 k = some (.row g 1 (i64s l)) := by
  refine inl_of (x := x237) rfl rfl ?_
  rw [x237_eq.1, x237_eq.2.1]
  have hn : nilA 0 a = some false := by
    rcases ha with ⟨rfl, rfl⟩ | ⟨rfl, rfl⟩ | rfl
    · exact absurd rfl h0
    · rfl
    · rfl
  have hel : ∀ hp, elemsA 1 a hp = some (i64s l) := fun hp => ha.elems
  have hpl : ∀ d, plainL (d + 1) (i64s l) = true := fun d => plainL_ints _ _ _
  have hsc : ((i64s l).all fun e => (cellsOf e).all isSc) = true := by
    rw [List.all_map, List.all_eq_true]; intro x _; rfl
  have hlen : (i64s l).length = l.length := List.length_map ..
  have ht : (0 + (i64s l).length) * 8 ≤ 140737488355328 := by rw [hlen]; omega
  have hap : ∀ (key : Key) (hp : Heap) (k : Key), hp k = some (.row 0 1 []) → appA 1 8 key (.sl k 0 1 0 0) a hp = some (.sl k 1 1 0 (i64s l).length, upd hp k (some (.row 1 1 (i64s l)))) := by
    intro key hp k hk
    rw [appA_sl, hel, Option.bind_some, lendA_plain (hpl 63), Option.bind_some]
    rw [if_pos (by simp), hk, Option.bind_some, grown_row, if_pos ⟨by simp, ht, hsc⟩]
    simp only [List.map_nil, List.nil_append, applyW, List.drop_zero, Nat.zero_add]
  simp (disch := first | omega | simp only [go_sem, ↓reduceIte, dropK_eq]) only [x237b, go_sem, ↓reduceIte, dropK_eq, hn, hap]
  exact ⟨_, _, rfl, by simp only [go_sem, ↓reduceIte, dropK_eq]⟩
theorem soundN237 : SoundN Tryz.prog 237 clI := by
  refine soundN_of ok18 1 ?_
  intro ys r hr
  have main : ∀ (a : AVal) (l : List Int), Rw a l → a ≠ .nils → l.length ≤ 100000 → ∃ v h nc, inlD C18 1 237 [a] (fun _ => none) 0 = some (v, h, nc) ∧ ∃ k g, v = .sl k g 1 0 (i64s l).length ∧ h k = some (.row g 1 (i64s l)) := by
    intro a l ha h0 hl
    have h := clone237 ha h0 hl
    unfold Bd at h
    obtain ⟨⟨v, hp, nc⟩, e, k, g, h1, h2⟩ := h
    exact ⟨v, hp, nc, e, k, g, h1, h2⟩
  unfold clI at hr
  split at hr
  · cases hr
    have : Bd (inlD C18 1 237 [.nils] (fun _ => none) 0) fun q => q.1 = .nils := by
      refine inl_of (x := x237) rfl rfl ?_
      rw [x237_eq.1, x237_eq.2.1]
      simp (disch := first | omega | simp only [go_sem, ↓reduceIte, dropK_eq]) only [x237b, go_sem, ↓reduceIte, dropK_eq]
    unfold Bd at this
    obtain ⟨⟨v, hp, nc⟩, e, rfl⟩ := this
    exact ⟨_, hp, nc, e, rfl⟩
  · cases hr
    simp only [show ¬ (1 : Nat) = 0 by decide, if_false]
    exact main .emp [] (.inr (.inl ⟨rfl, rfl⟩)) (by intro h; cases h) (by simp)
  · split at hr
    · rename_i xs hc
      cases hr
      obtain ⟨l, rfl⟩ := isIK_inv xs hc.1
      have := main (.slc 1 (i64s l)) l (Rw.slc l) (by intro h; cases h) (by simpa using hc.2)
      simp only [show ¬ (1 : Nat) = 0 by decide, if_false]
      exact this
    · cases hr
  · cases hr
set_option maxRecDepth 10000
noncomputable def C19 : Cfg := (C18.add 59 F59).addN 237 clI
theorem ok19 : CfgOk Tryz.prog C19 := (ok18.add sound59).addN soundN237
noncomputable def F225 : List AVal → Option AVal := pureF C19 1 225
theorem sound225 : Sound Tryz.prog 225 F225 := sound_self ok19 1 225
def pushL (l : List Int) (m : Int) : List Int := (l ++ [m]).drop (l.length - 14)
theorem F225_ok {a : AVal} {l : List Int} {m : Int} (ha : Rw a l) (h : mksOk l) (hm : 0 < m ∧ m < 512) : F225 [a, .int .i64 m] = some (.tup [.slc 1 (i64s (pushL l m)), .int .i64 0]) := by
  have hl : Lg l := by have := h.1; simp only [Lg]; omega
  have hl15 := h.1
  have e102 := F102_eq ha hl
  rw [decide_eq_true h] at e102
  have e102' := F102_eq (a := .slc 1 [.int .i64 m]) (l := [m]) (Rw.slc [m]) (by simp)
  rw [decide_eq_true ⟨by simp, by simpa using hm⟩] at e102'
  have ap := ha.plain
  have hlen : (i64s l).length = l.length := List.length_map ..
  have hpl : plainL 64 (i64s l) = true := plainL_ints _ _ _
  have hrf : hasRefL (i64s l) = false := by
    clear hl hl15 e102 e102' ap hlen hpl ha h
    induction l with
    | nil => rfl
    | cons x l ih => simp only [i64s, List.map_cons, hasRefL_cons, hasRef_int, Bool.false_or] at ih ⊢; exact ih
  have hend : ∀ (n : Nat) (hp : Heap) k g, n = l.length - 14 → hp k = some (.row g 1 (i64s l ++ [.int .i64 m])) → lendV 63 (.sl k g 1 n (l.length + 1 - n)) hp = some (.slc 1 (i64s (pushL l m))) := by
    intro n hp k g hn hk
    subst hn
    rw [lendV_sl, hk, Option.bind_some, els_row, if_pos (by simp only [List.length_append, hlen, List.length_cons, List.length_nil]; omega), Option.bind_some]
    rw [show i64s l ++ [AVal.int .i64 m] = i64s (l ++ [m]) by simp only [i64s, List.map_append, List.map_cons, List.map_nil]]
    rw [← List.map_drop, List.take_of_length_le (by simp only [List.length_map, List.length_drop, List.length_append, List.length_cons, List.length_nil]; omega)]
    rw [lendVL_plain (plainL_ints _ _ _)]
    rfl
  by_cases hz : a = .nils
  · subst hz
    have hl0 : l = [] := by
      rcases ha with ⟨_, h⟩ | ⟨h, _⟩ | h
      · exact h
      · cases h
      · cases h
    subst hl0
    clear hpl hrf hlen hl hl15 h
    unfold F225
    refine pureF_of (x := x225) rfl rfl ?_
    rw [x225_eq.1, x225_eq.2.1]
    simp (disch := first | omega | simp only [go_sem, ↓reduceIte, dropK_eq]) only [x225b, go_sem, ↓reduceIte, dropK_eq, callX_names (C := C19) (g := 102) rfl, ftC_names (C := C19) (g := 102) rfl, e102, e102', op_callN (C := C19) (g := 237) rfl, clI_nil, show mnxA true (.int .i64 0) [.int .i64 (-14)] = some (.int .i64 0) from rfl, show slVA 1 (.sl (225003004, 2) 0 1 0 1) (some (.int .i64 0)) none none = some (.sl (225003004, 2) 0 1 0 1) from rfl]
    rw [Ends_eq]
    simp (disch := first | omega | simp only [go_sem, ↓reduceIte, dropK_eq]) only [go_sem, ↓reduceIte, dropK_eq]
    rfl
  · have hcl := clI_row ha hz (by omega)
    have hap : ∀ (key : Key) (hp : Heap) (k k' : Key), hp k = some (.row 0 1 (i64s l)) → hp k' = some (.row 0 1 [.int .i64 m]) → appA 1 8 key (.sl k 0 1 0 l.length) (.sl k' 0 1 0 1) hp = some (.sl k 1 1 0 (l.length + 1), upd hp k (some (.row 1 1 (i64s l ++ [.int .i64 m])))) := by
      intro key hp k k' hk hk'
      have hpm : plainL Xec.freeze [AVal.int .i64 m] = true := by simp only [plainL_cons, plainL_nil, plain_int]; rfl
      rw [appA_sl, elemsA_sl, hk', Option.bind_some, els_row, if_pos (by simp), Option.bind_some]
      simp only [List.drop_zero, List.take_succ_cons, List.take_zero]
      rw [lendA_plain hpm, Option.bind_some, if_pos (by simp), hk, Option.bind_some, grown_row, if_pos ⟨by simp only [hlen]; omega, by simp only [List.length_cons, List.length_nil]; omega, by simp only [List.all_cons, List.all_nil, cellsOf_int, isSc_int, Bool.and_self]⟩]
      simp only [List.map_nil, List.nil_append, applyW, List.drop_zero, List.length_cons, List.length_nil]
    have hmx : mnxA true (.int .i64 0) [.int .i64 ((l.length : Int) + 1 - 15)] = some (.int .i64 ((l.length - 14 : Nat) : Int)) := by
      simp only [mnxA, if_true]
      refine congrArg (fun z => some (AVal.int .i64 z)) ?_
      split <;> omega
    have hsl : ∀ k g, slVA 1 (.sl k g 1 0 (l.length + 1)) (some (.int .i64 ((l.length - 14 : Nat) : Int))) none none = some (.sl k g 1 (l.length - 14) (l.length + 1 - (l.length - 14))) := by
      intro k g
      simp only [slVA, bnd, Int.toNat_natCast]
      simp only [Int.natCast_nonneg, if_true, true_and]
      rw [if_pos (by omega)]
      simp only [Nat.zero_add]
    have wl : ((l.length + 1 : Nat) : Int) = (l.length : Int) + 1 := by omega
    clear h hl
    unfold F225
    refine pureF_of (x := x225) rfl rfl ?_
    rw [x225_eq.1, x225_eq.2.1]
    simp (disch := first | omega | simp only [ap, go_sem, ↓reduceIte, dropK_eq]) only [x225b, go_sem, ↓reduceIte, dropK_eq, callX_names (C := C19) (g := 102) rfl, ftC_names (C := C19) (g := 102) rfl, e102, e102', op_callN (C := C19) (g := 237) rfl, hcl, hrf, hlen, hap, wl, hmx, hsl]
    rw [Ends_eq, show (64 : Nat) = 63 + 1 from rfl, lendV_tup, lendVL_cons, hend _ _ _ _ rfl (upd_same _ _ _)]
    simp only [go_sem, ↓reduceIte, dropK_eq]
set_option maxRecDepth 10000
noncomputable def F247 : List AVal → Option AVal := pureF C3 1 247
theorem sound247 : Sound Tryz.prog 247 F247 := sound_self ok3 1 247
theorem F247_eq {x : Int} (h : -9223372036854775808 ≤ x ∧ x ≤ 9223372036854775807) : F247 [.int .i64 x] = some (.int .u64 (x.natAbs : Int)) := by
  unfold F247
  refine pureF_of (x := x247) rfl rfl ?_
  rw [x247_eq.1, x247_eq.2.1]
  by_cases hx : x < 0
  · have d := decide_eq_true hx
    simp (disch := first | omega | simp only [go_sem, ↓reduceIte, dropK_eq]) only [x247b, go_sem, ↓reduceIte, dropK_eq, d]
    refine Ends_plain rfl ?_
    congr 1
    omega
  · have d := decide_eq_false hx
    simp (disch := first | omega | simp only [go_sem, ↓reduceIte, dropK_eq]) only [x247b, go_sem, ↓reduceIte, dropK_eq, d]
    refine Ends_plain rfl ?_
    congr 1
    omega
noncomputable def F258 : List AVal → Option AVal := pureF C3 1 258
theorem sound258 : Sound Tryz.prog 258 F258 := sound_self ok3 1 258
theorem F258_low {l y : Int} (hl : U l) (hy : 0 < y) (hy2 : y < 18446744073709551616) : F258 [.int .u64 0, .int .u64 l, .int .u64 y] = some (.tup [.int .u64 (l / y), .int .u64 (l % y)]) := by
  have d1 : decide (y = 0) = false := decide_eq_false (by omega)
  have d2 : decide (y ≤ 0) = false := decide_eq_false (by omega)
  have hq : l.tdiv y = l / y := Int.tdiv_eq_ediv_of_nonneg hl.1
  have hr : l.tmod y = l % y := Int.tmod_eq_emod_of_nonneg hl.1
  have hb : l / y ≤ l := Int.ediv_le_self y hl.1
  have hb0 : 0 ≤ l / y := Int.ediv_nonneg hl.1 (by omega)
  have w1 : l / y % 18446744073709551616 = l / y := by have := hl.2; omega
  have hy0 : y ≠ 0 := by omega
  unfold F258
  refine pureF_of (x := x258) rfl rfl ?_
  rw [x258_eq.1, x258_eq.2.1]
  simp (disch := first | omega | simp only [*, go_sem, ↓reduceIte, dropK_eq]) only [x258b, go_sem, ↓reduceIte, dropK_eq, d1, d2, hq, hr, w1]
  exact Ends_plain rfl rfl
noncomputable def C20 : Cfg := (C3.add 247 F247).add 258 F258
theorem ok20 : CfgOk Tryz.prog C20 := (ok3.add sound247).add sound258
noncomputable def F248 : List AVal → Option AVal := pureF C20 1 248
theorem sound248 : Sound Tryz.prog 248 F248 := sound_self ok20 1 248
theorem F248_low {l y : Int} (hl : U l) (hy : 0 < y) (hy2 : y < 18446744073709551616) : F248 [W 0 l, W 0 y] = some (.tup [W 0 (l / y), W 0 (l % y), .int .i64 0]) := by
  have e1 := F258_low (l := 0) (by decide) hy hy2
  have e2 := F258_low hl hy hy2
  have d1 : decide (y = 0) = false := decide_eq_false (by omega)
  rw [Int.zero_ediv, Int.zero_emod] at e1
  unfold F248
  refine pureF_of (x := x248) rfl rfl ?_
  rw [x248_eq.1, x248_eq.2.1]
  simp (disch := first | omega | simp only [*, go_sem, ↓reduceIte, dropK_eq]) only [x248b, go_sem, ↓reduceIte, dropK_eq, callX_known (C := C20) (g := 258) rfl, ft_call (C := C20) (g := 258) rfl, d1, e1, e2]
  exact Ends_plain rfl rfl
noncomputable def F249 : List AVal → Option AVal := pureF C3 1 249
theorem sound249 : Sound Tryz.prog 249 F249 := sound_self ok3 1 249
theorem F249_eq {l : Int} {b : Bool} (h : 0 ≤ l ∧ l ≤ 9223372036854775807) : F249 [W 0 l, .bool b] = some (.int .i64 (if b = true then -l else l)) := by
  have d1 : decide (9223372036854775808 < l) = false := decide_eq_false (by omega)
  have d2 : decide (9223372036854775807 < l) = false := decide_eq_false (by omega)
  have w1 : IntKind.i64.wrap l = l := wrap_i64 (by omega) (by omega)
  have w2 : IntKind.i64.wrap ((0 - l) % 18446744073709551616) = -l := by
    by_cases h0 : l = 0
    · subst h0; rfl
    · rw [show (0 - l) % 18446744073709551616 = 18446744073709551616 - l by omega]
      simp only [IntKind.wrap, IntKind.signed, IntKind.bits]
      simp
      omega
  unfold F249
  refine pureF_of (x := x249) rfl rfl ?_
  rw [x249_eq.1, x249_eq.2.1]
  cases b <;>
  · simp (disch := first | omega | simp only [*, go_sem, ↓reduceIte, dropK_eq]) only [x249b, go_sem, ↓reduceIte, dropK_eq, d1, d2, w1, w2]
    exact Ends_plain rfl rfl
abbrev LV (q r c : Int) (b : Bool) : AVal := .agg [.int .u64 0, .int .u64 q, .int .u64 0, .int .u64 r, .int .u64 0, .int .u64 c, .bool b]
noncomputable def F253 : List AVal → Option AVal := pureF C3 1 253
theorem sound253 : Sound Tryz.prog 253 F253 := sound_self ok3 1 253
theorem F253_eq {q r c : Int} {b : Bool} : F253 [LV q r c b] = some (.bool (b && !decide (r = 0))) := by
  unfold F253
  refine pureF_of (x := x253) rfl rfl ?_
  rw [x253_eq.1, x253_eq.2.1]
  cases b <;>
  · simp (disch := first | omega | simp only [*, go_sem, ↓reduceIte, dropK_eq]) only [x253b, go_sem, ↓reduceIte, dropK_eq]
    exact Ends_plain rfl rfl
noncomputable def F254 : List AVal → Option AVal := pureF C3 1 254
theorem sound254 : Sound Tryz.prog 254 F254 := sound_self ok3 1 254
theorem F254_eq {q r c : Int} {b : Bool} : F254 [LV q r c b] = some (.bool (!b && !decide (r = 0))) := by
  unfold F254
  refine pureF_of (x := x254) rfl rfl ?_
  rw [x254_eq.1, x254_eq.2.1]
  cases b <;>
  · simp (disch := first | omega | simp only [*, go_sem, ↓reduceIte, dropK_eq]) only [x254b, go_sem, ↓reduceIte, dropK_eq]
    exact Ends_plain rfl rfl
noncomputable def F244 : List AVal → Option AVal := pureF C3 1 244
theorem sound244 : Sound Tryz.prog 244 F244 := sound_self ok3 1 244
def mdFs : List AVal := [.fn (.func 253) [] [], .fn (.func 254) [] [], .fn (.func 255) [] []]
theorem F244_eq : F244 [] = some (.agg mdFs) := by
  unfold F244
  refine pureF_of (x := x244) rfl rfl ?_
  rw [x244_eq.1, x244_eq.2.1]
  simp (disch := first | omega | simp only [go_sem, ↓reduceIte, dropK_eq]) only [x244b, go_sem, ↓reduceIte, dropK_eq]
  rw [Ends_eq]
  simp (disch := first | omega | simp only [go_sem, ↓reduceIte, dropK_eq]) only [go_sem, ↓reduceIte, dropK_eq]
  rfl
noncomputable def C21 : Cfg := (((((C20.add 248 F248).add 249 F249).add 253 F253).add 254 F254).add 244 F244)
theorem ok21 : CfgOk Tryz.prog C21 := (((((ok20.add sound248).add sound249).add sound253).add sound254).add sound244)
def rnd (n c m : Int) : Int := if m = 0 then n / c else -((-n) / c)
noncomputable def F246 : List AVal → Option AVal := pureF C21 1 246
theorem sound246 : Sound Tryz.prog 246 F246 := sound_self ok21 1 246
theorem neg_pos_div {p c : Int} (hc : 0 < c) (hp : 0 ≤ p) : (-p) / c = -(p / c) - (if p % c = 0 then 0 else 1) := by
  have h1 := Int.emod_add_mul_ediv p c
  have h2 := Int.emod_nonneg p (by omega : c ≠ 0)
  have h3 := Int.emod_lt_of_pos p hc
  by_cases h : p % c = 0
  · rw [if_pos h, Int.neg_ediv_of_dvd (Int.dvd_of_emod_eq_zero h)]
    omega
  · rw [if_neg h]
    have e : c * (-(p / c) - 1) = -(c * (p / c)) - c := by rw [Int.mul_sub, Int.mul_neg]; omega
    exact ((Int.ediv_emod_unique (r := c - p % c) hc).2 ⟨by omega, by omega, by omega⟩).1
theorem rnd_eq {p c : Int} {s : Bool} (hc : 0 < c) (hp : 0 ≤ p) :
    rnd (if s = true then -p else p) c 0 = (if s = true then -(p / c + (if (s && !decide (p % c = 0)) = true then 1 else 0)) else p / c + (if (s && !decide (p % c = 0)) = true then 1 else 0)) ∧
    rnd (if s = true then -p else p) c 1 = (if s = true then -(p / c + (if (!s && !decide (p % c = 0)) = true then 1 else 0)) else p / c + (if (!s && !decide (p % c = 0)) = true then 1 else 0)) := by
  have h := neg_pos_div hc hp
  unfold rnd
  cases s
  · simp only [Bool.false_eq_true, if_false, if_true, Bool.false_and, Bool.not_false, Bool.true_and]
    refine ⟨by omega, ?_⟩
    rw [if_neg (by decide), h]
    by_cases h0 : p % c = 0
    · simp [h0]
    · simp [h0]; omega
  · simp only [if_true, Bool.true_and, Bool.not_true, Bool.false_and, Bool.false_eq_true, if_false, Int.neg_neg]
    refine ⟨?_, ?_⟩
    · rw [h]
      by_cases h0 : p % c = 0
      · simp [h0]
      · simp [h0]; omega
    · rw [if_neg (by decide)]; omega
theorem sgn_eq {a b : Int} (ha : ¬ a = 0) (hb : ¬ b = 0) : a * b = (if (decide (a < 0) != decide (b < 0)) = true then -((a.natAbs : Int) * (b.natAbs : Int)) else (a.natAbs : Int) * (b.natAbs : Int)) := by
  rcases Int.lt_or_gt_of_ne ha with h1 | h1 <;> rcases Int.lt_or_gt_of_ne hb with h2 | h2
  · have e1 : ((a.natAbs : Int)) = -a := by omega
    have e2 : ((b.natAbs : Int)) = -b := by omega
    rw [e1, e2, Int.neg_mul_neg]; simp [h1, h2]
  · have e1 : ((a.natAbs : Int)) = -a := by omega
    have e2 : ((b.natAbs : Int)) = b := by omega
    have h3 : ¬ b < 0 := by omega
    rw [e1, e2, Int.neg_mul, Int.neg_neg]; simp [h1, h3]
  · have e1 : ((a.natAbs : Int)) = a := by omega
    have e2 : ((b.natAbs : Int)) = -b := by omega
    have h3 : ¬ a < 0 := by omega
    rw [e1, e2, Int.mul_neg, Int.neg_neg]; simp [h3, h2]
  · have e1 : ((a.natAbs : Int)) = a := by omega
    have e2 : ((b.natAbs : Int)) = b := by omega
    have h3 : ¬ a < 0 := by omega
    have h4 : ¬ b < 0 := by omega
    rw [e1, e2]; simp [h3, h4]
theorem rnd_zero (c m : Int) : rnd 0 c m = 0 := by
  unfold rnd; split <;> simp
theorem F246_eq {a b c m : Int} (hc : 0 < c) (hc2 : c < 9223372036854775808) (ha : -9223372036854775808 ≤ a ∧ a ≤ 9223372036854775807) (hb : -9223372036854775808 ≤ b ∧ b ≤ 9223372036854775807)
    (hab : (a.natAbs : Int) * (b.natAbs : Int) ≤ 9223372036854775806) (hm : m = 0 ∨ m = 1) :
    F246 [.pvo [.int .i64 c] 0, .pvo [.int .i64 a] 0, .pvo [.int .i64 b] 0, .pvo mdFs 0, .pvo [.int .i64 m] 0] = some (.int .i64 (rnd (a * b) c m)) := by
  have e1 := F247_eq (x := c) (by omega)
  have e2 := F247_eq ha
  have e3 := F247_eq hb
  rw [show ((c.natAbs : Nat) : Int) = c by omega] at e1
  have hA : U (a.natAbs : Int) := by simp only [U]; omega
  have hB : U (b.natAbs : Int) := by simp only [U]; omega
  have e4 := F55_eq hA hB
  have hp0 : 0 ≤ (a.natAbs : Int) * (b.natAbs : Int) := Int.mul_nonneg hA.1 hB.1
  have hcn : decide (c < 0) = false := decide_eq_false (by omega)
  have hz : a = 0 ∨ b = 0 ∨ (¬ a = 0 ∧ ¬ b = 0) := by omega
  have hsg := fun h1 h2 => sgn_eq (a := a) (b := b) h1 h2
  have hz0 : a = 0 ∨ b = 0 → a * b = 0 := by rintro (rfl | rfl) <;> simp
  generalize a * b = n at *
  generalize (a.natAbs : Int) * (b.natAbs : Int) = p at *
  have e5 := F248_low (l := p) (y := c) (by simp only [U]; omega) hc (by omega)
  have hq : p / c ≤ p := Int.ediv_le_self c hp0
  have hq0 : 0 ≤ p / c := Int.ediv_nonneg hp0 (by omega)
  simp only [enc] at e4
  rw [show p / 18446744073709551616 = 0 by omega, show p % 18446744073709551616 = p by omega] at e4
  have hrn := fun s => rnd_eq (p := p) (c := c) (s := s) hc hp0
  have e243 := F243_eq (ah := 0) (al := p / c) (bh := 0) (bl := 1) (by decide) (by simp only [U]; omega) (by decide) (by decide)
  have hv : (val 0 (p / c) + val 0 1) % big = p / c + 1 := by simp only [val, big]; omega
  rw [hv] at e243
  simp only [enc] at e243
  rw [show (p / c + 1) / 18446744073709551616 = 0 by omega, show (p / c + 1) % 18446744073709551616 = p / c + 1 by omega] at e243
  have e249a : ∀ s : Bool, F249 [W 0 (p / c), .bool s] = some (.int .i64 (if s = true then -(p / c) else p / c)) := fun s => F249_eq ⟨by omega, by omega⟩
  have e249b : ∀ s : Bool, F249 [W 0 (p / c + 1), .bool s] = some (.int .i64 (if s = true then -(p / c + 1) else p / c + 1)) := fun s => F249_eq ⟨by omega, by omega⟩
  rcases hz with h | h | ⟨h1, h2⟩
  · have d1 : decide (a = 0) = true := decide_eq_true h
    rw [hz0 (.inl h), rnd_zero]
    unfold F246
    refine pureF_of (x := x246) rfl rfl ?_
    rw [x246_eq.1, x246_eq.2.1]
    clear hrn hsg hz0 h e243 e249a e249b
    generalize decide (a < 0) = s1
    generalize decide (b < 0) = s2
    simp (disch := first | omega | simp only [*, go_sem, ↓reduceIte, dropK_eq]) only [x246b, go_sem, ↓reduceIte, dropK_eq, callX_known (C := C21) (g := 247) rfl, ft_call (C := C21) (g := 247) rfl, callX_known (C := C21) (g := 55) rfl, ft_call (C := C21) (g := 55) rfl, callX_known (C := C21) (g := 248) rfl, ft_call (C := C21) (g := 248) rfl, e1, e2, e3, e4, e5, d1, hcn, ft_mkf]
    exact Ends_plain rfl rfl
  · have d2 : decide (b = 0) = true := decide_eq_true h
    rw [hz0 (.inr h), rnd_zero]
    unfold F246
    refine pureF_of (x := x246) rfl rfl ?_
    rw [x246_eq.1, x246_eq.2.1]
    clear hrn hsg hz0 h e243 e249a e249b
    generalize decide (a < 0) = s1
    generalize decide (b < 0) = s2
    generalize hd : decide (a = 0) = d1
    cases d1 <;>
    · simp (disch := first | omega | simp only [*, go_sem, ↓reduceIte, dropK_eq]) only [x246b, go_sem, ↓reduceIte, dropK_eq, callX_known (C := C21) (g := 247) rfl, ft_call (C := C21) (g := 247) rfl, callX_known (C := C21) (g := 55) rfl, ft_call (C := C21) (g := 55) rfl, callX_known (C := C21) (g := 248) rfl, ft_call (C := C21) (g := 248) rfl, e1, e2, e3, e4, e5, hd, d2, hcn]
      exact Ends_plain rfl rfl
  · have d1 : decide (a = 0) = false := decide_eq_false h1
    have d2 : decide (b = 0) = false := decide_eq_false h2
    have hn := hsg h1 h2
    have hr0 := hrn (decide (a < 0) != decide (b < 0))
    rw [← hn] at hr0
    clear hsg hz0 hn hrn h1 h2 ha hb
    unfold F246
    refine pureF_of (x := x246) rfl rfl ?_
    rw [x246_eq.1, x246_eq.2.1]
    generalize hs1 : decide (a < 0) = s1 at *
    generalize hs2 : decide (b < 0) = s2 at *
    generalize hrr : decide (p % c = 0) = r0 at *
    cases s1 <;> cases s2 <;> cases r0 <;> rcases hm with rfl | rfl
    all_goals
      simp (disch := first | omega | simp only [*, go_sem, ↓reduceIte, dropK_eq]) only [x246b, go_sem, ↓reduceIte, dropK_eq, callX_known (C := C21) (g := 247) rfl, ft_call (C := C21) (g := 247) rfl, callX_known (C := C21) (g := 55) rfl, ft_call (C := C21) (g := 55) rfl, callX_known (C := C21) (g := 248) rfl, ft_call (C := C21) (g := 248) rfl, callX_known (C := C21) (g := 253) rfl, ft_call (C := C21) (g := 253) rfl, callX_known (C := C21) (g := 254) rfl, ft_call (C := C21) (g := 254) rfl, callX_known (C := C21) (g := 243) rfl, ft_call (C := C21) (g := 243) rfl, callX_known (C := C21) (g := 249) rfl, ft_call (C := C21) (g := 249) rfl, e1, e2, e3, e4, e5, hs1, hs2, d1, d2, hcn, mdFs, F253_eq, F254_eq, hrr, e243, e249a, e249b]
      refine Ends_plain rfl ?_
      refine congrArg (AVal.int .i64) ?_
      first | rw [hr0.1] | rw [hr0.2]
      simp
end Go.Proofs.YtldineoabbodpaaGreatDoor
namespace Go.Proofs.YtldineoabbodpaaGreatDoor
open Go Go.Xec Go.RowKit
theorem calls_sound {f : FuncId} {fn : Func} {F : List AVal → Option AVal} (hf : Tryz.prog.funcs[f]? = some fn) (hname : (fn.name == "runtime.NumGoroutine") = false) (hb : fn.body.isSome = true)
    (hs : Sound Tryz.prog f F) {ys : List AVal} {r : AVal} (hF : F ys = some r) (w : World) (hL : Laid Tryz.prog w) {vs : List Value} (hl : VL (ctx0 w fun b => b < w.heap.size) ys vs) :
    Calls Tryz.prog f vs.toArray w fun e w' => ∃ v, e = .returned v ∧ Below w.heap.size w w' ∧ V (ctx0 w' fun b => b < w'.heap.size) r v := by
  rcases hs ys r hF w _ vs (fun _ h => h) hL hl with ⟨_, h⟩ | ⟨v, w', h, _⟩
  · refine h.mono ?_
    rintro e w' ⟨v, rfl, h1, h2, h3, h4⟩
    refine ⟨v, rfl, ⟨h3.1, h3.2.1, h3.2.2, h1, h2⟩, ?_⟩
    have e : (fun b => b < w.heap.size ∨ (w.heap.size ≤ b ∧ b < w'.heap.size)) = fun b => b < w'.heap.size := by
      funext b
      apply propext
      omega
    rw [e] at h4
    exact h4
  · exfalso
    cases hbb : fn.body with
    | none => rw [hbb] at hb; cases hb
    | some c =>
      simp only [callFunc, Sem.run_bind, run_program, Result.andThen_ok, hf, hname, hbb] at h
      simp at h
theorem below_laid {w w' : World} (hL : Laid Tryz.prog w) (h : Below w.heap.size w w') : Laid Tryz.prog w' := hL.keep h.block
theorem catch_idle (p q : Addr) (w : World) :
    CallsD Tryz.prog 257 #[.pointer (some p), .pointer (some q)] .returning w fun e u' w' => e = .returned (.tuple #[]) ∧ u' = .returning ∧ w' = w := by
  refine callsD_of_wpS Tryz.func257 rfl fun c₀ cs hu => ?_
  apply wpS_seq
  apply wpS_region
  simp [wpOpsS, go_sem, recoverD, hu, Tryz.ntmps257, Exit.thenS]
  apply wpS_seq
  apply wpS_region
  simp [wpOpsS, go_sem, Exit.thenS]
  refine wpS_cond (t := false) (by simp [Act.eval, Array.replicate]) ?_
  simp only [Bool.false_eq_true, if_false]
  refine wpS_of_wp (wp_skip ?_)
  cases c₀
  simp_all [bodyPostS, results, Tryz.results257]
theorem try_calls (caps : Array Value) (n : Int) (w : World) (h : ∀ w', Below w.heap.size w w' → Calls Tryz.prog 246 caps w' fun e w'' => e = .returned (.int .i64 n) ∧ Below w'.heap.size w' w'') :
    Calls Tryz.prog 245 #[.func (.func 246) #[] caps] w fun e w' => e = .returned (.tuple #[.int .i64 n, .int .i64 0]) ∧ Below w.heap.size w w' := by
  have hmf : ∀ (fn : Fn) (first cap : Array Value) (w : World), (Instr.makeFunc fn first cap).run Tryz.prog w = .ok (.func fn first cap) w := fun _ _ _ _ => rfl
  go_enter_defers Tryz.func245, Tryz.ntmps245
  go_wp2_with fail
  have h01 : Below w.heap.size w ((w.alloc (.cells #[.int .i64 0] 3)).alloc (.cells #[.int .i64 0] 40)) := ((Below.refl _ _).alloc (Nat.le_refl _) _).alloc (by simp) _
  refine (h _ h01).mono ?_
  rintro e w2 ⟨rfl, hb⟩
  have hsz : w.heap.size + 2 ≤ w2.heap.size := by have := hb.size; simp at this; omega
  have c0 : w2.cell? ⟨w.heap.size, 0, none⟩ = some (.int .i64 0) := by
    rw [hb.cell (by simp; omega)]
    simp
  have c1 : w2.cell? ⟨w.heap.size + 1, 0, none⟩ = some (.int .i64 0) := by
    rw [hb.cell (by simp)]
    simp [World.cell?_alloc_at]
  have f0 : w2.frozen? ⟨w.heap.size, 0, none⟩ = false := by
    rw [hb.frozen (by simp; omega)]
    simp
  have f1 : w2.frozen? ⟨w.heap.size + 1, 0, none⟩ = false := by
    rw [hb.frozen (by simp)]
    simp [World.frozen?_alloc_at]
  go_wp2
  have b2 : Below w.heap.size w ((w2.setCell ⟨w.heap.size, 0, none⟩ (.int .i64 n)).setCell ⟨w.heap.size + 1, 0, none⟩ (.int .i64 0)) :=
    ((h01.trans (hb.mono (by simp; omega))).setCell (by simp) _).setCell (by simp) _
  have d0 : ((w2.setCell ⟨w.heap.size, 0, none⟩ (.int .i64 n)).setCell ⟨w.heap.size + 1, 0, none⟩ (.int .i64 0)).cell? ⟨w.heap.size, 0, none⟩ = some (.int .i64 n) := by
    rw [World.cell?_setCell_other _ _ _ _ (by simp)]
    exact World.cell?_setCell_same _ _ _ c0
  have d1 : ((w2.setCell ⟨w.heap.size, 0, none⟩ (.int .i64 n)).setCell ⟨w.heap.size + 1, 0, none⟩ (.int .i64 0)).cell? ⟨w.heap.size + 1, 0, none⟩ = some (.int .i64 0) := by
    refine World.cell?_setCell_same _ _ _ ((World.cell?_setCell_other _ _ _ _ (by simp)).trans c1)
  generalize ((w2.setCell ⟨w.heap.size, 0, none⟩ (.int .i64 n)).setCell ⟨w.heap.size + 1, 0, none⟩ (.int .i64 0)) = w3 at *
  refine leaves_cons (f := 257) (args := #[.pointer (some ⟨w.heap.size, 0, none⟩), .pointer (some ⟨w.heap.size + 1, 0, none⟩)]) (by simp) (by simp [go_sem]) ?_
  refine (catch_idle ⟨w.heap.size, 0, none⟩ ⟨w.heap.size + 1, 0, none⟩ _).mono ?_
  rintro e u' w'' ⟨rfl, rfl, rfl⟩
  simp [Leaves, settle, results, Tryz.results245, go_sem, d0, d1]
  exact b2
theorem VL_nil0 (x : Ctx) : VL x [] [] := by simp [VL]
theorem V_pvo1 {w : World} {S : Nat → Prop} {k : IntKind} {n : Int} {b : Nat} (hS : S b) (h : w.cell? ⟨b, 0, none⟩ = some (.int k n)) : V (ctx0 w S) (.pvo [.int k n] 0) (.pointer (some ⟨b, 0, none⟩)) := by
  simp only [V, VC]
  exact ⟨b, 0, rfl, hS, ⟨_, h, rfl⟩, trivial⟩
def F_md : List AVal → Option AVal
  | [.int .i64 a, .int .i64 b, .int .i64 c, .int .i64 m] => if (0 < c ∧ c < 9223372036854775808) ∧ (-9223372036854775808 ≤ a ∧ a ≤ 9223372036854775807) ∧ (-9223372036854775808 ≤ b ∧ b ≤ 9223372036854775807) ∧ (a.natAbs : Int) * (b.natAbs : Int) ≤ 9223372036854775806 ∧ (m = 0 ∨ m = 1) then some (.tup [.int .i64 (rnd (a * b) c m), .int .i64 0]) else none
  | _ => none
theorem md_calls {a b c m : Int} (hc : 0 < c) (hc2 : c < 9223372036854775808) (ha : -9223372036854775808 ≤ a ∧ a ≤ 9223372036854775807) (hb : -9223372036854775808 ≤ b ∧ b ≤ 9223372036854775807)
    (hab : (a.natAbs : Int) * (b.natAbs : Int) ≤ 9223372036854775806) (hm : m = 0 ∨ m = 1) (w : World) (hL : Laid Tryz.prog w) :
    Calls Tryz.prog 234 #[.int .i64 a, .int .i64 b, .int .i64 c, .int .i64 m] w fun e w' => e = .returned (.tuple #[.int .i64 (rnd (a * b) c m), .int .i64 0]) ∧ Below w.heap.size w w' := by
  have hmf : ∀ (fn : Fn) (first cap : Array Value) (w : World), (Instr.makeFunc fn first cap).run Tryz.prog w = .ok (.func fn first cap) w := fun _ _ _ _ => rfl
  have hF := F246_eq hc hc2 ha hb hab hm
  go_enter Tryz.func234, Tryz.ntmps234
  go_wp2_with fail
  obtain ⟨w4, hw4⟩ : ∃ w4, w4 = ((((w.alloc (.cells #[.int .i64 a] 3)).alloc (.cells #[.int .i64 b] 3)).alloc (.cells #[.int .i64 c] 3)).alloc (.cells #[.int .i64 m] 3)) := ⟨_, rfl⟩
  rw [← hw4]
  have b4 : Below w.heap.size w w4 := by
    rw [hw4]
    exact ((((Below.refl _ _).alloc (Nat.le_refl _) _).alloc (by simp) _).alloc (by simp; omega) _).alloc (by simp; omega) _
  have s4 : w4.heap.size = w.heap.size + 4 := by rw [hw4]; simp
  have ca : w4.cell? ⟨w.heap.size, 0, none⟩ = some (.int .i64 a) := by
    rw [hw4, World.cell?_alloc_past _ _ _ (by simp; omega), World.cell?_alloc_past _ _ _ (by simp; omega), World.cell?_alloc_past _ _ _ (by simp)]
    simp
  have cb : w4.cell? ⟨w.heap.size + 1, 0, none⟩ = some (.int .i64 b) := by rw [hw4]; simp [World.cell?_alloc_at, World.cell?_alloc_past]
  have cc : w4.cell? ⟨w.heap.size + 1 + 1, 0, none⟩ = some (.int .i64 c) := by rw [hw4]; simp [World.cell?_alloc_at, World.cell?_alloc_past]
  have cm : w4.cell? ⟨w.heap.size + 1 + 1 + 1, 0, none⟩ = some (.int .i64 m) := by rw [hw4]; simp [World.cell?_alloc_at, World.cell?_alloc_past]
  clear hw4
  refine (calls_sound Tryz.func244 (by kernel_rfl) (by kernel_rfl) sound244 F244_eq w4 (below_laid hL b4) (vs := []) (VL_nil0 _)).mono ?_
  rintro e w5 ⟨v, rfl, b5, hv⟩
  simp only [mdFs, V, VL] at hv
  obtain ⟨cs, rfl, _, _, rfl, ⟨_, _, rfl, rfl, rfl⟩, _, _, rfl, ⟨_, _, rfl, rfl, rfl⟩, _, _, rfl, ⟨_, _, rfl, rfl, rfl⟩, rfl⟩ := hv
  have s5 := b5.size
  have ca5 := (b5.cell (p := ⟨w.heap.size, 0, none⟩) (by simp; omega)).trans ca
  have cb5 := (b5.cell (p := ⟨w.heap.size + 1, 0, none⟩) (by simp; omega)).trans cb
  have cc5 := (b5.cell (p := ⟨w.heap.size + 1 + 1, 0, none⟩) (by simp; omega)).trans cc
  have cm5 := (b5.cell (p := ⟨w.heap.size + 1 + 1 + 1, 0, none⟩) (by simp; omega)).trans cm
  have b05 : Below w.heap.size w w5 := b4.trans (b5.mono (by omega))
  clear ca cb cc cm b5
  have cm6 : ∀ o, (w5.alloc o).cell? ⟨w.heap.size + 1 + 1 + 1, 0, none⟩ = some (.int .i64 m) := fun o => by rw [World.cell?_alloc_past _ _ _ (by omega)]; exact cm5
  have cc6 : ∀ o, (w5.alloc o).cell? ⟨w.heap.size + 1 + 1, 0, none⟩ = some (.int .i64 c) := fun o => by rw [World.cell?_alloc_past _ _ _ (by omega)]; exact cc5
  go_wp2_with fail
  obtain ⟨w6, hw6⟩ : ∃ w6, w6 = w5.alloc (.cells #[.func (.func 253) #[] #[], .func (.func 254) #[] #[], .func (.func 255) #[] #[]] 315) := ⟨_, rfl⟩
  rw [← hw6]
  have b6 : Below w5.heap.size w5 w6 := by rw [hw6]; exact (Below.refl _ _).alloc (Nat.le_refl _) _
  have s6 : w6.heap.size = w5.heap.size + 1 := by rw [hw6]; simp
  have g0 : w6.cell? ⟨w5.heap.size, 0, none⟩ = some (.func (.func 253) #[] #[]) := by rw [hw6]; simp
  have g1 : w6.cell? ⟨w5.heap.size, 1, none⟩ = some (.func (.func 254) #[] #[]) := by rw [hw6]; simp
  have g2 : w6.cell? ⟨w5.heap.size, 2, none⟩ = some (.func (.func 255) #[] #[]) := by rw [hw6]; simp
  have ca6 := (b6.cell (p := ⟨w.heap.size, 0, none⟩) (by simp; omega)).trans ca5
  have cb6 := (b6.cell (p := ⟨w.heap.size + 1, 0, none⟩) (by simp; omega)).trans cb5
  have cc7 := (b6.cell (p := ⟨w.heap.size + 1 + 1, 0, none⟩) (by simp; omega)).trans cc5
  have cm7 := (b6.cell (p := ⟨w.heap.size + 1 + 1 + 1, 0, none⟩) (by simp; omega)).trans cm5
  have b06 : Below w.heap.size w w6 := b05.trans (b6.mono (by omega))
  clear hw6 cm6 cc6
  refine (try_calls _ (rnd (a * b) c m) w6 fun w7 b7 => ?_).mono ?_
  · have s7 := b7.size
    refine (calls_sound Tryz.func246 (by kernel_rfl) (by kernel_rfl) sound246 hF w7 (below_laid (below_laid hL b06) b7) (vs := [.pointer (some ⟨w.heap.size + 1 + 1, 0, none⟩), .pointer (some ⟨w.heap.size, 0, none⟩), .pointer (some ⟨w.heap.size + 1, 0, none⟩), .pointer (some ⟨w5.heap.size, 0, none⟩), .pointer (some ⟨w.heap.size + 1 + 1 + 1, 0, none⟩)]) ?_).mono ?_
    · have va := V_pvo1 (S := fun b => b < w7.heap.size) (b := w.heap.size) (by show w.heap.size < w7.heap.size; omega) ((b7.cell (p := ⟨w.heap.size, 0, none⟩) (by simp; omega)).trans ca6)
      have vb := V_pvo1 (S := fun b => b < w7.heap.size) (b := w.heap.size + 1) (by show w.heap.size + 1 < w7.heap.size; omega) ((b7.cell (p := ⟨w.heap.size + 1, 0, none⟩) (by simp; omega)).trans cb6)
      have vc := V_pvo1 (S := fun b => b < w7.heap.size) (b := w.heap.size + 1 + 1) (by show w.heap.size + 1 + 1 < w7.heap.size; omega) ((b7.cell (p := ⟨w.heap.size + 1 + 1, 0, none⟩) (by simp; omega)).trans cc7)
      have vm := V_pvo1 (S := fun b => b < w7.heap.size) (b := w.heap.size + 1 + 1 + 1) (by show w.heap.size + 1 + 1 + 1 < w7.heap.size; omega) ((b7.cell (p := ⟨w.heap.size + 1 + 1 + 1, 0, none⟩) (by simp; omega)).trans cm7)
      have vf : V (ctx0 w7 fun b => b < w7.heap.size) (.pvo mdFs 0) (.pointer (some ⟨w5.heap.size, 0, none⟩)) := by
        simp only [V, VC, mdFs, VL]
        refine ⟨w5.heap.size, 0, rfl, by show w5.heap.size < w7.heap.size; omega, ?_⟩
        exact ⟨⟨_, (b7.cell (p := ⟨w5.heap.size, 0, none⟩) (by simp; omega)).trans g0, [], [], rfl, rfl, rfl⟩, ⟨_, (b7.cell (p := ⟨w5.heap.size, 1, none⟩) (by simp; omega)).trans g1, [], [], rfl, rfl, rfl⟩, ⟨_, (b7.cell (p := ⟨w5.heap.size, 2, none⟩) (by simp; omega)).trans g2, [], [], rfl, rfl, rfl⟩, trivial⟩
      simp only [VL]
      exact ⟨_, _, rfl, vc, _, _, rfl, va, _, _, rfl, vb, _, _, rfl, vf, _, _, rfl, vm, rfl⟩
    · rintro e w8 ⟨v, rfl, b8, hv⟩
      have hv := V_int hv
      subst hv
      exact ⟨rfl, b8⟩
  · rintro e w8 ⟨rfl, b8⟩
    go_wp2
    go_ret2
    exact ⟨rfl, b06.trans (b8.mono (by omega))⟩
theorem sound234 : Sound Tryz.prog 234 F_md := by
  refine sound_calls Tryz.func234 (by kernel_rfl) (by kernel_rfl) ?_
  intro ys r hr w S vs hS hL hl
  unfold F_md at hr
  split at hr
  · rename_i a b c m
    split at hr
    · rename_i hx
      cases hr
      simp only [VL] at hl
      obtain ⟨u1, _, rfl, e1, u2, _, rfl, e2, u3, _, rfl, e3, u4, _, rfl, e4, rfl⟩ := hl
      have e1 := V_int e1
      have e2 := V_int e2
      have e3 := V_int e3
      have e4 := V_int e4
      subst e1 e2 e3 e4
      obtain ⟨h1, h2, h3, h4, h5⟩ := hx
      refine (md_calls h1.1 h1.2 h2 h3 h4 h5 w hL).mono ?_
      rintro e w' ⟨rfl, hb⟩
      obtain ⟨q1, q2, q3⟩ := env_below hb
      refine ⟨_, rfl, q1, q2, q3, ?_⟩
      simp only [V, VL]
      exact ⟨_, rfl, _, _, rfl, rfl, _, _, rfl, rfl, rfl⟩
    · cases hr
  · cases hr
theorem F_md_eq {a b c m : Int} (hc : 0 < c ∧ c < 9223372036854775808) (ha : -9223372036854775808 ≤ a ∧ a ≤ 9223372036854775807) (hb : -9223372036854775808 ≤ b ∧ b ≤ 9223372036854775807)
    (hab : (a.natAbs : Int) * (b.natAbs : Int) ≤ 9223372036854775806) (hm : m = 0 ∨ m = 1) : F_md [.int .i64 a, .int .i64 b, .int .i64 c, .int .i64 m] = some (.tup [.int .i64 (rnd (a * b) c m), .int .i64 0]) := if_pos ⟨hc, ha, hb, hab, hm⟩
theorem F_md_one {a c m : Int} (hc : 0 < c ∧ c < 9223372036854775808) (ha : -9223372036854775806 ≤ a ∧ a ≤ 9223372036854775806) (hm : m = 0 ∨ m = 1) : F_md [.int .i64 a, .int .i64 1, .int .i64 c, .int .i64 m] = some (.tup [.int .i64 (rnd a c m), .int .i64 0]) := by
  have h := F_md_eq (a := a) (b := 1) hc (by omega) (by decide) (by simp only [Int.natAbs_one]; omega) hm
  rwa [Int.mul_one] at h
end Go.Proofs.YtldineoabbodpaaGreatDoor
namespace Go.Proofs.YtldineoabbodpaaGreatDoor
open Go Go.Xec
attribute [local go_sem] tm0 ne_eq not_false_eq_true List.length_append List.length_replicate List.replicate_succ List.replicate_zero Int.cast_ofNat_Int not_true_eq_false decide_true decide_false ite_self beq_self_eq_true Bool.true_beq Bool.false_beq Bool.not_true Bool.not_false
attribute [local go_sem_proc] Nat.reduceAdd Nat.reduceMul Nat.reduceSub Nat.reduceLeDiff Nat.reduceLT Nat.reduceEqDiff Int.reduceLT Int.reduceLE Int.reduceAdd Int.reduceSub Int.reduceMul Int.reduceToNat Int.reducePow Int.reduceNe Int.reduceMod Int.reduceDiv Int.reduceEq Nat.reducePow Int.reduceNeg
set_option maxRecDepth 10000
structure Pt where
  c : Int
  d : Int
  v : Int
  h : Int
  l : Int
abbrev PtC (p : Pt) : List AVal := [.int .i64 p.c, .int .i64 p.d, .int .i64 p.v, .int .u64 p.h, .int .u64 p.l]
abbrev PtK (p : Pt) : AVal := .agg (PtC p)
abbrev ptOk (p : Pt) : Prop := 1 ≤ p.d ∧ p.d ≤ 100000000000000 ∧ (-100000000000000 ≤ p.c ∧ p.c ≤ 100000000000000) ∧ (-100000000000000 ≤ p.v ∧ p.v ≤ 100000000000000) ∧ p.h < 274877906944
noncomputable def F229 : List AVal → Option AVal := pureF C3 1 229
theorem sound229 : Sound Tryz.prog 229 F229 := sound_self ok3 1 229
theorem F229_eq {p : Pt} : F229 [PtK p] = some (.bool (decide (ptOk p))) := by
  unfold F229
  refine pureF_of (x := x229) rfl rfl ?_
  rw [x229_eq.1, x229_eq.2.1]
  simp (disch := first | omega | simp only [go_sem, ↓reduceIte, dropK_eq]) only [x229b, go_sem, ↓reduceIte, dropK_eq, callX_known (C := C3) (g := 240) rfl, ft_call (C := C3) (g := 240) rfl, F240_eq]
  repeat' (first | refine Ends_plain rfl ?_ | (first | refine Gd_split_t (fun h => ?_) (fun h => ?_) | refine Gd_split_f (fun h => ?_) (fun h => ?_) | refine Cd_split (fun h => ?_) (fun h => ?_)) <;> (try simp (disch := first | omega | simp only [go_sem, ↓reduceIte, dropK_eq]) only [*, go_sem, ↓reduceIte, dropK_eq, callX_known (C := C3) (g := 240) rfl, ft_call (C := C3) (g := 240) rfl, F240_eq]))
  all_goals (congr 1; (try simp only [Bool.not_eq_true', Bool.not_eq_false', decide_eq_true_eq, decide_eq_false_iff_not] at *); first | exact decide_eq_decide.2 (by omega) | exact (decide_eq_false (by omega)).symm | exact (decide_eq_true (by omega)).symm)
noncomputable def C22 : Cfg := ((((((C3.add 229 F229).add 234 F_md).add 231 F231).add 232 F232).add 236 F236).add 121 F121)
theorem ok22 : CfgOk Tryz.prog C22 := ((((((ok3.add sound229).add sound234).add sound231).add sound232).add sound236).add sound121)
noncomputable def F233 : List AVal → Option AVal := pureF C22 1 233
theorem sound233 : Sound Tryz.prog 233 F233 := sound_self ok22 1 233
theorem F233_eq {x m : Int} {p : Pt} (hd : 1 ≤ p.d ∧ p.d ≤ 100000000000000) (hx : -9223372036854775806 ≤ x ∧ x ≤ 9223372036854775806) (hm : m = 0 ∨ m = 1) : F233 [.int .i64 x, .int .i64 m, .pvo (PtC p) 0] = some (.int .i64 (rnd x p.d m)) := by
  have e := F_md_one (a := x) (c := p.d) (m := m) (by omega) hx hm
  unfold F233
  refine pureF_of (x := x233) rfl rfl ?_
  rw [x233_eq.1, x233_eq.2.1]
  simp (disch := first | omega | simp only [*, go_sem, ↓reduceIte, dropK_eq]) only [x233b, go_sem, ↓reduceIte, dropK_eq, callX_known (C := C22) (g := 234) rfl, ft_call (C := C22) (g := 234) rfl, e]
  exact Ends_plain rfl rfl
noncomputable def C23 : Cfg := C22.add 233 F233
theorem ok23 : CfgOk Tryz.prog C23 := ok22.add sound233
noncomputable def F235 : List AVal → Option AVal := pureF C23 1 235
theorem sound235 : Sound Tryz.prog 235 F235 := sound_self ok23 1 235
theorem F235_eq {x y : Int} {p : Pt} (hd : 1 ≤ p.d ∧ p.d ≤ 100000000000000) (hx : -9223372036854775806 ≤ x ∧ x ≤ 9223372036854775806) (hy : -9223372036854775806 ≤ y ∧ y ≤ 9223372036854775806) :
    F235 [.int .i64 x, .int .i64 y, .fn (.func 233) [] [.pvo (PtC p) 0]] = some (.agg [.int .i64 (rnd x p.d 0), .int .i64 (rnd y p.d 1)]) := by
  have e1 := F233_eq (m := 0) hd hx (.inl rfl)
  have e2 := F233_eq (m := 1) hd hy (.inr rfl)
  unfold F235
  refine pureF_of (x := x235) rfl rfl ?_
  rw [x235_eq.1, x235_eq.2.1]
  simp (disch := first | omega | simp only [*, go_sem, ↓reduceIte, dropK_eq]) only [x235b, go_sem, ↓reduceIte, dropK_eq, callX_caps (C := C23) (g := 233) rfl, e1, e2]
  exact Ends_plain rfl rfl
noncomputable def C24 : Cfg := C23.add 235 F235
theorem ok24 : CfgOk Tryz.prog C24 := ok23.add sound235
def rad (p : Pt) : Int := isqI (9000000 * val p.h p.l)
def radU (p : Pt) : Int := upI (9000000 * val p.h p.l)
def drawL (p : Pt) : List Int := [rnd (p.c * 1000 - radU p) p.d 0, rnd (p.c * 1000 - rad p) p.d 1, rnd (p.c * 1000) p.d 0, rnd (p.c * 1000) p.d 1, rnd (p.c * 1000 + rad p) p.d 0, rnd (p.c * 1000 + radU p) p.d 1, rnd ((p.c + p.v) * 1000) p.d 0, rnd ((p.c + p.v) * 1000) p.d 1]
abbrev i64A (l : List Int) : AVal := .agg (i64s l)
theorem rad_rng {p : Pt} (hp : ptOk p) (h1 : 0 ≤ p.h) (h2 : U p.l) : 0 ≤ rad p ∧ rad p ≤ radU p ∧ radU p ≤ 6755399441055744001 := by
  have hv : 0 ≤ 9000000 * val p.h p.l ∧ 9000000 * val p.h p.l < 9000000 * 5070602400912917605986812821504 := by
    have := hp.2.2.2.2
    simp only [val, U] at *
    omega
  obtain ⟨g1, g2, g3⟩ := isqI_spec hv.1
  have hu := (upI_spec hv.1).1
  have hu2 : upI (9000000 * val p.h p.l) ≤ isqI (9000000 * val p.h p.l) + 1 := by unfold upI; split <;> omega
  unfold rad radU
  refine ⟨g1, hu, ?_⟩
  refine Int.not_lt.1 fun hc => ?_
  have h4 : 6755399441055744001 ≤ isqI (9000000 * val p.h p.l) := by omega
  have := Int.mul_le_mul h4 h4 (by decide) g1
  omega
noncomputable def F222 : List AVal → Option AVal := pureF C24 1 222
theorem sound222 : Sound Tryz.prog 222 F222 := sound_self ok24 1 222
theorem F222_eq {p : Pt} (hp : ptOk p) (h1 : 0 ≤ p.h) (h2 : U p.l) : F222 [PtK p, .int .i64 1000] = some (.tup [i64A (drawL p), .int .i64 0]) := by
  have e229 := F229_eq (p := p)
  rw [decide_eq_true hp] at e229
  have e230 := F230_eq (x := 1000)
  have hU : U p.h := by have := hp.2.2.2.2; simp only [U]; omega
  have e100 := F100_eq (ah := p.h) (al := p.l) (bh := 0) (bl := 9000000) hU h2 (by decide) (by decide)
  have hv0 : 0 ≤ val p.h p.l ∧ val p.h p.l < 5070602400912917605986812821504 := by
    have := hp.2.2.2.2
    simp only [val, U] at *
    omega
  have hvm : val p.h p.l * val 0 9000000 = 9000000 * val p.h p.l := by simp only [val]; omega
  rw [hvm] at e100
  have hr := rad_rng hp h1 h2
  obtain ⟨v, hv⟩ : ∃ v, v = 9000000 * val p.h p.l := ⟨_, rfl⟩
  have hvb : 0 ≤ v ∧ v < big := by simp only [big]; omega
  rw [← hv, Int.emod_eq_of_lt hvb.1 hvb.2, decide_eq_false (Int.not_le.2 hvb.2)] at e100
  simp only [enc] at e100
  have e231 := F231_eq (enc_w hvb).1 (enc_w hvb).2
  have e232 := F232_eq (enc_w hvb).1 (enc_w hvb).2
  rw [val_enc] at e231 e232
  have er : ((isq v.toNat : Nat) : Int) = rad p := by rw [hv]; rfl
  have eu : upI v = radU p := by rw [hv]; rfl
  rw [er] at e231
  rw [eu] at e232
  simp only [enc] at e232
  obtain ⟨q1, q2, q3, q4, q5⟩ := hp
  obtain ⟨r1, r2, r3⟩ := hr
  have hd : 1 ≤ p.d ∧ p.d ≤ 100000000000000 := ⟨q1, q2⟩
  have eu2 : radU p % 18446744073709551616 = radU p := by omega
  rw [eu2] at e232
  have f1 := F235_eq (p := p) (x := p.c * 1000 - radU p) (y := p.c * 1000 - rad p) hd (by omega) (by omega)
  have f2 := F235_eq (p := p) (x := p.c * 1000) (y := p.c * 1000) hd (by omega) (by omega)
  have f3 := F235_eq (p := p) (x := p.c * 1000 + rad p) (y := p.c * 1000 + radU p) hd (by omega) (by omega)
  have f4 := F235_eq (p := p) (x := (p.c + p.v) * 1000) (y := (p.c + p.v) * 1000) hd (by omega) (by omega)
  have w1 : (p.c + p.v) * 1000 ≤ 200000000000000000 ∧ -200000000000000000 ≤ (p.c + p.v) * 1000 := by omega
  unfold drawL
  generalize rad p = r at *
  generalize radU p = u at *
  unfold F222
  refine pureF_of (x := x222) rfl rfl ?_
  rw [x222_eq.1, x222_eq.2.1]
  simp (disch := first | omega | simp only [*, go_sem, ↓reduceIte, dropK_eq]) only [x222b, go_sem, ↓reduceIte, dropK_eq, callX_known (C := C24) (g := 229) rfl, ft_call (C := C24) (g := 229) rfl, callX_known (C := C24) (g := 230) rfl, ft_call (C := C24) (g := 230) rfl, callX_known (C := C24) (g := 100) rfl, ft_call (C := C24) (g := 100) rfl, callX_known (C := C24) (g := 231) rfl, ft_call (C := C24) (g := 231) rfl, callX_known (C := C24) (g := 232) rfl, ft_call (C := C24) (g := 232) rfl, e229, e230, e100, e231, e232, callX_names (C := C24) (g := 235) rfl, ftC_names (C := C24) (g := 235) rfl, f1, f2, f3, f4]
  exact Ends_plain rfl rfl
theorem rnd_le {a b d : Int} (hd : 0 < d) (h : a ≤ b) : rnd a d 0 ≤ rnd b d 1 := by
  unfold rnd
  rw [if_pos rfl, if_neg (by decide)]
  have h1 := Int.ediv_mul_le a (by omega : d ≠ 0)
  have h2 := Int.ediv_mul_le (-b) (by omega : d ≠ 0)
  refine Int.not_lt.1 fun hc => ?_
  have h3 : -(-b / d) + 1 ≤ a / d := by omega
  have h4 := Int.mul_le_mul_of_nonneg_right h3 (Int.le_of_lt hd)
  rw [Int.add_mul, Int.neg_mul] at h4
  omega
def verI (l : List Int) : Int := if l.getD 5 0 < l.getD 6 0 ∨ l.getD 7 0 < l.getD 0 0 then 1 else if l.getD 4 0 < l.getD 7 0 ∨ l.getD 6 0 < l.getD 1 0 then 2 else 0
noncomputable def F224 : List AVal → Option AVal := pureF C24 1 224
theorem sound224 : Sound Tryz.prog 224 F224 := sound_self ok24 1 224
theorem F224_eq {a b c d e f g h : Int} (h1 : a ≤ b) (h2 : c ≤ d) (h3 : e ≤ f) (h4 : g ≤ h) : F224 [i64A [a, b, c, d, e, f, g, h]] = some (.tup [.int .i64 (verI [a, b, c, d, e, f, g, h]), .int .i64 0]) := by
  have e1 := F121_eq (l := a) (h := b)
  have e2 := F121_eq (l := c) (h := d)
  have e3 := F121_eq (l := e) (h := f)
  have e4 := F121_eq (l := g) (h := h)
  rw [decide_eq_true h1] at e1
  rw [decide_eq_true h2] at e2
  rw [decide_eq_true h3] at e3
  rw [decide_eq_true h4] at e4
  have hv : verI [a, b, c, d, e, f, g, h] = if f < g ∨ h < a then 1 else if e < h ∨ g < b then 2 else 0 := rfl
  rw [hv]
  clear hv h1 h2 h3 h4
  unfold F224
  refine pureF_of (x := x224) rfl rfl ?_
  rw [x224_eq.1, x224_eq.2.1]
  by_cases c1 : f < g
  · have d1 := decide_eq_true c1
    rw [if_pos (.inl c1)]
    simp (disch := first | omega | simp only [*, go_sem, ↓reduceIte, dropK_eq]) only [x224b, x224l2, x224l8, go_sem, ↓reduceIte, dropK_eq, List.map_cons, List.map_nil, callX_known (C := C24) (g := 121) rfl, ft_call (C := C24) (g := 121) rfl, e1, e2, e3, e4, ↓Ev_loop, ↓EvN_step, d1]
    exact Ends_plain rfl rfl
  · have d1 := decide_eq_false c1
    by_cases c2 : h < a
    · have d2 := decide_eq_true c2
      rw [if_pos (.inr c2)]
      simp (disch := first | omega | simp only [*, go_sem, ↓reduceIte, dropK_eq]) only [x224b, x224l2, x224l8, go_sem, ↓reduceIte, dropK_eq, List.map_cons, List.map_nil, callX_known (C := C24) (g := 121) rfl, ft_call (C := C24) (g := 121) rfl, e1, e2, e3, e4, ↓Ev_loop, ↓EvN_step, d1, d2]
      exact Ends_plain rfl rfl
    · have d2 := decide_eq_false c2
      rw [if_neg (by omega)]
      by_cases c3 : e < h
      · have d3 := decide_eq_true c3
        rw [if_pos (.inl c3)]
        simp (disch := first | omega | simp only [*, go_sem, ↓reduceIte, dropK_eq]) only [x224b, x224l2, x224l8, go_sem, ↓reduceIte, dropK_eq, List.map_cons, List.map_nil, callX_known (C := C24) (g := 121) rfl, ft_call (C := C24) (g := 121) rfl, e1, e2, e3, e4, ↓Ev_loop, ↓EvN_step, d1, d2, d3]
        exact Ends_plain rfl rfl
      · have d3 := decide_eq_false c3
        by_cases c4 : g < b
        · have d4 := decide_eq_true c4
          rw [if_pos (.inr c4)]
          simp (disch := first | omega | simp only [*, go_sem, ↓reduceIte, dropK_eq]) only [x224b, x224l2, x224l8, go_sem, ↓reduceIte, dropK_eq, List.map_cons, List.map_nil, callX_known (C := C24) (g := 121) rfl, ft_call (C := C24) (g := 121) rfl, e1, e2, e3, e4, ↓Ev_loop, ↓EvN_step, d1, d2, d3, d4]
          exact Ends_plain rfl rfl
        · have d4 := decide_eq_false c4
          rw [if_neg (by omega)]
          simp (disch := first | omega | simp only [*, go_sem, ↓reduceIte, dropK_eq]) only [x224b, x224l2, x224l8, go_sem, ↓reduceIte, dropK_eq, List.map_cons, List.map_nil, callX_known (C := C24) (g := 121) rfl, ft_call (C := C24) (g := 121) rfl, e1, e2, e3, e4, ↓Ev_loop, ↓EvN_step, d1, d2, d3, d4]
          exact Ends_plain rfl rfl
def verP (p : Pt) : Int := verI (drawL p)
theorem F224_draw {p : Pt} (hp : ptOk p) (h1 : 0 ≤ p.h) (h2 : U p.l) : F224 [i64A (drawL p)] = some (.tup [.int .i64 (verP p), .int .i64 0]) := by
  obtain ⟨r1, r2, r3⟩ := rad_rng hp h1 h2
  have hd : 0 < p.d := by have := hp.1; omega
  exact F224_eq (rnd_le hd (by omega)) (rnd_le hd (by omega)) (rnd_le hd (by omega)) (rnd_le hd (by omega))
def gapI (d : Int) : Int := rnd d 1000 1
theorem gap_rng {d : Int} (h : 1 ≤ d ∧ d ≤ 100000000000000) : 1 ≤ gapI d ∧ gapI d ≤ 100000000000 := by
  unfold gapI rnd
  rw [if_neg (by decide)]
  omega
def maskP (p : Pt) : Int := maskI (clsI (p.v - gapI p.d) (val p.h p.l)) (clsI (p.v + gapI p.d) (val p.h p.l))
theorem maskP_rng {p : Pt} (hp : ptOk p) : 0 < maskP p ∧ maskP p < 512 := by
  have hg := gap_rng ⟨hp.1, hp.2.1⟩
  exact maskI_rng (clsI_rng _ _).1 (clsI_mono (by omega)) (clsI_rng _ _).2
noncomputable def F223 : List AVal → Option AVal := pureF C24 1 223
theorem sound223 : Sound Tryz.prog 223 F223 := sound_self ok24 1 223
theorem F223_eq {p : Pt} (hp : ptOk p) (h1 : 0 ≤ p.h) (h2 : U p.l) : F223 [PtK p, .int .i64 1000] = some (.tup [.int .i64 (maskP p), .int .i64 0]) := by
  have e229 := F229_eq (p := p)
  rw [decide_eq_true hp] at e229
  have e230 := F230_eq (x := 1000)
  obtain ⟨q1, q2, q3, q4, q5⟩ := hp
  have hg := gap_rng ⟨q1, q2⟩
  have e234 := F_md_one (a := p.d) (c := 1000) (m := 1) (by decide) (by omega) (.inr rfl)
  have e236 := F236_eq (lo := p.v - gapI p.d) (hi := p.v + gapI p.d) (vh := p.h) (vl := p.l) (by omega) (by omega) (by omega) (by omega) h2
  rw [show rnd p.d 1000 1 = gapI p.d from rfl] at e234
  unfold maskP
  generalize gapI p.d = g at *
  unfold F223
  refine pureF_of (x := x223) rfl rfl ?_
  rw [x223_eq.1, x223_eq.2.1]
  simp (disch := first | omega | simp only [*, go_sem, ↓reduceIte, dropK_eq]) only [x223b, go_sem, ↓reduceIte, dropK_eq, callX_known (C := C24) (g := 229) rfl, ft_call (C := C24) (g := 229) rfl, callX_known (C := C24) (g := 230) rfl, ft_call (C := C24) (g := 230) rfl, callX_known (C := C24) (g := 234) rfl, ft_call (C := C24) (g := 234) rfl, callX_known (C := C24) (g := 236) rfl, ft_call (C := C24) (g := 236) rfl, e229, e230, e234, e236]
  exact Ends_plain rfl rfl
end Go.Proofs.YtldineoabbodpaaGreatDoor
namespace Go.Proofs.YtldineoabbodpaaGreatDoor
open Go Go.Xec Go.RowKit
theorem on_disable (w : World) : (callFunc 270 #[]).run Tryz.prog w = .ok (.value (.tuple #[])) w := run_call_mark0 Tryz.func270 (by kernel_rfl) (by kernel_rfl) (by kernel_rfl) .disable (by kernel_rfl) w
theorem on_enable (w : World) : (callFunc 272 #[]).run Tryz.prog w = .ok (.value (.tuple #[])) w := run_call_mark0 Tryz.func272 (by kernel_rfl) (by kernel_rfl) (by kernel_rfl) .enable (by kernel_rfl) w
theorem on_acquire (a : Addr) (w : World) : (callFunc 273 #[.pointer (some a)]).run Tryz.prog w = .ok (.value (.tuple #[])) w := run_call_marked Tryz.func273 (by kernel_rfl) (by kernel_rfl) (by kernel_rfl) .acquire (by kernel_rfl) a w
theorem on_release (a : Addr) (w : World) : (callFunc 275 #[.pointer (some a)]).run Tryz.prog w = .ok (.value (.tuple #[])) w := run_call_marked Tryz.func275 (by kernel_rfl) (by kernel_rfl) (by kernel_rfl) .releaseMerge (by kernel_rfl) a w
theorem on_store (a : Addr) (x : Value) (u : FrameMode) (w : World) (hc : w.cell? a = some x) (hz : w.frozen? a = false) :
    CallsD Tryz.prog 264 #[.pointer (some a), .bool true] u w fun e u' w' => u' = u ∧ (e = .returned (.tuple #[]) ∧ w' = w.drew.setCell a (.int .u32 1)) := by
  have hc' : w.drew.cell? a = some x := by go_simp
  have hz' : w.drew.frozen? a = false := by go_simp
  have hst := run_call_store (P := Tryz.prog) Tryz.func268 (by kernel_rfl) (by kernel_rfl) (by kernel_rfl) (by kernel_rfl) (k := .u32) (y := 1) hc' hz'
  go_enter_d Tryz.func264, Tryz.ntmps264
  go_wp2
  go_region_calls
  all_goals (go_end0; exact ⟨rfl, rfl⟩)
set_option maxRecDepth 100000 in
set_option maxHeartbeats 1600000 in
theorem on_unlock (a : Addr) (u : FrameMode) (w : World) (hc : w.cell? a = some (.int .i32 1)) (hz : w.frozen? a = false) :
    CallsD Tryz.prog 263 #[.pointer (some a)] u w fun e u' w' => u' = u ∧ (e = .returned (.tuple #[]) ∧ w' = w.setCell a (.int .i32 0)) := by
  have hd := on_disable
  have he := on_enable
  have hr := on_release
  have hadd := run_call_add (P := Tryz.prog) Tryz.func276 (by kernel_rfl) (by kernel_rfl) (by kernel_rfl) .i32 (by kernel_rfl) (y := -1) (s := 0) hc hz (by simp [go_sem]; rfl)
  have hcv := run_convert_to_unsafe (P := Tryz.prog) (src := 337) (dst := 341) Tryz.underlying337 Tryz.underlying341 (by kernel_rfl) hc
  go_enter_d Tryz.func263, Tryz.ntmps263
  go_wp2
  go_end0
  go_wp2
  go_end0
  exact ⟨rfl, rfl⟩
set_option maxRecDepth 100000 in
set_option maxHeartbeats 1600000 in
theorem on_lock (a : Addr) (w : World) (hc : w.cell? a = some (.int .i32 0)) (hz : w.frozen? a = false) :
    Calls Tryz.prog 262 #[.pointer (some a)] w fun e w' => e = .returned (.tuple #[]) ∧ w' = w.setCell a (.int .i32 1) := by
  have hd := on_disable
  have he := on_enable
  have ha := on_acquire
  have hcas := run_call_cas_hit (P := Tryz.prog) Tryz.func271 (by kernel_rfl) (by kernel_rfl) (by kernel_rfl) .i32 (by kernel_rfl) (y := 1) hc hz
  have hc' : (w.setCell a (.int .i32 1)).cell? a = some (.int .i32 1) := World.cell?_setCell_same w a _ hc
  have hcv := run_convert_to_unsafe (P := Tryz.prog) (src := 337) (dst := 341) Tryz.underlying337 Tryz.underlying341 (by kernel_rfl) hc'
  go_enter Tryz.func262, Tryz.ntmps262
  go_wp2
  first | go_end0 | (simp only [Exit.inBlock, Exit.then]; refine bodyPost_ret (results_none rfl _ _ _) rfl ?_) | refine bodyPost_ret (results_none rfl _ _ _) rfl ?_
  go_wp2
  go_end0
  exact ⟨rfl, rfl⟩
def facL : List Int := [18800, 10230, 7290, 5770, 4830, 4190, 3730, 3370, 3080, 0, 0, 0, 0, 0, 760, 1360, 1840, 2230, 32670, 25740, 22820, 21140, 20040, 19240, 18640, 18160, 17770, 11280, 16930, 20590, 23260, 25340, 27040, 28470, 29700, 30780, 26590, 19540, 16280, 14270, 12870, 11820, 10990, 10320, 9750, 0, 0, 0, 0, 300, 1180, 1850, 2390, 2840, 32670, 25680, 22660, 20890, 19700, 18820, 18150, 17610, 17160]
abbrev facV : List Value := facL.map (Value.int .i64)
set_option maxRecDepth 100000 in
set_option maxHeartbeats 1600000 in
theorem fill_calls (b : Nat) (w : World) (ht : w.there b 3 63) :
    Calls Tryz.prog 239 #[.pointer (some ⟨b, 0, none⟩)] w fun e w' => e = .returned (.tuple #[]) ∧ w' = w.setCells b 3 facV := by
  have hi : (Tryz.prog.info? 305).map (·.size) = some facV.toArray.size := by kernel_rfl
  have h1 : facV.toArray.all (·.oneCell') = true := by kernel_rfl
  go_enter Tryz.func239, Tryz.ntmps239
  repeat (first | refine wp_store_mid 305 (.tmp 12) (.tmp 10) rfl b 3 facV.toArray rfl rfl ht hi h1 ?_ | go_step)
  go_end0
  exact ⟨rfl, rfl⟩
abbrev facW (b : Nat) (w : World) : World := ((((w.setCell ⟨b, 1, none⟩ (.int .i32 1)).setCells b 3 facV).drew.setCell ⟨b, 0, none⟩ (.int .u32 1)).setCell ⟨b, 1, none⟩ (.int .i32 0))
theorem there_setCell {w : World} {b o n : Nat} (h : w.there b o n) (x : Addr) (v : Value) (hx : x.block = b → x.off < o ∨ o + n ≤ x.off) : (w.setCell x v).there b o n := by
  intro j hj
  obtain ⟨h1, h2⟩ := h j hj
  refine ⟨?_, by simp [h2]⟩
  rw [World.cell?_setCell_other _ _ _ _ (by rintro e; have := congrArg Addr.block e; have h3 := congrArg Addr.off e; simp at this h3; have := hx this; omega)]
  exact h1
theorem load_not (a : Addr) (w : World) (h : w.cell? a = some (.int .u32 0)) : Calls Tryz.prog 250 #[.pointer (some a)] w fun e w' => e = .returned (.bool false) ∧ w' = w := by
  have hl := run_call_load (P := Tryz.prog) Tryz.func261 (by kernel_rfl) (by kernel_rfl) (by kernel_rfl) .u32 (by kernel_rfl) h
  go_enter Tryz.func250, Tryz.ntmps250
  go_wp2
  go_ret
  exact ⟨rfl, rfl⟩
set_option maxRecDepth 100000 in
set_option maxHeartbeats 1600000 in
theorem slow_calls (b : Nat) (w : World) (h0 : w.cell? ⟨b, 0, none⟩ = some (.int .u32 0)) (h1 : w.cell? ⟨b, 1, none⟩ = some (.int .i32 0)) (ht : w.there b 3 63) (f0 : w.frozen? ⟨b, 0, none⟩ = false) (f1 : w.frozen? ⟨b, 1, none⟩ = false) :
    Calls Tryz.prog 251 #[.pointer (some ⟨b, 0, none⟩), .func (.func 239) #[.pointer (some ⟨b, 0, none⟩)] #[]] w fun e w' => e = .returned (.tuple #[]) ∧ w' = facW b w := by
  have hl : (w.setCell ⟨b, 1, none⟩ (.int .i32 1)).cell? ⟨b, 0, none⟩ = some (.int .u32 0) := (World.cell?_setCell_other _ ⟨b, 1, none⟩ ⟨b, 0, none⟩ _ (by simp)).trans h0
  have ht1 := there_setCell ht ⟨b, 1, none⟩ (.int .i32 1) (by simp)
  have hnot : ∀ (x : Bool) (w : World), (Op.unary .not (.bool x)).run Tryz.prog w = .ok (.bool (!x)) w := fun _ _ => rfl
  go_enter_defers Tryz.func251, Tryz.ntmps251
  go_wp2_with (go_at_call 262; refine (on_lock ⟨b, 1, none⟩ _ (by go_simp) (by go_simp)).mono ?_; rintro e w' ⟨rfl, rfl⟩)
  go_wp2_with (go_at_call 250; refine (load_not ⟨b, 0, none⟩ _ hl).mono ?_; rintro e w' ⟨rfl, rfl⟩)
  go_wp2_with (go_at_call 239; refine (fill_calls b _ ht1).mono ?_; rintro e w' ⟨rfl, rfl⟩)
  have q0 : ((w.setCell ⟨b, 1, none⟩ (.int .i32 1)).setCells b 3 facV).cell? ⟨b, 0, none⟩ = some (.int .u32 0) := by
    rw [World.cell?_setCells_out b facV 3 _ ⟨b, 0, none⟩ (fun _ _ => .inl (by simp))]
    exact hl
  have q1 : ((w.setCell ⟨b, 1, none⟩ (.int .i32 1)).setCells b 3 facV).cell? ⟨b, 1, none⟩ = some (.int .i32 1) := by
    rw [World.cell?_setCells_out b facV 3 _ ⟨b, 1, none⟩ (fun _ _ => .inl (by simp))]
    exact World.cell?_setCell_same _ _ _ h1
  have z0 : ((w.setCell ⟨b, 1, none⟩ (.int .i32 1)).setCells b 3 facV).frozen? ⟨b, 0, none⟩ = false := by
    rw [World.frozen?_setCells]; simp [f0]
  have z1 : ((w.setCell ⟨b, 1, none⟩ (.int .i32 1)).setCells b 3 facV).frozen? ⟨b, 1, none⟩ = false := by
    rw [World.frozen?_setCells]; simp [f1]
  unfold facW
  generalize (w.setCell ⟨b, 1, none⟩ (.int .i32 1)).setCells b 3 facV = w2 at *
  refine leaves_cons (f := 264) (args := #[.pointer (some ⟨b, 0, none⟩), .bool true]) (by simp) (by simp [go_sem]) ?_
  refine (on_store ⟨b, 0, none⟩ (.int .u32 0) .returning _ q0 z0).mono ?_
  rintro e u' w'' ⟨rfl, rfl, rfl⟩
  refine leaves_cons (f := 263) (args := #[.pointer (some ⟨b, 1, none⟩)]) (by simp [settle]) (by simp [go_sem]) ?_
  refine (on_unlock ⟨b, 1, none⟩ _ _ ?_ (by simp [z1])).mono ?_
  · refine (World.cell?_setCell_other _ ⟨b, 0, none⟩ ⟨b, 1, none⟩ _ (by simp)).trans ?_
    rw [World.cell?_drew]
    exact q1
  rintro e u' w'' ⟨rfl, rfl, rfl⟩
  simp [Leaves, settle, results, Tryz.results251]
theorem do_calls (b : Nat) (w : World) (h0 : w.cell? ⟨b, 0, none⟩ = some (.int .u32 0)) (h1 : w.cell? ⟨b, 1, none⟩ = some (.int .i32 0)) (ht : w.there b 3 63) (f0 : w.frozen? ⟨b, 0, none⟩ = false) (f1 : w.frozen? ⟨b, 1, none⟩ = false) :
    Calls Tryz.prog 238 #[.pointer (some ⟨b, 0, none⟩), .func (.func 239) #[.pointer (some ⟨b, 0, none⟩)] #[]] w fun e w' => e = .returned (.tuple #[]) ∧ w' = facW b w := by
  have hnot : ∀ (x : Bool) (w : World), (Op.unary .not (.bool x)).run Tryz.prog w = .ok (.bool (!x)) w := fun _ _ => rfl
  go_enter Tryz.func238, Tryz.ntmps238
  go_wp2_with (first | (go_at_call 250; refine (load_not ⟨b, 0, none⟩ _ h0).mono ?_; rintro e w' ⟨rfl, rfl⟩) | (go_at_call 251; refine (slow_calls b _ h0 h1 ht f0 f1).mono ?_; rintro e w' ⟨rfl, rfl⟩))
  go_end0
  exact ⟨rfl, rfl⟩
def facI (k n : Int) : Int := facL.getD (k.toNat * 9 + (n.toNat - 2)) 0
theorem facW_below {B b : Nat} (hb : B ≤ b) (w : World) : Below B w (facW b w) := by
  refine (((?_ : Below B w ((w.setCell ⟨b, 1, none⟩ (.int .i32 1)).setCells b 3 facV)).drew).setCell hb _).setCell hb _
  have h1 : Below B w (w.setCell ⟨b, 1, none⟩ (.int .i32 1)) := (Below.refl _ _).setCell hb _
  generalize w.setCell ⟨b, 1, none⟩ (.int .i32 1) = w1 at h1
  have h2 : ∀ (vs : List Value) (o : Nat) (w1 : World), Below B w w1 → Below B w (w1.setCells b o vs) := by
    intro vs
    induction vs with
    | nil => intro o w1 h; exact h
    | cons v vs ih => intro o w1 h; exact ih (o + 1) _ (h.setCell hb _)
  exact h2 _ _ _ h1
theorem facW_cell {b : Nat} {w : World} (ht : w.there b 3 63) {j : Nat} (hj : j < 63) : (facW b w).cell? ⟨b, 3 + j, none⟩ = some (.int .i64 (facL.getD j 0)) := by
  unfold facW
  rw [World.cell?_setCell_other _ _ _ _ (by simp), World.cell?_setCell_other _ _ _ _ (by simp), World.cell?_drew]
  have hj' : j < facV.length := hj
  rw [World.cell?_setCells_in b facV 3 _ (fun i hi => (there_setCell ht ⟨b, 1, none⟩ _ (by simp) i hi).1) j hj']
  simp only [facV, List.getElem_map]
  rw [List.getD_eq_getElem?_getD, List.getElem?_eq_getElem (show j < facL.length from hj)]
  rfl
set_option maxRecDepth 100000 in
set_option maxHeartbeats 1600000 in
theorem at_calls (b : Nat) (k n : Int) (hk : 0 ≤ k ∧ k < 7) (hn : 2 ≤ n ∧ n ≤ 10) (w : World) (h0 : w.cell? ⟨b, 0, none⟩ = some (.int .u32 0)) (h1 : w.cell? ⟨b, 1, none⟩ = some (.int .i32 0)) (ht : w.there b 3 63) (f0 : w.frozen? ⟨b, 0, none⟩ = false) (f1 : w.frozen? ⟨b, 1, none⟩ = false) :
    Calls Tryz.prog 228 #[.pointer (some ⟨b, 0, none⟩), .int .i64 k, .int .i64 n] w fun e w' => e = .returned (.int .i64 (facI k n)) ∧ w' = facW b w := by
  have hmf : ∀ (fn : Fn) (first cap : Array Value) (w : World), (Instr.makeFunc fn first cap).run Tryz.prog w = .ok (.func fn first cap) w := fun _ _ _ _ => rfl
  go_enter Tryz.func228, Tryz.ntmps228
  have hcell := fun j hj => facW_cell ht (j := j) hj
  have hdo := do_calls b w h0 h1 ht f0 f1
  generalize facW b w = w2 at *
  obtain ⟨i, rfl⟩ : ∃ i : Nat, k = i := ⟨k.toNat, by omega⟩
  obtain ⟨j, rfl⟩ : ∃ j : Nat, n = j + 2 := ⟨(n - 2).toNat, by omega⟩
  have hj := hcell (i * 9 + j) (by omega)
  have hf : facI (i : Int) ((j : Int) + 2) = facL.getD (i * 9 + j) 0 := by
    unfold facI
    rw [Int.toNat_natCast, show ((j : Int) + 2).toNat - 2 = j by omega]
  rw [hf]
  rw [← Nat.add_assoc] at hj
  have w1 : (j : Int) + 2 - 2 = j := by omega
  have g1 : (i : Int) < 7 := by omega
  have g2 : (j : Int) < 9 := by omega
  clear hcell h0 h1 ht f0 f1 hf
  go_wp2_with (go_at_call 238; refine hdo.mono ?_; rintro e w' ⟨rfl, rfl⟩)
  go_ret
  exact ⟨rfl, rfl⟩
def F_fac : List AVal → Option AVal
  | [.int .i64 k, .int .i64 n] => if (0 ≤ k ∧ k < 7) ∧ 2 ≤ n ∧ n ≤ 10 then some (.tup [.int .i64 (facI k n), .int .i64 0]) else none
  | _ => none
theorem F_fac_eq {k n : Int} (hk : 0 ≤ k ∧ k < 7) (hn : 2 ≤ n ∧ n ≤ 10) : F_fac [.int .i64 k, .int .i64 n] = some (.tup [.int .i64 (facI k n), .int .i64 0]) := if_pos ⟨hk, hn⟩
set_option maxRecDepth 100000 in
theorem fac_calls (k n : Int) (hk : 0 ≤ k ∧ k < 7) (hn : 2 ≤ n ∧ n ≤ 10) (w : World) (hL : Laid Tryz.prog w) :
    Calls Tryz.prog 221 #[.int .i64 k, .int .i64 n] w fun e w' => e = .returned (.tuple #[.int .i64 (facI k n), .int .i64 0]) ∧ Below w.heap.size w w' := by
  have e226 := F226_eq (x := k)
  have e227 := F227_eq (x := n)
  rw [decide_eq_true hk] at e226
  rw [decide_eq_true hn] at e227
  have c226 := calls_sound Tryz.func226 (by kernel_rfl) (by kernel_rfl) sound226 e226 w hL (vs := [.int .i64 k]) (by simp only [VL, V]; exact ⟨_, _, rfl, rfl, rfl⟩)
  have hnot : ∀ (x : Bool) (w : World), (Op.unary .not (.bool x)).run Tryz.prog w = .ok (.bool (!x)) w := fun _ _ => rfl
  go_enter Tryz.func221, Tryz.ntmps221
  go_wp2_with (go_at_call 226; refine c226.mono ?_; rintro e w1 ⟨v, rfl, hb1, hv⟩; obtain rfl := V_bool hv)
  have c227 := calls_sound Tryz.func227 (by kernel_rfl) (by kernel_rfl) sound227 e227 w1 (below_laid hL hb1) (vs := [.int .i64 n]) (by simp only [VL, V]; exact ⟨_, _, rfl, rfl, rfl⟩)
  go_wp2_with (go_at_call 227; refine c227.mono ?_; rintro e w2 ⟨v, rfl, hb2, hv⟩; obtain rfl := V_bool hv)
  have z0 : Tryz.zeroCells307[0]? = some (.int .u32 0) := by kernel_rfl
  have z1 : Tryz.zeroCells307[1]? = some (.int .i32 0) := by kernel_rfl
  have zs : Tryz.zeroCells307.size = 66 := by kernel_rfl
  have hb3 : Below w2.heap.size w2 (w2.alloc (.cells Tryz.zeroCells307 307)) := (Below.refl _ _).alloc (Nat.le_refl _) _
  have ha := at_calls w2.heap.size k n hk hn (w2.alloc (.cells Tryz.zeroCells307 307)) (by rw [World.cell?_alloc_new]; exact z0) (by rw [World.cell?_alloc_new]; exact z1)
    (fun j hj => ⟨by rw [World.cell?_alloc_new, Array.getElem?_eq_getElem (by omega)]; rfl, by simp⟩) (by simp) (by simp)
  have hb4 := hb3.trans (facW_below (Nat.le_refl _) (w2.alloc (.cells Tryz.zeroCells307 307)))
  generalize w2.alloc (.cells Tryz.zeroCells307 307) = w3 at *
  generalize facW w2.heap.size w3 = w4 at *
  have hz1 := hb1.size
  have hz2 := hb2.size
  have hb : Below w.heap.size w w4 := hb1.trans ((hb2.mono hz1).trans (hb4.mono (Nat.le_trans hz1 hz2)))
  clear hb1 hb2 hb3 hb4
  go_wp2_with (go_at_call 228; refine ha.mono ?_; rintro e w' ⟨rfl, rfl⟩)
  go_ret2
  exact ⟨rfl, hb⟩
theorem sound221 : Sound Tryz.prog 221 F_fac := by
  refine sound_calls Tryz.func221 (by kernel_rfl) (by kernel_rfl) ?_
  intro ys r hr w S vs hS hL hl
  unfold F_fac at hr
  split at hr
  · rename_i k n
    split at hr
    · rename_i hx
      cases hr
      obtain ⟨u1, u2, rfl, e1, e2⟩ := VL_2 hl
      have e1 := V_int e1
      have e2 := V_int e2
      subst e1 e2
      refine (fac_calls k n hx.1 hx.2 w hL).mono ?_
      rintro e w' ⟨rfl, hb⟩
      obtain ⟨q1, q2, q3⟩ := env_below hb
      refine ⟨_, rfl, q1, q2, q3, ?_⟩
      simp only [V, VL]
      exact ⟨_, rfl, _, _, rfl, rfl, _, _, rfl, rfl, rfl⟩
    · cases hr
  · cases hr
end Go.Proofs.YtldineoabbodpaaGreatDoor
namespace Go.Proofs.YtldineoabbodpaaGreatDoor
open Go Go.Xec
attribute [local go_sem] tm0 ne_eq not_false_eq_true List.length_append List.length_replicate List.replicate_succ List.replicate_zero Int.cast_ofNat_Int not_true_eq_false decide_true decide_false ite_self beq_self_eq_true Bool.true_beq Bool.false_beq Bool.not_true Bool.not_false
attribute [local go_sem_proc] Nat.reduceAdd Nat.reduceMul Nat.reduceSub Nat.reduceLeDiff Nat.reduceLT Nat.reduceEqDiff Int.reduceLT Int.reduceLE Int.reduceAdd Int.reduceSub Int.reduceMul Int.reduceToNat Int.reducePow Int.reduceNe Int.reduceMod Int.reduceDiv Int.reduceEq Nat.reducePow Int.reduceNeg
set_option maxRecDepth 10000
def Cfg.addμ (C : Cfg) (t : TypeId) (m : String) (g : FuncId) : Cfg := ⟨C.Γ, C.xf, C.Γn, C.Γm, C.Γa, fun t' m' => if t' = t ∧ m' = m then some g else C.μ t' m'⟩
theorem addμ_ok {P : Program} {C : Cfg} (ok : CfgOk P C) {t : TypeId} {m : String} {g : FuncId} (h : ∀ v w, (Go.method (P.types.size + Made.depth) t v m).run P w = .ok (g, v) w) : CfgOk P (Cfg.addμ C t m g) := by
  refine ⟨ok.Γ, ok.xf, ok.mixed, ok.Γn, ok.Γm, ok.Γa, fun t' m' g' hg => ?_⟩
  simp only [Cfg.addμ] at hg
  split at hg
  · rename_i e
    obtain ⟨rfl, rfl⟩ := e
    cases hg
    exact h
  · exact ok.μ t' m' g' hg
section
variable {C : Cfg} {key : Key} {tm : Nat → AVal} {hp hp' : Heap}
def ftI (C : Cfg) (m : String) (x : AVal) (xs : List AVal) (hp hp' : Heap) : Foot := match x with
  | .ifc t v => match C.μ t m with
    | some g => match C.Γ g with
      | some F => ftC F (v :: xs) hp
      | none => (.cl (fun k => hp' k = hp k), [])
    | none => (.kn [], [])
  | _ => (.kn [], [])
theorem ft_inv (m : String) (x : XArg) (xs : List XArg) : ftV C key (.inv m x xs) tm hp hp' = ftI C m (arg tm x) (xs.map (arg tm)) hp hp' := by
  simp only [ftV, rdOf, ftI]
  cases arg tm x <;> try rfl
  rename_i t v
  simp only
  cases C.μ t m with
  | none => rfl
  | some g =>
    simp only
    cases C.Γ g <;> rfl
theorem ftI_ifc {m : String} {t : TypeId} {v : AVal} {xs : List AVal} {g : FuncId} {F : List AVal → Option AVal} (hm : C.μ t m = some g) (hg : C.Γ g = some F) : ftI C m (.ifc t v) xs hp hp' = ftC F (v :: xs) hp := by
  simp only [ftI, hm, hg]
end
attribute [go_sem ↓] ft_inv
structure Bs where
  s : Int
  m : Int
  u : Int
  r : Int
  l : Int
abbrev BC (b : Bs) : List AVal := [.int .i64 b.s, .int .i64 b.m, .int .i64 b.u, .int .i64 b.r, .int .i64 b.l]
abbrev BK (b : Bs) : AVal := .agg (BC b)
abbrev B0 : Bs := ⟨0, 0, 0, 0, 0⟩
def Bs.steps (b : Bs) : Int := if b.s = 1 then max 0 (b.m - 1) else b.m
abbrev i64R (x : Int) : Prop := -9223372036854775808 ≤ x ∧ x ≤ 9223372036854775807
abbrev baOk1 (b : Bs) : Prop := (1 ≤ b.s ∧ b.s ≤ 10) ∧ (0 ≤ b.m ∧ b.m ≤ 25) ∧ (-1000000 ≤ b.l ∧ b.l ≤ 1000000) ∧ (b.m = 0 → b.l = 0)
abbrev baOk2 (b : Bs) : Prop := (-(b.m * b.s * 1000000) ≤ b.u ∧ b.u ≤ b.m * b.s * 1000000) ∧ 0 ≤ b.r ∧ b.r ≤ 2000000 * b.steps
abbrev baOk (b : Bs) : Prop := baOk1 b ∧ baOk2 b
theorem mul_bnd2 {x y M N : Int} (h0 : 0 ≤ x) (h1 : x ≤ M) (h2 : 0 ≤ y) (h3 : y ≤ N) : 0 ≤ x * y ∧ x * y ≤ M * N :=
  ⟨Int.mul_nonneg h0 h2, Int.mul_le_mul h1 h3 h2 (by omega)⟩
theorem ms_bnd {b : Bs} (h : baOk1 b) : 0 ≤ b.m * b.s ∧ b.m * b.s ≤ 250 := mul_bnd2 h.2.1.1 h.2.1.2 (show (0 : Int) ≤ b.s by have := h.1.1; omega) h.1.2
noncomputable def C25 : Cfg := C3.add 221 F_fac
theorem ok25 : CfgOk Tryz.prog C25 := ok3.add sound221
noncomputable def F54 : List AVal → Option AVal := pureF C25 1 54
theorem sound54 : Sound Tryz.prog 54 F54 := sound_self ok25 1 54
def ofT (b : Bs) : TypeId := if b.s = 1 then 170 else 171
theorem F54_eq {b : Bs} : F54 [BK b] = some (.ifc (ofT b) (BK b)) := by
  unfold F54
  refine pureF_of (x := x54) rfl rfl ?_
  rw [x54_eq.1, x54_eq.2.1]
  by_cases h : b.s = 1
  · have d := decide_eq_true h
    have e : ofT b = 170 := if_pos h
    rw [e]
    simp (disch := first | omega | simp only [go_sem, ↓reduceIte, dropK_eq]) only [x54b, go_sem, ↓reduceIte, dropK_eq, d]
    rw [Ends_eq]
    simp (disch := first | omega | simp only [go_sem, ↓reduceIte, dropK_eq]) only [go_sem, ↓reduceIte, dropK_eq]
  · have d := decide_eq_false h
    have e : ofT b = 171 := if_neg h
    rw [e]
    simp (disch := first | omega | simp only [go_sem, ↓reduceIte, dropK_eq]) only [x54b, go_sem, ↓reduceIte, dropK_eq, d]
    rw [Ends_eq]
    simp (disch := first | omega | simp only [go_sem, ↓reduceIte, dropK_eq]) only [go_sem, ↓reduceIte, dropK_eq]
noncomputable def F310 : List AVal → Option AVal := pureF C25 1 310
theorem sound310 : Sound Tryz.prog 310 F310 := sound_self ok25 1 310
theorem F310_eq {b : Bs} (h : 0 ≤ b.m ∧ b.m ≤ 25) : F310 [BK b] = some (.int .i64 (max 0 (b.m - 1))) := by
  unfold F310
  refine pureF_of (x := x310) rfl rfl ?_
  rw [x310_eq.1, x310_eq.2.1]
  simp (disch := first | omega | simp only [*, go_sem, ↓reduceIte, dropK_eq]) only [x310b, go_sem, ↓reduceIte, dropK_eq, mnx_max]
  exact Ends_plain rfl rfl
noncomputable def F314 : List AVal → Option AVal := pureF C25 1 314
theorem sound314 : Sound Tryz.prog 314 F314 := sound_self ok25 1 314
theorem F314_eq {b : Bs} : F314 [BK b] = some (.int .i64 b.m) := by
  unfold F314
  refine pureF_of (x := x314) rfl rfl ?_
  rw [x314_eq.1, x314_eq.2.1]
  simp (disch := first | omega | simp only [*, go_sem, ↓reduceIte, dropK_eq]) only [x314b, go_sem, ↓reduceIte, dropK_eq]
  exact Ends_plain rfl rfl
noncomputable def C26 : Cfg := Cfg.addμ (Cfg.addμ (((C25.add 54 F54).add 310 F310).add 314 F314) 170 "datum/base.steps" 310) 171 "datum/base.steps" 314
theorem ok26 : CfgOk Tryz.prog C26 := addμ_ok (addμ_ok (((ok25.add sound54).add sound310).add sound314) (fun v w => by kernel_rfl)) (fun v w => by kernel_rfl)
noncomputable def F53 : List AVal → Option AVal := pureF C26 1 53
theorem sound53 : Sound Tryz.prog 53 F53 := sound_self ok26 1 53
theorem F53_no1 {b : Bs} (h : ¬ baOk1 b) : F53 [BK b] = some (.bool false) := by
  unfold F53
  refine pureF_of (x := x53) rfl rfl ?_
  rw [x53_eq.1, x53_eq.2.1]
  simp (disch := first | omega | simp only [go_sem, ↓reduceIte, dropK_eq]) only [x53b, go_sem, ↓reduceIte, dropK_eq, callX_known (C := C26) (g := 91) rfl, ft_call (C := C26) (g := 91) rfl, F91_eq]
  repeat' (first | exact Ends_plain rfl rfl | (first | refine Gd_split_t (fun h => ?_) (fun h => ?_) | refine Gd_split_f (fun h => ?_) (fun h => ?_) | refine Cd_split (fun h => ?_) (fun h => ?_)) <;> (try simp (disch := first | omega | simp only [go_sem, ↓reduceIte, dropK_eq]) only [*, go_sem, ↓reduceIte, dropK_eq, callX_known (C := C26) (g := 91) rfl, ft_call (C := C26) (g := 91) rfl, F91_eq]))
  all_goals
    exfalso
    simp only [baOk1, Bool.not_eq_true', Bool.not_eq_false', decide_eq_true_eq, decide_eq_false_iff_not] at *
    omega
theorem F53_yes1 {b : Bs} (h : baOk1 b) (hu : i64R b.u) : F53 [BK b] = some (.bool (decide (baOk2 b))) := by
  have hms := ms_bnd h
  obtain ⟨⟨h1, h2⟩, ⟨h3, h4⟩, h5, h6⟩ := h
  have d1 : decide (b.s < 1) = false := decide_eq_false (by omega)
  have d2 : decide (10 < b.s) = false := decide_eq_false (by omega)
  have d3 : decide (b.m < 0) = false := decide_eq_false (by omega)
  have d4 : decide (25 < b.m) = false := decide_eq_false (by omega)
  have e91 := F91_eq (x := b.l)
  rw [decide_eq_true h5] at e91
  have e54 := F54_eq (b := b)
  have e310 := F310_eq (b := b) ⟨h3, h4⟩
  have e314 := F314_eq (b := b)
  obtain ⟨v, hv⟩ : ∃ v, IntKind.i64.wrap (0 - b.u) = v := ⟨_, rfl⟩
  have hv2 : v = -b.u ∨ (b.u = -9223372036854775808 ∧ v = -9223372036854775808) := by
    by_cases hm : b.u = -9223372036854775808
    · right
      refine ⟨hm, ?_⟩
      rw [← hv, hm]
      rfl
    · left
      rw [← hv, wrap_i64 (by omega) (by omega)]
      omega
  have fin : ∀ T : Int, b.steps = T → (decide (max b.u v ≤ b.m * b.s * 1000000) && (decide (-(b.m * b.s * 1000000) ≤ b.u) && (decide (0 ≤ b.r) && decide (b.r ≤ 2000000 * T)))) = decide (baOk2 b) := by
    intro T hT
    simp only [baOk2, hT]
    rw [Bool.eq_iff_iff]
    simp only [Bool.and_eq_true, decide_eq_true_eq]
    omega
  have w3 : (0 : Int) - b.m * b.s * 1000000 = -(b.m * b.s * 1000000) := by omega
  have w2 : IntKind.i64.wrap (0 - b.m * b.s * 1000000) = -(b.m * b.s * 1000000) := by rw [wrap_i64 (by omega) (by omega), w3]
  unfold F53
  refine pureF_of (x := x53) rfl rfl ?_
  rw [x53_eq.1, x53_eq.2.1]
  by_cases hs : b.s = 1
  · have hT : b.steps = max 0 (b.m - 1) := if_pos hs
    have hof : ofT b = 170 := if_pos hs
    rw [hof] at e54
    have hfin := fin _ hT
    rw [← hfin]
    clear fin hfin hs hof hT
    generalize hm : max 0 (b.m - 1) = T at *
    generalize hc1 : decide (max b.u v ≤ b.m * b.s * 1000000) = c1
    generalize hc2 : decide (-(b.m * b.s * 1000000) ≤ b.u) = c2
    generalize hc3 : decide (0 ≤ b.r) = c3
    have hTb : 0 ≤ T ∧ T ≤ 24 := by omega
    by_cases h0 : b.m = 0
    · have d5 := decide_eq_true h0
      have d6 : decide (¬ b.l = 0) = false := decide_eq_false (by omega)
      clear h0 h6
      cases c1 <;> cases c2 <;> cases c3
      all_goals
        simp (disch := first | omega | simp only [go_sem, ↓reduceIte, dropK_eq]) only [x53b, go_sem, ↓reduceIte, dropK_eq, callX_known (C := C26) (g := 91) rfl, ft_call (C := C26) (g := 91) rfl, callX_known (C := C26) (g := 54) rfl, ft_call (C := C26) (g := 54) rfl, d1, d2, d3, d4, d5, d6, e91, hv, mnx_max, w2, hc1, hc2, hc3, e54, invX_ifc (C := C26) (t := 170) (m := "datum/base.steps") (g := 310) rfl, ftI_ifc (C := C26) (t := 170) (m := "datum/base.steps") (g := 310) rfl rfl, callX_known (C := C26) (g := 310) rfl, e310]
        exact Ends_plain rfl rfl
    · have d5 := decide_eq_false h0
      clear h0 h6
      cases c1 <;> cases c2 <;> cases c3
      all_goals
        simp (disch := first | omega | simp only [go_sem, ↓reduceIte, dropK_eq]) only [x53b, go_sem, ↓reduceIte, dropK_eq, callX_known (C := C26) (g := 91) rfl, ft_call (C := C26) (g := 91) rfl, callX_known (C := C26) (g := 54) rfl, ft_call (C := C26) (g := 54) rfl, d1, d2, d3, d4, d5, e91, hv, mnx_max, w2, hc1, hc2, hc3, e54, invX_ifc (C := C26) (t := 170) (m := "datum/base.steps") (g := 310) rfl, ftI_ifc (C := C26) (t := 170) (m := "datum/base.steps") (g := 310) rfl rfl, callX_known (C := C26) (g := 310) rfl, e310]
        exact Ends_plain rfl rfl
  · have hT : b.steps = b.m := if_neg hs
    have hof : ofT b = 171 := if_neg hs
    rw [hof] at e54
    have hfin := fin _ hT
    rw [← hfin]
    clear fin hfin hs hof hT
    generalize hc1 : decide (max b.u v ≤ b.m * b.s * 1000000) = c1
    generalize hc2 : decide (-(b.m * b.s * 1000000) ≤ b.u) = c2
    generalize hc3 : decide (0 ≤ b.r) = c3
    by_cases h0 : b.m = 0
    · have d5 := decide_eq_true h0
      have d6 : decide (¬ b.l = 0) = false := decide_eq_false (by omega)
      clear h0 h6
      cases c1 <;> cases c2 <;> cases c3
      all_goals
        simp (disch := first | omega | simp only [go_sem, ↓reduceIte, dropK_eq]) only [x53b, go_sem, ↓reduceIte, dropK_eq, callX_known (C := C26) (g := 91) rfl, ft_call (C := C26) (g := 91) rfl, callX_known (C := C26) (g := 54) rfl, ft_call (C := C26) (g := 54) rfl, d1, d2, d3, d4, d5, d6, e91, hv, mnx_max, w2, hc1, hc2, hc3, e54, invX_ifc (C := C26) (t := 171) (m := "datum/base.steps") (g := 314) rfl, ftI_ifc (C := C26) (t := 171) (m := "datum/base.steps") (g := 314) rfl rfl, callX_known (C := C26) (g := 314) rfl, e314]
        exact Ends_plain rfl rfl
    · have d5 := decide_eq_false h0
      clear h0 h6
      cases c1 <;> cases c2 <;> cases c3
      all_goals
        simp (disch := first | omega | simp only [go_sem, ↓reduceIte, dropK_eq]) only [x53b, go_sem, ↓reduceIte, dropK_eq, callX_known (C := C26) (g := 91) rfl, ft_call (C := C26) (g := 91) rfl, callX_known (C := C26) (g := 54) rfl, ft_call (C := C26) (g := 54) rfl, d1, d2, d3, d4, d5, e91, hv, mnx_max, w2, hc1, hc2, hc3, e54, invX_ifc (C := C26) (t := 171) (m := "datum/base.steps") (g := 314) rfl, ftI_ifc (C := C26) (t := 171) (m := "datum/base.steps") (g := 314) rfl rfl, callX_known (C := C26) (g := 314) rfl, e314]
        exact Ends_plain rfl rfl
theorem F53_eq {b : Bs} (hu : i64R b.u) : F53 [BK b] = some (.bool (decide (baOk b))) := by
  by_cases h : baOk1 b
  · rw [F53_yes1 h hu]
    congr 2
    exact decide_eq_decide.2 ⟨fun h2 => ⟨h, h2⟩, fun h2 => h2.2⟩
  · rw [F53_no1 h, decide_eq_false (fun h2 => h h2.1)]
set_option maxRecDepth 10000
noncomputable def F32 : List AVal → Option AVal := pureF C3 1 32
theorem sound32 : Sound Tryz.prog 32 F32 := sound_self ok3 1 32
theorem F32_eq {n : Int} : F32 [.int .i64 n] = some (if 1 ≤ n ∧ n ≤ 10 then .tup [BK ⟨n, 0, 0, 0, 0⟩, .int .i64 0] else .tup [BK B0, .int .i64 1]) := by
  unfold F32
  refine pureF_of (x := x32) rfl rfl ?_
  rw [x32_eq.1, x32_eq.2.1]
  by_cases h1 : n < 1
  · have d1 := decide_eq_true h1
    rw [if_neg (by omega)]
    simp (disch := first | omega | simp only [*, go_sem, ↓reduceIte, dropK_eq]) only [x32b, go_sem, ↓reduceIte, dropK_eq, d1]
    exact Ends_plain rfl rfl
  · have d1 := decide_eq_false h1
    by_cases h2 : 10 < n
    · have d2 := decide_eq_true h2
      rw [if_neg (by omega)]
      simp (disch := first | omega | simp only [*, go_sem, ↓reduceIte, dropK_eq]) only [x32b, go_sem, ↓reduceIte, dropK_eq, d1, d2]
      exact Ends_plain rfl rfl
    · have d2 := decide_eq_false h2
      rw [if_pos (by omega)]
      simp (disch := first | omega | simp only [*, go_sem, ↓reduceIte, dropK_eq]) only [x32b, go_sem, ↓reduceIte, dropK_eq, d1, d2]
      exact Ends_plain rfl rfl
def mxL (l : List Int) : Int := l.tail.foldl max (l.headD 0)
def mnL (l : List Int) : Int := l.tail.foldl min (l.headD 0)
theorem take_tail {l : List Int} {i : Nat} (h0 : 1 ≤ i) (hi : i < l.length) : (l.take (i + 1)).tail = (l.take i).tail ++ [l.getD i 0] ∧ (l.take (i + 1)).headD 0 = (l.take i).headD 0 := by
  cases l with
  | nil => simp at hi
  | cons x l =>
    obtain ⟨i, rfl⟩ : ∃ k, i = k + 1 := ⟨i - 1, by omega⟩
    simp only [List.length_cons] at hi
    simp only [List.take_succ_cons, List.tail_cons, List.headD_cons, List.getD_cons_succ, and_true]
    rw [List.take_add_one, List.getElem?_eq_getElem (by omega), List.getD_eq_getElem?_getD, List.getElem?_eq_getElem (by omega)]
    rfl
theorem mxL_step {l : List Int} {i : Nat} (h0 : 1 ≤ i) (hi : i < l.length) : mxL (l.take (i + 1)) = max (mxL (l.take i)) (l.getD i 0) := by
  obtain ⟨h1, h2⟩ := take_tail h0 hi
  unfold mxL
  rw [h1, h2, List.foldl_append]
  rfl
theorem mnL_step {l : List Int} {i : Nat} (h0 : 1 ≤ i) (hi : i < l.length) : mnL (l.take (i + 1)) = min (mnL (l.take i)) (l.getD i 0) := by
  obtain ⟨h1, h2⟩ := take_tail h0 hi
  unfold mnL
  rw [h1, h2, List.foldl_append]
  rfl
theorem mnx_min {k : IntKind} {a b : Int} : mnxA false (.int k a) [.int k b] = some (.int k (min a b)) := by
  simp only [mnxA, Bool.false_eq_true, if_false]
  refine congrArg (fun z => some (AVal.int k z)) ?_
  split <;> omega
noncomputable def F214 : List AVal → Option AVal := pureF C3 1 214
theorem sound214 : Sound Tryz.prog 214 F214 := sound_self ok3 1 214
theorem F214_eq {a : AVal} {l : List Int} (ha : Rw a l) (h0 : 1 ≤ l.length) (hl : l.length ≤ 100000) : F214 [a] = some (.int .i64 (mxL l)) := by
  have d0 : decide ((l.length : Int) < 1) = false := decide_eq_false (by omega)
  have ia := ha.ia (i := 0) (by omega)
  rw [show (((0 : Nat) : Int)) = 0 from rfl] at ia
  have e1 : l.getD 0 0 = mxL (l.take 1) := by
    cases l with
    | nil => simp at h0
    | cons x l => rfl
  rw [e1] at ia
  unfold F214
  refine pureF_of (x := x214) rfl rfl ?_
  rw [x214_eq.1, x214_eq.2.1]
  simp (disch := first | omega | simp only [*, go_sem, ↓reduceIte, dropK_eq]) only [x214b, go_sem, ↓reduceIte, dropK_eq, ha.len, d0, ia]
  refine Ev_loopW (I := fun n tm hp nc => ∃ i : Nat, 1 ≤ i ∧ i ≤ l.length ∧ n = l.length - i ∧ tm 4 = .int .i64 (i : Int) ∧ tm 3 = .int .i64 (mxL (l.take i))) (n := l.length - 1) ⟨1, by omega, h0, rfl, by simp only [go_sem, ↓reduceIte, dropK_eq], by simp only [go_sem, ↓reduceIte, dropK_eq]⟩ (by omega) ?_
  rintro n tm hp nc hc ⟨i, hi1, hi, rfl, k4, k3⟩
  have k0 := hc 0 rfl; simp only [go_sem, ↓reduceIte, dropK_eq] at k0
  rcases Nat.lt_or_ge i l.length with hlt | hge
  · have d1 : decide ((i : Int) < (l.length : Int)) = true := decide_eq_true (by omega)
    have ii := ha.ia hlt
    have hst := mxL_step hi1 hlt
    simp (disch := first | omega | simp only [*, go_sem, ↓reduceIte, dropK_eq]) only [x214l5, go_sem, ↓reduceIte, dropK_eq, ha.len, k0, k4, k3, d1, ii, mnx_max, ← hst]
    exact ⟨l.length - (i + 1), by omega, i + 1, by omega, by omega, rfl, by simp, rfl⟩
  · obtain rfl : i = l.length := by omega
    have d1 : decide ((l.length : Int) < (l.length : Int)) = false := decide_eq_false (by omega)
    rw [List.take_length] at k3
    simp (disch := first | omega | simp only [*, go_sem, ↓reduceIte, dropK_eq]) only [x214l5, go_sem, ↓reduceIte, dropK_eq, ha.len, k0, k4, k3, d1]
    exact Ends_plain rfl rfl
noncomputable def F215 : List AVal → Option AVal := pureF C3 1 215
theorem sound215 : Sound Tryz.prog 215 F215 := sound_self ok3 1 215
theorem F215_eq {a : AVal} {l : List Int} (ha : Rw a l) (h0 : 1 ≤ l.length) (hl : l.length ≤ 100000) : F215 [a] = some (.int .i64 (mnL l)) := by
  have d0 : decide ((l.length : Int) < 1) = false := decide_eq_false (by omega)
  have ia := ha.ia (i := 0) (by omega)
  rw [show (((0 : Nat) : Int)) = 0 from rfl] at ia
  have e1 : l.getD 0 0 = mnL (l.take 1) := by
    cases l with
    | nil => simp at h0
    | cons x l => rfl
  rw [e1] at ia
  unfold F215
  refine pureF_of (x := x215) rfl rfl ?_
  rw [x215_eq.1, x215_eq.2.1]
  simp (disch := first | omega | simp only [*, go_sem, ↓reduceIte, dropK_eq]) only [x215b, go_sem, ↓reduceIte, dropK_eq, ha.len, d0, ia]
  refine Ev_loopW (I := fun n tm hp nc => ∃ i : Nat, 1 ≤ i ∧ i ≤ l.length ∧ n = l.length - i ∧ tm 4 = .int .i64 (i : Int) ∧ tm 3 = .int .i64 (mnL (l.take i))) (n := l.length - 1) ⟨1, by omega, h0, rfl, by simp only [go_sem, ↓reduceIte, dropK_eq], by simp only [go_sem, ↓reduceIte, dropK_eq]⟩ (by omega) ?_
  rintro n tm hp nc hc ⟨i, hi1, hi, rfl, k4, k3⟩
  have k0 := hc 0 rfl; simp only [go_sem, ↓reduceIte, dropK_eq] at k0
  rcases Nat.lt_or_ge i l.length with hlt | hge
  · have d1 : decide ((i : Int) < (l.length : Int)) = true := decide_eq_true (by omega)
    have ii := ha.ia hlt
    have hst := mnL_step hi1 hlt
    simp (disch := first | omega | simp only [*, go_sem, ↓reduceIte, dropK_eq]) only [x215l5, go_sem, ↓reduceIte, dropK_eq, ha.len, k0, k4, k3, d1, ii, mnx_min, ← hst]
    exact ⟨l.length - (i + 1), by omega, i + 1, by omega, by omega, rfl, by simp, rfl⟩
  · obtain rfl : i = l.length := by omega
    have d1 : decide ((l.length : Int) < (l.length : Int)) = false := decide_eq_false (by omega)
    rw [List.take_length] at k3
    simp (disch := first | omega | simp only [*, go_sem, ↓reduceIte, dropK_eq]) only [x215l5, go_sem, ↓reduceIte, dropK_eq, ha.len, k0, k4, k3, d1]
    exact Ends_plain rfl rfl
theorem mx_bnd {l : List Int} {p : Int → Prop} (h0 : 1 ≤ l.length) (h : ∀ x ∈ l, p x) (hm : ∀ a b, p a → p b → p (max a b)) : p (mxL l) := by
  cases l with
  | nil => simp at h0
  | cons x l =>
    have : ∀ (l : List Int) (x : Int), p x → (∀ y ∈ l, p y) → p (l.foldl max x) := by
      intro l
      induction l with
      | nil => intro x hx _; exact hx
      | cons y l ih => intro x hx hy; exact ih _ (hm _ _ hx (hy y (by simp))) fun z hz => hy z (by simp [hz])
    exact this l x (h x (by simp)) fun y hy => h y (by simp [hy])
theorem mn_bnd {l : List Int} {p : Int → Prop} (h0 : 1 ≤ l.length) (h : ∀ x ∈ l, p x) (hm : ∀ a b, p a → p b → p (min a b)) : p (mnL l) := by
  cases l with
  | nil => simp at h0
  | cons x l =>
    have : ∀ (l : List Int) (x : Int), p x → (∀ y ∈ l, p y) → p (l.foldl min x) := by
      intro l
      induction l with
      | nil => intro x hx _; exact hx
      | cons y l ih => intro x hx hy; exact ih _ (hm _ _ hx (hy y (by simp))) fun z hz => hy z (by simp [hz])
    exact this l x (h x (by simp)) fun y hy => h y (by simp [hy])
theorem foldmax_ge : ∀ (l : List Int) (x : Int), x ≤ l.foldl max x
  | [], x => Int.le_refl _
  | y :: l, x => Int.le_trans (by omega) (foldmax_ge l (max x y))
theorem foldmin_le : ∀ (l : List Int) (x : Int), l.foldl min x ≤ x
  | [], x => Int.le_refl _
  | y :: l, x => Int.le_trans (foldmin_le l (min x y)) (by omega)
theorem mn_le_mx (l : List Int) : mnL l ≤ mxL l := Int.le_trans (foldmin_le _ _) (foldmax_ge _ _)
abbrev inM (x : Int) : Prop := -1000000 ≤ x ∧ x ≤ 1000000
theorem mx_in {l : List Int} (h0 : 1 ≤ l.length) (h : ∀ x ∈ l, inM x) : inM (mxL l) := mx_bnd h0 h fun a b ha hb => by simp only [inM] at *; omega
theorem mn_in {l : List Int} (h0 : 1 ≤ l.length) (h : ∀ x ∈ l, inM x) : inM (mnL l) := mn_bnd h0 h fun a b ha hb => by simp only [inM] at *; omega
def reachI (b : Bs) (row : List Int) : Int := if b.s = 1 then (if b.m = 0 then 0 else max (row.headD 0 - b.l) (b.l - row.headD 0)) else mxL row - mnL row
noncomputable def C27 : Cfg := (C26.add 214 F214).add 215 F215
theorem ok27 : CfgOk Tryz.prog C27 := (ok26.add sound214).add sound215
noncomputable def F312 : List AVal → Option AVal := pureF C27 1 312
theorem sound312 : Sound Tryz.prog 312 F312 := sound_self ok27 1 312
theorem F312_eq {b : Bs} {a : AVal} {l : List Int} (ha : Rw a l) (h0 : 1 ≤ l.length) (hl : l.length ≤ 1000) (h : ∀ x ∈ l, inM x) : F312 [BK b, a] = some (.int .i64 (mxL l - mnL l)) := by
  have e1 := F214_eq ha h0 (by omega)
  have e2 := F215_eq ha h0 (by omega)
  have h1 := mx_in h0 h
  have h2 := mn_in h0 h
  have ap := ha.plain
  clear h
  simp only [inM] at h1 h2
  unfold F312
  refine pureF_of (x := x312) rfl rfl ?_
  rw [x312_eq.1, x312_eq.2.1]
  simp (disch := first | omega | simp only [*, go_sem, ↓reduceIte, dropK_eq]) only [x312b, go_sem, ↓reduceIte, dropK_eq, callX_known (C := C27) (g := 214) rfl, ft_call (C := C27) (g := 214) rfl, callX_known (C := C27) (g := 215) rfl, ft_call (C := C27) (g := 215) rfl, e1, e2]
  exact Ends_plain rfl rfl
noncomputable def F308 : List AVal → Option AVal := pureF C27 1 308
theorem sound308 : Sound Tryz.prog 308 F308 := sound_self ok27 1 308
theorem F308_eq {b : Bs} {a : AVal} {x : Int} (ha : Rw a [x]) (hx : inM x) (hb : inM b.l) : F308 [BK b, a] = some (.int .i64 (if b.m = 0 then 0 else max (x - b.l) (b.l - x))) := by
  have ia := ha.ia (i := 0) (by simp)
  rw [show (((0 : Nat) : Int)) = 0 from rfl] at ia
  simp only [List.getD_cons_zero] at ia
  simp only [inM] at hx hb
  unfold F308
  refine pureF_of (x := x308) rfl rfl ?_
  rw [x308_eq.1, x308_eq.2.1]
  by_cases h : b.m = 0
  · have d := decide_eq_true h
    rw [if_pos h]
    clear h
    simp (disch := first | omega | simp only [*, go_sem, ↓reduceIte, dropK_eq]) only [x308b, go_sem, ↓reduceIte, dropK_eq, d]
    exact Ends_plain rfl rfl
  · have d := decide_eq_false h
    rw [if_neg h]
    clear h
    simp (disch := first | omega | simp only [*, go_sem, ↓reduceIte, dropK_eq]) only [x308b, go_sem, ↓reduceIte, dropK_eq, d, ia, mnx_max]
    exact Ends_plain rfl rfl
noncomputable def F307 : List AVal → Option AVal := pureF C27 1 307
theorem sound307 : Sound Tryz.prog 307 F307 := sound_self ok27 1 307
theorem F307_eq {b : Bs} (h : 0 ≤ b.m ∧ b.m ≤ 25) : F307 [BK b] = some (.tup [.int .i64 2, .int .i64 (b.m - 1)]) := by
  unfold F307
  refine pureF_of (x := x307) rfl rfl ?_
  rw [x307_eq.1, x307_eq.2.1]
  simp (disch := first | omega | simp only [*, go_sem, ↓reduceIte, dropK_eq]) only [x307b, go_sem, ↓reduceIte, dropK_eq]
  exact Ends_plain rfl rfl
noncomputable def F311 : List AVal → Option AVal := pureF C27 1 311
theorem sound311 : Sound Tryz.prog 311 F311 := sound_self ok27 1 311
theorem F311_eq {b : Bs} : F311 [BK b] = some (.tup [.int .i64 b.s, .int .i64 b.m]) := by
  unfold F311
  refine pureF_of (x := x311) rfl rfl ?_
  rw [x311_eq.1, x311_eq.2.1]
  simp (disch := first | omega | simp only [*, go_sem, ↓reduceIte, dropK_eq]) only [x311b, go_sem, ↓reduceIte, dropK_eq]
  exact Ends_plain rfl rfl
theorem fac_rng : ∀ k < 7, ∀ n < 11, 2 ≤ n → 0 ≤ facI ((k : Nat) : Int) ((n : Nat) : Int) ∧ facI ((k : Nat) : Int) ((n : Nat) : Int) ≤ 32670 := by decide +kernel
theorem fac_bnd {k n : Int} (hk : 0 ≤ k ∧ k < 7) (hn : 2 ≤ n ∧ n ≤ 10) : 0 ≤ facI k n ∧ facI k n ≤ 32670 := by
  have := fac_rng k.toNat (by omega) n.toNat (by omega) (by omega)
  rwa [Int.toNat_of_nonneg hk.1, Int.toNat_of_nonneg (by omega)] at this
noncomputable def F309 : List AVal → Option AVal := pureF C27 1 309
theorem sound309 : Sound Tryz.prog 309 F309 := sound_self ok27 1 309
theorem F309_eq {b : Bs} (h : 0 ≤ b.m ∧ b.m ≤ 25) (hr : 0 ≤ b.r ∧ b.r ≤ 50000000) : F309 [BK b] = some (.tup [.int .i64 (11280 * (b.m - 1) * b.m), .int .i64 (11280 * (b.m - 1)), .int .i64 (11280 * (b.m - 1)), .int .i64 (10000 * b.m * b.r)]) := by
  have e221 := F_fac_eq (k := 3) (n := 2) (by decide) (by decide)
  rw [show facI 3 2 = 11280 by decide] at e221
  have hb1 : -11280 * 25 ≤ 11280 * (b.m - 1) * b.m ∧ 11280 * (b.m - 1) * b.m ≤ 11280 * 25 * 25 := by
    have h1 := Int.mul_le_mul (show 11280 * (b.m - 1) ≤ 11280 * 24 by omega) h.2 h.1 (by decide)
    have h2 := Int.mul_le_mul_of_nonneg_right (show -11280 ≤ 11280 * (b.m - 1) by omega) h.1
    omega
  have hb2 : 0 ≤ 10000 * b.m * b.r ∧ 10000 * b.m * b.r ≤ 250000 * 50000000 := mul_bnd2 (by omega) (by omega) hr.1 hr.2
  unfold F309
  refine pureF_of (x := x309) rfl rfl ?_
  rw [x309_eq.1, x309_eq.2.1]
  simp (disch := first | omega | simp only [*, go_sem, ↓reduceIte, dropK_eq]) only [x309b, go_sem, ↓reduceIte, dropK_eq, callX_known (C := C27) (g := 221) rfl, ft_call (C := C27) (g := 221) rfl, e221]
  exact Ends_plain rfl rfl
noncomputable def F313 : List AVal → Option AVal := pureF C27 1 313
theorem sound313 : Sound Tryz.prog 313 F313 := sound_self ok27 1 313
theorem F313_eq {b : Bs} (h : 0 ≤ b.m ∧ b.m ≤ 25) (hs : 2 ≤ b.s ∧ b.s ≤ 10) (hr : 0 ≤ b.r ∧ b.r ≤ 50000000) : F313 [BK b] = some (.tup [.int .i64 (30000 * b.m * b.s), .int .i64 30000, .int .i64 30000, .int .i64 (facI 0 b.s * b.r * b.s)]) := by
  have e221 := F_fac_eq (k := 0) (n := b.s) (by decide) hs
  have hf := fac_bnd (k := 0) (by decide) hs
  have hb1 : 0 ≤ 30000 * b.m * b.s ∧ 30000 * b.m * b.s ≤ 750000 * 10 := mul_bnd2 (by omega) (by omega) (by omega) hs.2
  have hb2 : 0 ≤ facI 0 b.s * b.r ∧ facI 0 b.s * b.r ≤ 32670 * 50000000 := mul_bnd2 hf.1 hf.2 hr.1 hr.2
  have hb3 : 0 ≤ facI 0 b.s * b.r * b.s ∧ facI 0 b.s * b.r * b.s ≤ 1633500000000 * 10 := mul_bnd2 hb2.1 (by omega) (by omega) hs.2
  generalize facI 0 b.s = f at *
  unfold F313
  refine pureF_of (x := x313) rfl rfl ?_
  rw [x313_eq.1, x313_eq.2.1]
  simp (disch := first | omega | simp only [*, go_sem, ↓reduceIte, dropK_eq]) only [x313b, go_sem, ↓reduceIte, dropK_eq, callX_known (C := C27) (g := 221) rfl, ft_call (C := C27) (g := 221) rfl, e221]
  exact Ends_plain rfl rfl
set_option maxRecDepth 10000
noncomputable def C28 : Cfg := Cfg.addμ (Cfg.addμ (Cfg.addμ (Cfg.addμ (Cfg.addμ (Cfg.addμ (((((((C27.add 308 F308).add 312 F312).add 309 F309).add 313 F313).add 307 F307).add 311 F311).add 53 F53) 170 "datum/base.reach" 308) 171 "datum/base.reach" 312) 170 "datum/base.scale" 309) 171 "datum/base.scale" 313) 170 "datum/base.ranges" 307) 171 "datum/base.ranges" 311
theorem ok28 : CfgOk Tryz.prog C28 := addμ_ok (addμ_ok (addμ_ok (addμ_ok (addμ_ok (addμ_ok (((((((ok27.add sound308).add sound312).add sound309).add sound313).add sound307).add sound311).add sound53) (fun v w => by kernel_rfl)) (fun v w => by kernel_rfl)) (fun v w => by kernel_rfl)) (fun v w => by kernel_rfl)) (fun v w => by kernel_rfl)) (fun v w => by kernel_rfl)
def denB (b : Bs) : Int := if b.s = 1 then 11280 * (b.m - 1) * b.m else 30000 * b.m * b.s
def byB (b : Bs) : Int := if b.s = 1 then 11280 * (b.m - 1) else 30000
def sprB (b : Bs) : Int := if b.s = 1 then 10000 * b.m * b.r else facI 0 b.s * b.r * b.s
def ptB (b : Bs) (x : Int) : Pt := ⟨byB b * b.u, denB b, byB b * (x * b.m - b.u), sprB b * sprB b / 18446744073709551616, sprB b * sprB b % 18446744073709551616⟩
abbrev P0 : Pt := ⟨0, 0, 0, 0, 0⟩
theorem abs_mul {x y M N : Int} (h1 : -M ≤ x ∧ x ≤ M) (h2 : -N ≤ y ∧ y ≤ N) : -(M * N) ≤ x * y ∧ x * y ≤ M * N := by
  have hM : 0 ≤ M := by omega
  have hN : 0 ≤ N := by omega
  have a1 : x.natAbs ≤ M.natAbs := by omega
  have a2 : y.natAbs ≤ N.natAbs := by omega
  have a3 := Nat.mul_le_mul a1 a2
  rw [← Int.natAbs_mul, ← Int.natAbs_mul] at a3
  have a4 := Int.mul_nonneg hM hN
  omega
theorem baOk_r {b : Bs} (h : baOk b) : 0 ≤ b.r ∧ b.r ≤ 50000000 := by
  obtain ⟨⟨h1, h2, h3⟩, h4, h5, h6⟩ := h
  unfold Bs.steps at h6
  split at h6 <;> omega
theorem baOk_u {b : Bs} (h : baOk b) : -250000000 ≤ b.u ∧ b.u ≤ 250000000 := by
  have := ms_bnd h.1
  obtain ⟨_, h4, _⟩ := h
  omega
theorem by_bnd {b : Bs} (h : baOk b) (hm : 2 ≤ b.m) : 11280 ≤ byB b ∧ byB b ≤ 270720 := by
  obtain ⟨⟨h1, h2, h3⟩, _⟩ := h
  unfold byB
  split <;> omega
theorem den_bnd {b : Bs} (h : baOk b) (hm : 2 ≤ b.m) : 1 ≤ denB b ∧ denB b ≤ 7500000 := by
  obtain ⟨⟨h1, h2, h3⟩, _⟩ := h
  unfold denB
  split
  · have h4 := mul_bnd2 (x := 11280 * (b.m - 1)) (y := b.m) (M := 270720) (N := 25) (by omega) (by omega) (by omega) (by omega)
    have h5 := Int.mul_le_mul (show 11280 ≤ 11280 * (b.m - 1) by omega) hm (by decide) (by omega)
    omega
  · have h4 := mul_bnd2 (x := 30000 * b.m) (y := b.s) (M := 750000) (N := 10) (by omega) (by omega) (by omega) (by omega)
    have h5 := Int.mul_le_mul (show 60000 ≤ 30000 * b.m by omega) h1.1 (by decide) (by omega)
    omega
theorem spr_bnd {b : Bs} (h : baOk b) : 0 ≤ sprB b ∧ sprB b ≤ 16335000000000 := by
  have hr := baOk_r h
  obtain ⟨⟨h1, h2, h3⟩, _⟩ := h
  unfold sprB
  split
  · have := mul_bnd2 (x := 10000 * b.m) (y := b.r) (M := 250000) (N := 50000000) (by omega) (by omega) hr.1 hr.2
    omega
  · have hf := fac_bnd (k := 0) (n := b.s) (by decide) (by omega)
    have hb2 : 0 ≤ facI 0 b.s * b.r ∧ facI 0 b.s * b.r ≤ 32670 * 50000000 := mul_bnd2 hf.1 hf.2 hr.1 hr.2
    have hb3 : 0 ≤ facI 0 b.s * b.r * b.s ∧ facI 0 b.s * b.r * b.s ≤ 1633500000000 * 10 := mul_bnd2 hb2.1 (by omega) (by omega) h1.2
    omega
theorem dev_bnd {b : Bs} {x : Int} (h : baOk b) (hm : 2 ≤ b.m) (hx : -(b.s * 1000000) ≤ x ∧ x ≤ b.s * 1000000) : (-250000000 ≤ x * b.m ∧ x * b.m ≤ 250000000) ∧ (-500000000 ≤ x * b.m - b.u ∧ x * b.m - b.u ≤ 500000000) ∧ (-67680000000000 ≤ byB b * b.u ∧ byB b * b.u ≤ 67680000000000) ∧ (-135360000000000 ≤ byB b * (x * b.m - b.u) ∧ byB b * (x * b.m - b.u) ≤ 135360000000000) := by
  have hu := baOk_u h
  have hby := by_bnd h hm
  have h1 := abs_mul (x := x) (y := b.m) (M := 10000000) (N := 25) (by have := h.1.1; omega) (by have := h.1.2.1; omega)
  have h2 := abs_mul (x := byB b) (y := b.u) (M := 270720) (N := 250000000) (by omega) hu
  have h3 := abs_mul (x := byB b) (y := x * b.m - b.u) (M := 270720) (N := 500000000) (by omega) (by omega)
  omega
noncomputable def F21 : List AVal → Option AVal := pureF C28 1 21
theorem sound21 : Sound Tryz.prog 21 F21 := sound_self ok28 1 21
theorem F21_ok {b : Bs} {x : Int} (h : baOk b) (hm : 2 ≤ b.m) (hx : -(b.s * 1000000) ≤ x ∧ x ≤ b.s * 1000000) : F21 [BK b, .int .i64 x] = some (.tup [PtK (ptB b x), .int .i64 0]) := by
  have hu := baOk_u h
  have hr := baOk_r h
  have e53 := F53_eq (b := b) (by simp only [i64R]; omega)
  rw [decide_eq_true h] at e53
  obtain ⟨q1, q2, q3, q4⟩ := dev_bnd h hm hx
  have hsp := spr_bnd h
  have e55 := F55_eq (a := sprB b) (b := sprB b) (by simp only [U]; omega) (by simp only [U]; omega)
  have hs := h.1.1
  have hmm := h.1.2.1
  have e54 := F54_eq (b := b)
  have e309 := F309_eq (b := b) hmm hr
  have w1 : (0 - b.s) * 1000000 = -(b.s * 1000000) := by omega
  have d1 : decide (x < -(b.s * 1000000)) = false := decide_eq_false (by omega)
  have d2 : decide (b.s * 1000000 < x) = false := decide_eq_false (by omega)
  have d3 : decide (b.m < 2) = false := decide_eq_false (by omega)
  simp only [enc] at e55
  unfold F21 ptB
  refine pureF_of (x := x21) rfl rfl ?_
  rw [x21_eq.1, x21_eq.2.1]
  by_cases hs1 : b.s = 1
  · have hof : ofT b = 170 := if_pos hs1
    rw [hof] at e54
    have g1 : denB b = 11280 * (b.m - 1) * b.m := if_pos hs1
    have g2 : byB b = 11280 * (b.m - 1) := if_pos hs1
    have g3 : sprB b = 10000 * b.m * b.r := if_pos hs1
    rw [← g1, ← g2, ← g3] at e309
    clear hof g1 g2 g3 hs1 h
    generalize denB b = dn at *
    generalize byB b = y at *
    generalize sprB b = sp at *
    have w2 : sp % 18446744073709551616 = sp := by omega
    simp (disch := first | omega | simp only [go_sem, ↓reduceIte, dropK_eq]) only [x21b, go_sem, ↓reduceIte, dropK_eq, callX_known (C := C28) (g := 53) rfl, ft_call (C := C28) (g := 53) rfl, callX_known (C := C28) (g := 54) rfl, ft_call (C := C28) (g := 54) rfl, callX_known (C := C28) (g := 55) rfl, ft_call (C := C28) (g := 55) rfl, e53, d1, d2, d3, w1, e54, invX_ifc (C := C28) (t := 170) (m := "datum/base.scale") (g := 309) rfl, callX_known (C := C28) (g := 309) rfl, e309, w2, e55]
    exact Ends_plain rfl rfl
  · have hof : ofT b = 171 := if_neg hs1
    rw [hof] at e54
    have e313 := F313_eq (b := b) hmm (by omega) hr
    have g1 : denB b = 30000 * b.m * b.s := if_neg hs1
    have g2 : byB b = 30000 := if_neg hs1
    have g3 : sprB b = facI 0 b.s * b.r * b.s := if_neg hs1
    rw [← g1, ← g3] at e313
    rw [g2] at q3 q4 ⊢
    clear hof g1 g2 g3 hs1 h
    generalize denB b = dn at *
    generalize sprB b = sp at *
    have w2 : sp % 18446744073709551616 = sp := by omega
    simp (disch := first | omega | simp only [go_sem, ↓reduceIte, dropK_eq]) only [x21b, go_sem, ↓reduceIte, dropK_eq, callX_known (C := C28) (g := 53) rfl, ft_call (C := C28) (g := 53) rfl, callX_known (C := C28) (g := 54) rfl, ft_call (C := C28) (g := 54) rfl, callX_known (C := C28) (g := 55) rfl, ft_call (C := C28) (g := 55) rfl, e53, d1, d2, d3, w1, e54, invX_ifc (C := C28) (t := 171) (m := "datum/base.scale") (g := 313) rfl, callX_known (C := C28) (g := 313) rfl, e313, w2, e55]
    exact Ends_plain rfl rfl
set_option maxRecDepth 10000
theorem ptB_ok {b : Bs} {x : Int} (h : baOk b) (hm : 2 ≤ b.m) (hx : -(b.s * 1000000) ≤ x ∧ x ≤ b.s * 1000000) : ptOk (ptB b x) ∧ 0 ≤ (ptB b x).h ∧ U (ptB b x).l := by
  have hd := den_bnd h hm
  obtain ⟨q1, q2, q3, q4⟩ := dev_bnd h hm hx
  have hsp := spr_bnd h
  have hsq := mul_bnd2 hsp.1 hsp.2 hsp.1 hsp.2
  have hdev : -100000000000000 ≤ byB b * (x * b.m - b.u) ∧ byB b * (x * b.m - b.u) ≤ 100000000000000 := by
    have hms := h.1.2.1
    by_cases hs1 : b.s = 1
    · have hu := h.2.1
      rw [hs1] at hu hx
      have h1 := abs_mul (x := x) (y := b.m) (M := 1000000) (N := 25) (by omega) (by omega)
      have h3 := abs_mul (x := byB b) (y := x * b.m - b.u) (M := 270720) (N := 50000000) (by have := by_bnd h hm; omega) (by omega)
      omega
    · have g2 : byB b = 30000 := if_neg hs1
      rw [g2]
      omega
  refine ⟨⟨?_, ?_, ⟨?_, ?_⟩, hdev, ?_⟩, ?_, ?_⟩
  · exact hd.1
  · show denB b ≤ _; omega
  · show _ ≤ byB b * b.u; omega
  · show byB b * b.u ≤ _; omega
  · show sprB b * sprB b / 18446744073709551616 < _; omega
  · show 0 ≤ sprB b * sprB b / 18446744073709551616; omega
  · show U (sprB b * sprB b % 18446744073709551616)
    simp only [U]; omega
def rgN (b : Bs) : Int := if b.s = 1 then 2 else b.s
def rgM (b : Bs) : Int := if b.s = 1 then b.m - 1 else b.m
def wideB (b : Bs) (r : Int) : Int := if facI 2 (rgN b) * b.r < r * rgM b * 10000 then 1 else if r * rgM b * 10000 < facI 1 (rgN b) * b.r then -1 else 0
noncomputable def F218 : List AVal → Option AVal := pureF C28 1 218
theorem sound218 : Sound Tryz.prog 218 F218 := sound_self ok28 1 218
theorem F218_ok {b : Bs} {r : Int} (h : baOk b) (hm : 2 ≤ b.m) (hx : 0 ≤ r ∧ r ≤ 2000000) : F218 [BK b, .int .i64 r] = some (.tup [.int .i64 (wideB b r), .int .i64 0]) := by
  have hu := baOk_u h
  have hr := baOk_r h
  have e53 := F53_eq (b := b) (by simp only [i64R]; omega)
  rw [decide_eq_true h] at e53
  have hs := h.1.1
  have hmm := h.1.2.1
  have e54 := F54_eq (b := b)
  have d1 : decide (r < 0) = false := decide_eq_false (by omega)
  have d2 : decide (2000000 < r) = false := decide_eq_false (by omega)
  have d3 : decide (b.m < 2) = false := decide_eq_false (by omega)
  have hn : 2 ≤ rgN b ∧ rgN b ≤ 10 := by unfold rgN; split <;> omega
  have hM : 1 ≤ rgM b ∧ rgM b ≤ 25 := by unfold rgM; split <;> omega
  have el := F_fac_eq (k := 1) (n := rgN b) (by decide) hn
  have eh := F_fac_eq (k := 2) (n := rgN b) (by decide) hn
  have fl := fac_bnd (k := 1) (n := rgN b) (by decide) hn
  have fh := fac_bnd (k := 2) (n := rgN b) (by decide) hn
  have p1 := mul_bnd2 hx.1 hx.2 (show 0 ≤ rgM b by omega) hM.2
  have p2 := mul_bnd2 fl.1 fl.2 hr.1 hr.2
  have p3 := mul_bnd2 fh.1 fh.2 hr.1 hr.2
  have e307 := F307_eq (b := b) hmm
  have e311 := F311_eq (b := b)
  have hres : wideB b r = if decide (facI 2 (rgN b) * b.r < r * rgM b * 10000) = true then 1 else if decide (r * rgM b * 10000 < facI 1 (rgN b) * b.r) = true then -1 else 0 := by
    unfold wideB
    simp only [decide_eq_true_eq]
  rw [hres]
  generalize hfl : facI 1 (rgN b) = lo at *
  generalize hfh : facI 2 (rgN b) = hi at *
  unfold F218
  refine pureF_of (x := x218) rfl rfl ?_
  rw [x218_eq.1, x218_eq.2.1]
  by_cases hs1 : b.s = 1
  · have hof : ofT b = 170 := if_pos hs1
    rw [hof] at e54
    have g1 : rgN b = 2 := if_pos hs1
    have g2 : rgM b = b.m - 1 := if_pos hs1
    rw [← g2] at e307
    rw [← g1] at e307
    clear hof g2 hs1 h hres hfl hfh
    rw [g1] at el eh e307
    clear g1
    generalize rgM b = M at *
    generalize hc1 : decide (hi * b.r < r * M * 10000) = c1
    generalize hc2 : decide (r * M * 10000 < lo * b.r) = c2
    cases c1 <;> cases c2
    all_goals
      simp (disch := first | omega | simp only [go_sem, ↓reduceIte, dropK_eq]) only [x218b, go_sem, ↓reduceIte, dropK_eq, callX_known (C := C28) (g := 53) rfl, ft_call (C := C28) (g := 53) rfl, callX_known (C := C28) (g := 54) rfl, ft_call (C := C28) (g := 54) rfl, callX_known (C := C28) (g := 221) rfl, ft_call (C := C28) (g := 221) rfl, e53, d1, d2, d3, e54, invX_ifc (C := C28) (t := 170) (m := "datum/base.ranges") (g := 307) rfl, callX_known (C := C28) (g := 307) rfl, e307, el, eh, hc1, hc2]
      exact Ends_plain rfl rfl
  · have hof : ofT b = 171 := if_neg hs1
    rw [hof] at e54
    have g1 : rgN b = b.s := if_neg hs1
    have g2 : rgM b = b.m := if_neg hs1
    rw [← g2] at e311
    clear hof g2 hs1 h hres hfl hfh
    rw [g1] at el eh
    clear g1
    generalize rgM b = M at *
    generalize hc1 : decide (hi * b.r < r * M * 10000) = c1
    generalize hc2 : decide (r * M * 10000 < lo * b.r) = c2
    cases c1 <;> cases c2
    all_goals
      simp (disch := first | omega | simp only [go_sem, ↓reduceIte, dropK_eq]) only [x218b, go_sem, ↓reduceIte, dropK_eq, callX_known (C := C28) (g := 53) rfl, ft_call (C := C28) (g := 53) rfl, callX_known (C := C28) (g := 54) rfl, ft_call (C := C28) (g := 54) rfl, callX_known (C := C28) (g := 221) rfl, ft_call (C := C28) (g := 221) rfl, e53, d1, d2, d3, e54, invX_ifc (C := C28) (t := 171) (m := "datum/base.ranges") (g := 311) rfl, callX_known (C := C28) (g := 311) rfl, e311, el, eh, hc1, hc2]
      exact Ends_plain rfl rfl
set_option maxRecDepth 10000
noncomputable def F220 : List AVal → Option AVal := pureF C3 1 220
theorem sound220 : Sound Tryz.prog 220 F220 := sound_self ok3 1 220
theorem F220_eq {x : Int} : F220 [.int .i64 x] = some (.bool (!decide (inM x))) := by
  unfold F220
  refine pureF_of (x := x220) rfl rfl ?_
  rw [x220_eq.1, x220_eq.2.1]
  simp (disch := first | omega | simp only [*, go_sem, ↓reduceIte, dropK_eq]) only [x220b, go_sem, ↓reduceIte, dropK_eq, callX_known (C := C3) (g := 91) rfl, ft_call (C := C3) (g := 91) rfl, F91_eq]
  exact Ends_plain rfl rfl
noncomputable def C29 : Cfg := C28.add 220 F220
theorem ok29 : CfgOk Tryz.prog C29 := ok28.add sound220
def sumL (l : List Int) : Int := l.foldl (· + ·) 0
theorem sumL_step {l : List Int} {i : Nat} (hi : i < l.length) : sumL (l.take (i + 1)) = sumL (l.take i) + l.getD i 0 := by
  unfold sumL
  rw [List.take_add_one, List.getElem?_eq_getElem hi, List.foldl_append, List.getD_eq_getElem?_getD, List.getElem?_eq_getElem hi]
  rfl
theorem sumL_bnd {l : List Int} (h : ∀ x ∈ l, inM x) : ∀ i ≤ l.length, -((i : Int) * 1000000) ≤ sumL (l.take i) ∧ sumL (l.take i) ≤ (i : Int) * 1000000
  | 0, _ => by simp [sumL]
  | i + 1, hi => by
    have ih := sumL_bnd h i (by omega)
    have hx := h _ (getD_mem (show i < l.length by omega))
    rw [sumL_step (by omega)]
    simp only [inM] at hx
    omega
theorem sumL_rng {l : List Int} (h : ∀ x ∈ l, inM x) : -((l.length : Int) * 1000000) ≤ sumL l ∧ sumL l ≤ (l.length : Int) * 1000000 := by
  have := sumL_bnd h l.length (Nat.le_refl _)
  rwa [List.take_length] at this
def takeB (b : Bs) (row : List Int) : Bs := ⟨b.s, b.m + 1, b.u + sumL row, b.r + reachI b row, row.getD (row.length - 1) 0⟩
theorem reach_bnd {b : Bs} {row : List Int} (h : baOk b) (h0 : 1 ≤ row.length) (hr : ∀ x ∈ row, inM x) : 0 ≤ reachI b row ∧ reachI b row ≤ 2000000 := by
  have hx := hr _ (getD_mem (show 0 < row.length by omega))
  have h1 := mx_in h0 hr
  have h2 := mn_in h0 hr
  have h3 := mn_le_mx row
  have hl := h.1.2.2.1
  have e : row.headD 0 = row.getD 0 0 := by cases row <;> rfl
  unfold reachI
  simp only [inM] at *
  split
  · split
    · omega
    · rw [e]; omega
  · omega
theorem takeB_ok {b : Bs} {row : List Int} (h : baOk b) (hm : b.m < 25) (hl : (row.length : Int) = b.s) (hr : ∀ x ∈ row, inM x) : baOk (takeB b row) := by
  have h0 : 1 ≤ row.length := by have := h.1.1; omega
  have h1 := sumL_rng hr
  have h2 := reach_bnd h h0 hr
  have h3 := hr _ (getD_mem (show row.length - 1 < row.length by omega))
  obtain ⟨⟨⟨g1, g2⟩, ⟨g3, g4⟩, g5, g6⟩, g7, g8, g9⟩ := h
  have e : (b.m + 1) * b.s * 1000000 = b.m * b.s * 1000000 + b.s * 1000000 := by rw [Int.add_mul, Int.add_mul]; omega
  have hst : b.r + reachI b row ≤ 2000000 * (takeB b row).steps := by
    unfold Bs.steps at g9 ⊢
    show _ ≤ 2000000 * (if b.s = 1 then max 0 (b.m + 1 - 1) else b.m + 1)
    split at g9
    · rename_i hs
      rw [if_pos hs]
      by_cases hm0 : b.m = 0
      · have : reachI b row = 0 := by unfold reachI; rw [if_pos hs, if_pos hm0]
        omega
      · omega
    · rename_i hs
      rw [if_neg hs]
      omega
  refine ⟨⟨⟨g1, g2⟩, ⟨?_, ?_⟩, h3, ?_⟩, ⟨?_, ?_⟩, ?_, hst⟩
  · show 0 ≤ b.m + 1; omega
  · show b.m + 1 ≤ 25; omega
  · intro hc
    have : b.m + 1 = 0 := hc
    omega
  · show -((b.m + 1) * b.s * 1000000) ≤ b.u + sumL row; omega
  · show b.u + sumL row ≤ (b.m + 1) * b.s * 1000000; omega
  · show 0 ≤ b.r + reachI b row; omega
noncomputable def F217 : List AVal → Option AVal := pureF C29 4 217
theorem sound217 : Sound Tryz.prog 217 F217 := sound_self ok29 4 217
theorem F217_ok {b : Bs} {a : AVal} {l : List Int} (ha : Rw a l) (h : baOk b) (hm : b.m < 25) (hl : (l.length : Int) = b.s) (hr : ∀ x ∈ l, inM x) : F217 [BK b, a] = some (.tup [BK (takeB b l), .int .i64 0]) := by
  have hu := baOk_u h
  have hrr := baOk_r h
  have h0 : 1 ≤ l.length := by have := h.1.1; omega
  have hs := h.1.1
  have hmm := h.1.2.1
  have hlb := h.1.2.2.1
  have e53 := F53_eq (b := b) (by simp only [i64R]; omega)
  rw [decide_eq_true h] at e53
  have e54 := F54_eq (b := b)
  have ap := ha.plain
  have hRb := reach_bnd h h0 hr
  obtain ⟨R, hR⟩ : ∃ R, reachI b l = R := ⟨_, rfl⟩
  rw [hR] at hRb
  have d2 : decide (¬ (l.length : Int) = b.s) = false := decide_eq_false (by omega)
  have d3 : decide (b.m = 25) = false := decide_eq_false (by omega)
  have hall : (l.any fun x => !decide (inM x)) = false := by
    rw [List.any_eq_false]
    intro x hx
    rw [decide_eq_true (hr x hx)]
    decide
  unfold F217
  refine pureF_of (x := x217) rfl rfl ?_
  rw [x217_eq.1, x217_eq.2.1]
  simp (disch := first | omega | simp only [ap, go_sem, ↓reduceIte, dropK_eq]) only [x217b, go_sem, ↓reduceIte, dropK_eq, callX_known (C := C29) (g := 53) rfl, ft_call (C := C29) (g := 53) rfl, e53, ha.len, d2, call_inl (C := C29) (g := 117) rfl, ft_inl (C := C29) (g := 117) rfl]
  refine contains117 (C := C29) rfl rfl (p := fun x => !decide (inM x)) ha (by simp only [Lg]; omega) (fun x hx nc K hK => ?_) fun nc' => ?_
  · rw [callX_known (C := C29) (g := 220) rfl (by simp only [go_sem, ↓reduceIte, dropK_eq]), F220_eq]
    simp only [go_sem, ↓reduceIte, dropK_eq]
    exact hK _
  rw [hall]
  by_cases hs1 : b.s = 1
  · have hof : ofT b = 170 := if_pos hs1
    rw [hof] at e54
    obtain ⟨x, hlx⟩ : ∃ x, l = [x] := by
      cases l with
      | nil => simp at h0
      | cons x l =>
        cases l with
        | nil => exact ⟨x, rfl⟩
        | cons y l => simp only [List.length_cons] at hl; omega
    have e308 := F308_eq (b := b) (x := x) (hlx ▸ ha) (hr x (by rw [hlx]; simp)) hlb
    have hRx : (if b.m = 0 then 0 else max (x - b.l) (b.l - x)) = R := by
      rw [← hR]; unfold reachI; rw [if_pos hs1, hlx]; rfl
    clear hlx
    rw [hRx] at e308
    simp (disch := first | omega | simp only [ap, go_sem, ↓reduceIte, dropK_eq]) only [go_sem, ↓reduceIte, dropK_eq, callX_known (C := C29) (g := 54) rfl, ft_call (C := C29) (g := 54) rfl, d3, e54, invX_ifc (C := C29) (t := 170) (m := "datum/base.reach") (g := 308) rfl, ftI_ifc (C := C29) (t := 170) (m := "datum/base.reach") (g := 308) rfl rfl, callX_known (C := C29) (g := 308) rfl, e308, ha.len]
    refine Ev_range (ti := 39) (len := l.length) (J := fun i tm hp nc => hp (217000000, 0) = some (.var [.int .i64 b.s, .int .i64 b.m, .int .i64 (b.u + sumL (l.take i)), .int .i64 (b.r + R), .int .i64 (if i = 0 then b.l else l.getD (i - 1) 0)]) ∧ hp (217000001, 0) = some (.var (BC B0))) (by omega) (by simp only [go_sem, ↓reduceIte, dropK_eq]) ?_ ?_
    · simp only [go_sem, ↓reduceIte, dropK_eq, List.take_zero]
      rw [show b.u + sumL [] = b.u by simp [sumL]]
    · rintro i tm hp nc hi hc k39 ⟨kv, kr⟩
      have k2 := hc 2 rfl; have k4 := hc 4 rfl; have k37 := hc 37 rfl; have k38 := hc 38 rfl; simp only [go_sem, ↓reduceIte, dropK_eq] at k2 k4 k37 k38
      rcases Nat.lt_or_ge i l.length with hlt | hge
      · have d1 : decide ((i : Int) < (l.length : Int)) = true := decide_eq_true (by omega)
        have ia := ha.ia hlt
        have hx := hr _ (getD_mem hlt)
        have hsb := sumL_bnd hr i (by omega)
        have hst := sumL_step hlt
        have hw : b.u + sumL (l.take i) + l.getD i 0 = b.u + sumL (l.take (i + 1)) := by rw [hst]; omega
        simp only [inM] at hx
        have hw2 : IntKind.i64.wrap (b.u + sumL (l.take i) + l.getD i 0) = b.u + sumL (l.take (i + 1)) := by rw [wrap_i64 (by omega) (by omega), hw]
        clear hst hw
        simp (disch := first | omega | simp only [go_sem, ↓reduceIte, dropK_eq]) only [x217l7, go_sem, ↓reduceIte, dropK_eq, k2, k4, k37, k38, k39, d1, ia, kv, kr, hw2]
        exact ⟨hlt, by simp, by simp⟩
      · obtain rfl : i = l.length := by omega
        have d1 : decide ((l.length : Int) < (l.length : Int)) = false := decide_eq_false (by omega)
        have hne : ¬ l.length = 0 := by omega
        rw [List.take_length, if_neg hne] at kv
        simp (disch := first | omega | simp only [go_sem, ↓reduceIte, dropK_eq]) only [x217l7, go_sem, ↓reduceIte, dropK_eq, k2, k4, k37, k38, k39, d1, kv, kr]
        refine Ends_plain rfl ?_
        unfold takeB
        rw [hR]
  · have hof : ofT b = 171 := if_neg hs1
    rw [hof] at e54
    have e312 := F312_eq (b := b) ha h0 (by omega) hr
    have hRx : mxL l - mnL l = R := by
      rw [← hR]; unfold reachI; rw [if_neg hs1]
    rw [hRx] at e312
    simp (disch := first | omega | simp only [ap, go_sem, ↓reduceIte, dropK_eq]) only [go_sem, ↓reduceIte, dropK_eq, callX_known (C := C29) (g := 54) rfl, ft_call (C := C29) (g := 54) rfl, d3, e54, invX_ifc (C := C29) (t := 171) (m := "datum/base.reach") (g := 312) rfl, ftI_ifc (C := C29) (t := 171) (m := "datum/base.reach") (g := 312) rfl rfl, callX_known (C := C29) (g := 312) rfl, e312, ha.len]
    refine Ev_range (ti := 39) (len := l.length) (J := fun i tm hp nc => hp (217000000, 0) = some (.var [.int .i64 b.s, .int .i64 b.m, .int .i64 (b.u + sumL (l.take i)), .int .i64 (b.r + R), .int .i64 (if i = 0 then b.l else l.getD (i - 1) 0)]) ∧ hp (217000001, 0) = some (.var (BC B0))) (by omega) (by simp only [go_sem, ↓reduceIte, dropK_eq]) ?_ ?_
    · simp only [go_sem, ↓reduceIte, dropK_eq, List.take_zero]
      rw [show b.u + sumL [] = b.u by simp [sumL]]
    · rintro i tm hp nc hi hc k39 ⟨kv, kr⟩
      have k2 := hc 2 rfl; have k4 := hc 4 rfl; have k37 := hc 37 rfl; have k38 := hc 38 rfl; simp only [go_sem, ↓reduceIte, dropK_eq] at k2 k4 k37 k38
      rcases Nat.lt_or_ge i l.length with hlt | hge
      · have d1 : decide ((i : Int) < (l.length : Int)) = true := decide_eq_true (by omega)
        have ia := ha.ia hlt
        have hx := hr _ (getD_mem hlt)
        have hsb := sumL_bnd hr i (by omega)
        have hst := sumL_step hlt
        have hw : b.u + sumL (l.take i) + l.getD i 0 = b.u + sumL (l.take (i + 1)) := by rw [hst]; omega
        simp only [inM] at hx
        have hw2 : IntKind.i64.wrap (b.u + sumL (l.take i) + l.getD i 0) = b.u + sumL (l.take (i + 1)) := by rw [wrap_i64 (by omega) (by omega), hw]
        clear hst hw
        simp (disch := first | omega | simp only [go_sem, ↓reduceIte, dropK_eq]) only [x217l7, go_sem, ↓reduceIte, dropK_eq, k2, k4, k37, k38, k39, d1, ia, kv, kr, hw2]
        exact ⟨hlt, by simp, by simp⟩
      · obtain rfl : i = l.length := by omega
        have d1 : decide ((l.length : Int) < (l.length : Int)) = false := decide_eq_false (by omega)
        have hne : ¬ l.length = 0 := by omega
        rw [List.take_length, if_neg hne] at kv
        simp (disch := first | omega | simp only [go_sem, ↓reduceIte, dropK_eq]) only [x217l7, go_sem, ↓reduceIte, dropK_eq, k2, k4, k37, k38, k39, d1, kv, kr]
        refine Ends_plain rfl ?_
        unfold takeB
        rw [hR]
set_option maxRecDepth 10000
theorem lendV_fn (d : Nat) (f : Fn) (a b : List AVal) (hp : Heap) : lendV (d + 1) (.fn f a b) hp = (lendVL d a hp).bind fun r => (lendVL d b hp).map fun q => .fn f r q := by
  simp only [lendV, lendVL, lend, Rd.run_bind]
  cases (lendL d a).run hp with
  | none => rfl
  | some r =>
    simp only [Option.bind_some, Rd.run_bind, Option.map_some]
    cases (lendL d b).run hp <;> rfl
def ptrV (d off : Nat) (b : Blk) (hp : Heap) : Option AVal := match b with
  | .var cells => (lendVL d cells hp).map fun r => .pvo r off
  | _ => none
theorem ptrV_var (d off : Nat) (cells : List AVal) (hp : Heap) : ptrV d off (.var cells) hp = (lendVL d cells hp).map fun r => .pvo r off := rfl
theorem lendV_ptr (d : Nat) (k : Key) (i es off : Nat) (hp : Heap) : lendV (d + 1) (.ptr k 0 i es off) hp = (hp k).bind fun b => ptrV d (i * es + off) b hp := by
  simp only [lendV, lend, Rd.run]
  cases hp k with
  | none => rfl
  | some b =>
    cases b with
    | row => rfl
    | obj => rfl
    | var cells =>
      simp only [Option.bind_some, if_true, Rd.run_bind, ptrV, lendVL]
      cases (lendL d cells).run hp <;> rfl
section
variable {C : Cfg} {key : Key} {tm : Nat → AVal} {hp hp' : Heap}
def ftX (C : Cfg) (f : AVal) (xs : List AVal) (hp hp' : Heap) : Foot := match target f xs with
  | some (g, vs) => match C.Γ g with
    | some F => ftC F vs hp
    | none => (.cl (fun k => hp' k = hp k), [])
  | none => (.kn [], [])
theorem ft_callT (n : Nat) (xs : List XArg) : ftV C key (.call (.t n) xs) tm hp hp' = ftX C (tm n) (xs.map (arg tm)) hp hp' := by
  simp only [ftV, rdOf, ftX, arg]
  cases target (tm n) (xs.map (arg tm)) with
  | none => rfl
  | some p =>
    obtain ⟨g, vs⟩ := p
    simp only
    cases C.Γ g <;> rfl
theorem ftX_fn {g : FuncId} {F : List AVal → Option AVal} {fs cs xs : List AVal} (hg : C.Γ g = some F) : ftX C (.fn (.func g) fs cs) xs hp hp' = ftC F (fs ++ xs ++ cs) hp := by
  simp only [ftX, target, hg]
def ftLk (x : AVal) : Foot := match x with
  | .mp k => (.kn [k], [])
  | _ => (.kn [], [])
theorem ftLk_mp (k : Key) : ftLk (.mp k) = (.kn [k], []) := rfl
theorem ft_lkp (kd : Nat) (c : Bool) (z : AVal) (x i : XArg) : ftV C key (.lkp kd c z x i) tm hp hp' = ftLk (arg tm x) := by
  simp only [ftV, rdOf, opR]
  cases h : arg tm x with
  | mp k =>
    simp only [lkpR, footP, Rd.reads, Rd.run, ftLk]
    cases hp k with
    | none => rfl
    | some b =>
      cases b with
      | var => rfl
      | row => rfl
      | obj a =>
        cases a with
        | iter => rfl
        | map es cl =>
          simp only
          cases findA kd (arg tm i) es 0 with
          | none => rfl
          | some r =>
            cases r with
            | none => rfl
            | some q => obtain ⟨j, v, n⟩ := q; rfl
  | _ => rfl
end
attribute [go_sem ↓] ft_callT ft_lkp
theorem isSc_nilf : isSc .nilf = true := rfl
theorem cellsOf_nilf : cellsOf .nilf = [.nilf] := rfl
attribute [go_sem] isSc_nilf cellsOf_nilf lendV_fn lendV_ptr ptrV_var ftLk_mp
theorem findA_int (c k : Int) (v : AVal) (n : Nat) (es : List (AVal × AVal × Nat)) (i : Nat) : findA 0 (.int .i64 c) ((.int .i64 k, v, n) :: es) i = if c = k then some (some (i, v, n)) else findA 0 (.int .i64 c) es (i + 1) := by
  simp only [findA, keq, if_true]
  by_cases h : c = k
  · rw [if_pos h, show (c == k) = true by simpa using h]
  · rw [if_neg h, show (c == k) = false by simpa using h]
theorem findA_nil0 (c : Int) (i : Nat) : findA 0 (.int .i64 c) [] i = some none := rfl
structure Tl where
  k : Int
  s : Int
  m : Int
  u : Int
abbrev TC (t : Tl) : List AVal := [.int .i64 t.k, .int .i64 t.s, .int .i64 t.m, .int .i64 t.u]
abbrev TK (t : Tl) : AVal := .agg (TC t)
abbrev T0 : Tl := ⟨0, 0, 0, 0⟩
noncomputable def F93 : List AVal → Option AVal := pureF C3 1 93
theorem sound93 : Sound Tryz.prog 93 F93 := sound_self ok3 1 93
theorem F93_eq {t : Tl} : F93 [TK t] = some (.int .i64 t.s) := by
  unfold F93
  refine pureF_of (x := x93) rfl rfl ?_
  rw [x93_eq.1, x93_eq.2.1]
  simp (disch := first | omega | simp only [*, go_sem, ↓reduceIte, dropK_eq]) only [x93b, go_sem, ↓reduceIte, dropK_eq]
  exact Ends_plain rfl rfl
noncomputable def F94 : List AVal → Option AVal := pureF C3 1 94
theorem sound94 : Sound Tryz.prog 94 F94 := sound_self ok3 1 94
theorem F94_eq {t : Tl} : F94 [TK t] = some (.int .i64 1) := by
  unfold F94
  refine pureF_of (x := x94) rfl rfl ?_
  rw [x94_eq.1, x94_eq.2.1]
  simp (disch := first | omega | simp only [*, go_sem, ↓reduceIte, dropK_eq]) only [x94b, go_sem, ↓reduceIte, dropK_eq]
  exact Ends_plain rfl rfl
noncomputable def F95 : List AVal → Option AVal := pureF C3 1 95
theorem sound95 : Sound Tryz.prog 95 F95 := sound_self ok3 1 95
theorem F95_eq {t : Tl} : F95 [TK t] = some (.int .i64 1000000) := by
  unfold F95
  refine pureF_of (x := x95) rfl rfl ?_
  rw [x95_eq.1, x95_eq.2.1]
  simp (disch := first | omega | simp only [*, go_sem, ↓reduceIte, dropK_eq]) only [x95b, go_sem, ↓reduceIte, dropK_eq]
  exact Ends_plain rfl rfl
noncomputable def F96 : List AVal → Option AVal := pureF C3 1 96
theorem sound96 : Sound Tryz.prog 96 F96 := sound_self ok3 1 96
abbrev fnV (g : FuncId) : AVal := .fn (.func g) [] []
abbrev shV (g : FuncId) : AVal := .fn (.func 135) [] [.pvo [fnV g] 0]
theorem F96_eq {g : FuncId} : F96 [fnV g] = some (shV g) := by
  unfold F96
  refine pureF_of (x := x96) rfl rfl ?_
  rw [x96_eq.1, x96_eq.2.1]
  simp (disch := first | omega | simp only [*, go_sem, ↓reduceIte, dropK_eq]) only [x96b, go_sem, ↓reduceIte, dropK_eq]
  rw [Ends_eq]
  simp (disch := first | omega | simp only [*, go_sem, ↓reduceIte, dropK_eq]) only [go_sem, ↓reduceIte, dropK_eq]
noncomputable def C30 : Cfg := (((C3.add 93 F93).add 94 F94).add 95 F95).add 96 F96
theorem ok30 : CfgOk Tryz.prog C30 := (((ok3.add sound93).add sound94).add sound95).add sound96
def kindE : List AVal := [.tup [.int .i64 2, .agg [fnV 93, shV 93]], .tup [.int .i64 3, .agg [fnV 93, shV 94]], .tup [.int .i64 4, .agg [fnV 95, fnV 97]], .tup [.int .i64 5, .agg [fnV 95, fnV 97]]]
def kindM : List (AVal × AVal × Nat) := [(.int .i64 2, .agg [fnV 93, shV 93], 0), (.int .i64 3, .agg [fnV 93, shV 94], 1), (.int .i64 4, .agg [fnV 95, fnV 97], 2), (.int .i64 5, .agg [fnV 95, fnV 97], 3)]
def clK : List AVal → Option (Option (Nat × List AVal))
  | [] => some (some (0, kindE))
  | _ => none
theorem clK_eq : clK [] = some (some (0, kindE)) := rfl
theorem kinds57 : Bd (inlD C30 1 57 [] (fun _ => none) 0) fun q => ∃ k, q.1 = .mp k ∧ q.2.1 k = some (.obj (.map kindM 4)) := by
  refine inl_of (x := x57) rfl rfl ?_
  rw [x57_eq.1, x57_eq.2.1]
  simp (disch := first | omega | simp only [*, go_sem, ↓reduceIte, dropK_eq]) only [x57b, go_sem, ↓reduceIte, dropK_eq, callX_names (C := C30) (g := 96) rfl, ftC_names (C := C30) (g := 96) rfl, F96_eq, findA_int, findA_nil0]
  exact ⟨_, rfl, by simp only [go_sem, ↓reduceIte, dropK_eq]; rfl⟩
theorem soundN57 : SoundN Tryz.prog 57 clK := by
  refine soundN_of ok30 1 ?_
  intro ys r hr
  unfold clK at hr
  split at hr
  · cases hr
    have h := kinds57
    unfold Bd at h
    obtain ⟨⟨v, hp, nc⟩, e, k, h1, h2⟩ := h
    simp only at h1 h2
    refine ⟨v, hp, nc, e, ?_⟩
    simp only [if_true]
    refine ⟨k, kindM, kindM.map (·.2.1), [], h1, h2, ?_, by simp, ?_, rfl⟩
    · show lendXL 64 _ hp = _
      simp only [kindM, go_sem, ↓reduceIte, dropK_eq]
    · intro e he
      simp only [kindM, List.mem_cons, List.not_mem_nil, or_false] at he
      rcases he with rfl | rfl | rfl | rfl <;> rfl
  · cases hr
theorem nresK (key : Key) (hp : Heap) (nc : Nat) : nresN key (some (some (0, kindE))) [] hp nc = some (.mp key, upd hp key (some (.obj (.map kindM 4))), nc) := rfl
theorem ftNK (key : Key) : ftN key (some (some (0, kindE))) [] = (.kn [], [key]) := rfl
theorem fk_2 : findA 0 (.int .i64 2) kindM 0 = some (some (0, .agg [fnV 93, shV 93], 0)) := rfl
theorem fk_3 : findA 0 (.int .i64 3) kindM 0 = some (some (1, .agg [fnV 93, shV 94], 1)) := rfl
theorem fk_4 : findA 0 (.int .i64 4) kindM 0 = some (some (2, .agg [fnV 95, fnV 97], 2)) := rfl
theorem fk_5 : findA 0 (.int .i64 5) kindM 0 = some (some (3, .agg [fnV 95, fnV 97], 3)) := rfl
theorem fk_no {c : Int} (h : ¬ (2 ≤ c ∧ c ≤ 5)) : findA 0 (.int .i64 c) kindM 0 = some none := by
  unfold kindM
  rw [findA_int, if_neg (by omega), findA_int, if_neg (by omega), findA_int, if_neg (by omega), findA_int, if_neg (by omega)]
  rfl
noncomputable def C31 : Cfg := C30.addN 57 clK
theorem ok31 : CfgOk Tryz.prog C31 := ok30.addN soundN57
def Tl.most (t : Tl) : Int := if t.k ≤ 3 then t.s else 1000000
abbrev tlOk1 (t : Tl) : Prop := (2 ≤ t.k ∧ t.k ≤ 5) ∧ (1 ≤ t.s ∧ t.s ≤ 1000) ∧ (t.k = 4 → t.s ≤ 1) ∧ (0 ≤ t.m ∧ t.m ≤ 25)
abbrev tlOk (t : Tl) : Prop := tlOk1 t ∧ 0 ≤ t.u ∧ t.u ≤ t.m * t.most
noncomputable def F71 : List AVal → Option AVal := pureF C31 1 71
theorem sound71 : Sound Tryz.prog 71 F71 := sound_self ok31 1 71
theorem F71_none {t : Tl} (h : ¬ (2 ≤ t.k ∧ t.k ≤ 5)) : F71 [TK t] = some (.bool false) := by
  have fk := fk_no h
  unfold F71
  refine pureF_of (x := x71) rfl rfl ?_
  rw [x71_eq.1, x71_eq.2.1]
  simp (disch := first | omega | simp only [*, go_sem, ↓reduceIte, dropK_eq]) only [x71b, go_sem, ↓reduceIte, dropK_eq, op_callN (C := C31) (g := 57) rfl, ft_callN (C := C31) (g := 57) rfl, clK_eq, nresK, ftNK, fk]
  exact Ends_plain rfl rfl
theorem F71_2 {s m u : Int} : F71 [TK ⟨2, s, m, u⟩] = some (.bool (decide (tlOk ⟨2, s, m, u⟩))) := by
  have hmo : Tl.most ⟨2, s, m, u⟩ = s := rfl
  by_cases h1 : tlOk1 ⟨2, s, m, u⟩
  · have h1' := h1
    simp only [tlOk1] at h1'
    obtain ⟨_, ⟨g1, g2⟩, g3, g4, g5⟩ := h1'
    have d1 : decide (s < 1) = false := decide_eq_false (by omega)
    have d2 : decide (1000 < s) = false := decide_eq_false (by omega)
    have d3 : decide (1 < s) = false ∨ 2 ≠ 4 := .inr (by decide)
    have d4 : decide (m < 0) = false := decide_eq_false (by omega)
    have d5 : decide (25 < m) = false := decide_eq_false (by omega)
    have hb := mul_bnd2 g4 g5 (show 0 ≤ s by omega) (show s ≤ 1000 by omega)
    have e93 := F93_eq (t := ⟨2, s, m, u⟩)
    have fin : decide (tlOk ⟨2, s, m, u⟩) = (decide (0 ≤ u) && decide (u ≤ m * s)) := by
      rw [← Bool.decide_and]
      exact decide_eq_decide.2 ⟨fun h => h.2, fun h => ⟨h1, h⟩⟩
    rw [fin]
    clear fin h1 hmo
    generalize hc1 : decide (0 ≤ u) = c1
    generalize hc2 : decide (u ≤ m * s) = c2
    unfold F71
    refine pureF_of (x := x71) rfl rfl ?_
    rw [x71_eq.1, x71_eq.2.1]
    cases c1 <;> cases c2
    all_goals
      simp (disch := first | omega | simp only [*, go_sem, ↓reduceIte, dropK_eq]) only [x71b, go_sem, ↓reduceIte, dropK_eq, op_callN (C := C31) (g := 57) rfl, ft_callN (C := C31) (g := 57) rfl, clK_eq, nresK, ftNK, fk_2, d1, d2, d4, d5, hc1, hc2, ftX_fn (C := C31) (g := 93) rfl, callX_known (C := C31) (g := 93) rfl, e93]
      exact Ends_plain rfl rfl
  · rw [decide_eq_false (fun h => h1 h.1)]
    unfold F71
    refine pureF_of (x := x71) rfl rfl ?_
    rw [x71_eq.1, x71_eq.2.1]
    simp (disch := first | omega | simp only [*, go_sem, ↓reduceIte, dropK_eq]) only [x71b, go_sem, ↓reduceIte, dropK_eq, op_callN (C := C31) (g := 57) rfl, ft_callN (C := C31) (g := 57) rfl, clK_eq, nresK, ftNK, fk_2]
    repeat' (first | exact Ends_plain rfl rfl | (first | refine Gd_split_t (fun h => ?_) (fun h => ?_) | refine Gd_split_f (fun h => ?_) (fun h => ?_) | refine Cd_split (fun h => ?_) (fun h => ?_)) <;> (try simp (disch := first | omega | simp only [go_sem, ↓reduceIte, dropK_eq]) only [*, go_sem, ↓reduceIte, dropK_eq]))
    all_goals
      exfalso
      simp only [tlOk1, Bool.not_eq_true', Bool.not_eq_false', decide_eq_true_eq, decide_eq_false_iff_not] at *
      omega
theorem F71_3 {s m u : Int} : F71 [TK ⟨3, s, m, u⟩] = some (.bool (decide (tlOk ⟨3, s, m, u⟩))) := by
  have hmo : Tl.most ⟨3, s, m, u⟩ = s := rfl
  by_cases h1 : tlOk1 ⟨3, s, m, u⟩
  · have h1' := h1
    simp only [tlOk1] at h1'
    obtain ⟨_, ⟨g1, g2⟩, g3, g4, g5⟩ := h1'
    have d1 : decide (s < 1) = false := decide_eq_false (by omega)
    have d2 : decide (1000 < s) = false := decide_eq_false (by omega)
    have d3 : decide (1 < s) = false ∨ 3 ≠ 4 := .inr (by decide)
    have d4 : decide (m < 0) = false := decide_eq_false (by omega)
    have d5 : decide (25 < m) = false := decide_eq_false (by omega)
    have hb := mul_bnd2 g4 g5 (show 0 ≤ s by omega) (show s ≤ 1000 by omega)
    have e93 := F93_eq (t := ⟨3, s, m, u⟩)
    have fin : decide (tlOk ⟨3, s, m, u⟩) = (decide (0 ≤ u) && decide (u ≤ m * s)) := by
      rw [← Bool.decide_and]
      exact decide_eq_decide.2 ⟨fun h => h.2, fun h => ⟨h1, h⟩⟩
    rw [fin]
    clear fin h1 hmo
    generalize hc1 : decide (0 ≤ u) = c1
    generalize hc2 : decide (u ≤ m * s) = c2
    unfold F71
    refine pureF_of (x := x71) rfl rfl ?_
    rw [x71_eq.1, x71_eq.2.1]
    cases c1 <;> cases c2
    all_goals
      simp (disch := first | omega | simp only [*, go_sem, ↓reduceIte, dropK_eq]) only [x71b, go_sem, ↓reduceIte, dropK_eq, op_callN (C := C31) (g := 57) rfl, ft_callN (C := C31) (g := 57) rfl, clK_eq, nresK, ftNK, fk_3, d1, d2, d4, d5, hc1, hc2, ftX_fn (C := C31) (g := 93) rfl, callX_known (C := C31) (g := 93) rfl, e93]
      exact Ends_plain rfl rfl
  · rw [decide_eq_false (fun h => h1 h.1)]
    unfold F71
    refine pureF_of (x := x71) rfl rfl ?_
    rw [x71_eq.1, x71_eq.2.1]
    simp (disch := first | omega | simp only [*, go_sem, ↓reduceIte, dropK_eq]) only [x71b, go_sem, ↓reduceIte, dropK_eq, op_callN (C := C31) (g := 57) rfl, ft_callN (C := C31) (g := 57) rfl, clK_eq, nresK, ftNK, fk_3]
    repeat' (first | exact Ends_plain rfl rfl | (first | refine Gd_split_t (fun h => ?_) (fun h => ?_) | refine Gd_split_f (fun h => ?_) (fun h => ?_) | refine Cd_split (fun h => ?_) (fun h => ?_)) <;> (try simp (disch := first | omega | simp only [go_sem, ↓reduceIte, dropK_eq]) only [*, go_sem, ↓reduceIte, dropK_eq]))
    all_goals
      exfalso
      simp only [tlOk1, Bool.not_eq_true', Bool.not_eq_false', decide_eq_true_eq, decide_eq_false_iff_not] at *
      omega
theorem F71_4 {s m u : Int} : F71 [TK ⟨4, s, m, u⟩] = some (.bool (decide (tlOk ⟨4, s, m, u⟩))) := by
  have hmo : Tl.most ⟨4, s, m, u⟩ = 1000000 := rfl
  by_cases h1 : tlOk1 ⟨4, s, m, u⟩
  · have h1' := h1
    simp only [tlOk1] at h1'
    obtain ⟨_, ⟨g1, g2⟩, g3, g4, g5⟩ := h1'
    have d1 : decide (s < 1) = false := decide_eq_false (by omega)
    have d2 : decide (1000 < s) = false := decide_eq_false (by omega)
    have d3 : decide (1 < s) = false ∨ 4 ≠ 4 := .inl (decide_eq_false (by have := g3 trivial; omega))
    have d4 : decide (m < 0) = false := decide_eq_false (by omega)
    have d5 : decide (25 < m) = false := decide_eq_false (by omega)
    have hb := mul_bnd2 g4 g5 (show 0 ≤ 1000000 by omega) (show 1000000 ≤ 1000000 by omega)
    have e93 := F95_eq (t := ⟨4, s, m, u⟩)
    have fin : decide (tlOk ⟨4, s, m, u⟩) = (decide (0 ≤ u) && decide (u ≤ m * 1000000)) := by
      rw [← Bool.decide_and]
      exact decide_eq_decide.2 ⟨fun h => h.2, fun h => ⟨h1, h⟩⟩
    rw [fin]
    clear fin h1 hmo
    generalize hc1 : decide (0 ≤ u) = c1
    generalize hc2 : decide (u ≤ m * 1000000) = c2
    unfold F71
    refine pureF_of (x := x71) rfl rfl ?_
    rw [x71_eq.1, x71_eq.2.1]
    cases c1 <;> cases c2
    all_goals
      simp (disch := first | omega | simp only [*, go_sem, ↓reduceIte, dropK_eq]) only [x71b, go_sem, ↓reduceIte, dropK_eq, op_callN (C := C31) (g := 57) rfl, ft_callN (C := C31) (g := 57) rfl, clK_eq, nresK, ftNK, fk_4, d1, d2, d4, d5, hc1, hc2, ftX_fn (C := C31) (g := 95) rfl, callX_known (C := C31) (g := 95) rfl, e93, (show decide (1 < s) = false by have := g3 trivial; exact decide_eq_false (by omega))]
      exact Ends_plain rfl rfl
  · rw [decide_eq_false (fun h => h1 h.1)]
    unfold F71
    refine pureF_of (x := x71) rfl rfl ?_
    rw [x71_eq.1, x71_eq.2.1]
    simp (disch := first | omega | simp only [*, go_sem, ↓reduceIte, dropK_eq]) only [x71b, go_sem, ↓reduceIte, dropK_eq, op_callN (C := C31) (g := 57) rfl, ft_callN (C := C31) (g := 57) rfl, clK_eq, nresK, ftNK, fk_4]
    repeat' (first | exact Ends_plain rfl rfl | (first | refine Gd_split_t (fun h => ?_) (fun h => ?_) | refine Gd_split_f (fun h => ?_) (fun h => ?_) | refine Cd_split (fun h => ?_) (fun h => ?_)) <;> (try simp (disch := first | omega | simp only [go_sem, ↓reduceIte, dropK_eq]) only [*, go_sem, ↓reduceIte, dropK_eq]))
    all_goals
      exfalso
      simp only [tlOk1, Bool.not_eq_true', Bool.not_eq_false', decide_eq_true_eq, decide_eq_false_iff_not] at *
      omega
theorem F71_5 {s m u : Int} : F71 [TK ⟨5, s, m, u⟩] = some (.bool (decide (tlOk ⟨5, s, m, u⟩))) := by
  have hmo : Tl.most ⟨5, s, m, u⟩ = 1000000 := rfl
  by_cases h1 : tlOk1 ⟨5, s, m, u⟩
  · have h1' := h1
    simp only [tlOk1] at h1'
    obtain ⟨_, ⟨g1, g2⟩, g3, g4, g5⟩ := h1'
    have d1 : decide (s < 1) = false := decide_eq_false (by omega)
    have d2 : decide (1000 < s) = false := decide_eq_false (by omega)
    have d3 : decide (1 < s) = false ∨ 5 ≠ 4 := .inr (by decide)
    have d4 : decide (m < 0) = false := decide_eq_false (by omega)
    have d5 : decide (25 < m) = false := decide_eq_false (by omega)
    have hb := mul_bnd2 g4 g5 (show 0 ≤ 1000000 by omega) (show 1000000 ≤ 1000000 by omega)
    have e93 := F95_eq (t := ⟨5, s, m, u⟩)
    have fin : decide (tlOk ⟨5, s, m, u⟩) = (decide (0 ≤ u) && decide (u ≤ m * 1000000)) := by
      rw [← Bool.decide_and]
      exact decide_eq_decide.2 ⟨fun h => h.2, fun h => ⟨h1, h⟩⟩
    rw [fin]
    clear fin h1 hmo
    generalize hc1 : decide (0 ≤ u) = c1
    generalize hc2 : decide (u ≤ m * 1000000) = c2
    unfold F71
    refine pureF_of (x := x71) rfl rfl ?_
    rw [x71_eq.1, x71_eq.2.1]
    cases c1 <;> cases c2
    all_goals
      simp (disch := first | omega | simp only [*, go_sem, ↓reduceIte, dropK_eq]) only [x71b, go_sem, ↓reduceIte, dropK_eq, op_callN (C := C31) (g := 57) rfl, ft_callN (C := C31) (g := 57) rfl, clK_eq, nresK, ftNK, fk_5, d1, d2, d4, d5, hc1, hc2, ftX_fn (C := C31) (g := 95) rfl, callX_known (C := C31) (g := 95) rfl, e93]
      exact Ends_plain rfl rfl
  · rw [decide_eq_false (fun h => h1 h.1)]
    unfold F71
    refine pureF_of (x := x71) rfl rfl ?_
    rw [x71_eq.1, x71_eq.2.1]
    simp (disch := first | omega | simp only [*, go_sem, ↓reduceIte, dropK_eq]) only [x71b, go_sem, ↓reduceIte, dropK_eq, op_callN (C := C31) (g := 57) rfl, ft_callN (C := C31) (g := 57) rfl, clK_eq, nresK, ftNK, fk_5]
    repeat' (first | exact Ends_plain rfl rfl | (first | refine Gd_split_t (fun h => ?_) (fun h => ?_) | refine Gd_split_f (fun h => ?_) (fun h => ?_) | refine Cd_split (fun h => ?_) (fun h => ?_)) <;> (try simp (disch := first | omega | simp only [go_sem, ↓reduceIte, dropK_eq]) only [*, go_sem, ↓reduceIte, dropK_eq]))
    all_goals
      exfalso
      simp only [tlOk1, Bool.not_eq_true', Bool.not_eq_false', decide_eq_true_eq, decide_eq_false_iff_not] at *
      omega
theorem F71_eq {t : Tl} : F71 [TK t] = some (.bool (decide (tlOk t))) := by
  obtain ⟨k, s, m, u⟩ := t
  by_cases h : 2 ≤ k ∧ k ≤ 5
  · rcases (show k = 2 ∨ k = 3 ∨ k = 4 ∨ k = 5 by omega) with rfl | rfl | rfl | rfl
    · exact F71_2
    · exact F71_3
    · exact F71_4
    · exact F71_5
  · rw [F71_none (t := ⟨k, s, m, u⟩) h, decide_eq_false (fun h' => h h'.1.1)]
set_option maxRecDepth 10000
noncomputable def C32 : Cfg := C31.add 71 F71
theorem ok32 : CfgOk Tryz.prog C32 := ok31.add sound71
noncomputable def F33 : List AVal → Option AVal := pureF C32 1 33
theorem sound33 : Sound Tryz.prog 33 F33 := sound_self ok32 1 33
theorem F33_eq {k s : Int} : F33 [.int .i64 k, .int .i64 s] = some (if tlOk ⟨k, s, 0, 0⟩ then .tup [TK ⟨k, s, 0, 0⟩, .int .i64 0] else .tup [TK T0, .int .i64 1]) := by
  have e71 := F71_eq (t := ⟨k, s, 0, 0⟩)
  unfold F33
  refine pureF_of (x := x33) rfl rfl ?_
  rw [x33_eq.1, x33_eq.2.1]
  by_cases h : tlOk ⟨k, s, 0, 0⟩
  · rw [decide_eq_true h] at e71
    rw [if_pos h]
    simp (disch := first | omega | simp only [go_sem, ↓reduceIte, dropK_eq]) only [x33b, go_sem, ↓reduceIte, dropK_eq, callX_known (C := C32) (g := 71) rfl, ft_call (C := C32) (g := 71) rfl, e71]
    exact Ends_plain rfl rfl
  · rw [decide_eq_false h] at e71
    rw [if_neg h]
    simp (disch := first | omega | simp only [go_sem, ↓reduceIte, dropK_eq]) only [x33b, go_sem, ↓reduceIte, dropK_eq, callX_known (C := C32) (g := 71) rfl, ft_call (C := C32) (g := 71) rfl, e71]
    exact Ends_plain rfl rfl
noncomputable def F56 : List AVal → Option AVal := pureF C32 1 56
theorem sound56 : Sound Tryz.prog 56 F56 := sound_self ok32 1 56
theorem F56_2 {s m u d : Int} (ht : tlOk ⟨2, s, m, u⟩) (hd : 0 ≤ d ∧ d ≤ Tl.most ⟨2, s, m, u⟩) : F56 [TK ⟨2, s, m, u⟩, .int .i64 d] = some (.bool true) := by
  have hmo : Tl.most ⟨2, s, m, u⟩ = s := rfl
  rw [hmo] at hd
  have e71 := F71_eq (t := ⟨2, s, m, u⟩)
  rw [decide_eq_true ht] at e71
  have d1 : decide (0 ≤ d) = true := decide_eq_true hd.1
  have d2 : decide (d ≤ s) = true := decide_eq_true hd.2
  have e93 := F93_eq (t := ⟨2, s, m, u⟩)
  clear ht hd hmo
  unfold F56
  refine pureF_of (x := x56) rfl rfl ?_
  rw [x56_eq.1, x56_eq.2.1]
  simp (disch := first | omega | simp only [*, go_sem, ↓reduceIte, dropK_eq]) only [x56b, go_sem, ↓reduceIte, dropK_eq, op_callN (C := C32) (g := 57) rfl, ft_callN (C := C32) (g := 57) rfl, clK_eq, nresK, ftNK, callX_known (C := C32) (g := 71) rfl, ft_call (C := C32) (g := 71) rfl, fk_2, d1, d2, e71, ftX_fn (C := C32) (g := 93) rfl, callX_known (C := C32) (g := 93) rfl, e93]
  exact Ends_plain rfl rfl
theorem F56_3 {s m u d : Int} (ht : tlOk ⟨3, s, m, u⟩) (hd : 0 ≤ d ∧ d ≤ Tl.most ⟨3, s, m, u⟩) : F56 [TK ⟨3, s, m, u⟩, .int .i64 d] = some (.bool true) := by
  have hmo : Tl.most ⟨3, s, m, u⟩ = s := rfl
  rw [hmo] at hd
  have e71 := F71_eq (t := ⟨3, s, m, u⟩)
  rw [decide_eq_true ht] at e71
  have d1 : decide (0 ≤ d) = true := decide_eq_true hd.1
  have d2 : decide (d ≤ s) = true := decide_eq_true hd.2
  have e93 := F93_eq (t := ⟨3, s, m, u⟩)
  clear ht hd hmo
  unfold F56
  refine pureF_of (x := x56) rfl rfl ?_
  rw [x56_eq.1, x56_eq.2.1]
  simp (disch := first | omega | simp only [*, go_sem, ↓reduceIte, dropK_eq]) only [x56b, go_sem, ↓reduceIte, dropK_eq, op_callN (C := C32) (g := 57) rfl, ft_callN (C := C32) (g := 57) rfl, clK_eq, nresK, ftNK, callX_known (C := C32) (g := 71) rfl, ft_call (C := C32) (g := 71) rfl, fk_3, d1, d2, e71, ftX_fn (C := C32) (g := 93) rfl, callX_known (C := C32) (g := 93) rfl, e93]
  exact Ends_plain rfl rfl
theorem F56_4 {s m u d : Int} (ht : tlOk ⟨4, s, m, u⟩) (hd : 0 ≤ d ∧ d ≤ Tl.most ⟨4, s, m, u⟩) : F56 [TK ⟨4, s, m, u⟩, .int .i64 d] = some (.bool true) := by
  have hmo : Tl.most ⟨4, s, m, u⟩ = 1000000 := rfl
  rw [hmo] at hd
  have e71 := F71_eq (t := ⟨4, s, m, u⟩)
  rw [decide_eq_true ht] at e71
  have d1 : decide (0 ≤ d) = true := decide_eq_true hd.1
  have d2 : decide (d ≤ 1000000) = true := decide_eq_true hd.2
  have e93 := F95_eq (t := ⟨4, s, m, u⟩)
  clear ht hd hmo
  unfold F56
  refine pureF_of (x := x56) rfl rfl ?_
  rw [x56_eq.1, x56_eq.2.1]
  simp (disch := first | omega | simp only [*, go_sem, ↓reduceIte, dropK_eq]) only [x56b, go_sem, ↓reduceIte, dropK_eq, op_callN (C := C32) (g := 57) rfl, ft_callN (C := C32) (g := 57) rfl, clK_eq, nresK, ftNK, callX_known (C := C32) (g := 71) rfl, ft_call (C := C32) (g := 71) rfl, fk_4, d1, d2, e71, ftX_fn (C := C32) (g := 95) rfl, callX_known (C := C32) (g := 95) rfl, e93]
  exact Ends_plain rfl rfl
theorem F56_5 {s m u d : Int} (ht : tlOk ⟨5, s, m, u⟩) (hd : 0 ≤ d ∧ d ≤ Tl.most ⟨5, s, m, u⟩) : F56 [TK ⟨5, s, m, u⟩, .int .i64 d] = some (.bool true) := by
  have hmo : Tl.most ⟨5, s, m, u⟩ = 1000000 := rfl
  rw [hmo] at hd
  have e71 := F71_eq (t := ⟨5, s, m, u⟩)
  rw [decide_eq_true ht] at e71
  have d1 : decide (0 ≤ d) = true := decide_eq_true hd.1
  have d2 : decide (d ≤ 1000000) = true := decide_eq_true hd.2
  have e93 := F95_eq (t := ⟨5, s, m, u⟩)
  clear ht hd hmo
  unfold F56
  refine pureF_of (x := x56) rfl rfl ?_
  rw [x56_eq.1, x56_eq.2.1]
  simp (disch := first | omega | simp only [*, go_sem, ↓reduceIte, dropK_eq]) only [x56b, go_sem, ↓reduceIte, dropK_eq, op_callN (C := C32) (g := 57) rfl, ft_callN (C := C32) (g := 57) rfl, clK_eq, nresK, ftNK, callX_known (C := C32) (g := 71) rfl, ft_call (C := C32) (g := 71) rfl, fk_5, d1, d2, e71, ftX_fn (C := C32) (g := 95) rfl, callX_known (C := C32) (g := 95) rfl, e93]
  exact Ends_plain rfl rfl
theorem F56_ok {t : Tl} {d : Int} (ht : tlOk t) (hd : 0 ≤ d ∧ d ≤ t.most) : F56 [TK t, .int .i64 d] = some (.bool true) := by
  obtain ⟨k, s, m, u⟩ := t
  have h := ht.1.1
  simp only at h
  rcases (show k = 2 ∨ k = 3 ∨ k = 4 ∨ k = 5 by omega) with rfl | rfl | rfl | rfl
  · exact F56_2 ht hd
  · exact F56_3 ht hd
  · exact F56_4 ht hd
  · exact F56_5 ht hd
theorem most_rng {t : Tl} (h : tlOk t) : 1 ≤ t.most ∧ t.most ≤ 1000000 := by
  have := h.1.2.1
  unfold Tl.most
  split <;> omega
theorem tlOk_u {t : Tl} (h : tlOk t) : 0 ≤ t.u ∧ t.u ≤ 25000000 := by
  have hm := most_rng h
  have := mul_bnd2 h.1.2.2.2.1 h.1.2.2.2.2 (show 0 ≤ t.most by omega) hm.2
  have := h.2
  omega
def takeT (t : Tl) (d : Int) : Tl := ⟨t.k, t.s, t.m + 1, t.u + d⟩
theorem takeT_ok {t : Tl} {d : Int} (ht : tlOk t) (hm : t.m < 25) (hd : 0 ≤ d ∧ d ≤ t.most) : tlOk (takeT t d) := by
  obtain ⟨⟨g1, g2, g3, g4, g5⟩, g6, g7⟩ := ht
  have e : (t.m + 1) * t.most = t.m * t.most + t.most := by rw [Int.add_mul]; omega
  refine ⟨⟨g1, g2, g3, ?_, ?_⟩, ?_, ?_⟩
  · show 0 ≤ t.m + 1; omega
  · show t.m + 1 ≤ 25; omega
  · show 0 ≤ t.u + d; omega
  · show t.u + d ≤ (t.m + 1) * t.most; omega
noncomputable def C33 : Cfg := C32.add 56 F56
theorem ok33 : CfgOk Tryz.prog C33 := ok32.add sound56
noncomputable def F289 : List AVal → Option AVal := pureF C33 1 289
theorem sound289 : Sound Tryz.prog 289 F289 := sound_self ok33 1 289
theorem F289_ok {t : Tl} {d : Int} (ht : tlOk t) (hm : t.m < 25) (hd : 0 ≤ d ∧ d ≤ t.most) : F289 [TK t, .int .i64 d] = some (.tup [TK (takeT t d), .int .i64 0]) := by
  have e56 := F56_ok ht hd
  have hu := tlOk_u ht
  have hmo := most_rng ht
  have hmm := ht.1.2.2.2
  have d1 : decide (t.m = 25) = false := decide_eq_false (by omega)
  unfold F289
  refine pureF_of (x := x289) rfl rfl ?_
  rw [x289_eq.1, x289_eq.2.1]
  simp (disch := first | omega | simp only [*, go_sem, ↓reduceIte, dropK_eq]) only [x289b, go_sem, ↓reduceIte, dropK_eq, callX_known (C := C33) (g := 56) rfl, ft_call (C := C33) (g := 56) rfl, e56, d1]
  exact Ends_plain rfl rfl
def ptT (t : Tl) (d : Int) : Pt :=
  if t.k ≤ 3 then ⟨t.u * t.s, if t.k = 2 then t.m * t.s * t.s else t.m * t.s, d * (t.m * t.s) - t.u * t.s, t.u * (t.m * t.s - t.u) * t.s / 18446744073709551616, t.u * (t.m * t.s - t.u) * t.s % 18446744073709551616⟩
  else ⟨t.u, t.m * t.s, d * t.m - t.u, t.u * t.m / 18446744073709551616, t.u * t.m % 18446744073709551616⟩
noncomputable def F97 : List AVal → Option AVal := pureF C33 1 97
theorem sound97 : Sound Tryz.prog 97 F97 := sound_self ok33 1 97
theorem F97_eq {t : Tl} {d : Int} (ht : tlOk t) (hk : ¬ t.k ≤ 3) (hd : 0 ≤ d ∧ d ≤ 1000000) : F97 [TK t, .int .i64 d] = some (PtK (ptT t d)) := by
  have hu := tlOk_u ht
  obtain ⟨⟨g1, ⟨g2, g2'⟩, g3, g4, g5⟩, g6, g7⟩ := ht
  have h1 := mul_bnd2 g4 g5 (show 0 ≤ t.s by omega) g2'
  have h2 := mul_bnd2 hd.1 hd.2 g4 g5
  have e55 := F55_eq (a := t.u) (b := t.m) (by simp only [U]; omega) (by simp only [U]; omega)
  have w1 : t.u % 18446744073709551616 = t.u := by omega
  have w2 : t.m % 18446744073709551616 = t.m := by omega
  simp only [enc] at e55
  have hp : ptT t d = ⟨t.u, t.m * t.s, d * t.m - t.u, t.u * t.m / 18446744073709551616, t.u * t.m % 18446744073709551616⟩ := if_neg hk
  rw [hp]
  clear hp hk g1 g3 g7
  unfold F97
  refine pureF_of (x := x97) rfl rfl ?_
  rw [x97_eq.1, x97_eq.2.1]
  simp (disch := first | omega | simp only [*, go_sem, ↓reduceIte, dropK_eq]) only [x97b, go_sem, ↓reduceIte, dropK_eq, callX_known (C := C33) (g := 55) rfl, ft_call (C := C33) (g := 55) rfl, e55, w1, w2]
  exact Ends_plain rfl rfl
noncomputable def F135 : List AVal → Option AVal := pureF C33 1 135
theorem sound135 : Sound Tryz.prog 135 F135 := sound_self ok33 1 135
theorem F135_2 {t : Tl} {d : Int} (ht : tlOk t) (hk : t.k = 2) (hd : 0 ≤ d ∧ d ≤ 1000) : F135 [TK t, .int .i64 d, .pvo [fnV 93] 0] = some (PtK (ptT t d)) := by
  have hmo : t.most = t.s := if_pos (by omega)
  have hu := tlOk_u ht
  have h7 := ht.2
  rw [hmo] at h7
  obtain ⟨⟨g1, ⟨g2, g2'⟩, g3, g4, g5⟩, g6, g7⟩ := ht
  have h1 := mul_bnd2 g4 g5 (show 0 ≤ t.s by omega) g2'
  have h2 := mul_bnd2 hd.1 hd.2 h1.1 h1.2
  have h3 := mul_bnd2 h1.1 h1.2 (show 0 ≤ t.s by omega) g2'
  have h4 := mul_bnd2 (x := t.u) (y := t.s) (M := 25000) (N := 1000) h7.1 (by omega) (by omega) g2'
  have h5 := mul_bnd2 (x := t.u) (y := t.m * t.s - t.u) (M := 25000) (N := 25000) h7.1 (by omega) (by omega) (by omega)
  have e55 := F55_eq (a := t.u * (t.m * t.s - t.u)) (b := t.s) (by simp only [U]; omega) (by simp only [U]; omega)
  have w1 : t.u * (t.m * t.s - t.u) % 18446744073709551616 = t.u * (t.m * t.s - t.u) := by omega
  have w2 : t.s % 18446744073709551616 = t.s := by omega
  have e93 := F93_eq (t := t)
  simp only [enc] at e55
  have hp : ptT t d = ⟨t.u * t.s, t.m * t.s * t.s, d * (t.m * t.s) - t.u * t.s, t.u * (t.m * t.s - t.u) * t.s / 18446744073709551616, t.u * (t.m * t.s - t.u) * t.s % 18446744073709551616⟩ := by
    unfold ptT
    rw [if_pos (by omega), if_pos hk]
  rw [hp]
  clear hp hk g1 g3 g7 hmo
  unfold F135
  refine pureF_of (x := x135) rfl rfl ?_
  rw [x135_eq.1, x135_eq.2.1]
  simp (disch := first | omega | simp only [*, go_sem, ↓reduceIte, dropK_eq]) only [x135b, go_sem, ↓reduceIte, dropK_eq, callX_known (C := C33) (g := 55) rfl, ft_call (C := C33) (g := 55) rfl, e55, w1, w2, ftX_fn (C := C33) (g := 93) rfl, callX_known (C := C33) (g := 93) rfl, e93, Int.mul_one]
  exact Ends_plain rfl rfl
theorem F135_3 {t : Tl} {d : Int} (ht : tlOk t) (hk : t.k = 3) (hd : 0 ≤ d ∧ d ≤ 1000) : F135 [TK t, .int .i64 d, .pvo [fnV 94] 0] = some (PtK (ptT t d)) := by
  have hmo : t.most = t.s := if_pos (by omega)
  have hu := tlOk_u ht
  have h7 := ht.2
  rw [hmo] at h7
  obtain ⟨⟨g1, ⟨g2, g2'⟩, g3, g4, g5⟩, g6, g7⟩ := ht
  have h1 := mul_bnd2 g4 g5 (show 0 ≤ t.s by omega) g2'
  have h2 := mul_bnd2 hd.1 hd.2 h1.1 h1.2
  have h3 := mul_bnd2 h1.1 h1.2 (show 0 ≤ t.s by omega) g2'
  have h4 := mul_bnd2 (x := t.u) (y := t.s) (M := 25000) (N := 1000) h7.1 (by omega) (by omega) g2'
  have h5 := mul_bnd2 (x := t.u) (y := t.m * t.s - t.u) (M := 25000) (N := 25000) h7.1 (by omega) (by omega) (by omega)
  have e55 := F55_eq (a := t.u * (t.m * t.s - t.u)) (b := t.s) (by simp only [U]; omega) (by simp only [U]; omega)
  have w1 : t.u * (t.m * t.s - t.u) % 18446744073709551616 = t.u * (t.m * t.s - t.u) := by omega
  have w2 : t.s % 18446744073709551616 = t.s := by omega
  have e93 := F94_eq (t := t)
  simp only [enc] at e55
  have hp : ptT t d = ⟨t.u * t.s, t.m * t.s, d * (t.m * t.s) - t.u * t.s, t.u * (t.m * t.s - t.u) * t.s / 18446744073709551616, t.u * (t.m * t.s - t.u) * t.s % 18446744073709551616⟩ := by
    unfold ptT
    rw [if_pos (by omega), if_neg (by omega)]
  rw [hp]
  clear hp hk g1 g3 g7 hmo
  unfold F135
  refine pureF_of (x := x135) rfl rfl ?_
  rw [x135_eq.1, x135_eq.2.1]
  simp (disch := first | omega | simp only [*, go_sem, ↓reduceIte, dropK_eq]) only [x135b, go_sem, ↓reduceIte, dropK_eq, callX_known (C := C33) (g := 55) rfl, ft_call (C := C33) (g := 55) rfl, e55, w1, w2, ftX_fn (C := C33) (g := 94) rfl, callX_known (C := C33) (g := 94) rfl, e93, Int.mul_one]
  exact Ends_plain rfl rfl
noncomputable def C34 : Cfg := (C33.add 97 F97).add 135 F135
theorem ok34 : CfgOk Tryz.prog C34 := (ok33.add sound97).add sound135
noncomputable def F22 : List AVal → Option AVal := pureF C34 1 22
theorem sound22 : Sound Tryz.prog 22 F22 := sound_self ok34 1 22
theorem F22_2 {s m u d : Int} (ht : tlOk ⟨2, s, m, u⟩) (hm : 1 ≤ m) (hd : 0 ≤ d ∧ d ≤ Tl.most ⟨2, s, m, u⟩) : F22 [TK ⟨2, s, m, u⟩, .int .i64 d] = some (.tup [PtK (ptT ⟨2, s, m, u⟩ d), .int .i64 0]) := by
  have e56 := F56_ok ht hd
  have hs := ht.1.2.1
  have hmo : Tl.most ⟨2, s, m, u⟩ = s := rfl
  rw [hmo] at hd
  simp only at hs
  have e97 := F135_2 (d := d) ht rfl (by omega)
  have d1 : decide (m = 0) = false := decide_eq_false (by omega)
  clear ht hd hmo hs
  generalize ptT ⟨2, s, m, u⟩ d = p at *
  unfold F22
  refine pureF_of (x := x22) rfl rfl ?_
  rw [x22_eq.1, x22_eq.2.1]
  simp (disch := first | omega | simp only [*, go_sem, ↓reduceIte, dropK_eq]) only [x22b, go_sem, ↓reduceIte, dropK_eq, op_callN (C := C34) (g := 57) rfl, ft_callN (C := C34) (g := 57) rfl, clK_eq, nresK, ftNK, callX_known (C := C34) (g := 56) rfl, ft_call (C := C34) (g := 56) rfl, e56, d1, fk_2, callX_caps (C := C34) (g := 135) rfl, ftX_fn (C := C34) (g := 135) rfl, e97]
  exact Ends_plain rfl rfl
theorem F22_3 {s m u d : Int} (ht : tlOk ⟨3, s, m, u⟩) (hm : 1 ≤ m) (hd : 0 ≤ d ∧ d ≤ Tl.most ⟨3, s, m, u⟩) : F22 [TK ⟨3, s, m, u⟩, .int .i64 d] = some (.tup [PtK (ptT ⟨3, s, m, u⟩ d), .int .i64 0]) := by
  have e56 := F56_ok ht hd
  have hs := ht.1.2.1
  have hmo : Tl.most ⟨3, s, m, u⟩ = s := rfl
  rw [hmo] at hd
  simp only at hs
  have e97 := F135_3 (d := d) ht rfl (by omega)
  have d1 : decide (m = 0) = false := decide_eq_false (by omega)
  clear ht hd hmo hs
  generalize ptT ⟨3, s, m, u⟩ d = p at *
  unfold F22
  refine pureF_of (x := x22) rfl rfl ?_
  rw [x22_eq.1, x22_eq.2.1]
  simp (disch := first | omega | simp only [*, go_sem, ↓reduceIte, dropK_eq]) only [x22b, go_sem, ↓reduceIte, dropK_eq, op_callN (C := C34) (g := 57) rfl, ft_callN (C := C34) (g := 57) rfl, clK_eq, nresK, ftNK, callX_known (C := C34) (g := 56) rfl, ft_call (C := C34) (g := 56) rfl, e56, d1, fk_3, callX_caps (C := C34) (g := 135) rfl, ftX_fn (C := C34) (g := 135) rfl, e97]
  exact Ends_plain rfl rfl
theorem F22_4 {s m u d : Int} (ht : tlOk ⟨4, s, m, u⟩) (hm : 1 ≤ m) (hd : 0 ≤ d ∧ d ≤ Tl.most ⟨4, s, m, u⟩) : F22 [TK ⟨4, s, m, u⟩, .int .i64 d] = some (.tup [PtK (ptT ⟨4, s, m, u⟩ d), .int .i64 0]) := by
  have e56 := F56_ok ht hd
  have hs := ht.1.2.1
  have hmo : Tl.most ⟨4, s, m, u⟩ = 1000000 := rfl
  rw [hmo] at hd
  simp only at hs
  have e97 := F97_eq (d := d) ht (show ¬ (4 : Int) ≤ 3 by decide) (by omega)
  have d1 : decide (m = 0) = false := decide_eq_false (by omega)
  clear ht hd hmo hs
  generalize ptT ⟨4, s, m, u⟩ d = p at *
  unfold F22
  refine pureF_of (x := x22) rfl rfl ?_
  rw [x22_eq.1, x22_eq.2.1]
  simp (disch := first | omega | simp only [*, go_sem, ↓reduceIte, dropK_eq]) only [x22b, go_sem, ↓reduceIte, dropK_eq, op_callN (C := C34) (g := 57) rfl, ft_callN (C := C34) (g := 57) rfl, clK_eq, nresK, ftNK, callX_known (C := C34) (g := 56) rfl, ft_call (C := C34) (g := 56) rfl, e56, d1, fk_4, callX_caps (C := C34) (g := 97) rfl, ftX_fn (C := C34) (g := 97) rfl, e97]
  exact Ends_plain rfl rfl
theorem F22_5 {s m u d : Int} (ht : tlOk ⟨5, s, m, u⟩) (hm : 1 ≤ m) (hd : 0 ≤ d ∧ d ≤ Tl.most ⟨5, s, m, u⟩) : F22 [TK ⟨5, s, m, u⟩, .int .i64 d] = some (.tup [PtK (ptT ⟨5, s, m, u⟩ d), .int .i64 0]) := by
  have e56 := F56_ok ht hd
  have hs := ht.1.2.1
  have hmo : Tl.most ⟨5, s, m, u⟩ = 1000000 := rfl
  rw [hmo] at hd
  simp only at hs
  have e97 := F97_eq (d := d) ht (show ¬ (5 : Int) ≤ 3 by decide) (by omega)
  have d1 : decide (m = 0) = false := decide_eq_false (by omega)
  clear ht hd hmo hs
  generalize ptT ⟨5, s, m, u⟩ d = p at *
  unfold F22
  refine pureF_of (x := x22) rfl rfl ?_
  rw [x22_eq.1, x22_eq.2.1]
  simp (disch := first | omega | simp only [*, go_sem, ↓reduceIte, dropK_eq]) only [x22b, go_sem, ↓reduceIte, dropK_eq, op_callN (C := C34) (g := 57) rfl, ft_callN (C := C34) (g := 57) rfl, clK_eq, nresK, ftNK, callX_known (C := C34) (g := 56) rfl, ft_call (C := C34) (g := 56) rfl, e56, d1, fk_5, callX_caps (C := C34) (g := 97) rfl, ftX_fn (C := C34) (g := 97) rfl, e97]
  exact Ends_plain rfl rfl
theorem F22_ok {t : Tl} {d : Int} (ht : tlOk t) (hm : 1 ≤ t.m) (hd : 0 ≤ d ∧ d ≤ t.most) : F22 [TK t, .int .i64 d] = some (.tup [PtK (ptT t d), .int .i64 0]) := by
  obtain ⟨k, s, m, u⟩ := t
  have h := ht.1.1
  simp only at h
  rcases (show k = 2 ∨ k = 3 ∨ k = 4 ∨ k = 5 by omega) with rfl | rfl | rfl | rfl
  · exact F22_2 ht hm hd
  · exact F22_3 ht hm hd
  · exact F22_4 ht hm hd
  · exact F22_5 ht hm hd
end Go.Proofs.YtldineoabbodpaaGreatDoor
namespace Go.Proofs.YtldineoabbodpaaGreatDoor.REC
open Go Go.Xec
attribute [local go_sem] tm0 ne_eq not_false_eq_true List.length_append List.length_replicate List.replicate_succ List.replicate_zero Int.cast_ofNat_Int not_true_eq_false decide_true decide_false ite_self beq_self_eq_true Bool.true_beq Bool.false_beq Bool.not_true Bool.not_false
attribute [local go_sem_proc] Nat.reduceAdd Nat.reduceMul Nat.reduceSub Nat.reduceLeDiff Nat.reduceLT Nat.reduceEqDiff Int.reduceLT Int.reduceLE Int.reduceAdd Int.reduceSub Int.reduceMul Int.reduceToNat Int.reducePow Int.reduceNe Int.reduceMod Int.reduceDiv Int.reduceEq Nat.reducePow Int.reduceNeg
namespace T
open Go Go.Xec
set_option maxRecDepth 10000
theorem getB_mem {l : List UInt8} {i : Nat} (hi : i < l.length) : l.getD i 0 ∈ l := by
  rw [List.getD_eq_getElem?_getD, List.getElem?_eq_getElem hi]
  exact List.getElem_mem hi
theorem all_getB {p : UInt8 → Prop} {l : List UInt8} (h : ∀ j, j < l.length → p (l.getD j 0)) : ∀ b ∈ l, p b := by
  intro b hb
  obtain ⟨i, hi, rfl⟩ := List.getElem_of_mem hb
  have := h i hi
  simpa [List.getD_eq_getElem?_getD, List.getElem?_eq_getElem hi] using this
abbrev lett (n : Int) : Prop := 97 ≤ n ∧ n ≤ 122
abbrev letB (b : UInt8) : Prop := lett (b.toNat : Int)
abbrev numOk (n : Int) : Prop := -1000000000 ≤ n ∧ n ≤ 1000000000
noncomputable def F150 : List AVal → Option AVal := pureF C0 1 150
theorem sound150 : Sound Tryz.prog 150 F150 := sound_self ok0 1 150
theorem F150_eq {n : Int} : F150 [.int .i64 n] = some (.bool (decide (numOk n))) := by
  unfold F150
  refine pureF_of (x := x150) rfl rfl ?_
  rw [x150_eq.1, x150_eq.2.1]
  simp (disch := first | omega | simp only [go_sem, ↓reduceIte, dropK_eq]) only [x150b, go_sem, ↓reduceIte, dropK_eq]
  repeat' (first | refine Ends_plain rfl ?_ | (first | refine Gd_split_t (fun h => ?_) (fun h => ?_) | refine Gd_split_f (fun h => ?_) (fun h => ?_) | refine Cd_split (fun h => ?_) (fun h => ?_)) <;> (try simp (disch := first | omega | simp only [go_sem, ↓reduceIte, dropK_eq]) only [*, go_sem, ↓reduceIte, dropK_eq]))
  all_goals (congr 1; try simp only [Bool.not_eq_true', Bool.not_eq_false', decide_eq_true_eq, decide_eq_false_iff_not] at *)
  all_goals first | exact decide_eq_decide.2 (by simp only [numOk]; omega) | exact (decide_eq_false (by simp only [numOk]; omega)).symm | exact (decide_eq_true (by simp only [numOk]; omega)).symm
noncomputable def C1 : Cfg := C0.add 150 F150
theorem ok1 : CfgOk Tryz.prog C1 := ok0.add sound150
abbrev wordOk (l : List UInt8) : Prop := (∀ b ∈ l, letB b) ∧ 1 ≤ l.length ∧ l.length ≤ 12
noncomputable def F149 : List AVal → Option AVal := pureF C1 1 149
theorem sound149 : Sound Tryz.prog 149 F149 := sound_self ok1 1 149
theorem F149_eq {l : List UInt8} (hl : l.length ≤ 1000000) : F149 [sv l] = some (.bool (decide (wordOk l))) := by
  unfold F149
  refine pureF_of (x := x149) rfl rfl ?_
  rw [x149_eq.1, x149_eq.2.1]
  simp (disch := first | omega | simp only [go_sem, ↓reduceIte, dropK_eq]) only [x149b, go_sem, ↓reduceIte, dropK_eq]
  refine Ev_loopW (I := fun n tm hp nc => ∃ pos, pos ≤ l.length ∧ n = l.length - pos ∧ hp (149001001, 1) = some (.obj (.iter (bs l) pos)) ∧ ∀ j, j < pos → letB (l.getD j 0)) (n := l.length) ?_ (by omega) ?_
  · refine ⟨0, by omega, by omega, by simp only [go_sem, ↓reduceIte, dropK_eq], by simp⟩
  · rintro n tm hp nc hc ⟨pos, hp1, rfl, hk, hj⟩
    have k0 := hc 0 rfl; have k5 := hc 5 rfl; have k6 := hc 6 rfl; simp only [go_sem, ↓reduceIte, dropK_eq] at k0 k5 k6
    rcases Nat.lt_or_ge pos l.length with hlt | hge
    · by_cases hb : (l.getD pos 0).toNat < 128
      · have hd := decode_low l hlt hb
        have hd1 : (Utf8.decode (bs l) pos).1 = (l.getD pos 0).toNat := by rw [hd]
        have hd2 : (Utf8.decode (bs l) pos).2 = 1 := by rw [hd]
        by_cases hlb : letB (l.getD pos 0)
        · have d1 : decide (((l.getD pos 0).toNat : Int) < 97) = false := decide_eq_false (by simp only [letB, lett] at hlb; omega)
          have d2 : decide (122 < ((l.getD pos 0).toNat : Int)) = false := decide_eq_false (by simp only [letB, lett] at hlb; omega)
          simp (disch := first | omega | simp only [go_sem, ↓reduceIte, dropK_eq]) only [x149l2, go_sem, ↓reduceIte, dropK_eq, k0, k5, k6, hk, if_pos hlt, hd1, hd2, d1, d2]
          refine ⟨l.length - (pos + 1), by omega, pos + 1, by omega, rfl, rfl, fun j hj' => ?_⟩
          by_cases e : j = pos
          · subst e; exact hlb
          · exact hj j (by omega)
        · have hno : decide (wordOk l) = false := decide_eq_false fun h => hlb (h.1 _ (getB_mem hlt))
          rw [hno]
          by_cases h1 : ((l.getD pos 0).toNat : Int) < 97
          · have d1 : decide (((l.getD pos 0).toNat : Int) < 97) = true := decide_eq_true h1
            simp (disch := first | omega | simp only [go_sem, ↓reduceIte, dropK_eq]) only [x149l2, go_sem, ↓reduceIte, dropK_eq, k0, k5, k6, hk, if_pos hlt, hd1, hd2, d1]
            exact Ends_plain rfl rfl
          · have d1 : decide (((l.getD pos 0).toNat : Int) < 97) = false := decide_eq_false h1
            have d2 : decide (122 < ((l.getD pos 0).toNat : Int)) = true := decide_eq_true (by simp only [letB, lett] at hlb; omega)
            simp (disch := first | omega | simp only [go_sem, ↓reduceIte, dropK_eq]) only [x149l2, go_sem, ↓reduceIte, dropK_eq, k0, k5, k6, hk, if_pos hlt, hd1, hd2, d1, d2]
            exact Ends_plain rfl rfl
      · have hh := Xec.decode_high l hlt (by omega)
        have hno : decide (wordOk l) = false := decide_eq_false fun h => by have := h.1 _ (getB_mem hlt); simp only [letB, lett] at this; omega
        rw [hno]
        have d1 : decide (((Utf8.decode (bs l) pos).1 : Int) < 97) = false := decide_eq_false (by omega)
        have d2 : decide (122 < ((Utf8.decode (bs l) pos).1 : Int)) = true := decide_eq_true (by omega)
        simp (disch := first | omega | simp only [go_sem, ↓reduceIte, dropK_eq]) only [x149l2, go_sem, ↓reduceIte, dropK_eq, k0, k5, k6, hk, if_pos hlt, d1, d2]
        exact Ends_plain rfl rfl
    · obtain rfl : pos = l.length := by omega
      have hall : ∀ b ∈ l, letB b := all_getB hj
      simp (disch := first | omega | simp only [go_sem, ↓reduceIte, dropK_eq]) only [x149l2, go_sem, ↓reduceIte, dropK_eq, k0, k5, k6, hk, if_neg (Nat.lt_irrefl _)]
      by_cases hnil : l = []
      · subst hnil
        simp (disch := first | omega | simp only [go_sem, ↓reduceIte, dropK_eq]) only [go_sem, ↓reduceIte, dropK_eq]
        refine Ends_plain rfl ?_
        simp [wordOk]
      · have hpos : 1 ≤ l.length := by
          cases l with
          | nil => exact absurd rfl hnil
          | cons => simp
        have d3 : decide (¬ l = []) = true := decide_eq_true hnil
        simp (disch := first | omega | simp only [go_sem, ↓reduceIte, dropK_eq]) only [d3, go_sem, ↓reduceIte, dropK_eq, k0]
        refine Ends_plain rfl ?_
        congr 1
        exact decide_eq_decide.2 ⟨fun h => ⟨hall, hpos, by omega⟩, fun h => by have := h.2.2; omega⟩
structure Tok where
  k : Int
  s : List UInt8
  n : Int
  at' : Int
  deriving DecidableEq
abbrev TK (t : Tok) : AVal := .agg [.int .i64 t.k, sv t.s, .int .i64 t.n, .int .i64 t.at']
def tokOk (t : Tok) : Prop := (t.k = 1 ∧ wordOk t.s ∧ t.n = 0) ∨ (t.k = 2 ∧ t.s = [] ∧ numOk t.n) ∨ ((t.k = 3 ∨ t.k = 4 ∨ t.k = 5) ∧ t.s = [] ∧ t.n = 0)
instance (t : Tok) : Decidable (tokOk t) := by unfold tokOk; infer_instance
noncomputable def C2 : Cfg := C1.add 149 F149
theorem ok2 : CfgOk Tryz.prog C2 := ok1.add sound149
noncomputable def F111 : List AVal → Option AVal := pureF C2 1 111
theorem sound111 : Sound Tryz.prog 111 F111 := sound_self ok2 1 111
theorem F111_eq {t : Tok} (hl : t.s.length ≤ 1000000) : F111 [TK t] = some (.bool (decide (tokOk t))) := by
  have e25 := F149_eq hl
  obtain ⟨k, s, n, at'⟩ := t
  simp only at e25
  unfold F111
  refine pureF_of (x := x111) rfl rfl ?_
  rw [x111_eq.1, x111_eq.2.1]
  simp (disch := first | omega | simp only [go_sem, ↓reduceIte, dropK_eq]) only [x111b, go_sem, ↓reduceIte, dropK_eq, callX_known (C := C2) (g := 149) rfl, ft_call (C := C2) (g := 149) rfl, callX_known (C := C2) (g := 150) rfl, ft_call (C := C2) (g := 150) rfl, e25, F150_eq]
  repeat' (first | refine Ends_plain rfl ?_ | (first | refine Gd_split_t (fun h => ?_) (fun h => ?_) | refine Gd_split_f (fun h => ?_) (fun h => ?_) | refine Cd_split (fun h => ?_) (fun h => ?_)) <;> (try simp (disch := first | omega | simp only [go_sem, ↓reduceIte, dropK_eq]) only [*, go_sem, ↓reduceIte, dropK_eq, callX_known (C := C2) (g := 149) rfl, ft_call (C := C2) (g := 149) rfl, callX_known (C := C2) (g := 150) rfl, ft_call (C := C2) (g := 150) rfl, e25, F150_eq]))
  all_goals
    congr 1
    simp only [Bool.not_eq_true', Bool.not_eq_false', decide_eq_true_eq, decide_eq_false_iff_not] at *
  all_goals try clear e25
  all_goals try clear e27
  all_goals first
    | (refine decide_eq_decide.2 ⟨fun hq => ?_, fun hq => ?_⟩ <;> simp only [tokOk] at hq ⊢ <;> generalize wordOk s = W at * <;> generalize (s = []) = E at * <;> clear hl <;> (first | omega | (simp_all; done) | (simp_all <;> omega)))
    | (refine (decide_eq_false fun hq => ?_).symm; simp only [tokOk] at hq; generalize wordOk s = W at *; generalize (s = []) = E at *; clear hl; first | omega | (simp_all; done) | (simp_all <;> omega))
end T
open Go Go.Xec
set_option maxRecDepth 10000
structure Fd where
  w : List UInt8
  lo : Int
  hi : Int
  nd : Int
abbrev FK (b : Fd) : AVal := .agg [sv b.w, .int .i64 b.lo, .int .i64 b.hi, .int .i64 b.nd]
noncomputable def F115 : List AVal → Option AVal := pureF C0 1 115
theorem sound115 : Sound Tryz.prog 115 F115 := sound_self ok0 1 115
theorem F115_eq {c : Int} : F115 [.int .i64 c] = some (.bool (decide (c = 0 ∨ c = 1))) := by
  unfold F115
  refine pureF_of (x := x115) rfl rfl ?_
  rw [x115_eq.1, x115_eq.2.1]
  by_cases h0 : c = 0
  · have d1 := decide_eq_true h0
    simp (disch := first | omega | simp only [go_sem, ↓reduceIte, dropK_eq]) only [x115b, go_sem, ↓reduceIte, dropK_eq, d1]
    exact Ends_plain rfl (by rw [decide_eq_true (Or.inl h0)])
  · have d1 := decide_eq_false h0
    simp (disch := first | omega | simp only [go_sem, ↓reduceIte, dropK_eq]) only [x115b, go_sem, ↓reduceIte, dropK_eq, d1]
    exact Ends_plain rfl (by congr 1; rw [decide_eq_decide]; omega)
theorem binA_shr_i64 {a b : Int} (h0 : 0 ≤ b) (h1 : b < 64) : binA .shr (.int .i64 a) (.int .i64 b) = some (.int .i64 (a / 2 ^ b.toNat)) := by
  simp only [binA, isShift, if_true, shiftBin, if_neg (Int.not_lt.2 h0)]
  have e : min b.toNat IntKind.i64.bits = b.toNat := by
    have : IntKind.i64.bits = 64 := rfl
    omega
  rw [e, Int.fdiv_eq_ediv_of_nonneg _ (Int.le_of_lt (Int.pow_pos (by decide)))]
theorem binA_and1_i64 {a : Int} (h0 : 0 ≤ a) (h1 : a < 9223372036854775808) : binA .and (.int .i64 a) (.int .i64 1) = some (.int .i64 (a % 2)) := by
  simp only [binA, isShift, Bool.false_eq_true, if_false, if_true, intBin]
  have e : ((BitVec.ofInt 64 a &&& BitVec.ofInt 64 1).toNat : Int) = a % 2 := by
    have e1 : BitVec.ofInt 64 (1 : Int) = BitVec.ofNat 64 (2 ^ 1 - 1) := rfl
    rw [e1, BitVec.toNat_and, BitVec.toNat_ofNat, Nat.mod_eq_of_lt (by decide), Nat.and_two_pow_sub_one_eq_mod, BitVec.toNat_ofInt]
    omega
  show some (AVal.int IntKind.i64 (IntKind.i64.wrap ((BitVec.ofInt 64 a &&& BitVec.ofInt 64 1).toNat : Int))) = _
  rw [e, wrap_i64 (by omega) (by omega)]
def needB (b : Fd) (c : Int) : Bool := decide (b.nd / 2 ^ c.toNat % 2 = 1)
noncomputable def F114 : List AVal → Option AVal := pureF C0 1 114
theorem sound114 : Sound Tryz.prog 114 F114 := sound_self ok0 1 114
theorem F114_eq {b : Fd} {c : Int} (hc : 0 ≤ c ∧ c ≤ 7) (hb : 0 ≤ b.nd ∧ b.nd ≤ 255) : F114 [FK b, .int .i64 c] = some (.bool (needB b c)) := by
  have h1 := binA_shr_i64 (a := b.nd) hc.1 (by omega)
  have h2 : 0 ≤ b.nd / 2 ^ c.toNat ∧ b.nd / 2 ^ c.toNat ≤ 255 := by
    have h3 : (0 : Int) < 2 ^ c.toNat := Int.pow_pos (by omega)
    refine ⟨Int.ediv_nonneg hb.1 (by omega), Int.le_trans (Int.ediv_le_self _ hb.1) hb.2⟩
  have h4 := binA_and1_i64 (a := b.nd / 2 ^ c.toNat) h2.1 (by omega)
  unfold F114 needB
  refine pureF_of (x := x114) rfl rfl ?_
  rw [x114_eq.1, x114_eq.2.1]
  generalize b.nd / 2 ^ c.toNat = q at *
  simp (disch := first | omega | simp only [go_sem, ↓reduceIte, dropK_eq]) only [x114b, go_sem, ↓reduceIte, dropK_eq, h1, h4]
  exact Ends_plain rfl rfl
noncomputable def F116 : List AVal → Option AVal := pureF C0 1 116
theorem sound116 : Sound Tryz.prog 116 F116 := sound_self ok0 1 116
def inF (b : Fd) (c n : Int) : Bool := if b.w = [115, 105, 122, 101] ∧ c = 0 then decide (2 ≤ n ∧ n ≤ 10) else decide (b.lo ≤ n ∧ n ≤ b.hi)
theorem F116_eq {b : Fd} {c n : Int} : F116 [FK b, .int .i64 c, .int .i64 n] = some (.bool (inF b c n)) := by
  unfold F116 inF
  refine pureF_of (x := x116) rfl rfl ?_
  rw [x116_eq.1, x116_eq.2.1]
  by_cases hw : b.w = [115, 105, 122, 101]
  · have d1 := decide_eq_true hw
    by_cases h0 : c = 0
    · have d2 := decide_eq_true h0
      rw [if_pos ⟨hw, h0⟩]
      by_cases h1 : 2 ≤ n
      · have d3 := decide_eq_true h1
        simp (disch := first | omega | simp only [go_sem, ↓reduceIte, dropK_eq]) only [x116b, go_sem, ↓reduceIte, dropK_eq, d1, d2, d3]
        exact Ends_plain rfl (by congr 1; rw [decide_eq_decide]; omega)
      · have d3 := decide_eq_false h1
        simp (disch := first | omega | simp only [go_sem, ↓reduceIte, dropK_eq]) only [x116b, go_sem, ↓reduceIte, dropK_eq, d1, d2, d3]
        exact Ends_plain rfl (by rw [decide_eq_false (fun e => h1 e.1)])
    · have d2 := decide_eq_false h0
      rw [if_neg (fun e => h0 e.2)]
      by_cases h1 : b.lo ≤ n
      · have d3 := decide_eq_true h1
        simp (disch := first | omega | simp only [go_sem, ↓reduceIte, dropK_eq]) only [x116b, go_sem, ↓reduceIte, dropK_eq, d1, d2, d3]
        exact Ends_plain rfl (by congr 1; rw [decide_eq_decide]; omega)
      · have d3 := decide_eq_false h1
        simp (disch := first | omega | simp only [go_sem, ↓reduceIte, dropK_eq]) only [x116b, go_sem, ↓reduceIte, dropK_eq, d1, d2, d3]
        exact Ends_plain rfl (by rw [decide_eq_false (fun e => h1 e.1)])
  · have d1 := decide_eq_false hw
    rw [if_neg (fun e => hw e.1)]
    by_cases h1 : b.lo ≤ n
    · have d3 := decide_eq_true h1
      simp (disch := first | omega | simp only [go_sem, ↓reduceIte, dropK_eq]) only [x116b, go_sem, ↓reduceIte, dropK_eq, d1, d3]
      exact Ends_plain rfl (by congr 1; rw [decide_eq_decide]; omega)
    · have d3 := decide_eq_false h1
      simp (disch := first | omega | simp only [go_sem, ↓reduceIte, dropK_eq]) only [x116b, go_sem, ↓reduceIte, dropK_eq, d1, d3]
      exact Ends_plain rfl (by rw [decide_eq_false (fun e => h1 e.1)])
def fdL : List Fd := [⟨[115, 105, 122, 101], 1, 1000, 45⟩, ⟨[108, 111, 119], -1000000, 1000000, 195⟩, ⟨[104, 105, 103, 104], -1000000, 1000000, 195⟩, ⟨[98, 97, 115, 101], 2, 25, 63⟩, ⟨[99, 97, 112], 1, 1000000000, 255⟩,
  ⟨[116, 97, 114, 103, 101, 116], -1000000, 1000000, 192⟩, ⟨[115, 116, 101, 112], 0, 1000000, 64⟩, ⟨[98, 111, 117, 110, 100], 1, 1000000000, 64⟩, ⟨[119, 101, 105, 103, 104, 116], 1, 99, 128⟩, ⟨[115, 105, 103, 109, 97], 1, 1000000, 128⟩,
  ⟨[108, 111, 119, 101, 114], -1000000, 1000000, 0⟩, ⟨[117, 112, 112, 101, 114], -1000000, 1000000, 0⟩]
noncomputable def F113 : List AVal → Option AVal := pureF C0 1 113
theorem sound113 : Sound Tryz.prog 113 F113 := sound_self ok0 1 113
theorem F113_eq : F113 [] = some (.slc 4 (fdL.map FK)) := by
  unfold F113
  refine pureF_of (x := x113) rfl rfl ?_
  rw [x113_eq.1, x113_eq.2.1]
  simp (disch := first | omega | simp only [go_sem, ↓reduceIte, dropK_eq]) only [x113b, go_sem, ↓reduceIte, dropK_eq]
  refine Ends_row (by simp only [go_sem, ↓reduceIte, dropK_eq]; rfl) rfl rfl rfl
structure Ch where
  n : List UInt8
  t : Int
  f0 : Int
  f1 : Int
  f2 : Int
  f3 : Int
  f4 : Int
  f5 : Int
  f6 : Int
  f7 : Int
  f8 : Int
  f9 : Int
  f10 : Int
  f11 : Int
  deriving DecidableEq
abbrev CK (c : Ch) : AVal := .agg [sv c.n, .int .i64 c.t, .int .i64 c.f0, .int .i64 c.f1, .int .i64 c.f2, .int .i64 c.f3, .int .i64 c.f4, .int .i64 c.f5, .int .i64 c.f6, .int .i64 c.f7, .int .i64 c.f8, .int .i64 c.f9, .int .i64 c.f10, .int .i64 c.f11]
def Ch.fs (c : Ch) : List Int := [c.f0, c.f1, c.f2, c.f3, c.f4, c.f5, c.f6, c.f7, c.f8, c.f9, c.f10, c.f11]
def mayB (t k : Nat) : Bool := (if h : k < fdL.length then needB fdL[k] t else false) || (decide (t ≤ 1) && decide (10 ≤ k))
def fd (f : Nat) : Fd := fdL.getD f ⟨[], 0, 0, 0⟩
theorem fd_eq {f : Nat} (h : f < fdL.length) : fdL[f] = fd f := by unfold fd; rw [List.getD_eq_getElem?_getD, List.getElem?_eq_getElem h]; rfl
noncomputable def C12 : Cfg := ((((C0.add 113 F113).add 114 F114).add 115 F115).add 116 F116).add 111 T.F111
theorem ok12 : CfgOk Tryz.prog C12 := ((((ok0.add sound113).add sound114).add sound115).add sound116).add T.sound111
section
variable {C : Cfg} {d c0 : Nat} {hp : Heap} {nc : Nat} {a : AVal} {l : List T.Tok} {k e : Nat} {K : AVal × Heap × Nat → Prop}
def ptrL (κ : Key) : List AVal := (List.range 12).map fun j => .ptr κ 0 0 0 (2 + j)
theorem ptrL_get (κ : Key) {f : Nat} (h : f < 12) : (ptrL κ)[f]? = some (.ptr κ 0 0 0 (2 + f)) := by
  simp [ptrL, List.getElem?_map, List.getElem?_range h]
theorem fields24 {κ : Key} (hK : ∀ cr hp' nc', hp' (112001036, cr) = some (.row 0 1 (ptrL κ)) → (∀ k' : Key, k'.1 / 1000000 ≠ 112 → hp' k' = hp k') → K (.sl (112001036, cr) 0 1 0 12, hp', nc')) : Bd (inlD C12 (d + 1) 112 [.ptr κ 0 0 0 0] hp nc) K := by
  refine inl_of (x := x112) rfl rfl ?_
  rw [x112_eq.1, x112_eq.2.1]
  simp (disch := first | omega | simp only [*, go_sem, ↓reduceIte, dropK_eq]) only [x112b, go_sem, ↓reduceIte, dropK_eq]
  refine hK _ _ _ ?_ fun k' h2 => ?_
  · rw [upd_same]
    rfl
  · repeat rw [upd_ne _ _ (by rintro rfl; simp at h2)]
end
theorem bs_beq (a b : List UInt8) : (bs a == bs b) = decide (a = b) := by
  rw [Bool.eq_iff_iff, decide_eq_true_eq]
  show ((bs a).data == (bs b).data) = true ↔ _
  rw [beq_iff_eq]
  constructor
  · intro e
    have := congrArg Array.toList e
    rwa [bs_data, bs_data] at this
  · rintro rfl; rfl
theorem keq_sv (a b : List UInt8) : keq 2 (sv a) (sv b) = some (decide (a = b)) := by
  simp only [keq, bs_beq]
theorem findA_snoc (w v : List UInt8) (x : AVal) (n : Nat) : ∀ (es : List (AVal × AVal × Nat)) (i : Nat),
    findA 2 (sv w) (es ++ [(sv v, x, n)]) i = match findA 2 (sv w) es i with | some none => some (if w = v then some (i + es.length, x, n) else none) | r => r
  | [], i => by
    simp only [List.nil_append, findA, keq_sv, keyOk, if_true, List.length_nil, Nat.add_zero]
    by_cases h : w = v
    · rw [decide_eq_true h, if_pos h]
    · rw [decide_eq_false h, if_neg h]
  | e :: es, i => by
    simp only [List.cons_append, findA]
    cases hk : keq 2 (sv w) e.1 with
    | none => rfl
    | some b =>
      cases b with
      | true => rfl
      | false =>
        simp only
        rw [findA_snoc w v x n es (i + 1)]
        simp only [List.length_cons]
        rw [show i + 1 + es.length = i + (es.length + 1) by omega]
theorem nd_rng : ∀ f < 12, 0 ≤ (fd f).nd ∧ (fd f).nd ≤ 255 := by decide
theorem E26 {t k : Nat} {ct : Int} (ht : t < 8) (hk : k < 12) (hct : ct = (t : Nat)) : F114 [FK (fd k), .int .i64 ct] = some (.bool (needB (fd k) (t : Nat))) := by
  subst hct
  exact F114_eq (by omega) (nd_rng k hk)
theorem E59 {t : Nat} {ct : Int} (hct : ct = (t : Nat)) : F115 [.int .i64 ct] = some (.bool (decide (t ≤ 1))) := by
  subst hct
  rw [F115_eq]
  congr 2
  rw [decide_eq_decide]
  omega
theorem E60 {t k : Nat} {ct v : Int} (hct : ct = (t : Nat)) : F116 [FK (fd k), .int .i64 ct, .int .i64 v] = some (.bool (inF (fd k) (t : Nat) v)) := by
  subst hct
  exact F116_eq
def tlX : XCode → XCode
  | .seq _ q => q
  | c => c
section
variable {C : Cfg} {key : Key} {tm : Nat → AVal} {hp hp' : Heap}
end
def vl (c : Ch) (k : Nat) : Int := c.fs.getD k 0
def chOk (c : Ch) : Prop := T.wordOk c.n ∧ (0 ≤ c.t ∧ c.t ≤ 7) ∧
  (∀ k < 12, (needB (fd k) c.t = true → inF (fd k) c.t (vl c k) = true) ∧ (mayB c.t.toNat k = false → vl c k = 0)) ∧
  (needB (fd 1) c.t = true → c.f1 < c.f2) ∧ ((c.f10 = 0 ∧ c.f11 = 0) ∨ (inF (fd 10) c.t c.f10 = true ∧ inF (fd 11) c.t c.f11 = true ∧ c.f10 < c.f11))
theorem mayB_d {t f : Nat} (hf : f < 12) : mayB t f = (needB (fd f) (t : Nat) || (decide (t ≤ 1) && decide (10 ≤ f))) := by
  have h : f < fdL.length := hf
  unfold mayB
  rw [dif_pos h, fd_eq]
theorem nd_hi : ∀ t < 8, needB (fd 10) (t : Nat) = false ∧ needB (fd 11) (t : Nat) = false := by decide
section
variable {c : Ch} {t : Nat} (hc : chOk c) (ht : c.t = (t : Nat)) (ht8 : t < 8)
include hc ht ht8
end
def rOk (r : List Ch) : Prop := (∀ c ∈ r, chOk c) ∧ (r.map (·.n)).Nodup ∧ r ≠ [] ∧ r.length ≤ 4
instance (c : Ch) : Decidable (chOk c) := by unfold chOk; infer_instance
theorem CK_get (c : Ch) {i : Nat} (h : i < 12) : (cellsOf (CK c))[2 + i]? = some (.int .i64 (vl c i)) := by
  match i, h with
  | 0, _ => rfl
  | 1, _ => rfl
  | 2, _ => rfl
  | 3, _ => rfl
  | 4, _ => rfl
  | 5, _ => rfl
  | 6, _ => rfl
  | 7, _ => rfl
  | 8, _ => rfl
  | 9, _ => rfl
  | 10, _ => rfl
  | 11, _ => rfl
  | i + 12, h => exact absurd h (by omega)
theorem nd_12 : ∀ t < 8, needB (fd 1) (t : Nat) = needB (fd 2) (t : Nat) := by decide
def usB (c : Ch) (t j : Nat) : Bool := needB (fd j) (t : Nat) || (decide (10 ≤ j) && (decide (t ≤ 1) && !(decide (c.f10 = 0) && decide (c.f11 = 0))))
def gOk (c : Ch) (t j : Nat) : Prop := (usB c t j = true → inF (fd j) (t : Nat) (vl c j) = true) ∧ (usB c t j = false → vl c j = 0)
def endB (c : Ch) (t : Nat) : Bool := (decide (c.f1 < c.f2) || ((decide (c.f1 = 0) && decide (c.f2 = 0)) && !needB (fd 1) (t : Nat))) && ((decide (c.f10 = 0) && decide (c.f11 = 0)) || decide (c.f10 < c.f11))
theorem chOk_g {c : Ch} {t : Nat} (hct : c.t = (t : Nat)) (ht : t < 8) (hw : T.wordOk c.n) : chOk c ↔ (∀ j < 12, gOk c t j) ∧ endB c t = true := by
  have htn : c.t.toNat = t := by rw [hct]; rfl
  have hhi := nd_hi t ht
  constructor
  · intro h
    have hd := h.2.2.2.2
    rw [hct] at hd
    refine ⟨fun j hj => ⟨fun hu => ?_, fun hu => ?_⟩, ?_⟩
    · unfold usB at hu
      simp only [Bool.or_eq_true, Bool.and_eq_true, decide_eq_true_eq, Bool.not_eq_true', Bool.and_eq_false_iff, decide_eq_false_iff_not] at hu
      rcases hu with hu | ⟨h10, ht1, hne⟩
      · have := (h.2.2.1 j hj).1 (by rw [hct]; exact hu)
        rw [hct] at this
        exact this
      · rcases hd with h2 | h2
        · rcases hne with h3 | h3
          · exact absurd h2.1 h3
          · exact absurd h2.2 h3
        · have : j = 10 ∨ j = 11 := by omega
          rcases this with rfl | rfl
          · exact h2.1
          · exact h2.2.1
    · cases hm : mayB t j with
      | false => exact (h.2.2.1 j hj).2 (by rw [htn]; exact hm)
      | true =>
        rw [mayB_d hj] at hm
        unfold usB at hu
        simp only [Bool.or_eq_false_iff, Bool.and_eq_false_iff, decide_eq_false_iff_not, Bool.not_eq_false', Bool.and_eq_true, decide_eq_true_eq] at hu
        rw [hu.1] at hm
        simp only [Bool.false_or, Bool.and_eq_true, decide_eq_true_eq] at hm
        rcases hu.2 with h2 | h2 | h2
        · exact absurd hm.2 h2
        · exact absurd hm.1 h2
        · have : j = 10 ∨ j = 11 := by omega
          rcases this with rfl | rfl
          · exact h2.1
          · exact h2.2
    · unfold endB
      rw [Bool.and_eq_true]
      constructor
      · cases hnd : needB (fd 1) (t : Nat) with
        | true =>
          have := h.2.2.2.1 (by rw [hct]; exact hnd)
          rw [decide_eq_true this]
          rfl
        | false =>
          have h1 := (h.2.2.1 1 (by decide)).2 (by rw [htn, mayB_d (f := 1) (by omega), hnd]; cases decide (t ≤ 1) <;> rfl)
          have h2 := (h.2.2.1 2 (by decide)).2 (by rw [htn, mayB_d (f := 2) (by omega), ← nd_12 t ht, hnd]; cases decide (t ≤ 1) <;> rfl)
          have h1 : c.f1 = 0 := h1
          have h2 : c.f2 = 0 := h2
          rw [decide_eq_true h1, decide_eq_true h2]
          simp
      · rcases hd with h2 | h2
        · rw [decide_eq_true h2.1, decide_eq_true h2.2]; rfl
        · rw [decide_eq_true h2.2.2]; simp
  · rintro ⟨hg, he⟩
    unfold endB at he
    simp only [Bool.or_eq_true, Bool.and_eq_true, decide_eq_true_eq, Bool.not_eq_true'] at he
    refine ⟨hw, ⟨by omega, by omega⟩, fun k hk => ⟨fun hnd => ?_, fun hm => ?_⟩, fun hnd => ?_, ?_⟩
    · rw [hct] at hnd ⊢
      exact (hg k hk).1 (by unfold usB; rw [hnd]; rfl)
    · rw [htn, mayB_d hk] at hm
      simp only [Bool.or_eq_false_iff, Bool.and_eq_false_iff, decide_eq_false_iff_not] at hm
      refine (hg k hk).2 ?_
      unfold usB
      rw [hm.1]
      rcases hm.2 with h | h
      · rw [decide_eq_false h]; simp
      · rw [decide_eq_false h]; simp
    · rw [hct] at hnd
      rcases he.1 with h | h
      · exact h
      · rw [h.2] at hnd; cases hnd
    · rcases he.2 with h | h
      · exact .inl h
      · by_cases h0 : c.f10 = 0 ∧ c.f11 = 0
        · exact .inl h0
        · right
          rw [hct]
          have hn : (decide (c.f10 = 0) && decide (c.f11 = 0)) = false := by
            rw [← Bool.decide_and]; exact decide_eq_false h0
          by_cases ht1 : t ≤ 1
          · have u10 : usB c t 10 = true := by unfold usB; rw [hn, decide_eq_true ht1]; simp
            have u11 : usB c t 11 = true := by unfold usB; rw [hn, decide_eq_true ht1]; simp
            exact ⟨(hg 10 (by decide)).1 u10, (hg 11 (by decide)).1 u11, h⟩
          · have u10 : usB c t 10 = false := by unfold usB; rw [hhi.1, decide_eq_false ht1]; simp
            have u11 : usB c t 11 = false := by unfold usB; rw [hhi.2, decide_eq_false ht1]; simp
            have h1 : c.f10 = 0 := (hg 10 (by decide)).2 u10
            have h2 : c.f11 = 0 := (hg 11 (by decide)).2 u11
            exact absurd ⟨h1, h2⟩ h0
noncomputable def F69 : List AVal → Option AVal := pureF C12 2 69
theorem sound69 : Sound Tryz.prog 69 F69 := sound_self ok12 2 69
def x29q : XCode := tlX (tlX (tlX (tlX (tlX x69b))))
theorem x29q_eq : x29q = (.seq (.seq (.reg 6 x69r6 none) (.block 0 (.loop x69l7))) (.seq (.reg 13 x69r13 (some ⟨[(15, 19)]⟩)) .ret)) := rfl
theorem x69b_eq : x69b = (.seq (.reg 0 x69r0 none) (.seq (.reg 1 x69r1 none) (.seq (.seq (.reg 2 x69r2 none) (.cond (.t 24) (.seq (.reg 3 x69r3 none) .ret) .skip)) (.seq (.reg 4 x69r4 none) (.seq (.reg 5 x69r5 none) x29q))))) := rfl
set_option maxHeartbeats 4000000 in
theorem tail29 {c : Ch} {t : Nat} {tm : Nat → AVal} {hp : Heap} {nc cr : Nat} {N : Bool} (hct : c.t = (t : Nat)) (ht : t < 8) (hw : T.wordOk c.n) (k1 : tm 1 = .ptr (69000000, 0) 0 0 0 0) (k4 : tm 4 = .sl (112001036, cr) 0 1 0 12) (k5 : tm 5 = .bool N)
    (hv : hp (69000000, 0) = some (.var (cellsOf (CK c)))) (hr : hp (112001036, cr) = some (.row 0 1 (ptrL (69000000, 0)))) (hN : N = (decide (c.f10 = 0) && decide (c.f11 = 0))) :
    Ev (C := C12) (inl := inlD C12 1) 69 x29q ⟨tm, hp, nc⟩ fun o st => Xec.Fin o fun _ => Bd (resL st [.tmp 2]) fun vs => Xec.Ends (one vs) st.hp (.bool (decide (chOk c))) := by
  have e25 := F113_eq
  have ha : Rg 4 FK (.slc 4 (fdL.map FK)) fdL := Rg.slc _
  generalize AVal.slc 4 (fdL.map FK) = a at *
  have hiff := chOk_g hct ht hw
  have e59 := E59 hct
  rw [x29q_eq]
  simp (disch := first | omega | simp only [*, go_sem, ↓reduceIte, dropK_eq]) only [go_sem, ↓reduceIte, dropK_eq, callX_known (C := C12) (g := 113) rfl, ft_call (C := C12) (g := 113) rfl, e25, ha.len]
  refine Ev_range (ti := 36) (len := fdL.length) (J := fun i tm hp nc => hp (69000000, 0) = some (.var (cellsOf (CK c))) ∧ hp (112001036, cr) = some (.row 0 1 (ptrL (69000000, 0))) ∧ ∀ j < i, gOk c t j) (by decide) (by simp only [go_sem, ↓reduceIte, dropK_eq]) ?_ ?_
  · exact ⟨hv, hr, fun j hj => by omega⟩
  · clear hv hr
    rintro i tm' hp nc hi hc k36 ⟨hv, hr, hj⟩
    have q1 := (hc 1 rfl)
    have q4 := (hc 4 rfl)
    have q5 := (hc 5 rfl)
    have z34 := hc 34 rfl; have z35 := hc 35 rfl; simp only [go_sem, ↓reduceIte, dropK_eq] at z34 z35
    simp only [go_sem, ↓reduceIte, dropK_eq, k1, k4, k5] at q1 q4 q5
    have h12 : fdL.length = 12 := rfl
    rcases Nat.lt_or_ge i fdL.length with hlt | hge
    · have d1 : decide ((i : Int) < (fdL.length : Int)) = true := decide_eq_true (by omega)
      have ia := ha.ia hlt
      rw [fd_eq] at ia
      have hi12 : i < 12 := by omega
      have e26 := E26 ht hi12 hct
      have e60 := E60 (k := i) (v := vl c i) hct
      have pg := ptrL_get (69000000, 0) hi12
      have pg0 : (ptrL (69000000, 0))[0 + i]? = some (.ptr (69000000, 0) 0 0 0 (2 + i)) := by rw [Nat.zero_add]; exact pg
      have hget := CK_get c hi12
      simp only [cellsOf_agg] at hget
      have hnx : gOk c t i → ∀ j < i + 1, gOk c t j := fun h j hj1 => by
        by_cases e : j = i
        · subst e; exact h
        · exact hj j (by omega)
      have hno : ¬ gOk c t i → ¬ chOk c := fun h hc => h ((hiff.1 hc).1 i hi12)
      cases hnd : needB (fd i) (t : Nat) with
      | true =>
        rw [hnd] at e26
        have hus : usB c t i = true := by unfold usB; rw [hnd]; rfl
        cases hin : inF (fd i) (t : Nat) (vl c i) with
        | true =>
          rw [hin] at e60
          simp (disch := first | omega | simp only [*, go_sem, ↓reduceIte, dropK_eq]) only [x69l7, go_sem, ↓reduceIte, dropK_eq, q1, q4, q5, z34, z35, k36, d1, ia, hv, hr, pg, pg0, hget, Int.toNat_natCast, callX_known (C := C12) (g := 114) rfl, ft_call (C := C12) (g := 114) rfl, callX_known (C := C12) (g := 115) rfl, ft_call (C := C12) (g := 115) rfl, callX_known (C := C12) (g := 116) rfl, ft_call (C := C12) (g := 116) rfl, e60, e26]
          exact ⟨hlt, by simp, hnx ⟨fun _ => hin, fun h => by rw [hus] at h; cases h⟩⟩
        | false =>
          rw [hin] at e60
          rw [decide_eq_false (p := chOk c) (hno fun h => by have := h.1 hus; rw [hin] at this; cases this)]
          simp (disch := first | omega | simp only [*, go_sem, ↓reduceIte, dropK_eq]) only [x69l7, go_sem, ↓reduceIte, dropK_eq, q1, q4, q5, z34, z35, k36, d1, ia, hv, hr, pg, pg0, hget, Int.toNat_natCast, callX_known (C := C12) (g := 114) rfl, ft_call (C := C12) (g := 114) rfl, callX_known (C := C12) (g := 115) rfl, ft_call (C := C12) (g := 115) rfl, callX_known (C := C12) (g := 116) rfl, ft_call (C := C12) (g := 116) rfl, e60, e26]
          exact Ends_plain rfl rfl
      | false =>
        rw [hnd] at e26
        by_cases h10 : 10 ≤ i
        · have d10 : decide ((10 : Int) ≤ (i : Int)) = true := decide_eq_true (by omega)
          by_cases ht1 : t ≤ 1
          · rw [decide_eq_true ht1] at e59
            cases hNN : N with
            | true =>
              rw [hNN] at q5 hN
              have hus : usB c t i = false := by unfold usB; rw [hnd, ← hN]; simp
              by_cases hz : vl c i = 0
              · have dz : decide (¬ vl c i = 0) = false := decide_eq_false (fun h => h hz)
                simp (disch := first | omega | simp only [*, go_sem, ↓reduceIte, dropK_eq]) only [x69l7, go_sem, ↓reduceIte, dropK_eq, q1, q4, q5, z34, z35, k36, d1, ia, hv, hr, pg, pg0, hget, dz, Int.toNat_natCast, callX_known (C := C12) (g := 114) rfl, ft_call (C := C12) (g := 114) rfl, callX_known (C := C12) (g := 115) rfl, ft_call (C := C12) (g := 115) rfl, callX_known (C := C12) (g := 116) rfl, ft_call (C := C12) (g := 116) rfl, e26, d10, e59]
                exact ⟨hlt, by simp, hnx ⟨(fun h => by rw [hus] at h; cases h), fun _ => hz⟩⟩
              · have dz : decide (¬ vl c i = 0) = true := decide_eq_true hz
                rw [decide_eq_false (p := chOk c) (hno fun h => hz (h.2 hus))]
                simp (disch := first | omega | simp only [*, go_sem, ↓reduceIte, dropK_eq]) only [x69l7, go_sem, ↓reduceIte, dropK_eq, q1, q4, q5, z34, z35, k36, d1, ia, hv, hr, pg, pg0, hget, dz, Int.toNat_natCast, callX_known (C := C12) (g := 114) rfl, ft_call (C := C12) (g := 114) rfl, callX_known (C := C12) (g := 115) rfl, ft_call (C := C12) (g := 115) rfl, callX_known (C := C12) (g := 116) rfl, ft_call (C := C12) (g := 116) rfl, e26, d10, e59]
                exact Ends_plain rfl rfl
            | false =>
              rw [hNN] at q5 hN
              have hus : usB c t i = true := by unfold usB; rw [hnd, ← hN, decide_eq_true ht1, decide_eq_true h10]; rfl
              cases hin : inF (fd i) (t : Nat) (vl c i) with
              | true =>
                rw [hin] at e60
                simp (disch := first | omega | simp only [*, go_sem, ↓reduceIte, dropK_eq]) only [x69l7, go_sem, ↓reduceIte, dropK_eq, q1, q4, q5, z34, z35, k36, d1, ia, hv, hr, pg, pg0, hget, Int.toNat_natCast, callX_known (C := C12) (g := 114) rfl, ft_call (C := C12) (g := 114) rfl, callX_known (C := C12) (g := 115) rfl, ft_call (C := C12) (g := 115) rfl, callX_known (C := C12) (g := 116) rfl, ft_call (C := C12) (g := 116) rfl, e60, e26, d10, e59]
                exact ⟨hlt, by simp, hnx ⟨fun _ => hin, fun h => by rw [hus] at h; cases h⟩⟩
              | false =>
                rw [hin] at e60
                rw [decide_eq_false (p := chOk c) (hno fun h => by have := h.1 hus; rw [hin] at this; cases this)]
                simp (disch := first | omega | simp only [*, go_sem, ↓reduceIte, dropK_eq]) only [x69l7, go_sem, ↓reduceIte, dropK_eq, q1, q4, q5, z34, z35, k36, d1, ia, hv, hr, pg, pg0, hget, Int.toNat_natCast, callX_known (C := C12) (g := 114) rfl, ft_call (C := C12) (g := 114) rfl, callX_known (C := C12) (g := 115) rfl, ft_call (C := C12) (g := 115) rfl, callX_known (C := C12) (g := 116) rfl, ft_call (C := C12) (g := 116) rfl, e60, e26, d10, e59]
                exact Ends_plain rfl rfl
          · rw [decide_eq_false ht1] at e59
            have hus : usB c t i = false := by unfold usB; rw [hnd, decide_eq_false ht1]; simp
            by_cases hz : vl c i = 0
            · have dz : decide (¬ vl c i = 0) = false := decide_eq_false (fun h => h hz)
              simp (disch := first | omega | simp only [*, go_sem, ↓reduceIte, dropK_eq]) only [x69l7, go_sem, ↓reduceIte, dropK_eq, q1, q4, q5, z34, z35, k36, d1, ia, hv, hr, pg, pg0, hget, dz, Int.toNat_natCast, callX_known (C := C12) (g := 114) rfl, ft_call (C := C12) (g := 114) rfl, callX_known (C := C12) (g := 115) rfl, ft_call (C := C12) (g := 115) rfl, callX_known (C := C12) (g := 116) rfl, ft_call (C := C12) (g := 116) rfl, e26, d10, e59]
              exact ⟨hlt, by simp, hnx ⟨(fun h => by rw [hus] at h; cases h), fun _ => hz⟩⟩
            · have dz : decide (¬ vl c i = 0) = true := decide_eq_true hz
              rw [decide_eq_false (p := chOk c) (hno fun h => hz (h.2 hus))]
              simp (disch := first | omega | simp only [*, go_sem, ↓reduceIte, dropK_eq]) only [x69l7, go_sem, ↓reduceIte, dropK_eq, q1, q4, q5, z34, z35, k36, d1, ia, hv, hr, pg, pg0, hget, dz, Int.toNat_natCast, callX_known (C := C12) (g := 114) rfl, ft_call (C := C12) (g := 114) rfl, callX_known (C := C12) (g := 115) rfl, ft_call (C := C12) (g := 115) rfl, callX_known (C := C12) (g := 116) rfl, ft_call (C := C12) (g := 116) rfl, e26, d10, e59]
              exact Ends_plain rfl rfl
        · have d10 : decide ((10 : Int) ≤ (i : Int)) = false := decide_eq_false (by omega)
          have hus : usB c t i = false := by unfold usB; rw [hnd, decide_eq_false h10]; simp
          by_cases hz : vl c i = 0
          · have dz : decide (¬ vl c i = 0) = false := decide_eq_false (fun h => h hz)
            simp (disch := first | omega | simp only [*, go_sem, ↓reduceIte, dropK_eq]) only [x69l7, go_sem, ↓reduceIte, dropK_eq, q1, q4, q5, z34, z35, k36, d1, ia, hv, hr, pg, pg0, hget, dz, Int.toNat_natCast, callX_known (C := C12) (g := 114) rfl, ft_call (C := C12) (g := 114) rfl, callX_known (C := C12) (g := 115) rfl, ft_call (C := C12) (g := 115) rfl, callX_known (C := C12) (g := 116) rfl, ft_call (C := C12) (g := 116) rfl, e26, d10]
            exact ⟨hlt, by simp, hnx ⟨(fun h => by rw [hus] at h; cases h), fun _ => hz⟩⟩
          · have dz : decide (¬ vl c i = 0) = true := decide_eq_true hz
            rw [decide_eq_false (p := chOk c) (hno fun h => hz (h.2 hus))]
            simp (disch := first | omega | simp only [*, go_sem, ↓reduceIte, dropK_eq]) only [x69l7, go_sem, ↓reduceIte, dropK_eq, q1, q4, q5, z34, z35, k36, d1, ia, hv, hr, pg, pg0, hget, dz, Int.toNat_natCast, callX_known (C := C12) (g := 114) rfl, ft_call (C := C12) (g := 114) rfl, callX_known (C := C12) (g := 115) rfl, ft_call (C := C12) (g := 115) rfl, callX_known (C := C12) (g := 116) rfl, ft_call (C := C12) (g := 116) rfl, e26, d10]
            exact Ends_plain rfl rfl
    · obtain rfl : i = fdL.length := by omega
      have d1 : decide ((fdL.length : Int) < (fdL.length : Int)) = false := decide_eq_false (by omega)
      have hce : decide (chOk c) = endB c t := by
        cases he : endB c t with
        | true => exact decide_eq_true (hiff.2 ⟨fun j hj1 => hj j (by omega), he⟩)
        | false => exact decide_eq_false fun h => by have := (hiff.1 h).2; rw [he] at this; cases this
      rw [hce]
      have e26 : F114 [.agg [sv [108, 111, 119], .int .i64 (-1000000), .int .i64 1000000, .int .i64 195], .int .i64 c.t] = some (.bool (needB (fd 1) (t : Nat))) := E26 (k := 1) ht (by decide) hct
      have ia : iaSA 4 a (.int .i64 1) = some (.pvo [sv [108, 111, 119], .int .i64 (-1000000), .int .i64 1000000, .int .i64 195] 0) := ha.ia (i := 1) (by decide)
      have hE : endB c t = ((decide (c.f1 < c.f2) || ((decide (c.f1 = 0) && decide (c.f2 = 0)) && !needB (fd 1) (t : Nat))) && (N || decide (c.f10 < c.f11))) := by unfold endB; rw [← hN]
      rw [hE]
      by_cases h1 : c.f1 < c.f2
      · have d2 := decide_eq_true h1
        rw [d2]
        cases hNN : N with
        | true =>
          rw [hNN] at q5
          simp (disch := first | omega | simp only [*, go_sem, ↓reduceIte, dropK_eq]) only [x69l7, go_sem, ↓reduceIte, dropK_eq, q1, q4, q5, z34, z35, k36, d1, ia, hv, callX_known (C := C12) (g := 113) rfl, ft_call (C := C12) (g := 113) rfl, callX_known (C := C12) (g := 114) rfl, ft_call (C := C12) (g := 114) rfl, e25, d2, Bool.and_true, Bool.true_and, Bool.or_true, Bool.true_or]
          exact Ends_plain rfl rfl
        | false =>
          rw [hNN] at q5
          simp (disch := first | omega | simp only [*, go_sem, ↓reduceIte, dropK_eq]) only [x69l7, go_sem, ↓reduceIte, dropK_eq, q1, q4, q5, z34, z35, k36, d1, ia, hv, callX_known (C := C12) (g := 113) rfl, ft_call (C := C12) (g := 113) rfl, callX_known (C := C12) (g := 114) rfl, ft_call (C := C12) (g := 114) rfl, e25, d2, Bool.and_true, Bool.true_and, Bool.false_or]
          exact Ends_plain rfl rfl
      · have d2 := decide_eq_false h1
        rw [d2]
        by_cases h2 : c.f1 = 0
        · have d3 := decide_eq_true h2
          rw [d3]
          by_cases h3 : c.f2 = 0
          · have d4 := decide_eq_true h3
            rw [d4]
            cases hnd : needB (fd 1) (t : Nat) with
            | true =>
              rw [hnd] at e26
              simp (disch := first | omega | simp only [*, go_sem, ↓reduceIte, dropK_eq]) only [x69l7, go_sem, ↓reduceIte, dropK_eq, q1, q4, q5, z34, z35, k36, d1, ia, hv, d2, d3, d4, callX_known (C := C12) (g := 113) rfl, ft_call (C := C12) (g := 113) rfl, callX_known (C := C12) (g := 114) rfl, ft_call (C := C12) (g := 114) rfl, e25, e26, Bool.and_false, Bool.false_and]
              exact Ends_plain rfl rfl
            | false =>
              rw [hnd] at e26
              cases hNN : N with
              | true =>
                rw [hNN] at q5
                simp (disch := first | omega | simp only [*, go_sem, ↓reduceIte, dropK_eq]) only [x69l7, go_sem, ↓reduceIte, dropK_eq, q1, q4, q5, z34, z35, k36, d1, ia, hv, callX_known (C := C12) (g := 113) rfl, ft_call (C := C12) (g := 113) rfl, callX_known (C := C12) (g := 114) rfl, ft_call (C := C12) (g := 114) rfl, e25, d2, d3, d4, e26, Bool.and_true, Bool.true_and, Bool.or_true, Bool.true_or]
                exact Ends_plain rfl rfl
              | false =>
                rw [hNN] at q5
                simp (disch := first | omega | simp only [*, go_sem, ↓reduceIte, dropK_eq]) only [x69l7, go_sem, ↓reduceIte, dropK_eq, q1, q4, q5, z34, z35, k36, d1, ia, hv, callX_known (C := C12) (g := 113) rfl, ft_call (C := C12) (g := 113) rfl, callX_known (C := C12) (g := 114) rfl, ft_call (C := C12) (g := 114) rfl, e25, d2, d3, d4, e26, Bool.and_true, Bool.true_and, Bool.false_or]
                exact Ends_plain rfl rfl
          · have d4 := decide_eq_false h3
            rw [d4]
            simp (disch := first | omega | simp only [*, go_sem, ↓reduceIte, dropK_eq]) only [x69l7, go_sem, ↓reduceIte, dropK_eq, q1, q4, q5, z34, z35, k36, d1, ia, hv, d2, d3, d4, Bool.and_false, Bool.false_and]
            exact Ends_plain rfl rfl
        · have d3 := decide_eq_false h2
          rw [d3]
          simp (disch := first | omega | simp only [*, go_sem, ↓reduceIte, dropK_eq]) only [x69l7, go_sem, ↓reduceIte, dropK_eq, q1, q4, q5, z34, z35, k36, d1, ia, hv, d2, d3, Bool.and_false, Bool.false_and]
          exact Ends_plain rfl rfl
set_option maxHeartbeats 4000000 in
theorem F69_eq {c : Ch} (hn : c.n.length ≤ 1000000) : F69 [CK c] = some (.bool (decide (chOk c))) := by
  have e58 : T.F111 [.agg [.int .i64 1, sv c.n, .int .i64 0, .int .i64 0]] = some (.bool (decide (T.tokOk ⟨1, c.n, 0, 0⟩))) := T.F111_eq (t := ⟨1, c.n, 0, 0⟩) hn
  have htk : T.tokOk ⟨1, c.n, 0, 0⟩ ↔ T.wordOk c.n := by
    constructor
    · rintro (h | h | h)
      · exact h.2.1
      · exact absurd h.1 (by simp)
      · exact absurd h.1 (by simp)
    · intro h; exact .inl ⟨rfl, h, rfl⟩
  rw [decide_eq_decide.2 htk] at e58
  unfold F69
  refine pureF_of (x := x69) rfl rfl ?_
  rw [x69_eq.1, x69_eq.2.1]
  rw [x69b_eq]
  by_cases hw : T.wordOk c.n
  · rw [decide_eq_true hw] at e58
    by_cases h0 : c.t < 0
    · have d0 := decide_eq_true h0
      rw [decide_eq_false (p := chOk c) (fun h => by have := h.2.1; omega)]
      simp (disch := first | omega | simp only [*, go_sem, ↓reduceIte, dropK_eq]) only [x69b, go_sem, ↓reduceIte, dropK_eq, callX_known (C := C12) (g := 111) rfl, ft_call (C := C12) (g := 111) rfl, e58, d0]
      exact Ends_plain rfl rfl
    · have d0 := decide_eq_false h0
      by_cases h7 : 8 ≤ c.t
      · have d7 := decide_eq_true h7
        rw [decide_eq_false (p := chOk c) (fun h => by have := h.2.1; omega)]
        simp (disch := first | omega | simp only [*, go_sem, ↓reduceIte, dropK_eq]) only [x69b, go_sem, ↓reduceIte, dropK_eq, callX_known (C := C12) (g := 111) rfl, ft_call (C := C12) (g := 111) rfl, e58, d0, d7]
        exact Ends_plain rfl rfl
      · have d7 := decide_eq_false h7
        obtain ⟨t, hct⟩ : ∃ t : Nat, c.t = t := ⟨c.t.toNat, by omega⟩
        have ht : t < 8 := by omega
        simp (disch := first | omega | simp only [*, go_sem, ↓reduceIte, dropK_eq]) only [go_sem, ↓reduceIte, dropK_eq, callX_known (C := C12) (g := 111) rfl, ft_call (C := C12) (g := 111) rfl, e58, d0, d7, call_inl (C := C12) (g := 112) rfl, ft_inl (C := C12) (g := 112) rfl]
        refine fields24 ?_
        rintro cr hp1 nc1 r1 gf1
        have gv : hp1 (69000000, 0) = some (.var (cellsOf (CK c))) := by
          rw [gf1 _ (by simp), upd_same]
          rfl
        by_cases z10 : c.f10 = 0
        · have dz10 := decide_eq_true z10
          simp (disch := first | omega | simp only [*, go_sem, ↓reduceIte, dropK_eq]) only [go_sem, ↓reduceIte, dropK_eq, gv, dz10]
          refine tail29 hct ht hw ?_ ?_ ?_ gv r1 (N := decide (c.f11 = 0)) (by rw [dz10]; rfl)
          · simp only [go_sem, ↓reduceIte, dropK_eq]
          · simp only [go_sem, ↓reduceIte, dropK_eq]
          · simp only [go_sem, ↓reduceIte, dropK_eq]
        · have dz10 := decide_eq_false z10
          simp (disch := first | omega | simp only [*, go_sem, ↓reduceIte, dropK_eq]) only [go_sem, ↓reduceIte, dropK_eq, gv, dz10]
          refine tail29 hct ht hw ?_ ?_ ?_ gv r1 (N := false) (by rw [dz10]; rfl)
          · simp only [go_sem, ↓reduceIte, dropK_eq]
          · simp only [go_sem, ↓reduceIte, dropK_eq]
          · simp only [go_sem, ↓reduceIte, dropK_eq]
  · rw [decide_eq_false hw] at e58
    rw [decide_eq_false (p := chOk c) (fun h => hw h.1)]
    simp (disch := first | omega | simp only [*, go_sem, ↓reduceIte, dropK_eq]) only [x69b, go_sem, ↓reduceIte, dropK_eq, callX_known (C := C12) (g := 111) rfl, ft_call (C := C12) (g := 111) rfl, e58]
    exact Ends_plain rfl rfl
instance (r : List Ch) : Decidable (rOk r) := by unfold rOk; infer_instance
noncomputable def C13 : Cfg := C12.add 69 F69
theorem ok13 : CfgOk Tryz.prog C13 := ok12.add sound69
abbrev RC (a : AVal) (r : List Ch) : Prop := Rg 14 CK a r
def NmOk (es : List (AVal × AVal × Nat)) (ns : List (List UInt8)) : Prop := ∀ s, (s ∈ ns → ∃ j n, findA 2 (sv s) es 0 = some (some (j, .int .i64 1, n)) ∧ j < es.length) ∧ (s ∉ ns → findA 2 (sv s) es 0 = some none)
theorem nm_nil : NmOk [] [] := fun s => ⟨fun h => by simp at h, fun _ => rfl⟩
theorem nm_add {es : List (AVal × AVal × Nat)} {ns : List (List UInt8)} {s : List UInt8} {n : Nat} (h : NmOk es ns) (hs : s ∉ ns) : NmOk (es ++ [(sv s, .int .i64 1, n)]) (ns ++ [s]) := by
  intro u
  rw [findA_snoc]
  constructor
  · intro hu
    by_cases e : u = s
    · subst e
      rw [(h u).2 hs]
      exact ⟨_, _, by simp only [if_true]; rfl, by simp⟩
    · obtain ⟨j, n', h1, h2⟩ := (h u).1 (by simpa [e] using hu)
      exact ⟨j, n', by rw [h1], by simp; omega⟩
  · intro hu
    simp only [List.mem_append, List.mem_singleton, not_or] at hu
    rw [(h u).2 hu.1]
    simp only
    rw [if_neg hu.2]
theorem findA_set (w : List UInt8) (v : AVal) (m : Nat) : ∀ (es : List (AVal × AVal × Nat)) (i j n : Nat) (x : AVal), findA 2 (sv w) es i = some (some (i + j, x, n)) → findA 2 (sv w) (es.set j (sv w, v, m)) i = some (some (i + j, v, m))
  | [], i, j, n, x, h => by simp [findA, keyOk] at h
  | e :: es, i, j, n, x, h => by
    simp only [findA] at h
    cases hk : keq 2 (sv w) e.1 with
    | none => rw [hk] at h; cases h
    | some b =>
      rw [hk] at h
      cases b with
      | true =>
        simp only [Option.some.injEq, Prod.mk.injEq] at h
        have : j = 0 := by omega
        subst this
        simp only [List.set_cons_zero, findA, keq_sv, decide_true]
        rfl
      | false =>
        simp only at h
        cases j with
        | zero =>
          have : ∀ (es : List (AVal × AVal × Nat)) (i q n : Nat) (x : AVal), findA 2 (sv w) es i = some (some (q, x, n)) → i ≤ q := by
            intro es
            induction es with
            | nil => intro i q n x h; simp [findA, keyOk] at h
            | cons e es ih =>
              intro i q n x h
              simp only [findA] at h
              split at h
              · cases h; exact Nat.le_refl _
              · have := ih _ _ _ _ h; omega
              · cases h
          have := this _ _ _ _ _ h
          omega
        | succ j =>
          simp only [List.set_cons_succ, findA, hk]
          rw [show i + (j + 1) = (i + 1) + j by omega] at h ⊢
          exact findA_set w v m es (i + 1) j n x h
noncomputable def F29 : List AVal → Option AVal := pureF C13 1 29
theorem sound29 : Sound Tryz.prog 29 F29 := sound_self ok13 1 29
set_option maxHeartbeats 2000000 in
theorem F29_eq {a : AVal} {r : List Ch} (ha : RC a r) (hl : r.length ≤ 100000) (hn : ∀ c ∈ r, c.n.length ≤ 1000000) : F29 [.agg [a]] = some (.bool (decide (rOk r))) := by
  have hsc := ha.sc
  have hcl := ha.cells
  unfold F29
  refine pureF_of (x := x29) rfl rfl ?_
  rw [x29_eq.1, x29_eq.2.1]
  simp (disch := first | omega | simp only [*, go_sem, ↓reduceIte, dropK_eq]) only [x29b, go_sem, ↓reduceIte, dropK_eq, hsc, hcl, ha.len]
  refine Ev_range (ti := 10) (len := r.length) (J := fun i tm hp nc => ∃ es n, hp (29000000, 0) = some (.var [a]) ∧ hp (29001000, 1) = some (.obj (.map es n)) ∧ NmOk es ((r.take i).map (·.n)) ∧ (∀ c ∈ r.take i, chOk c) ∧ ((r.take i).map (·.n)).Nodup) (by omega) (by simp only [go_sem, ↓reduceIte, dropK_eq]) ?_ ?_
  · refine ⟨[], 0, ?_⟩
    simp only [go_sem, ↓reduceIte, dropK_eq, List.take_zero, List.map_nil]
    exact ⟨nm_nil, by simp, by simp⟩
  · rintro i tm hp nc hi hc k10 ⟨es, n, hv, hm, hnm, hok, hnd⟩
    have k1 := hc 1 rfl; have k3 := hc 3 rfl; have k8 := hc 8 rfl; have k9 := hc 9 rfl; simp only [go_sem, ↓reduceIte, dropK_eq] at k1 k3 k8 k9
    rcases Nat.lt_or_ge i r.length with hlt | hge
    · have d1 : decide ((i : Int) < (r.length : Int)) = true := decide_eq_true (by omega)
      have ia := ha.ia hlt
      have hmem := List.getElem_mem hlt
      have e29 := F69_eq (hn _ hmem)
      have hmap : (r.take (i + 1)).map (·.n) = (r.take i).map (·.n) ++ [r[i].n] := by rw [take_next hlt, List.map_append]; rfl
      by_cases hin : r[i].n ∈ (r.take i).map (·.n)
      · obtain ⟨j, m, hf, hj⟩ := (hnm r[i].n).1 hin
        have hf2 := findA_set r[i].n (.int .i64 2) m es 0 j m _ (by rw [Nat.zero_add]; exact hf)
        rw [Nat.zero_add] at hf2
        rw [decide_eq_false (p := rOk r) (fun h => by
          have h2 := h.2.1
          rw [← List.take_append_drop (i + 1) r, List.map_append, hmap] at h2
          have h3 := (List.nodup_append.1 h2).1
          exact (List.nodup_append.1 h3).2.2 _ hin _ (by simp) rfl)]
        simp (disch := first | omega | simp only [*, go_sem, ↓reduceIte, dropK_eq]) only [x29l3, go_sem, ↓reduceIte, dropK_eq, k1, k3, k8, k9, k10, d1, ia, hm, hf, hf2]
        exact Ends_plain rfl rfl
      · have hf := (hnm r[i].n).2 hin
        have hnm2 := nm_add (n := n) hnm hin
        obtain ⟨j, m, hf2, _⟩ := (hnm2 r[i].n).1 (by simp)
        by_cases hc2 : chOk r[i]
        · rw [decide_eq_true hc2] at e29
          simp (disch := first | omega | simp only [*, go_sem, ↓reduceIte, dropK_eq]) only [x29l3, go_sem, ↓reduceIte, dropK_eq, k1, k3, k8, k9, k10, d1, ia, hm, hv, hf, hf2, callX_known (C := C13) (g := 69) rfl, ft_call (C := C13) (g := 69) rfl, e29]
          refine ⟨hlt, by simp, _, _, rfl, ?_, ?_, ?_⟩
          · rw [hmap]; exact hnm2
          · intro c hc
            rw [take_next hlt] at hc
            rcases List.mem_append.1 hc with hc | hc
            · exact hok c hc
            · simp at hc; subst hc; exact hc2
          · rw [hmap, List.nodup_append]
            refine ⟨hnd, by simp, ?_⟩
            intro x hx y hy
            simp at hy
            subst hy
            exact fun e => hin (e ▸ hx)
        · rw [decide_eq_false hc2] at e29
          rw [decide_eq_false (p := rOk r) (fun h => hc2 (h.1 _ hmem))]
          simp (disch := first | omega | simp only [*, go_sem, ↓reduceIte, dropK_eq]) only [x29l3, go_sem, ↓reduceIte, dropK_eq, k1, k3, k8, k9, k10, d1, ia, hm, hv, hf, hf2, callX_known (C := C13) (g := 69) rfl, ft_call (C := C13) (g := 69) rfl, e29]
          exact Ends_plain rfl rfl
    · obtain rfl : i = r.length := by omega
      have d1 : decide ((r.length : Int) < (r.length : Int)) = false := decide_eq_false (by omega)
      rw [List.take_length] at hok hnd
      by_cases h1 : 1 ≤ r.length
      · have d2 : decide ((1 : Int) ≤ (r.length : Int)) = true := decide_eq_true (by omega)
        rw [show decide (rOk r) = decide ((r.length : Int) ≤ 4) from decide_eq_decide.2 ⟨fun h => by have := h.2.2.2; omega, fun h => ⟨hok, hnd, (fun e => by rw [e] at h1; simp at h1), by omega⟩⟩]
        simp (disch := first | omega | simp only [*, go_sem, ↓reduceIte, dropK_eq]) only [x29l3, go_sem, ↓reduceIte, dropK_eq, k1, k3, k8, k9, k10, d1, hv, ha.len, d2]
        exact Ends_plain rfl rfl
      · have d2 : decide ((1 : Int) ≤ (r.length : Int)) = false := decide_eq_false (by omega)
        rw [decide_eq_false (p := rOk r) (fun h => h1 (List.length_pos_iff.2 h.2.2.1))]
        simp (disch := first | omega | simp only [*, go_sem, ↓reduceIte, dropK_eq]) only [x29l3, go_sem, ↓reduceIte, dropK_eq, k1, k3, k8, k9, k10, d1, hv, ha.len, d2]
        exact Ends_plain rfl rfl
end Go.Proofs.YtldineoabbodpaaGreatDoor.REC
namespace Go.Proofs.YtldineoabbodpaaGreatDoor
open Go Go.Xec
attribute [local go_sem] tm0 ne_eq not_false_eq_true List.length_append List.length_replicate List.replicate_succ List.replicate_zero Int.cast_ofNat_Int not_true_eq_false decide_true decide_false ite_self beq_self_eq_true Bool.true_beq Bool.false_beq Bool.not_true Bool.not_false
attribute [local go_sem_proc] Nat.reduceAdd Nat.reduceMul Nat.reduceSub Nat.reduceLeDiff Nat.reduceLT Nat.reduceEqDiff Int.reduceLT Int.reduceLE Int.reduceAdd Int.reduceSub Int.reduceMul Int.reduceToNat Int.reducePow Int.reduceNe Int.reduceMod Int.reduceDiv Int.reduceEq Nat.reducePow Int.reduceNeg
set_option maxRecDepth 10000
noncomputable def F76 : List AVal → Option AVal := pureF C3 1 76
theorem sound76 : Sound Tryz.prog 76 F76 := sound_self ok3 1 76
noncomputable def C40a : Cfg := (((((((((((((((C29.add 217 F217).add 21 F21).add 218 F218).add 32 F32).addN 57 clK).add 71 F71).add 33 F33).add 289 F289).add 22 F22).add 59 F59).add 222 F222).add 223 F223).add 224 F224).add 225 F225).add 29 REC.F29).add 76 F76
theorem ok40a : CfgOk Tryz.prog C40a := (((((((((((((((ok29.add sound217).add sound21).add sound218).add sound32).addN soundN57).add sound71).add sound33).add sound289).add sound22).add sound59).add sound222).add sound223).add sound224).add sound225).add REC.sound29).add sound76
noncomputable def C40 : Cfg := Cfg.addμ (Cfg.addμ (Cfg.addμ (Cfg.addμ (Cfg.addμ (Cfg.addμ (Cfg.addμ (Cfg.addμ (Cfg.addμ (Cfg.addμ (Cfg.addμ C40a 91 "datum/channel.step" 209) 96 "datum/channel.step" 286) 97 "datum/channel.step" 288) 100 "datum/channel.step" 291) 103 "datum/channel.step" 298) 91 "datum/channel.right" 208) 96 "datum/channel.right" 285) 97 "datum/channel.right" 287) 100 "datum/channel.right" 290) 103 "datum/channel.right" 297) 91 "datum/channel.flush" 207
theorem ok40 : CfgOk Tryz.prog C40 := addμ_ok (addμ_ok (addμ_ok (addμ_ok (addμ_ok (addμ_ok (addμ_ok (addμ_ok (addμ_ok (addμ_ok (addμ_ok ok40a (fun v w => by kernel_rfl)) (fun v w => by kernel_rfl)) (fun v w => by kernel_rfl)) (fun v w => by kernel_rfl)) (fun v w => by kernel_rfl)) (fun v w => by kernel_rfl)) (fun v w => by kernel_rfl)) (fun v w => by kernel_rfl)) (fun v w => by kernel_rfl)) (fun v w => by kernel_rfl)) (fun v w => by kernel_rfl)
structure Cu where
  t : Int
  s : Int
  b : Int
  n : Int
  h : Int
  l : Int
structure Ew where
  t : Int
  w : Int
  s : Int
  n : Int
  zl : Int
  zh : Int
  ql : Int
  qh : Int
abbrev Cu0 : Cu := ⟨0, 0, 0, 0, 0, 0⟩
abbrev Ew0 : Ew := ⟨0, 0, 0, 0, 0, 0, 0, 0⟩
structure En where
  c : REC.Ch
  n : Int
  l : Int
  gs : Int
  gl : Int
  gh : Int
  hv : AVal
  b : Bs
  t : Tl
  u : Cu
  w : Ew
  mv : AVal
abbrev ChC (c : REC.Ch) : List AVal := [sv c.n, .int .i64 c.t, .int .i64 c.f0, .int .i64 c.f1, .int .i64 c.f2, .int .i64 c.f3, .int .i64 c.f4, .int .i64 c.f5, .int .i64 c.f6, .int .i64 c.f7, .int .i64 c.f8, .int .i64 c.f9, .int .i64 c.f10, .int .i64 c.f11]
abbrev EC (e : En) : List AVal := [sv e.c.n, .int .i64 e.c.t, .int .i64 e.c.f0, .int .i64 e.c.f1, .int .i64 e.c.f2, .int .i64 e.c.f3, .int .i64 e.c.f4, .int .i64 e.c.f5, .int .i64 e.c.f6, .int .i64 e.c.f7, .int .i64 e.c.f8, .int .i64 e.c.f9, .int .i64 e.c.f10, .int .i64 e.c.f11,
  .int .i64 e.n, .int .i64 e.l, .int .i64 e.gs, .int .i64 e.gl, .int .i64 e.gh, e.hv, .int .i64 e.b.s, .int .i64 e.b.m, .int .i64 e.b.u, .int .i64 e.b.r, .int .i64 e.b.l,
  .int .i64 e.t.k, .int .i64 e.t.s, .int .i64 e.t.m, .int .i64 e.t.u, .int .i64 e.u.t, .int .i64 e.u.s, .int .i64 e.u.b, .int .i64 e.u.n, .int .i64 e.u.h, .int .i64 e.u.l,
  .int .i64 e.w.t, .int .i64 e.w.w, .int .i64 e.w.s, .int .i64 e.w.n, .int .i64 e.w.zl, .int .i64 e.w.zh, .int .i64 e.w.ql, .int .i64 e.w.qh, e.mv]
abbrev EK (e : En) : AVal := .agg (EC e)
abbrev SK (k v w g : Int) (r : List Int) : AVal := .agg (.int .i64 k :: .int .i64 v :: .int .i64 w :: .int .i64 g :: i64s r)
abbrev z8I : List Int := [0, 0, 0, 0, 0, 0, 0, 0]
abbrev κE (c : Nat) : Key := (36000000, c)
section
variable {d c0 : Nat} {hp : Heap} {nc : Nat} {K : AVal × Heap × Nat → Prop} {e : En}
theorem judge219 {p : Pt} {wide : Int} {ml : List Int} (hm : Rw e.mv ml) (hmo : mksOk ml) (hp' : ptOk p) (h1 : 0 ≤ p.h) (h2 : U p.l) (hk : hp (κE c0) = some (.var (EC e)))
    (hK : ∀ hp' nc', hp' (κE c0) = some (.var (EC { e with mv := .slc 1 (i64s (pushL ml (maskP p))) })) → (∀ k' : Key, k' ≠ κE c0 → k'.1 / 1000000 ≠ 219 → hp' k' = hp k') → K (SK 2 (verP p) wide 0 (tell8 (natL (pushL ml (maskP p)))), hp', nc')) :
    Bd (inlD C40 (d + 1) 219 [.ptr (κE c0) 0 0 0 0, PtK p, .int .i64 wide] hp nc) K := by
  refine inl_of (x := x219) rfl rfl ?_
  rw [x219_eq.1, x219_eq.2.1]
  have e222 := F222_eq hp' h1 h2
  have e223 := F223_eq hp' h1 h2
  have e224 := F224_draw hp' h1 h2
  have hmr := maskP_rng hp'
  have e225 := F225_ok (m := maskP p) hm hmo hmr
  have hmo2 : mksOk (pushL ml (maskP p)) := by
    have := hmo.1
    refine ⟨by simp only [pushL, List.length_drop, List.length_append, List.length_cons, List.length_nil]; omega, fun m hm' => ?_⟩
    have h3 := List.mem_of_mem_drop hm'
    rcases List.mem_append.1 h3 with h4 | h4
    · exact hmo.2 m h4
    · simp at h4; subst h4; exact hmr
  have e59 := F59_ok (Rw.slc (pushL ml (maskP p))) (by have := hmo2.1; simp only [Lg]; omega) hmo2
  have ap := hm.plain
  have hmv : cellsOf e.mv = [e.mv] := hm.cells
  generalize pushL ml (maskP p) = ml2 at *
  have hdl : i64A (drawL p) = .agg [.int .i64 (rnd (p.c * 1000 - radU p) p.d 0), .int .i64 (rnd (p.c * 1000 - rad p) p.d 1), .int .i64 (rnd (p.c * 1000) p.d 0), .int .i64 (rnd (p.c * 1000) p.d 1), .int .i64 (rnd (p.c * 1000 + rad p) p.d 0), .int .i64 (rnd (p.c * 1000 + radU p) p.d 1), .int .i64 (rnd ((p.c + p.v) * 1000) p.d 0), .int .i64 (rnd ((p.c + p.v) * 1000) p.d 1)] := rfl
  rw [hdl] at e222 e224
  have ht8 : i64s (tell8 (natL ml2)) = [.int .i64 (ruleI (natL ml2) 0), .int .i64 (ruleI (natL ml2) 1), .int .i64 (ruleI (natL ml2) 2), .int .i64 (ruleI (natL ml2) 3), .int .i64 (ruleI (natL ml2) 4), .int .i64 (ruleI (natL ml2) 5), .int .i64 (ruleI (natL ml2) 6), .int .i64 (ruleI (natL ml2) 7)] := rfl
  rw [ht8] at e59
  simp (disch := first | omega | simp only [*, go_sem, ↓reduceIte, dropK_eq]) only [x219b, go_sem, ↓reduceIte, dropK_eq, callX_known (C := C40) (g := 222) rfl, ft_call (C := C40) (g := 222) rfl, callX_known (C := C40) (g := 223) rfl, ft_call (C := C40) (g := 223) rfl, callX_known (C := C40) (g := 224) rfl, ft_call (C := C40) (g := 224) rfl, callX_known (C := C40) (g := 225) rfl, ft_call (C := C40) (g := 225) rfl, callX_known (C := C40) (g := 59) rfl, ft_call (C := C40) (g := 59) rfl, hk, e222, e223, e224, e225, e59]
  refine hK _ _ ?_ fun k' h3 h4 => ?_
  · simp only [go_sem, ↓reduceIte, dropK_eq]
  · repeat rw [upd_ne _ _ (by first | exact h3 | (rintro rfl; simp at h4))]
end
set_option maxRecDepth 10000
def valS (e : En) (ml row : List Int) (reach : Int) : En × AVal :=
  if e.b.m < e.c.f3 then ({ e with b := takeB e.b row }, SK 1 0 0 0 z8I)
  else ({ e with mv := .slc 1 (i64s (pushL ml (maskP (ptB e.b (sumL row))))) }, SK 2 (verP (ptB e.b (sumL row))) (wideB e.b reach) 0 (tell8 (natL (pushL ml (maskP (ptB e.b (sumL row)))))))
theorem tell8_map (l : List Nat) : (tell8 l).map (AVal.int .i64) = [.int .i64 (ruleI l 0), .int .i64 (ruleI l 1), .int .i64 (ruleI l 2), .int .i64 (ruleI l 3), .int .i64 (ruleI l 4), .int .i64 (ruleI l 5), .int .i64 (ruleI l 6), .int .i64 (ruleI l 7)] := rfl
section
variable {d c0 c1 : Nat} {hp : Heap} {nc : Nat} {K : AVal × Heap × Nat → Prop} {e : En}
theorem values213s {x reach : Int} {ml : List Int} (hb : baOk e.b) (hs : e.b.s = 1) (hf : 2 ≤ e.c.f3 ∧ e.c.f3 ≤ 25) (hm : Rw e.mv ml) (hmo : mksOk ml) (hx : inM x) (hre : 0 ≤ reach ∧ reach ≤ 2000000) (hk : hp (κE c0) = some (.var (EC e))) (hr : hp (286001003, c1) = some (.row 0 1 [.int .i64 x]))
    (hK : ∀ hp' nc', hp' (κE c0) = some (.var (EC (valS e ml [x] reach).1)) → (∀ k' : Key, k' ≠ κE c0 → k'.1 / 1000000 ≠ 219 → k'.1 / 1000000 ≠ 213 → hp' k' = hp k') → K ((valS e ml [x] reach).2, hp', nc')) :
    Bd (inlD C40 (d + 2) 213 [.ptr (κE c0) 0 0 0 0, .sl (286001003, c1) 0 1 0 1, .int .i64 reach] hp nc) K := by
  refine inl_of (x := x213) rfl rfl ?_
  rw [x213_eq.1, x213_eq.2.1]
  have ap := hm.plain
  by_cases h : e.b.m < e.c.f3
  · have d1 := decide_eq_true h
    have e217 := F217_ok (b := e.b) (a := .slc 1 [.int .i64 x]) (l := [x]) (Rw.slc [x]) hb (by omega) (by rw [hs]; rfl) (by intro y hy; simp at hy; subst hy; exact hx)
    simp only [valS, if_pos h] at hK
    generalize takeB e.b [x] = b2 at *
    clear h hf hre hs hx
    simp (disch := first | omega | simp only [*, go_sem, ↓reduceIte, dropK_eq]) only [x213b, go_sem, ↓reduceIte, dropK_eq, callX_names (C := C40) (g := 217) rfl, ftC_names (C := C40) (g := 217) rfl, hk, hr, d1, e217]
    refine hK _ _ ?_ fun k' h3 h4 h5 => ?_
    · simp only [go_sem, ↓reduceIte, dropK_eq]
    · repeat rw [upd_ne _ _ (by first | exact h3 | (rintro rfl; simp at h5))]
  · have d1 := decide_eq_false h
    have hm2 : 2 ≤ e.b.m := by omega
    have hsum : sumL [x] = x := by simp [sumL]
    simp only [inM] at hx
    have hxb : -(e.b.s * 1000000) ≤ x ∧ x ≤ e.b.s * 1000000 := by rw [hs]; omega
    have e21 := F21_ok (x := x) hb hm2 hxb
    obtain ⟨hpo, hph, hpl⟩ := ptB_ok hb hm2 hxb
    have e218 := F218_ok (r := reach) hb hm2 hre
    simp only [valS, if_neg h, hsum] at hK
    generalize ptB e.b x = p at *
    generalize wideB e.b reach = wd at *
    clear h hsum
    simp (disch := first | omega | simp only [*, go_sem, ↓reduceIte, dropK_eq]) only [x213b, go_sem, ↓reduceIte, dropK_eq, hk, hr, d1, ↓Ev_loop, ↓EvN_step, x213l6, Int.zero_add, callX_known (C := C40) (g := 21) rfl, ft_call (C := C40) (g := 21) rfl, callX_known (C := C40) (g := 218) rfl, ft_call (C := C40) (g := 218) rfl, e21, e218, call_inl (C := C40) (g := 219) rfl, ft_inl (C := C40) (g := 219) rfl]
    refine judge219 hm hmo hpo hph hpl ?_ fun hp' nc' h3 h4 => ?_
    · simp only [go_sem, ↓reduceIte, dropK_eq, hk]
    have hq : hp' (213000000, nc) = some (.var (.int .i64 0 :: .int .i64 0 :: .int .i64 0 :: .int .i64 0 :: i64s z8I)) := by
      rw [h4 _ (by simp) (by simp)]
      simp only [go_sem, ↓reduceIte, dropK_eq]
    simp (disch := first | omega | simp only [*, go_sem, ↓reduceIte, dropK_eq]) only [go_sem, ↓reduceIte, dropK_eq, tell8_map, hq]
    refine hK _ _ ?_ fun k' h5 h6 h7 => ?_
    · simp only [go_sem, ↓reduceIte, dropK_eq, h3]
    · rw [upd_ne _ _ (by rintro rfl; simp at h7), h4 k' h5 h6]
      repeat rw [upd_ne _ _ (by first | exact h5 | (rintro rfl; simp at h7))]
end
set_option maxRecDepth 10000
abbrev SC (k v w g r0 r1 r2 r3 r4 r5 r6 r7 : Int) : List AVal := [.int .i64 k, .int .i64 v, .int .i64 w, .int .i64 g, .int .i64 r0, .int .i64 r1, .int .i64 r2, .int .i64 r3, .int .i64 r4, .int .i64 r5, .int .i64 r6, .int .i64 r7]
theorem SK_tell (k v w g : Int) (l : List Nat) : SK k v w g (tell8 l) = .agg (SC k v w g (ruleI l 0) (ruleI l 1) (ruleI l 2) (ruleI l 3) (ruleI l 4) (ruleI l 5) (ruleI l 6) (ruleI l 7)) := rfl
theorem valS_cells (e : En) (ml row : List Int) (reach : Int) : ∃ k v w g r0 r1 r2 r3 r4 r5 r6 r7, (valS e ml row reach).2 = .agg (SC k v w g r0 r1 r2 r3 r4 r5 r6 r7) := by
  unfold valS
  split
  · exact ⟨1, 0, 0, 0, 0, 0, 0, 0, 0, 0, 0, 0, rfl⟩
  · exact ⟨_, _, _, _, _, _, _, _, _, _, _, _, SK_tell _ _ _ _ _⟩
theorem ptT_ok {t : Tl} {d : Int} (ht : tlOk t) (hm : 1 ≤ t.m) (hd : 0 ≤ d ∧ d ≤ t.most) : ptOk (ptT t d) ∧ 0 ≤ (ptT t d).h ∧ U (ptT t d).l := by
  have hu := tlOk_u ht
  have h7 := ht.2
  obtain ⟨⟨g1, ⟨g2, g2'⟩, g3, g4, g5⟩, g6, g7⟩ := ht
  have h1 := mul_bnd2 (x := t.m) (y := t.s) (M := 25) (N := 1000) (by omega) g5 (show 0 ≤ t.s by omega) g2'
  have h1' : 1 ≤ t.m * t.s := Int.mul_pos (by omega) (by omega)
  by_cases hk : t.k ≤ 3
  · have hmo : t.most = t.s := if_pos (by omega)
    rw [hmo] at h7 hd
    have h2 := mul_bnd2 (x := d) (y := t.m * t.s) (M := 1000) (N := 25000) hd.1 (by omega) h1.1 h1.2
    have h3 := mul_bnd2 h1.1 h1.2 (show 0 ≤ t.s by omega) g2'
    have h3' : 1 ≤ t.m * t.s * t.s := Int.mul_pos (by omega) (by omega)
    have h4 := mul_bnd2 (x := t.u) (y := t.s) (M := 25000) (N := 1000) h7.1 (by omega) (by omega) g2'
    have h5 := mul_bnd2 (x := t.u) (y := t.m * t.s - t.u) (M := 25000) (N := 25000) h7.1 (by omega) (by omega) (by omega)
    have h6 := mul_bnd2 h5.1 h5.2 (show 0 ≤ t.s by omega) g2'
    have hp : ptT t d = ⟨t.u * t.s, if t.k = 2 then t.m * t.s * t.s else t.m * t.s, d * (t.m * t.s) - t.u * t.s, t.u * (t.m * t.s - t.u) * t.s / 18446744073709551616, t.u * (t.m * t.s - t.u) * t.s % 18446744073709551616⟩ := if_pos hk
    rw [hp]
    simp only [ptOk, U]
    split <;> omega
  · have hp : ptT t d = ⟨t.u, t.m * t.s, d * t.m - t.u, t.u * t.m / 18446744073709551616, t.u * t.m % 18446744073709551616⟩ := if_neg hk
    have hmo : t.most = 1000000 := if_neg hk
    rw [hmo] at hd
    have h2 := mul_bnd2 (x := d) (y := t.m) (M := 1000000) (N := 25) hd.1 (by omega) g4 g5
    have h3 := mul_bnd2 (x := t.u) (y := t.m) (M := 25000000) (N := 25) hu.1 hu.2 g4 g5
    rw [hp]
    simp only [ptOk, U]
    omega
def cntS (e : En) (ml : List Int) (x : Int) : En × AVal :=
  if e.t.m < e.c.f3 then ({ e with t := takeT e.t x }, SK 1 0 0 0 z8I)
  else ({ e with mv := .slc 1 (i64s (pushL ml (maskP (ptT e.t x)))) }, SK 2 (verP (ptT e.t x)) 0 0 (tell8 (natL (pushL ml (maskP (ptT e.t x))))))
theorem cntS_cells (e : En) (ml : List Int) (x : Int) : ∃ k v w g r0 r1 r2 r3 r4 r5 r6 r7, (cntS e ml x).2 = .agg (SC k v w g r0 r1 r2 r3 r4 r5 r6 r7) := by
  unfold cntS
  split
  · exact ⟨1, 0, 0, 0, 0, 0, 0, 0, 0, 0, 0, 0, rfl⟩
  · exact ⟨_, _, _, _, _, _, _, _, _, _, _, _, SK_tell _ _ _ _ _⟩
section
variable {d c0 c1 : Nat} {hp : Heap} {nc : Nat} {K : AVal × Heap × Nat → Prop} {e : En}
theorem step286 {x last : Int} {ml : List Int} (hb : baOk e.b) (hs : e.b.s = 1) (hf : 2 ≤ e.c.f3 ∧ e.c.f3 ≤ 25) (hm : Rw e.mv ml) (hmo : mksOk ml) (hx : inM x) (hl : inM last) (hk : hp (κE c0) = some (.var (EC e)))
    (hK : ∀ hp' nc', hp' (κE c0) = some (.var (EC (valS e ml [x] (max (x - last) (last - x))).1)) → (∀ k' : Key, k' ≠ κE c0 → k'.1 / 1000000 ≠ 219 → k'.1 / 1000000 ≠ 213 → k'.1 / 1000000 ≠ 286 → hp' k' = hp k') → K ((valS e ml [x] (max (x - last) (last - x))).2, hp', nc')) :
    Bd (inlD C40 (d + 3) 286 [.agg [.ptr (κE c0) 0 0 0 0], .int .i64 x, .int .i64 last] hp nc) K := by
  refine inl_of (x := x286) rfl rfl ?_
  rw [x286_eq.1, x286_eq.2.1]
  have hre : 0 ≤ max (x - last) (last - x) ∧ max (x - last) (last - x) ≤ 2000000 := by simp only [inM] at hx hl; omega
  obtain ⟨g1, g2, g3, g4, q0, q1, q2, q3, q4, q5, q6, q7, hv⟩ := valS_cells e ml [x] (max (x - last) (last - x))
  have hx' := hx; have hl' := hl
  simp only [inM] at hx' hl'
  rw [hv] at hK
  simp (disch := first | omega | simp only [*, go_sem, ↓reduceIte, dropK_eq]) only [x286b, go_sem, ↓reduceIte, dropK_eq, hk, mnx_max, call_inl (C := C40) (g := 213) rfl, ft_inl (C := C40) (g := 213) rfl]
  refine values213s hb hs hf hm hmo hx hre ?_ ?_ fun hp' nc' h3 h4 => ?_
  · simp only [go_sem, ↓reduceIte, dropK_eq, hk]
  · simp only [go_sem, ↓reduceIte, dropK_eq]
  have hq : hp' (286000001, nc) = some (.var [.int .i64 0, .int .i64 0, .int .i64 0, .int .i64 0, .int .i64 0, .int .i64 0, .int .i64 0, .int .i64 0, .int .i64 0, .int .i64 0, .int .i64 0, .int .i64 0]) := by
    rw [h4 _ (by simp) (by simp) (by simp)]
    simp only [go_sem, ↓reduceIte, dropK_eq]
  rw [hv]
  generalize (valS e ml [x] (max (x - last) (last - x))).1 = e2 at *
  simp (disch := first | omega | simp only [*, go_sem, ↓reduceIte, dropK_eq]) only [go_sem, ↓reduceIte, dropK_eq, hq]
  refine hK _ _ ?_ fun k' h5 h6 h7 h8 => ?_
  · simp only [go_sem, ↓reduceIte, dropK_eq, h3]
  · rw [upd_ne _ _ (by rintro rfl; simp at h8), h4 k' h5 h6 h7]
    repeat rw [upd_ne _ _ (by first | exact h5 | (rintro rfl; simp at h8))]
theorem step288 {x last : Int} {ml : List Int} (ht : tlOk e.t) (hf : 1 ≤ e.c.f3 ∧ e.c.f3 ≤ 25) (hm : Rw e.mv ml) (hmo : mksOk ml) (hx : 0 ≤ x ∧ x ≤ e.t.most) (hk : hp (κE c0) = some (.var (EC e)))
    (hK : ∀ hp' nc', hp' (κE c0) = some (.var (EC (cntS e ml x).1)) → (∀ k' : Key, k' ≠ κE c0 → k'.1 / 1000000 ≠ 219 → k'.1 / 1000000 ≠ 288 → hp' k' = hp k') → K ((cntS e ml x).2, hp', nc')) :
    Bd (inlD C40 (d + 2) 288 [.agg [.ptr (κE c0) 0 0 0 0], .int .i64 x, .int .i64 last] hp nc) K := by
  refine inl_of (x := x288) rfl rfl ?_
  rw [x288_eq.1, x288_eq.2.1]
  have ap := hm.plain
  by_cases h : e.t.m < e.c.f3
  · have d1 := decide_eq_true h
    have e289 := F289_ok ht (by omega) hx
    simp only [cntS, if_pos h] at hK
    generalize takeT e.t x = t2 at *
    clear h hf hx
    simp (disch := first | omega | simp only [*, go_sem, ↓reduceIte, dropK_eq]) only [x288b, go_sem, ↓reduceIte, dropK_eq, callX_known (C := C40) (g := 289) rfl, ft_call (C := C40) (g := 289) rfl, hk, d1, e289]
    refine hK _ _ ?_ fun k' h3 h4 h5 => ?_
    · simp only [go_sem, ↓reduceIte, dropK_eq]
    · repeat rw [upd_ne _ _ (by first | exact h3 | (rintro rfl; simp at h5))]
  · have d1 := decide_eq_false h
    have e22 := F22_ok ht (by omega) hx
    obtain ⟨hpo, hph, hpl⟩ := ptT_ok ht (by omega) hx
    simp only [cntS, if_neg h, SK_tell] at hK
    generalize ptT e.t x = p at *
    clear h hf hx
    simp (disch := first | omega | simp only [*, go_sem, ↓reduceIte, dropK_eq]) only [x288b, go_sem, ↓reduceIte, dropK_eq, hk, d1, callX_known (C := C40) (g := 22) rfl, ft_call (C := C40) (g := 22) rfl, e22, call_inl (C := C40) (g := 219) rfl, ft_inl (C := C40) (g := 219) rfl]
    refine judge219 hm hmo hpo hph hpl ?_ fun hp' nc' h3 h4 => ?_
    · simp only [go_sem, ↓reduceIte, dropK_eq, hk]
    have hq : hp' (288000001, nc) = some (.var [.int .i64 0, .int .i64 0, .int .i64 0, .int .i64 0, .int .i64 0, .int .i64 0, .int .i64 0, .int .i64 0, .int .i64 0, .int .i64 0, .int .i64 0, .int .i64 0]) := by
      rw [h4 _ (by simp) (by simp)]
      simp only [go_sem, ↓reduceIte, dropK_eq]
    rw [SK_tell]
    simp (disch := first | omega | simp only [*, go_sem, ↓reduceIte, dropK_eq]) only [go_sem, ↓reduceIte, dropK_eq, hq]
    refine hK _ _ ?_ fun k' h5 h6 h7 => ?_
    · simp only [go_sem, ↓reduceIte, dropK_eq, h3]
    · rw [upd_ne _ _ (by rintro rfl; simp at h7), h4 k' h5 h6]
      repeat rw [upd_ne _ _ (by first | exact h5 | (rintro rfl; simp at h7))]
end
set_option maxRecDepth 10000
def smpOk (c : REC.Ch) (x : Int) : Prop := if c.t = 2 ∨ c.t = 3 then 0 ≤ x ∧ x ≤ c.f0 else if c.t = 4 ∨ c.t = 5 then 0 ≤ x ∧ x ≤ 1000000 else c.f1 ≤ x ∧ x ≤ c.f2
instance (c : REC.Ch) (x : Int) : Decidable (smpOk c x) := by unfold smpOk; infer_instance
theorem F76_eq {c : REC.Ch} {x : Int} : F76 [.agg (ChC c), .int .i64 x] = some (.bool (decide (smpOk c x))) := by
  unfold F76
  refine pureF_of (x := x76) rfl rfl ?_
  rw [x76_eq.1, x76_eq.2.1]
  have e1 := F60_eq (x := x) (l := 0) (h := c.f0)
  have e2 := F60_eq (x := x) (l := 0) (h := 1000000)
  have e3 := F60_eq (x := x) (l := c.f1) (h := c.f2)
  by_cases h2 : c.t = 2
  · have d2 := decide_eq_true h2
    rw [show decide (smpOk c x) = decide (0 ≤ x ∧ x ≤ c.f0) from decide_eq_decide.2 (by unfold smpOk; rw [if_pos (by omega)])]
    simp (disch := first | omega | simp only [*, go_sem, ↓reduceIte, dropK_eq]) only [x76b, go_sem, ↓reduceIte, dropK_eq, callX_known (C := C3) (g := 60) rfl, ft_call (C := C3) (g := 60) rfl, e1, d2]
    exact Ends_plain rfl rfl
  have d2 := decide_eq_false h2
  by_cases h3 : c.t = 3
  · have d3 := decide_eq_true h3
    rw [show decide (smpOk c x) = decide (0 ≤ x ∧ x ≤ c.f0) from decide_eq_decide.2 (by unfold smpOk; rw [if_pos (by omega)])]
    simp (disch := first | omega | simp only [*, go_sem, ↓reduceIte, dropK_eq]) only [x76b, go_sem, ↓reduceIte, dropK_eq, callX_known (C := C3) (g := 60) rfl, ft_call (C := C3) (g := 60) rfl, e1, d2, d3]
    exact Ends_plain rfl rfl
  have d3 := decide_eq_false h3
  by_cases h4 : c.t = 4
  · have d4 := decide_eq_true h4
    rw [show decide (smpOk c x) = decide (0 ≤ x ∧ x ≤ 1000000) from decide_eq_decide.2 (by unfold smpOk; rw [if_neg (by omega), if_pos (by omega)])]
    simp (disch := first | omega | simp only [*, go_sem, ↓reduceIte, dropK_eq]) only [x76b, go_sem, ↓reduceIte, dropK_eq, callX_known (C := C3) (g := 60) rfl, ft_call (C := C3) (g := 60) rfl, e2, d2, d3, d4]
    exact Ends_plain rfl rfl
  have d4 := decide_eq_false h4
  by_cases h5 : c.t = 5
  · have d5 := decide_eq_true h5
    rw [show decide (smpOk c x) = decide (0 ≤ x ∧ x ≤ 1000000) from decide_eq_decide.2 (by unfold smpOk; rw [if_neg (by omega), if_pos (by omega)])]
    simp (disch := first | omega | simp only [*, go_sem, ↓reduceIte, dropK_eq]) only [x76b, go_sem, ↓reduceIte, dropK_eq, callX_known (C := C3) (g := 60) rfl, ft_call (C := C3) (g := 60) rfl, e2, d2, d3, d4, d5]
    exact Ends_plain rfl rfl
  have d5 := decide_eq_false h5
  rw [show decide (smpOk c x) = decide (c.f1 ≤ x ∧ x ≤ c.f2) from decide_eq_decide.2 (by unfold smpOk; rw [if_neg (by omega), if_neg (by omega)])]
  simp (disch := first | omega | simp only [*, go_sem, ↓reduceIte, dropK_eq]) only [x76b, go_sem, ↓reduceIte, dropK_eq, callX_known (C := C3) (g := 60) rfl, ft_call (C := C3) (g := 60) rfl, e3, d2, d3, d4, d5]
  exact Ends_plain rfl rfl
def faceT (t : Int) : Nat := if t = 0 then 91 else if t = 1 then 96 else if t = 6 then 100 else if t = 7 then 103 else 97
section
variable {d : Nat} {hp : Heap} {nc : Nat} {K : AVal × Heap × Nat → Prop} {e : En} {κ : Key}
theorem face30 {C : Cfg} (hC : C.xf = xf) (hk : hp κ = some (.var (EC e))) (hK : ∀ nc', K (.ifc (faceT e.c.t) (.agg [.ptr κ 0 0 0 0]), hp, nc')) : Bd (inlD C (d + 1) 30 [.ptr κ 0 0 0 0] hp nc) K := by
  refine inl_of (x := x30) (by rw [hC]; rfl) rfl ?_
  rw [x30_eq.1, x30_eq.2.1]
  unfold faceT at hK
  by_cases h0 : e.c.t = 0
  · have d0 := decide_eq_true h0
    rw [if_pos h0] at hK
    simp (disch := first | omega | simp only [*, go_sem, ↓reduceIte, dropK_eq]) only [x30b, go_sem, ↓reduceIte, dropK_eq, hk, d0]
    exact hK _
  have d0 := decide_eq_false h0
  rw [if_neg h0] at hK
  by_cases h1 : e.c.t = 1
  · have d1 := decide_eq_true h1
    rw [if_pos h1] at hK
    simp (disch := first | omega | simp only [*, go_sem, ↓reduceIte, dropK_eq]) only [x30b, go_sem, ↓reduceIte, dropK_eq, hk, d0, d1]
    exact hK _
  have d1 := decide_eq_false h1
  rw [if_neg h1] at hK
  by_cases h2 : e.c.t = 6
  · have d2 := decide_eq_true h2
    rw [if_pos h2] at hK
    simp (disch := first | omega | simp only [*, go_sem, ↓reduceIte, dropK_eq]) only [x30b, go_sem, ↓reduceIte, dropK_eq, hk, d0, d1, d2]
    exact hK _
  have d2 := decide_eq_false h2
  rw [if_neg h2] at hK
  by_cases h3 : e.c.t = 7
  · have d3 := decide_eq_true h3
    rw [if_pos h3] at hK
    simp (disch := first | omega | simp only [*, go_sem, ↓reduceIte, dropK_eq]) only [x30b, go_sem, ↓reduceIte, dropK_eq, hk, d0, d1, d2, d3]
    exact hK _
  have d3 := decide_eq_false h3
  rw [if_neg h3] at hK
  simp (disch := first | omega | simp only [*, go_sem, ↓reduceIte, dropK_eq]) only [x30b, go_sem, ↓reduceIte, dropK_eq, hk, d0, d1, d2, d3]
  exact hK _
end
set_option maxRecDepth 10000
abbrev E00 : En := ⟨⟨[], 0, 0, 0, 0, 0, 0, 0, 0, 0, 0, 0, 0, 0⟩, 0, 0, 0, 0, 0, .nils, ⟨0, 0, 0, 0, 0⟩, ⟨0, 0, 0, 0⟩, Cu0, Ew0, .nils⟩
theorem plain_sv (d : Nat) (s : List UInt8) : plain d (sv s) = true := plain_str d _
theorem EK_plain {e : En} (h1 : ∀ d, plain d e.hv = true) (h2 : ∀ d, plain d e.mv = true) (d : Nat) : plain (d + 1) (EK e) = true := by
  simp only [plain_agg, plainL_cons, plainL_nil, plain_int, plain_sv, h1, h2, Bool.and_self]
theorem SC_plain (k v w g r0 r1 r2 r3 r4 r5 r6 r7 : Int) (d : Nat) : plain (d + 1) (.agg (SC k v w g r0 r1 r2 r3 r4 r5 r6 r7)) = true := by
  simp only [plain_agg, plainL_cons, plainL_nil, plain_int, Bool.and_self]
theorem tup3_plain {a b c : AVal} (ha : plain 63 a = true) (hb : plain 63 b = true) (hc : plain 63 c = true) : plain Xec.freeze (.tup [a, b, c]) = true := by
  show plain (63 + 1) _ = true
  simp only [plain_tup, plainL_cons, plainL_nil, ha, hb, hc, Bool.and_self]
theorem tup2_plain {a b : AVal} (ha : plain 63 a = true) (hb : plain 63 b = true) : plain Xec.freeze (.tup [a, b]) = true := by
  show plain (63 + 1) _ = true
  simp only [plain_tup, plainL_cons, plainL_nil, ha, hb, Bool.and_self]
noncomputable def F36 : List AVal → Option AVal := pureF C40 5 36
theorem sound36 : Sound Tryz.prog 36 F36 := sound_self ok40 5 36
theorem F36_full {e : En} {x : Int} {ml hl : List Int} (hh : Rw e.hv hl) (hm : Rw e.mv ml) (h : e.n = e.c.f4) : F36 [EK e, .int .i64 x] = some (.tup [EK E00, .agg (SC 0 0 0 0 0 0 0 0 0 0 0 0), .int .i64 11]) := by
  have d1 := decide_eq_true h
  have am := hm.sc
  have as2 := hh.sc
  unfold F36
  refine pureF_of (x := x36) rfl rfl ?_
  rw [x36_eq.1, x36_eq.2.1]
  simp (disch := first | omega | simp only [*, go_sem, ↓reduceIte, dropK_eq]) only [x36b, go_sem, ↓reduceIte, dropK_eq, d1]
  exact Ends_plain (tup3_plain (EK_plain (e := E00) (fun d => plain_nils d) (fun d => plain_nils d) 62) (SC_plain _ _ _ _ _ _ _ _ _ _ _ _ 62) (plain_int 63 _ _)) rfl
theorem F36_range {e : En} {x : Int} {ml hl : List Int} (hh : Rw e.hv hl) (hm : Rw e.mv ml) (h : e.n ≠ e.c.f4) (hx : ¬ smpOk e.c x) : F36 [EK e, .int .i64 x] = some (.tup [EK E00, .agg (SC 0 0 0 0 0 0 0 0 0 0 0 0), .int .i64 3]) := by
  have d1 := decide_eq_false h
  have e76 := F76_eq (c := e.c) (x := x)
  rw [decide_eq_false hx] at e76
  have am := hm.sc
  have as2 := hh.sc
  unfold F36
  refine pureF_of (x := x36) rfl rfl ?_
  rw [x36_eq.1, x36_eq.2.1]
  simp (disch := first | omega | simp only [*, go_sem, ↓reduceIte, dropK_eq]) only [x36b, go_sem, ↓reduceIte, dropK_eq, d1, callX_known (C := C40) (g := 76) rfl, ft_call (C := C40) (g := 76) rfl, e76]
  exact Ends_plain (tup3_plain (EK_plain (e := E00) (fun d => plain_nils d) (fun d => plain_nils d) 62) (SC_plain _ _ _ _ _ _ _ _ _ _ _ _ 62) (plain_int 63 _ _)) rfl
def valN (e : En) (ml : List Int) (x : Int) : En := { (valS e ml [x] (max (x - e.l) (e.l - x))).1 with n := e.n + 1, l := x }
theorem F36_single {e : En} {x : Int} {ml hl : List Int} (h : e.n ≠ e.c.f4) (hn : 0 ≤ e.n ∧ e.n ≤ 1000000000) (hsm : smpOk e.c x) (ht : e.c.t = 1) (hb : baOk e.b) (hs : e.b.s = 1) (hf : 2 ≤ e.c.f3 ∧ e.c.f3 ≤ 25) (hh : Rw e.hv hl) (hm : Rw e.mv ml) (hmo : mksOk ml) (hx : inM x) (hl : inM e.l) :
    F36 [EK e, .int .i64 x] = some (.tup [EK (valN e ml x), (valS e ml [x] (max (x - e.l) (e.l - x))).2, .int .i64 0]) := by
  have d1 := decide_eq_false h
  have e76 := F76_eq (c := e.c) (x := x)
  rw [decide_eq_true hsm] at e76
  have ap := hm.plain
  have ap2 := hh.plain
  have hfc : faceT e.c.t = 96 := by rw [ht]; rfl
  have hN : (valS e ml [x] (max (x - e.l) (e.l - x))).1.n = e.n := by unfold valS; split <;> rfl
  have hs1 : isSc (valS e ml [x] (max (x - e.l) (e.l - x))).1.hv = true := by
    unfold valS
    split <;> exact hh.sc
  have hs2 : isSc (valS e ml [x] (max (x - e.l) (e.l - x))).1.mv = true := by
    unfold valS
    split
    · exact hm.sc
    · rfl
  have hp1 : ∀ d, plain d (valS e ml [x] (max (x - e.l) (e.l - x))).1.hv = true := by unfold valS; split <;> exact ap2
  have hp2 : ∀ d, plain d (valS e ml [x] (max (x - e.l) (e.l - x))).1.mv = true := by
    unfold valS
    split
    · exact ap
    · exact fun d => plain_slc d _ _
  have am := hm.sc
  have as2 := hh.sc
  unfold F36
  refine pureF_of (x := x36) rfl rfl ?_
  rw [x36_eq.1, x36_eq.2.1]
  simp (disch := first | omega | simp only [*, go_sem, ↓reduceIte, dropK_eq]) only [x36b, go_sem, ↓reduceIte, dropK_eq, d1, callX_known (C := C40) (g := 76) rfl, ft_call (C := C40) (g := 76) rfl, e76, call_inl (C := C40) (g := 30) rfl, ft_inl (C := C40) (g := 30) rfl]
  refine face30 rfl (e := e) (by simp only [go_sem, ↓reduceIte, dropK_eq]) fun nc' => ?_
  rw [hfc]
  simp (disch := first | omega | simp only [*, go_sem, ↓reduceIte, dropK_eq]) only [go_sem, ↓reduceIte, dropK_eq, invX_ifc (C := C40) (t := 96) (m := "datum/channel.step") (g := 286) rfl, call_inl (C := C40) (g := 286) rfl, ft_inl (C := C40) (g := 286) rfl]
  refine step286 (e := e) hb hs hf hm hmo hx hl (by simp only [go_sem, ↓reduceIte, dropK_eq]) fun hp' nc' h3 h4 => ?_
  obtain ⟨g1, g2, g3, g4, q0, q1, q2, q3, q4, q5, q6, q7, hv⟩ := valS_cells e ml [x] (max (x - e.l) (e.l - x))
  rw [hv]
  have k1 := h4 (36000001, 0) (by simp) (by simp) (by simp) (by simp)
  have k2 := h4 (36000002, 0) (by simp) (by simp) (by simp) (by simp)
  unfold valN
  clear ap ap2 am as2
  generalize (valS e ml [x] (max (x - e.l) (e.l - x))).1 = e2 at *
  simp (disch := first | omega | simp only [*, go_sem, ↓reduceIte, dropK_eq]) only [go_sem, ↓reduceIte, dropK_eq, h3, k1, k2, hs1, hs2, hN]
  exact Ends_plain (tup3_plain (EK_plain (e := { e2 with n := e.n + 1, l := x }) hp1 hp2 62) (SC_plain _ _ _ _ _ _ _ _ _ _ _ _ 62) (plain_int 63 _ _)) rfl
def cntN (e : En) (ml : List Int) (x : Int) : En := { (cntS e ml x).1 with n := e.n + 1, l := x }
theorem F36_count {e : En} {x : Int} {ml hl : List Int} (h : e.n ≠ e.c.f4) (hn : 0 ≤ e.n ∧ e.n ≤ 1000000000) (hsm : smpOk e.c x) (ht : 2 ≤ e.c.t ∧ e.c.t ≤ 5) (hb : tlOk e.t) (hf : 1 ≤ e.c.f3 ∧ e.c.f3 ≤ 25) (hh : Rw e.hv hl) (hm : Rw e.mv ml) (hmo : mksOk ml) (hx : 0 ≤ x ∧ x ≤ e.t.most) :
    F36 [EK e, .int .i64 x] = some (.tup [EK (cntN e ml x), (cntS e ml x).2, .int .i64 0]) := by
  have d1 := decide_eq_false h
  have e76 := F76_eq (c := e.c) (x := x)
  rw [decide_eq_true hsm] at e76
  have ap := hm.plain
  have ap2 := hh.plain
  have hfc : faceT e.c.t = 97 := by unfold faceT; rw [if_neg (by omega), if_neg (by omega), if_neg (by omega), if_neg (by omega)]
  have hN : (cntS e ml x).1.n = e.n := by unfold cntS; split <;> rfl
  have hs1 : isSc (cntS e ml x).1.hv = true := by
    unfold cntS
    split <;> exact hh.sc
  have hs2 : isSc (cntS e ml x).1.mv = true := by
    unfold cntS
    split
    · exact hm.sc
    · rfl
  have hp1 : ∀ d, plain d (cntS e ml x).1.hv = true := by unfold cntS; split <;> exact ap2
  have hp2 : ∀ d, plain d (cntS e ml x).1.mv = true := by
    unfold cntS
    split
    · exact ap
    · exact fun d => plain_slc d _ _
  have am := hm.sc
  have as2 := hh.sc
  unfold F36
  refine pureF_of (x := x36) rfl rfl ?_
  rw [x36_eq.1, x36_eq.2.1]
  simp (disch := first | omega | simp only [*, go_sem, ↓reduceIte, dropK_eq]) only [x36b, go_sem, ↓reduceIte, dropK_eq, d1, callX_known (C := C40) (g := 76) rfl, ft_call (C := C40) (g := 76) rfl, e76, call_inl (C := C40) (g := 30) rfl, ft_inl (C := C40) (g := 30) rfl]
  refine face30 rfl (e := e) (by simp only [go_sem, ↓reduceIte, dropK_eq]) fun nc' => ?_
  rw [hfc]
  simp (disch := first | omega | simp only [*, go_sem, ↓reduceIte, dropK_eq]) only [go_sem, ↓reduceIte, dropK_eq, invX_ifc (C := C40) (t := 97) (m := "datum/channel.step") (g := 288) rfl, call_inl (C := C40) (g := 288) rfl, ft_inl (C := C40) (g := 288) rfl]
  refine step288 (e := e) hb hf hm hmo hx (by simp only [go_sem, ↓reduceIte, dropK_eq]) fun hp' nc' h3 h4 => ?_
  obtain ⟨g1, g2, g3, g4, q0, q1, q2, q3, q4, q5, q6, q7, hv⟩ := cntS_cells e ml x
  rw [hv]
  have k1 := h4 (36000001, 0) (by simp) (by simp) (by simp)
  have k2 := h4 (36000002, 0) (by simp) (by simp) (by simp)
  unfold cntN
  clear ap ap2 am as2
  generalize (cntS e ml x).1 = e2 at *
  simp (disch := first | omega | simp only [*, go_sem, ↓reduceIte, dropK_eq]) only [go_sem, ↓reduceIte, dropK_eq, h3, k1, k2, hs1, hs2, hN]
  exact Ends_plain (tup3_plain (EK_plain (e := { e2 with n := e.n + 1, l := x }) hp1 hp2 62) (SC_plain _ _ _ _ _ _ _ _ _ _ _ _ 62) (plain_int 63 _ _)) rfl
set_option maxRecDepth 10000
theorem F29_one {c : REC.Ch} (hn : c.n.length ≤ 1000000) : REC.F29 [.agg [.slc 14 [.agg (ChC c)]]] = some (.bool (decide (REC.chOk c))) := by
  have h := REC.F29_eq (r := [c]) (Xec.Rg.slc [c]) (by simp) (by intro d hd; simp at hd; subst hd; exact hn)
  refine h.trans (congrArg (fun b => some (AVal.bool b)) (decide_eq_decide.2 ⟨fun h => h.1 c (by simp), fun h => ⟨fun d hd => ?_, by simp, by simp, by simp⟩⟩))
  simp at hd; subst hd; exact h
def newE (c : REC.Ch) : En :=
  if c.t = 1 then { E00 with c := c, b := ⟨1, 0, 0, 0, 0⟩ } else if c.t = 0 then { E00 with c := c, gs := c.f0, gl := c.f1, gh := c.f2, b := ⟨c.f0, 0, 0, 0, 0⟩ }
  else if c.t ≤ 5 then { E00 with c := c, t := ⟨c.t, max c.f0 1, 0, 0⟩ } else { E00 with c := c }
noncomputable def F9 : List AVal → Option AVal := pureF C40 2 9
theorem sound9 : Sound Tryz.prog 9 F9 := sound_self ok40 2 9
theorem F9_single {c : REC.Ch} (hn : c.n.length ≤ 1000000) (h : REC.chOk c) (ht : c.t = 1) : F9 [.agg (ChC c)] = some (.tup [EK { E00 with c := c, b := ⟨1, 0, 0, 0, 0⟩ }, .int .i64 0]) := by
  have e29 := F29_one hn
  rw [decide_eq_true h] at e29
  have e32 := F32_eq (n := 1)
  rw [if_pos (by omega)] at e32
  have hfc : faceT c.t = 96 := by rw [ht]; rfl
  unfold F9
  refine pureF_of (x := x9) rfl rfl ?_
  rw [x9_eq.1, x9_eq.2.1]
  simp (disch := first | omega | simp only [*, go_sem, ↓reduceIte, dropK_eq]) only [x9b, go_sem, ↓reduceIte, dropK_eq, callX_names (C := C40) (g := 29) rfl, ftC_names (C := C40) (g := 29) rfl, e29, call_inl (C := C40) (g := 30) rfl, ft_inl (C := C40) (g := 30) rfl]
  refine face30 rfl (e := { E00 with c := c }) (by simp only [go_sem, ↓reduceIte, dropK_eq]) fun nc' => ?_
  rw [show ({ E00 with c := c } : En).c.t = c.t from rfl, hfc]
  simp (disch := first | omega | simp only [*, go_sem, ↓reduceIte, dropK_eq]) only [go_sem, ↓reduceIte, dropK_eq, tasA_ifc, callX_known (C := C40) (g := 32) rfl, ft_call (C := C40) (g := 32) rfl, e32]
  exact Ends_plain (tup2_plain (EK_plain (e := { E00 with c := c, b := ⟨1, 0, 0, 0, 0⟩ }) (fun d => plain_nils d) (fun d => plain_nils d) 62) (plain_int 63 _ _)) rfl
theorem F9_count {c : REC.Ch} (hn : c.n.length ≤ 1000000) (h : REC.chOk c) (ht : 2 ≤ c.t ∧ c.t ≤ 5) (hs : tlOk ⟨c.t, max c.f0 1, 0, 0⟩) : F9 [.agg (ChC c)] = some (.tup [EK { E00 with c := c, t := ⟨c.t, max c.f0 1, 0, 0⟩ }, .int .i64 0]) := by
  have e29 := F29_one hn
  rw [decide_eq_true h] at e29
  have e33 := F33_eq (k := c.t) (s := max c.f0 1)
  rw [if_pos hs] at e33
  have hfc : faceT c.t = 97 := by unfold faceT; rw [if_neg (by omega), if_neg (by omega), if_neg (by omega), if_neg (by omega)]
  unfold F9
  refine pureF_of (x := x9) rfl rfl ?_
  rw [x9_eq.1, x9_eq.2.1]
  simp (disch := first | omega | simp only [*, go_sem, ↓reduceIte, dropK_eq]) only [x9b, go_sem, ↓reduceIte, dropK_eq, callX_names (C := C40) (g := 29) rfl, ftC_names (C := C40) (g := 29) rfl, e29, call_inl (C := C40) (g := 30) rfl, ft_inl (C := C40) (g := 30) rfl]
  refine face30 rfl (e := { E00 with c := c }) (by simp only [go_sem, ↓reduceIte, dropK_eq]) fun nc' => ?_
  rw [show ({ E00 with c := c } : En).c.t = c.t from rfl, hfc]
  simp (disch := first | omega | simp only [*, go_sem, ↓reduceIte, dropK_eq]) only [go_sem, ↓reduceIte, dropK_eq, tasA_ifc, mnx_max, callX_known (C := C40) (g := 33) rfl, ft_call (C := C40) (g := 33) rfl, e33]
  exact Ends_plain (tup2_plain (EK_plain (e := { E00 with c := c, t := ⟨c.t, max c.f0 1, 0, 0⟩ }) (fun d => plain_nils d) (fun d => plain_nils d) 62) (plain_int 63 _ _)) rfl
set_option maxRecDepth 10000
def bareE (e : En) : En :=
  if e.c.t = 0 then { e with gs := 0, gl := 0, gh := 0, hv := .nils, b := ⟨0, 0, 0, 0, 0⟩ } else if e.c.t = 1 then { e with b := ⟨0, 0, 0, 0, 0⟩ }
  else if e.c.t = 6 then { e with u := ⟨0, 0, 0, 0, 0, 0⟩ } else if e.c.t = 7 then { e with w := ⟨0, 0, 0, 0, 0, 0, 0, 0⟩ } else { e with t := ⟨0, 0, 0, 0⟩ }
noncomputable def F105 : List AVal → Option AVal := pureF C40 2 105
theorem sound105 : Sound Tryz.prog 105 F105 := sound_self ok40 2 105
theorem F105_eq {e : En} {ml hl : List Int} (hh : Rw e.hv hl) (hm : Rw e.mv ml) : F105 [EK e] = some (EK (bareE e)) := by
  have am := hm.sc
  have as2 := hh.sc
  unfold F105
  refine pureF_of (x := x105) rfl rfl ?_
  rw [x105_eq.1, x105_eq.2.1]
  simp (disch := first | omega | simp only [*, go_sem, ↓reduceIte, dropK_eq]) only [x105b, go_sem, ↓reduceIte, dropK_eq, call_inl (C := C40) (g := 30) rfl, ft_inl (C := C40) (g := 30) rfl]
  refine face30 rfl (e := e) (by simp only [go_sem, ↓reduceIte, dropK_eq]) fun nc' => ?_
  unfold faceT bareE
  by_cases h0 : e.c.t = 0
  · rw [if_pos h0, if_pos h0]
    simp (disch := first | omega | simp only [*, go_sem, ↓reduceIte, dropK_eq]) only [go_sem, ↓reduceIte, dropK_eq, tasA_ifc]
    exact Ends_plain (EK_plain (e := { e with gs := 0, gl := 0, gh := 0, hv := .nils, b := ⟨0, 0, 0, 0, 0⟩ }) (fun d => plain_nils d) hm.plain 63) rfl
  rw [if_neg h0, if_neg h0]
  by_cases h1 : e.c.t = 1
  · rw [if_pos h1, if_pos h1]
    simp (disch := first | omega | simp only [*, go_sem, ↓reduceIte, dropK_eq]) only [go_sem, ↓reduceIte, dropK_eq, tasA_ifc]
    exact Ends_plain (EK_plain (e := { e with b := ⟨0, 0, 0, 0, 0⟩ }) hh.plain hm.plain 63) rfl
  rw [if_neg h1, if_neg h1]
  by_cases h2 : e.c.t = 6
  · rw [if_pos h2, if_pos h2]
    simp (disch := first | omega | simp only [*, go_sem, ↓reduceIte, dropK_eq]) only [go_sem, ↓reduceIte, dropK_eq, tasA_ifc]
    exact Ends_plain (EK_plain (e := { e with u := ⟨0, 0, 0, 0, 0, 0⟩ }) hh.plain hm.plain 63) rfl
  rw [if_neg h2, if_neg h2]
  by_cases h3 : e.c.t = 7
  · rw [if_pos h3, if_pos h3]
    simp (disch := first | omega | simp only [*, go_sem, ↓reduceIte, dropK_eq]) only [go_sem, ↓reduceIte, dropK_eq, tasA_ifc]
    exact Ends_plain (EK_plain (e := { e with w := ⟨0, 0, 0, 0, 0, 0, 0, 0⟩ }) hh.plain hm.plain 63) rfl
  rw [if_neg h3, if_neg h3]
  simp (disch := first | omega | simp only [*, go_sem, ↓reduceIte, dropK_eq]) only [go_sem, ↓reduceIte, dropK_eq, tasA_ifc]
  exact Ends_plain (EK_plain (e := { e with t := ⟨0, 0, 0, 0⟩ }) hh.plain hm.plain 63) rfl
theorem bareE_hv {e : En} {hl : List Int} (hh : Rw e.hv hl) : Rw (bareE e).hv (if e.c.t = 0 then [] else hl) := by
  unfold bareE
  by_cases h0 : e.c.t = 0
  · rw [if_pos h0, if_pos h0]; exact .inl ⟨rfl, rfl⟩
  rw [if_neg h0, if_neg h0]
  split
  · exact hh
  split
  · exact hh
  split
  · exact hh
  · exact hh
noncomputable def C41 : Cfg := ((C40.add 36 F36).add 9 F9).add 105 F105
theorem ok41 : CfgOk Tryz.prog C41 := ((ok40.add sound36).add sound9).add sound105
noncomputable def F61 : List AVal → Option AVal := pureF C41 1 61
theorem sound61 : Sound Tryz.prog 61 F61 := sound_self ok41 1 61
def noE (e : En) : Prop := (e.b.s = 0 ∧ e.b.m = 0 ∧ e.b.u = 0 ∧ e.b.r = 0 ∧ e.b.l = 0) ∧ (e.t.k = 0 ∧ e.t.s = 0 ∧ e.t.m = 0 ∧ e.t.u = 0) ∧
  (e.u.t = 0 ∧ e.u.s = 0 ∧ e.u.b = 0 ∧ e.u.n = 0 ∧ e.u.h = 0 ∧ e.u.l = 0) ∧ (e.w.t = 0 ∧ e.w.w = 0 ∧ e.w.s = 0 ∧ e.w.n = 0 ∧ e.w.zl = 0 ∧ e.w.zh = 0 ∧ e.w.ql = 0 ∧ e.w.qh = 0) ∧ e.gs = 0 ∧ e.gl = 0 ∧ e.gh = 0
instance (e : En) : Decidable (noE e) := by unfold noE; infer_instance
def restE (e : En) (hl ml : List Int) : Prop := noE (bareE e) ∧ (if e.c.t = 0 then [] else hl).length = 0 ∧ mksOk ml ∧ (e.c.t < 6 ∨ ml.length = 0)
instance (e : En) (hl ml : List Int) : Decidable (restE e hl ml) := by unfold restE; infer_instance
theorem eq4 {a b c d : Int} : eqCells [0, 0, 0, 0] [.int .i64 a, .int .i64 b, .int .i64 c, .int .i64 d] [.int .i64 0, .int .i64 0, .int .i64 0, .int .i64 0] = some (decide (a = 0 ∧ b = 0 ∧ c = 0 ∧ d = 0)) := by
  simp only [go_sem, ↓reduceIte, dropK_eq, Bool.decide_and]
theorem eq5 {a b c d e : Int} : eqCells [0, 0, 0, 0, 0] [.int .i64 a, .int .i64 b, .int .i64 c, .int .i64 d, .int .i64 e] [.int .i64 0, .int .i64 0, .int .i64 0, .int .i64 0, .int .i64 0] = some (decide (a = 0 ∧ b = 0 ∧ c = 0 ∧ d = 0 ∧ e = 0)) := by
  simp only [go_sem, ↓reduceIte, dropK_eq, Bool.decide_and]
theorem eq6 {a b c d e f : Int} : eqCells [0, 0, 0, 0, 0, 0] [.int .i64 a, .int .i64 b, .int .i64 c, .int .i64 d, .int .i64 e, .int .i64 f] [.int .i64 0, .int .i64 0, .int .i64 0, .int .i64 0, .int .i64 0, .int .i64 0] = some (decide (a = 0 ∧ b = 0 ∧ c = 0 ∧ d = 0 ∧ e = 0 ∧ f = 0)) := by
  simp only [go_sem, ↓reduceIte, dropK_eq, Bool.decide_and]
theorem eq8 {a b c d e f g h : Int} : eqCells [0, 0, 0, 0, 0, 0, 0, 0] [.int .i64 a, .int .i64 b, .int .i64 c, .int .i64 d, .int .i64 e, .int .i64 f, .int .i64 g, .int .i64 h] [.int .i64 0, .int .i64 0, .int .i64 0, .int .i64 0, .int .i64 0, .int .i64 0, .int .i64 0, .int .i64 0] = some (decide (a = 0 ∧ b = 0 ∧ c = 0 ∧ d = 0 ∧ e = 0 ∧ f = 0 ∧ g = 0 ∧ h = 0)) := by
  simp only [go_sem, ↓reduceIte, dropK_eq, Bool.decide_and]
theorem F61_eq {e : En} {ml hl : List Int} (hh : Rw e.hv hl) (hm : Rw e.mv ml) (hl1 : Lg hl) (hl2 : Lg ml) : F61 [EK e] = some (.bool (decide (restE e hl ml))) := by
  have am := hm.sc
  have as2 := hh.sc
  have ap := hm.plain
  have ap2 := hh.plain
  have e105 := F105_eq hh hm
  have hb := bareE_hv hh
  have hb2 : ((if e.c.t = 0 then [] else hl).length : Int) < 9223372036854775808 := by
    have := hl1
    simp only [Lg] at this
    split
    · simp
    · omega
  have hmv : ∀ d, plain d (bareE e).hv = true := hb.plain
  have hbm : (bareE e).mv = e.mv := by
    unfold bareE
    repeat' split
    all_goals rfl
  have bm : isSc (bareE e).mv = true := by rw [hbm]; exact am
  have bh := hb.sc
  have bl := hb.len
  have ml1 := hm.len
  have hR : restE e hl ml = (noE (bareE e) ∧ (if e.c.t = 0 then [] else hl).length = 0 ∧ mksOk ml ∧ (e.c.t < 6 ∨ ml.length = 0)) := rfl
  have hR2 : decide (restE e hl ml) = decide (noE (bareE e) ∧ (if e.c.t = 0 then [] else hl).length = 0 ∧ mksOk ml ∧ (e.c.t < 6 ∨ ml.length = 0)) := rfl
  rw [hR2]
  generalize (if e.c.t = 0 then [] else hl) = hl' at *
  generalize bareE e = e2 at *
  clear hR hR2 hb hmv hbm
  unfold F61
  refine pureF_of (x := x61) rfl rfl ?_
  rw [x61_eq.1, x61_eq.2.1]
  by_cases h1 : e2.b.s = 0 ∧ e2.b.m = 0 ∧ e2.b.u = 0 ∧ e2.b.r = 0 ∧ e2.b.l = 0
  rotate_left
  · have d1 := decide_eq_false h1
    rw [decide_eq_false (by unfold noE; exact fun h => h1 h.1.1)]
    clear h1
    simp (disch := first | omega | simp only [*, go_sem, ↓reduceIte, dropK_eq]) only [x61b, go_sem, ↓reduceIte, dropK_eq, callX_known (C := C41) (g := 105) rfl, ft_call (C := C41) (g := 105) rfl, e105, ↓eq5, ↓eq4, ↓eq6, ↓eq8, bh, bm, d1]
    exact Ends_plain rfl rfl
  have d1 := decide_eq_true h1
  by_cases h2 : e2.t.k = 0 ∧ e2.t.s = 0 ∧ e2.t.m = 0 ∧ e2.t.u = 0
  rotate_left
  · have d2 := decide_eq_false h2
    rw [decide_eq_false (by unfold noE; exact fun h => h2 h.1.2.1)]
    clear h1 h2
    simp (disch := first | omega | simp only [*, go_sem, ↓reduceIte, dropK_eq]) only [x61b, go_sem, ↓reduceIte, dropK_eq, callX_known (C := C41) (g := 105) rfl, ft_call (C := C41) (g := 105) rfl, e105, ↓eq5, ↓eq4, ↓eq6, ↓eq8, bh, bm, d1, d2]
    exact Ends_plain rfl rfl
  have d2 := decide_eq_true h2
  by_cases h3 : e2.u.t = 0 ∧ e2.u.s = 0 ∧ e2.u.b = 0 ∧ e2.u.n = 0 ∧ e2.u.h = 0 ∧ e2.u.l = 0
  rotate_left
  · have d3 := decide_eq_false h3
    rw [decide_eq_false (by unfold noE; exact fun h => h3 h.1.2.2.1)]
    clear h1 h2 h3
    simp (disch := first | omega | simp only [*, go_sem, ↓reduceIte, dropK_eq]) only [x61b, go_sem, ↓reduceIte, dropK_eq, callX_known (C := C41) (g := 105) rfl, ft_call (C := C41) (g := 105) rfl, e105, ↓eq5, ↓eq4, ↓eq6, ↓eq8, bh, bm, d1, d2, d3]
    exact Ends_plain rfl rfl
  have d3 := decide_eq_true h3
  by_cases h4 : e2.w.t = 0 ∧ e2.w.w = 0 ∧ e2.w.s = 0 ∧ e2.w.n = 0 ∧ e2.w.zl = 0 ∧ e2.w.zh = 0 ∧ e2.w.ql = 0 ∧ e2.w.qh = 0
  rotate_left
  · have d4 := decide_eq_false h4
    rw [decide_eq_false (by unfold noE; exact fun h => h4 h.1.2.2.2.1)]
    clear h1 h2 h3 h4
    simp (disch := first | omega | simp only [*, go_sem, ↓reduceIte, dropK_eq]) only [x61b, go_sem, ↓reduceIte, dropK_eq, callX_known (C := C41) (g := 105) rfl, ft_call (C := C41) (g := 105) rfl, e105, ↓eq5, ↓eq4, ↓eq6, ↓eq8, bh, bm, d1, d2, d3, d4]
    exact Ends_plain rfl rfl
  have d4 := decide_eq_true h4
  by_cases h5 : e2.gs = 0
  rotate_left
  · have d5 : decide (¬ e2.gs = 0) = true := decide_eq_true h5
    rw [decide_eq_false (by unfold noE; exact fun h => h5 h.1.2.2.2.2.1)]
    clear h1 h2 h3 h4 h5
    simp (disch := first | omega | simp only [*, go_sem, ↓reduceIte, dropK_eq]) only [x61b, go_sem, ↓reduceIte, dropK_eq, callX_known (C := C41) (g := 105) rfl, ft_call (C := C41) (g := 105) rfl, e105, ↓eq5, ↓eq4, ↓eq6, ↓eq8, bh, bm, d1, d2, d3, d4, d5]
    exact Ends_plain rfl rfl
  have d5 : decide (¬ e2.gs = 0) = false := decide_eq_false (not_not_intro h5)
  by_cases h6 : e2.gl = 0
  rotate_left
  · have d6 : decide (¬ e2.gl = 0) = true := decide_eq_true h6
    rw [decide_eq_false (by unfold noE; exact fun h => h6 h.1.2.2.2.2.2.1)]
    clear h1 h2 h3 h4 h5 h6
    simp (disch := first | omega | simp only [*, go_sem, ↓reduceIte, dropK_eq]) only [x61b, go_sem, ↓reduceIte, dropK_eq, callX_known (C := C41) (g := 105) rfl, ft_call (C := C41) (g := 105) rfl, e105, ↓eq5, ↓eq4, ↓eq6, ↓eq8, bh, bm, d1, d2, d3, d4, d5, d6]
    exact Ends_plain rfl rfl
  have d6 : decide (¬ e2.gl = 0) = false := decide_eq_false (not_not_intro h6)
  by_cases h7 : e2.gh = 0
  rotate_left
  · have d7 : decide (¬ e2.gh = 0) = true := decide_eq_true h7
    rw [decide_eq_false (by unfold noE; exact fun h => h7 h.1.2.2.2.2.2.2)]
    clear h1 h2 h3 h4 h5 h6 h7
    simp (disch := first | omega | simp only [*, go_sem, ↓reduceIte, dropK_eq]) only [x61b, go_sem, ↓reduceIte, dropK_eq, callX_known (C := C41) (g := 105) rfl, ft_call (C := C41) (g := 105) rfl, e105, ↓eq5, ↓eq4, ↓eq6, ↓eq8, bh, bm, d1, d2, d3, d4, d5, d6, d7]
    exact Ends_plain rfl rfl
  have d7 : decide (¬ e2.gh = 0) = false := decide_eq_false (not_not_intro h7)
  have hno : noE e2 := ⟨h1, h2, h3, h4, h5, h6, h7⟩
  by_cases h8 : 0 < (hl'.length : Int)
  · have d8 := decide_eq_true h8
    rw [decide_eq_false (fun h => by have := h.2.1; omega)]
    clear h1 h2 h3 h4 h5 h6 h7 hno h8
    simp (disch := first | omega | simp only [*, go_sem, ↓reduceIte, dropK_eq]) only [x61b, go_sem, ↓reduceIte, dropK_eq, callX_known (C := C41) (g := 105) rfl, ft_call (C := C41) (g := 105) rfl, e105, ↓eq5, ↓eq4, ↓eq6, ↓eq8, bh, bm, d1, d2, d3, d4, d5, d6, d7, bl, d8]
    exact Ends_plain rfl rfl
  have d8 := decide_eq_false h8
  by_cases h9 : mksOk ml
  rotate_left
  · have e59 := F59_no hm hl2 h9
    rw [decide_eq_false (fun h => h9 h.2.2.1)]
    clear h1 h2 h3 h4 h5 h6 h7 hno h8 h9
    simp (disch := first | omega | simp only [*, go_sem, ↓reduceIte, dropK_eq]) only [x61b, go_sem, ↓reduceIte, dropK_eq, callX_known (C := C41) (g := 105) rfl, ft_call (C := C41) (g := 105) rfl, callX_known (C := C41) (g := 59) rfl, ft_call (C := C41) (g := 59) rfl, e105, e59, ↓eq5, ↓eq4, ↓eq6, ↓eq8, bh, bm, d1, d2, d3, d4, d5, d6, d7, bl, d8]
    exact Ends_plain rfl rfl
  have e59 := F59_ok hm hl2 h9
  have ht8 : i64s (tell8 (natL ml)) = [.int .i64 (ruleI (natL ml) 0), .int .i64 (ruleI (natL ml) 1), .int .i64 (ruleI (natL ml) 2), .int .i64 (ruleI (natL ml) 3), .int .i64 (ruleI (natL ml) 4), .int .i64 (ruleI (natL ml) 5), .int .i64 (ruleI (natL ml) 6), .int .i64 (ruleI (natL ml) 7)] := rfl
  rw [ht8] at e59
  by_cases h10 : e.c.t < 6
  · have d10 := decide_eq_true h10
    rw [decide_eq_true (⟨hno, by omega, h9, .inl h10⟩)]
    clear h1 h2 h3 h4 h5 h6 h7 hno h8 h9
    simp (disch := first | omega | simp only [*, go_sem, ↓reduceIte, dropK_eq]) only [x61b, go_sem, ↓reduceIte, dropK_eq, callX_known (C := C41) (g := 105) rfl, ft_call (C := C41) (g := 105) rfl, callX_known (C := C41) (g := 59) rfl, ft_call (C := C41) (g := 59) rfl, e105, e59, ↓eq5, ↓eq4, ↓eq6, ↓eq8, bh, bm, d1, d2, d3, d4, d5, d6, d7, bl, d8, d10]
    exact Ends_plain rfl rfl
  have d10 := decide_eq_false h10
  have d11 : decide ((ml.length : Int) = 0) = decide (noE e2 ∧ hl'.length = 0 ∧ mksOk ml ∧ (e.c.t < 6 ∨ ml.length = 0)) := decide_eq_decide.2 ⟨fun h => ⟨hno, by omega, h9, .inr (by omega)⟩, fun h => by have := h.2.2.2; omega⟩
  generalize decide (noE e2 ∧ hl'.length = 0 ∧ mksOk ml ∧ (e.c.t < 6 ∨ ml.length = 0)) = b at *
  clear h1 h2 h3 h4 h5 h6 h7 hno h8 h9 h10
  simp (disch := first | omega | simp only [*, go_sem, ↓reduceIte, dropK_eq]) only [x61b, go_sem, ↓reduceIte, dropK_eq, callX_known (C := C41) (g := 105) rfl, ft_call (C := C41) (g := 105) rfl, callX_known (C := C41) (g := 59) rfl, ft_call (C := C41) (g := 59) rfl, e105, e59, ↓eq5, ↓eq4, ↓eq6, ↓eq8, bh, bm, d1, d2, d3, d4, d5, d6, d7, bl, d8, d10, ml1, d11]
  exact Ends_plain rfl rfl
set_option maxRecDepth 10000
noncomputable def C42 : Cfg := C41.add 61 F61
theorem ok42 : CfgOk Tryz.prog C42 := ok41.add sound61
section
variable {d : Nat} {hp : Heap} {nc : Nat} {K : AVal × Heap × Nat → Prop} {e : En} {κ : Key}
def lrnE (e : En) (size : Int) : Prop := baOk e.b ∧ e.b.s = size ∧ e.b.m ≤ e.c.f3
instance (e : En) (size : Int) : Decidable (lrnE e size) := by unfold lrnE; infer_instance
theorem learned211 {size : Int} (hu : i64R e.b.u) (hk : hp κ = some (.var (EC e))) (hK : ∀ nc', K (.bool (decide (lrnE e size)), hp, nc')) : Bd (inlD C42 (d + 1) 211 [.ptr κ 0 0 0 0, .int .i64 size] hp nc) K := by
  refine inl_of (x := x211) rfl rfl ?_
  rw [x211_eq.1, x211_eq.2.1]
  have e53 := F53_eq hu
  by_cases h1 : baOk e.b
  · by_cases h2 : e.b.s = size
    · have d3 : decide (e.b.m ≤ e.c.f3) = decide (lrnE e size) := decide_eq_decide.2 ⟨fun h => ⟨h1, h2, h⟩, fun h => h.2.2⟩
      rw [decide_eq_true h1] at e53
      have d2 := decide_eq_true h2
      clear h1 h2
      simp (disch := first | omega | simp only [*, go_sem, ↓reduceIte, dropK_eq]) only [x211b, go_sem, ↓reduceIte, dropK_eq, hk, callX_known (C := C42) (g := 53) rfl, ft_call (C := C42) (g := 53) rfl, e53, d2, d3]
      exact hK _
    · rw [decide_eq_true h1] at e53
      rw [decide_eq_false (show ¬ lrnE e size from fun h => h2 h.2.1)] at hK
      have d2 := decide_eq_false h2
      clear h1 h2
      simp (disch := first | omega | simp only [*, go_sem, ↓reduceIte, dropK_eq]) only [x211b, go_sem, ↓reduceIte, dropK_eq, hk, callX_known (C := C42) (g := 53) rfl, ft_call (C := C42) (g := 53) rfl, e53, d2]
      exact hK _
  · rw [decide_eq_false h1] at e53
    rw [decide_eq_false (show ¬ lrnE e size from fun h => h1 h.1)] at hK
    clear h1
    simp (disch := first | omega | simp only [*, go_sem, ↓reduceIte, dropK_eq]) only [x211b, go_sem, ↓reduceIte, dropK_eq, hk, callX_known (C := C42) (g := 53) rfl, ft_call (C := C42) (g := 53) rfl, e53]
    exact hK _
theorem right285 {fr : En} {c0 : Nat} (hu : i64R e.b.u) (hf1 : isSc fr.hv = true) (hf2 : isSc fr.mv = true) (hk : hp (27000000, c0) = some (.var (EC e))) (hK : ∀ hp' nc', K (.bool (decide (lrnE e 1)), hp', nc')) : Bd (inlD C42 (d + 2) 285 [.agg [.ptr (27000000, c0) 0 0 0 0], EK fr] hp nc) K := by
  refine inl_of (x := x285) rfl rfl ?_
  rw [x285_eq.1, x285_eq.2.1]
  simp (disch := first | omega | simp only [*, go_sem, ↓reduceIte, dropK_eq]) only [x285b, go_sem, ↓reduceIte, dropK_eq, hf1, hf2, call_inl (C := C42) (g := 211) rfl, ft_inl (C := C42) (g := 211) rfl]
  refine learned211 (e := e) hu (by simp only [go_sem, ↓reduceIte, dropK_eq, hk]) fun nc' => ?_
  simp (disch := first | omega | simp only [*, go_sem, ↓reduceIte, dropK_eq]) only [go_sem, ↓reduceIte, dropK_eq]
  exact hK _ _
def cntE (e fr : En) : Prop := tlOk e.t ∧ e.t.k = fr.t.k ∧ e.t.s = fr.t.s ∧ e.t.m ≤ e.c.f3
instance (e fr : En) : Decidable (cntE e fr) := by unfold cntE; infer_instance
theorem right287 {fr : En} {c0 : Nat} (hf1 : isSc fr.hv = true) (hf2 : isSc fr.mv = true) (hk : hp (27000000, c0) = some (.var (EC e))) (hK : ∀ hp' nc', K (.bool (decide (cntE e fr)), hp', nc')) : Bd (inlD C42 (d + 2) 287 [.agg [.ptr (27000000, c0) 0 0 0 0], EK fr] hp nc) K := by
  refine inl_of (x := x287) rfl rfl ?_
  rw [x287_eq.1, x287_eq.2.1]
  have e71 := F71_eq (t := e.t)
  simp only [TK] at e71
  by_cases h1 : tlOk e.t
  rotate_left
  · rw [decide_eq_false h1] at e71
    rw [decide_eq_false (show ¬ cntE e fr from fun h => h1 h.1)] at hK
    clear h1
    simp (disch := first | omega | simp only [*, go_sem, ↓reduceIte, dropK_eq]) only [x287b, go_sem, ↓reduceIte, dropK_eq, hf1, hf2, hk, callX_known (C := C42) (g := 71) rfl, ft_call (C := C42) (g := 71) rfl, e71]
    exact hK _ _
  rw [decide_eq_true h1] at e71
  by_cases h2 : e.t.k = fr.t.k
  rotate_left
  · have d2 := decide_eq_false h2
    rw [decide_eq_false (show ¬ cntE e fr from fun h => h2 h.2.1)] at hK
    clear h1 h2
    simp (disch := first | omega | simp only [*, go_sem, ↓reduceIte, dropK_eq]) only [x287b, go_sem, ↓reduceIte, dropK_eq, hf1, hf2, hk, callX_known (C := C42) (g := 71) rfl, ft_call (C := C42) (g := 71) rfl, e71, d2]
    exact hK _ _
  have d2 := decide_eq_true h2
  by_cases h3 : e.t.s = fr.t.s
  rotate_left
  · have d3 := decide_eq_false h3
    rw [decide_eq_false (show ¬ cntE e fr from fun h => h3 h.2.2.1)] at hK
    clear h1 h2 h3
    simp (disch := first | omega | simp only [*, go_sem, ↓reduceIte, dropK_eq]) only [x287b, go_sem, ↓reduceIte, dropK_eq, hf1, hf2, hk, callX_known (C := C42) (g := 71) rfl, ft_call (C := C42) (g := 71) rfl, e71, d2, d3]
    exact hK _ _
  have d3 := decide_eq_true h3
  have d4 : decide (e.t.m ≤ e.c.f3) = decide (cntE e fr) := decide_eq_decide.2 ⟨fun h => ⟨h1, h2, h3, h⟩, fun h => h.2.2.2⟩
  clear h1 h2 h3
  simp (disch := first | omega | simp only [*, go_sem, ↓reduceIte, dropK_eq]) only [x287b, go_sem, ↓reduceIte, dropK_eq, hf1, hf2, hk, callX_known (C := C42) (g := 71) rfl, ft_call (C := C42) (g := 71) rfl, e71, d2, d3, d4]
  exact hK _ _
end
set_option maxRecDepth 10000
noncomputable def F27 : List AVal → Option AVal := pureF C42 4 27
theorem sound27 : Sound Tryz.prog 27 F27 := sound_self ok42 4 27
def outE (e : En) (hl ml : List Int) : Prop := (0 ≤ e.n ∧ e.n ≤ e.c.f4) ∧ (-1000000 ≤ e.l ∧ e.l ≤ 1000000) ∧ restE e hl ml
instance (e : En) (hl ml : List Int) : Decidable (outE e hl ml) := by unfold outE; infer_instance
section
variable {e fr : En} {ml hl : List Int}
theorem F27_single (hh : Rw e.hv hl) (hm : Rw e.mv ml) (hl1 : Lg hl) (hl2 : Lg ml) (e9 : F9 [.agg (ChC e.c)] = some (.tup [EK fr, .int .i64 0])) (hf1 : isSc fr.hv = true) (hf2 : isSc fr.mv = true) (h : outE e hl ml) (ht : e.c.t = 1) (hu : i64R e.b.u) :
    F27 [EK e] = some (.bool (decide (lrnE e 1))) := by
  have am := hm.sc
  have as2 := hh.sc
  have ap := hm.plain
  have ap2 := hh.plain
  have e60 := F60_eq (x := e.n) (l := 0) (h := e.c.f4)
  have e60' := F60_eq (x := e.l) (l := -1000000) (h := 1000000)
  have e61 := F61_eq hh hm hl1 hl2
  rw [decide_eq_true h.1] at e60
  rw [decide_eq_true h.2.1] at e60'
  rw [decide_eq_true h.2.2] at e61
  clear h
  have hfc : faceT e.c.t = 96 := by rw [ht]; rfl
  unfold F27
  refine pureF_of (x := x27) rfl rfl ?_
  rw [x27_eq.1, x27_eq.2.1]
  simp (disch := first | omega | simp only [*, go_sem, ↓reduceIte, dropK_eq]) only [x27b, go_sem, ↓reduceIte, dropK_eq, callX_known (C := C42) (g := 9) rfl, ft_call (C := C42) (g := 9) rfl, callX_known (C := C42) (g := 60) rfl, ft_call (C := C42) (g := 60) rfl, callX_known (C := C42) (g := 61) rfl, ft_call (C := C42) (g := 61) rfl, e9, e60, e60', e61, hf1, hf2, call_inl (C := C42) (g := 30) rfl, ft_inl (C := C42) (g := 30) rfl]
  refine face30 rfl (e := e) (by simp only [go_sem, ↓reduceIte, dropK_eq]) fun nc' => ?_
  rw [hfc]
  simp (disch := first | omega | simp only [*, go_sem, ↓reduceIte, dropK_eq]) only [go_sem, ↓reduceIte, dropK_eq, invX_ifc (C := C42) (t := 96) (m := "datum/channel.right") (g := 285) rfl, call_inl (C := C42) (g := 30) rfl, ft_inl (C := C42) (g := 30) rfl, call_inl (C := C42) (g := 285) rfl, ft_inl (C := C42) (g := 285) rfl]
  refine right285 (e := e) hu hf1 hf2 (by simp only [go_sem, ↓reduceIte, dropK_eq]) fun hp' nc' => ?_
  simp (disch := first | omega | simp only [*, go_sem, ↓reduceIte, dropK_eq]) only [go_sem, ↓reduceIte, dropK_eq, call_inl (C := C42) (g := 30) rfl, ft_inl (C := C42) (g := 30) rfl]
  exact Ends_plain rfl rfl
theorem F27_count (hh : Rw e.hv hl) (hm : Rw e.mv ml) (hl1 : Lg hl) (hl2 : Lg ml) (e9 : F9 [.agg (ChC e.c)] = some (.tup [EK fr, .int .i64 0])) (hf1 : isSc fr.hv = true) (hf2 : isSc fr.mv = true) (h : outE e hl ml) (ht : 2 ≤ e.c.t ∧ e.c.t ≤ 5) :
    F27 [EK e] = some (.bool (decide (cntE e fr))) := by
  have am := hm.sc
  have as2 := hh.sc
  have ap := hm.plain
  have ap2 := hh.plain
  have e60 := F60_eq (x := e.n) (l := 0) (h := e.c.f4)
  have e60' := F60_eq (x := e.l) (l := -1000000) (h := 1000000)
  have e61 := F61_eq hh hm hl1 hl2
  rw [decide_eq_true h.1] at e60
  rw [decide_eq_true h.2.1] at e60'
  rw [decide_eq_true h.2.2] at e61
  clear h
  have hfc : faceT e.c.t = 97 := by unfold faceT; rw [if_neg (by omega), if_neg (by omega), if_neg (by omega), if_neg (by omega)]
  unfold F27
  refine pureF_of (x := x27) rfl rfl ?_
  rw [x27_eq.1, x27_eq.2.1]
  simp (disch := first | omega | simp only [*, go_sem, ↓reduceIte, dropK_eq]) only [x27b, go_sem, ↓reduceIte, dropK_eq, callX_known (C := C42) (g := 9) rfl, ft_call (C := C42) (g := 9) rfl, callX_known (C := C42) (g := 60) rfl, ft_call (C := C42) (g := 60) rfl, callX_known (C := C42) (g := 61) rfl, ft_call (C := C42) (g := 61) rfl, e9, e60, e60', e61, hf1, hf2, call_inl (C := C42) (g := 30) rfl, ft_inl (C := C42) (g := 30) rfl]
  refine face30 rfl (e := e) (by simp only [go_sem, ↓reduceIte, dropK_eq]) fun nc' => ?_
  rw [hfc]
  simp (disch := first | omega | simp only [*, go_sem, ↓reduceIte, dropK_eq]) only [go_sem, ↓reduceIte, dropK_eq, invX_ifc (C := C42) (t := 97) (m := "datum/channel.right") (g := 287) rfl, call_inl (C := C42) (g := 30) rfl, ft_inl (C := C42) (g := 30) rfl, call_inl (C := C42) (g := 287) rfl, ft_inl (C := C42) (g := 287) rfl]
  refine right287 (e := e) hf1 hf2 (by simp only [go_sem, ↓reduceIte, dropK_eq]) fun hp' nc' => ?_
  simp (disch := first | omega | simp only [*, go_sem, ↓reduceIte, dropK_eq]) only [go_sem, ↓reduceIte, dropK_eq, call_inl (C := C42) (g := 30) rfl, ft_inl (C := C42) (g := 30) rfl]
  exact Ends_plain rfl rfl
end
end Go.Proofs.YtldineoabbodpaaGreatDoor
