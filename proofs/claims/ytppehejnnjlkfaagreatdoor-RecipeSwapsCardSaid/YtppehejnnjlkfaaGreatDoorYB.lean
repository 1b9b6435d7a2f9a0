/-
  What a channel's fields may be.
-/
import Derived.Test.YtppehejnnjlkfaaGreatDoorYA
set_option linter.unusedVariables false
set_option linter.unusedSimpArgs false
namespace Go.Proofs.YtppehejnnjlkfaaGreatDoor
open Go Go.Xec
attribute [local go_sem] tm0 ne_eq not_false_eq_true List.length_append List.length_replicate List.replicate_succ List.replicate_zero Int.cast_ofNat_Int not_true_eq_false decide_true decide_false ite_self beq_self_eq_true Bool.true_beq Bool.false_beq Bool.not_true Bool.not_false
attribute [local go_sem_proc] Nat.reduceAdd Nat.reduceMul Nat.reduceSub Nat.reduceLeDiff Nat.reduceLT Nat.reduceEqDiff Int.reduceLT Int.reduceLE Int.reduceAdd Int.reduceSub Int.reduceMul Int.reduceToNat Int.reducePow Int.reduceNe Int.reduceMod Int.reduceDiv Int.reduceEq Nat.reducePow Int.reduceNeg
/-! ### B -/

set_option maxRecDepth 10000
/-- A field: its word, its ends, the charts that need it. -/
structure Fd where
  w : List UInt8
  lo : Int
  hi : Int
  nd : Int
abbrev FK (b : Fd) : AVal := .agg [sv b.w, .int .i64 b.lo, .int .i64 b.hi, .int .i64 b.nd]
noncomputable def F59 : List AVal → Option AVal := pureF C0 1 59
theorem sound59 : Sound Tryz.prog 59 F59 := sound_self ok0 1 59
theorem F59_eq {c : Int} : F59 [.int .i64 c] = some (.bool (decide (c = 0 ∨ c = 1))) := by
  unfold F59
  refine pureF_of (x := x59) rfl rfl ?_
  rw [x59_eq.1, x59_eq.2.1]
  by_cases h0 : c = 0
  · have d1 := decide_eq_true h0
    simp (disch := first | omega | simp only [go_sem, ↓reduceIte, dropK_eq]) only [x59b, go_sem, ↓reduceIte, dropK_eq, d1]
    exact Ends_plain rfl (by rw [decide_eq_true (Or.inl h0)])
  · have d1 := decide_eq_false h0
    simp (disch := first | omega | simp only [go_sem, ↓reduceIte, dropK_eq]) only [x59b, go_sem, ↓reduceIte, dropK_eq, d1]
    exact Ends_plain rfl (by congr 1; rw [decide_eq_decide]; omega)
theorem binA_shr_i64 {a b : Int} (h0 : 0 ≤ b) (h1 : b < 64) : binA .shr (.int .i64 a) (.int .i64 b) = some (.int .i64 (a / 2 ^ b.toNat)) := by
  simp only [binA, isShift, if_true, shiftBin, if_neg (Int.not_lt.2 h0)]
  have e : min b.toNat IntKind.i64.bits = b.toNat := by
    have : IntKind.i64.bits = 64 := rfl
    omega
  rw [e, Int.fdiv_eq_ediv_of_nonneg _ (Int.le_of_lt (Int.pow_pos (by decide)))]
theorem binA_and1_i64 {a : Int} (h0 : 0 ≤ a) (h1 : a < 9223372036854775808) : binA .and (.int .i64 a) (.int .i64 1) = some (.int .i64 (a % 2)) := by
  simp only [binA, isShift, Bool.false_eq_true, if_false, if_true, intBin]
  have e : ((BitVec.ofInt 64 a &&& BitVec.ofInt 64 1).toNat : Int) = a % 2 := by
    have e1 : BitVec.ofInt 64 (1 : Int) = BitVec.ofNat 64 (2 ^ 1 - 1) := rfl
    rw [e1, BitVec.toNat_and, BitVec.toNat_ofNat, Nat.mod_eq_of_lt (by decide), Nat.and_two_pow_sub_one_eq_mod, BitVec.toNat_ofInt]
    omega
  show some (AVal.int IntKind.i64 (IntKind.i64.wrap ((BitVec.ofInt 64 a &&& BitVec.ofInt 64 1).toNat : Int))) = _
  rw [e, wrap_i64 (by omega) (by omega)]
/-- Does a chart need a field? -/
def needB (b : Fd) (c : Int) : Bool := decide (b.nd / 2 ^ c.toNat % 2 = 1)
noncomputable def F26 : List AVal → Option AVal := pureF C0 1 26
theorem sound26 : Sound Tryz.prog 26 F26 := sound_self ok0 1 26
theorem F26_eq {b : Fd} {c : Int} (hc : 0 ≤ c ∧ c ≤ 7) (hb : 0 ≤ b.nd ∧ b.nd ≤ 255) : F26 [FK b, .int .i64 c] = some (.bool (needB b c)) := by
  have h1 := binA_shr_i64 (a := b.nd) hc.1 (by omega)
  have h2 : 0 ≤ b.nd / 2 ^ c.toNat ∧ b.nd / 2 ^ c.toNat ≤ 255 := by
    have h3 : (0 : Int) < 2 ^ c.toNat := Int.pow_pos (by omega)
    refine ⟨Int.ediv_nonneg hb.1 (by omega), Int.le_trans (Int.ediv_le_self _ hb.1) hb.2⟩
  have h4 := binA_and1_i64 (a := b.nd / 2 ^ c.toNat) h2.1 (by omega)
  unfold F26 needB
  refine pureF_of (x := x26) rfl rfl ?_
  rw [x26_eq.1, x26_eq.2.1]
  generalize b.nd / 2 ^ c.toNat = q at *
  simp (disch := first | omega | simp only [go_sem, ↓reduceIte, dropK_eq]) only [x26b, go_sem, ↓reduceIte, dropK_eq, h1, h4]
  exact Ends_plain rfl rfl
noncomputable def F60 : List AVal → Option AVal := pureF C0 1 60
theorem sound60 : Sound Tryz.prog 60 F60 := sound_self ok0 1 60
/-- Is a number within a field's ends? -/
def inF (b : Fd) (c n : Int) : Bool := if b.w = [115, 105, 122, 101] ∧ c = 0 then decide (2 ≤ n ∧ n ≤ 10) else decide (b.lo ≤ n ∧ n ≤ b.hi)
theorem F60_eq {b : Fd} {c n : Int} : F60 [FK b, .int .i64 c, .int .i64 n] = some (.bool (inF b c n)) := by
  unfold F60 inF
  refine pureF_of (x := x60) rfl rfl ?_
  rw [x60_eq.1, x60_eq.2.1]
  by_cases hw : b.w = [115, 105, 122, 101]
  · have d1 := decide_eq_true hw
    by_cases h0 : c = 0
    · have d2 := decide_eq_true h0
      rw [if_pos ⟨hw, h0⟩]
      by_cases h1 : 2 ≤ n
      · have d3 := decide_eq_true h1
        simp (disch := first | omega | simp only [go_sem, ↓reduceIte, dropK_eq]) only [x60b, go_sem, ↓reduceIte, dropK_eq, d1, d2, d3]
        exact Ends_plain rfl (by congr 1; rw [decide_eq_decide]; omega)
      · have d3 := decide_eq_false h1
        simp (disch := first | omega | simp only [go_sem, ↓reduceIte, dropK_eq]) only [x60b, go_sem, ↓reduceIte, dropK_eq, d1, d2, d3]
        exact Ends_plain rfl (by rw [decide_eq_false (fun e => h1 e.1)])
    · have d2 := decide_eq_false h0
      rw [if_neg (fun e => h0 e.2)]
      by_cases h1 : b.lo ≤ n
      · have d3 := decide_eq_true h1
        simp (disch := first | omega | simp only [go_sem, ↓reduceIte, dropK_eq]) only [x60b, go_sem, ↓reduceIte, dropK_eq, d1, d2, d3]
        exact Ends_plain rfl (by congr 1; rw [decide_eq_decide]; omega)
      · have d3 := decide_eq_false h1
        simp (disch := first | omega | simp only [go_sem, ↓reduceIte, dropK_eq]) only [x60b, go_sem, ↓reduceIte, dropK_eq, d1, d2, d3]
        exact Ends_plain rfl (by rw [decide_eq_false (fun e => h1 e.1)])
  · have d1 := decide_eq_false hw
    rw [if_neg (fun e => hw e.1)]
    by_cases h1 : b.lo ≤ n
    · have d3 := decide_eq_true h1
      simp (disch := first | omega | simp only [go_sem, ↓reduceIte, dropK_eq]) only [x60b, go_sem, ↓reduceIte, dropK_eq, d1, d3]
      exact Ends_plain rfl (by congr 1; rw [decide_eq_decide]; omega)
    · have d3 := decide_eq_false h1
      simp (disch := first | omega | simp only [go_sem, ↓reduceIte, dropK_eq]) only [x60b, go_sem, ↓reduceIte, dropK_eq, d1, d3]
      exact Ends_plain rfl (by rw [decide_eq_false (fun e => h1 e.1)])
/-- The twelve fields. -/
def fdL : List Fd := [⟨[115, 105, 122, 101], 1, 1000, 45⟩, ⟨[108, 111, 119], -1000000, 1000000, 195⟩, ⟨[104, 105, 103, 104], -1000000, 1000000, 195⟩, ⟨[98, 97, 115, 101], 2, 25, 63⟩, ⟨[99, 97, 112], 1, 1000000000, 255⟩,
  ⟨[116, 97, 114, 103, 101, 116], -1000000, 1000000, 192⟩, ⟨[115, 116, 101, 112], 0, 1000000, 64⟩, ⟨[98, 111, 117, 110, 100], 1, 1000000000, 64⟩, ⟨[119, 101, 105, 103, 104, 116], 1, 99, 128⟩, ⟨[115, 105, 103, 109, 97], 1, 1000000, 128⟩,
  ⟨[108, 111, 119, 101, 114], -1000000, 1000000, 0⟩, ⟨[117, 112, 112, 101, 114], -1000000, 1000000, 0⟩]
noncomputable def F25 : List AVal → Option AVal := pureF C0 1 25
theorem sound25 : Sound Tryz.prog 25 F25 := sound_self ok0 1 25
theorem F25_eq : F25 [] = some (.slc 4 (fdL.map FK)) := by
  unfold F25
  refine pureF_of (x := x25) rfl rfl ?_
  rw [x25_eq.1, x25_eq.2.1]
  simp (disch := first | omega | simp only [go_sem, ↓reduceIte, dropK_eq]) only [x25b, go_sem, ↓reduceIte, dropK_eq]
  refine Ends_row (by simp only [go_sem, ↓reduceIte, dropK_eq]; rfl) rfl rfl rfl
/-! ### C -/

set_option maxRecDepth 10000
abbrev RS (a : AVal) (l : List (List UInt8)) : Prop := Rg 1 sv a l
def chW : List (List UInt8) := [[120, 98, 97, 114], [115, 105, 110, 103, 108, 101], [112], [110, 112], [99], [117], [99, 117, 115, 117, 109], [101, 119, 109, 97]]
noncomputable def F31 : List AVal → Option AVal := pureF C0 1 31
theorem sound31 : Sound Tryz.prog 31 F31 := sound_self ok0 1 31
theorem F31_eq : F31 [] = some (.slc 1 (chW.map sv)) := by
  unfold F31
  refine pureF_of (x := x31) rfl rfl ?_
  rw [x31_eq.1, x31_eq.2.1]
  simp (disch := first | omega | simp only [go_sem, ↓reduceIte, dropK_eq]) only [x31b, go_sem, ↓reduceIte, dropK_eq]
  refine Ends_row (by simp only [go_sem, ↓reduceIte, dropK_eq]; rfl) rfl rfl rfl
noncomputable def F23 : List AVal → Option AVal := pureF C0 1 23
theorem sound23 : Sound Tryz.prog 23 F23 := sound_self ok0 1 23
theorem F23_eq : F23 [] = some (.agg (chW.map sv)) := by
  unfold F23
  refine pureF_of (x := x23) rfl rfl ?_
  rw [x23_eq.1, x23_eq.2.1]
  simp (disch := first | omega | simp only [go_sem, ↓reduceIte, dropK_eq]) only [x23b, go_sem, ↓reduceIte, dropK_eq]
  exact Ends_plain rfl rfl
noncomputable def F32 : List AVal → Option AVal := pureF C0 1 32
theorem sound32 : Sound Tryz.prog 32 F32 := sound_self ok0 1 32
theorem F32_eq : F32 [] = some (.slc 1 ((fdL.map (·.w)).map sv)) := by
  unfold F32
  refine pureF_of (x := x32) rfl rfl ?_
  rw [x32_eq.1, x32_eq.2.1]
  simp (disch := first | omega | simp only [go_sem, ↓reduceIte, dropK_eq]) only [x32b, go_sem, ↓reduceIte, dropK_eq]
  refine Ends_row (by simp only [go_sem, ↓reduceIte, dropK_eq]; rfl) rfl rfl rfl
/-- A text's place among others. -/
def findW (l : List (List UInt8)) (s : List UInt8) : Int := match l.findIdx? (· == s) with
  | some i => i
  | none => -1
theorem findW_step {l : List (List UInt8)} {s : List UInt8} {i : Nat} (h : i < l.length) (hb : ∀ j (hj : j < i), l[j]'(by omega) ≠ s) : (l[i] = s → findW l s = i) ∧ (i + 1 = l.length → l[i] ≠ s → findW l s = -1) := by
  constructor
  · intro e
    have : l.findIdx? (· == s) = some i := by
      rw [List.findIdx?_eq_some_iff_getElem]
      exact ⟨h, by simp [e], fun j hj => by simpa using hb j hj⟩
    unfold findW
    rw [this]
  · intro hl hn
    have : l.findIdx? (· == s) = none := by
      rw [List.findIdx?_eq_none_iff]
      intro x hx
      obtain ⟨j, hj, rfl⟩ := List.mem_iff_getElem.1 hx
      by_cases e : j = i
      · subst e; simpa using hn
      · simpa using hb j (by omega)
    unfold findW
    rw [this]
theorem findW_none {l : List (List UInt8)} {s : List UInt8} (hb : ∀ j (hj : j < l.length), l[j] ≠ s) : findW l s = -1 := by
  have : l.findIdx? (· == s) = none := by
    rw [List.findIdx?_eq_none_iff]
    intro x hx
    obtain ⟨j, hj, rfl⟩ := List.mem_iff_getElem.1 hx
    simpa using hb j hj
  unfold findW
  rw [this]
noncomputable def F54 : List AVal → Option AVal := pureF C0 1 54
theorem sound54 : Sound Tryz.prog 54 F54 := sound_self ok0 1 54
theorem F54_eq {a : AVal} {l : List (List UInt8)} {s : List UInt8} (ha : RS a l) (hl : l.length ≤ 100000) : F54 [a, sv s] = some (.int .i64 (findW l s)) := by
  unfold F54
  refine pureF_of (x := x54) rfl rfl ?_
  rw [x54_eq.1, x54_eq.2.1]
  simp (disch := first | omega | simp only [go_sem, ↓reduceIte, dropK_eq]) only [x54b, go_sem, ↓reduceIte, dropK_eq, ha.len]
  refine Ev_range (ti := 9) (len := l.length) (J := fun i tm hp nc => ∀ j (hj : j < l.length), j < i → l[j] ≠ s) (by omega) (by simp only [go_sem, ↓reduceIte, dropK_eq]) (by intro j _ hj; omega) ?_
  rintro i tm hp nc hi hc k9 hj
  have k1 := hc 1 rfl; have k7 := hc 7 rfl; have k8 := hc 8 rfl; simp only [go_sem, ↓reduceIte, dropK_eq] at k1 k7 k8
  rcases Nat.lt_or_ge i l.length with hlt | hge
  · have d1 : decide ((i : Int) < (l.length : Int)) = true := decide_eq_true (by omega)
    have ia := ha.ia hlt
    have hst := findW_step (s := s) hlt (fun j hj' => hj j (by omega) hj')
    by_cases e : l[i] = s
    · have d2 : decide (l[i] = s) = true := decide_eq_true e
      rw [hst.1 e]
      simp (disch := first | omega | simp only [go_sem, ↓reduceIte, dropK_eq]) only [x54l2, go_sem, ↓reduceIte, dropK_eq, k1, k7, k8, k9, d1, ia, d2]
      exact Ends_plain rfl rfl
    · have d2 : decide (l[i] = s) = false := decide_eq_false e
      simp (disch := first | omega | simp only [go_sem, ↓reduceIte, dropK_eq]) only [x54l2, go_sem, ↓reduceIte, dropK_eq, k1, k7, k8, k9, d1, ia, d2]
      refine ⟨hlt, by simp, fun j hj1 hj2 => ?_⟩
      by_cases e2 : j = i
      · subst e2; exact e
      · exact hj j hj1 (by omega)
  · obtain rfl : i = l.length := by omega
    have d1 : decide ((l.length : Int) < (l.length : Int)) = false := decide_eq_false (by omega)
    rw [findW_none fun j hj1 => hj j hj1 hj1]
    simp (disch := first | omega | simp only [go_sem, ↓reduceIte, dropK_eq]) only [x54l2, go_sem, ↓reduceIte, dropK_eq, k1, k7, k8, k9, d1]
    exact Ends_plain rfl rfl
/-! ### D -/

set_option maxRecDepth 10000
noncomputable def F62 : List AVal → Option AVal := pureF C0 1 62
theorem sound62 : Sound Tryz.prog 62 F62 := sound_self ok0 1 62
theorem F62_0 {c v : Int} : F62 [.int .i64 c, .int .i64 0, .int .i64 v] = some (.bool (if c = 0 then decide (2 ≤ v ∧ v ≤ 10) else decide (1 ≤ v ∧ v ≤ 1000))) := by
  unfold F62
  refine pureF_of (x := x62) rfl rfl ?_
  rw [x62_eq.1, x62_eq.2.1]
  by_cases h0 : c = 0
  · have d2 := decide_eq_true h0
    rw [if_pos h0]
    by_cases h1 : 2 ≤ v
    · have d3 := decide_eq_true h1
      simp (disch := first | omega | simp only [go_sem, ↓reduceIte, dropK_eq]) only [x62b, go_sem, ↓reduceIte, dropK_eq, d2, d3]
      exact Ends_plain rfl (by congr 1; rw [decide_eq_decide]; omega)
    · have d3 := decide_eq_false h1
      simp (disch := first | omega | simp only [go_sem, ↓reduceIte, dropK_eq]) only [x62b, go_sem, ↓reduceIte, dropK_eq, d2, d3]
      exact Ends_plain rfl (by rw [decide_eq_false (fun e => h1 e.1)])
  · have d2 := decide_eq_false h0
    rw [if_neg h0]
    by_cases h1 : 1 ≤ v
    · have d3 := decide_eq_true h1
      simp (disch := first | omega | simp only [go_sem, ↓reduceIte, dropK_eq]) only [x62b, go_sem, ↓reduceIte, dropK_eq, d2, d3]
      exact Ends_plain rfl (by congr 1; rw [decide_eq_decide]; omega)
    · have d3 := decide_eq_false h1
      simp (disch := first | omega | simp only [go_sem, ↓reduceIte, dropK_eq]) only [x62b, go_sem, ↓reduceIte, dropK_eq, d2, d3]
      exact Ends_plain rfl (by rw [decide_eq_false (fun e => h1 e.1)])
theorem F62_1 {c v : Int} : F62 [.int .i64 c, .int .i64 1, .int .i64 v] = some (.bool (decide ((-1000000) ≤ v ∧ v ≤ 1000000))) := by
  unfold F62
  refine pureF_of (x := x62) rfl rfl ?_
  rw [x62_eq.1, x62_eq.2.1]
  by_cases h1 : (-1000000) ≤ v
  · have d3 := decide_eq_true h1
    simp (disch := first | omega | simp only [go_sem, ↓reduceIte, dropK_eq]) only [x62b, go_sem, ↓reduceIte, dropK_eq, d3]
    exact Ends_plain rfl (by congr 1; rw [decide_eq_decide]; omega)
  · have d3 := decide_eq_false h1
    simp (disch := first | omega | simp only [go_sem, ↓reduceIte, dropK_eq]) only [x62b, go_sem, ↓reduceIte, dropK_eq, d3]
    exact Ends_plain rfl (by rw [decide_eq_false (fun e => h1 e.1)])
theorem F62_2 {c v : Int} : F62 [.int .i64 c, .int .i64 2, .int .i64 v] = some (.bool (decide ((-1000000) ≤ v ∧ v ≤ 1000000))) := by
  unfold F62
  refine pureF_of (x := x62) rfl rfl ?_
  rw [x62_eq.1, x62_eq.2.1]
  by_cases h1 : (-1000000) ≤ v
  · have d3 := decide_eq_true h1
    simp (disch := first | omega | simp only [go_sem, ↓reduceIte, dropK_eq]) only [x62b, go_sem, ↓reduceIte, dropK_eq, d3]
    exact Ends_plain rfl (by congr 1; rw [decide_eq_decide]; omega)
  · have d3 := decide_eq_false h1
    simp (disch := first | omega | simp only [go_sem, ↓reduceIte, dropK_eq]) only [x62b, go_sem, ↓reduceIte, dropK_eq, d3]
    exact Ends_plain rfl (by rw [decide_eq_false (fun e => h1 e.1)])
theorem F62_3 {c v : Int} : F62 [.int .i64 c, .int .i64 3, .int .i64 v] = some (.bool (decide (2 ≤ v ∧ v ≤ 25))) := by
  unfold F62
  refine pureF_of (x := x62) rfl rfl ?_
  rw [x62_eq.1, x62_eq.2.1]
  by_cases h1 : 2 ≤ v
  · have d3 := decide_eq_true h1
    simp (disch := first | omega | simp only [go_sem, ↓reduceIte, dropK_eq]) only [x62b, go_sem, ↓reduceIte, dropK_eq, d3]
    exact Ends_plain rfl (by congr 1; rw [decide_eq_decide]; omega)
  · have d3 := decide_eq_false h1
    simp (disch := first | omega | simp only [go_sem, ↓reduceIte, dropK_eq]) only [x62b, go_sem, ↓reduceIte, dropK_eq, d3]
    exact Ends_plain rfl (by rw [decide_eq_false (fun e => h1 e.1)])
theorem F62_4 {c v : Int} : F62 [.int .i64 c, .int .i64 4, .int .i64 v] = some (.bool (decide (1 ≤ v ∧ v ≤ 1000000000))) := by
  unfold F62
  refine pureF_of (x := x62) rfl rfl ?_
  rw [x62_eq.1, x62_eq.2.1]
  by_cases h1 : 1 ≤ v
  · have d3 := decide_eq_true h1
    simp (disch := first | omega | simp only [go_sem, ↓reduceIte, dropK_eq]) only [x62b, go_sem, ↓reduceIte, dropK_eq, d3]
    exact Ends_plain rfl (by congr 1; rw [decide_eq_decide]; omega)
  · have d3 := decide_eq_false h1
    simp (disch := first | omega | simp only [go_sem, ↓reduceIte, dropK_eq]) only [x62b, go_sem, ↓reduceIte, dropK_eq, d3]
    exact Ends_plain rfl (by rw [decide_eq_false (fun e => h1 e.1)])
theorem F62_5 {c v : Int} : F62 [.int .i64 c, .int .i64 5, .int .i64 v] = some (.bool (decide ((-1000000) ≤ v ∧ v ≤ 1000000))) := by
  unfold F62
  refine pureF_of (x := x62) rfl rfl ?_
  rw [x62_eq.1, x62_eq.2.1]
  by_cases h1 : (-1000000) ≤ v
  · have d3 := decide_eq_true h1
    simp (disch := first | omega | simp only [go_sem, ↓reduceIte, dropK_eq]) only [x62b, go_sem, ↓reduceIte, dropK_eq, d3]
    exact Ends_plain rfl (by congr 1; rw [decide_eq_decide]; omega)
  · have d3 := decide_eq_false h1
    simp (disch := first | omega | simp only [go_sem, ↓reduceIte, dropK_eq]) only [x62b, go_sem, ↓reduceIte, dropK_eq, d3]
    exact Ends_plain rfl (by rw [decide_eq_false (fun e => h1 e.1)])
theorem F62_6 {c v : Int} : F62 [.int .i64 c, .int .i64 6, .int .i64 v] = some (.bool (decide (0 ≤ v ∧ v ≤ 1000000))) := by
  unfold F62
  refine pureF_of (x := x62) rfl rfl ?_
  rw [x62_eq.1, x62_eq.2.1]
  by_cases h1 : 0 ≤ v
  · have d3 := decide_eq_true h1
    simp (disch := first | omega | simp only [go_sem, ↓reduceIte, dropK_eq]) only [x62b, go_sem, ↓reduceIte, dropK_eq, d3]
    exact Ends_plain rfl (by congr 1; rw [decide_eq_decide]; omega)
  · have d3 := decide_eq_false h1
    simp (disch := first | omega | simp only [go_sem, ↓reduceIte, dropK_eq]) only [x62b, go_sem, ↓reduceIte, dropK_eq, d3]
    exact Ends_plain rfl (by rw [decide_eq_false (fun e => h1 e.1)])
theorem F62_7 {c v : Int} : F62 [.int .i64 c, .int .i64 7, .int .i64 v] = some (.bool (decide (1 ≤ v ∧ v ≤ 1000000000))) := by
  unfold F62
  refine pureF_of (x := x62) rfl rfl ?_
  rw [x62_eq.1, x62_eq.2.1]
  by_cases h1 : 1 ≤ v
  · have d3 := decide_eq_true h1
    simp (disch := first | omega | simp only [go_sem, ↓reduceIte, dropK_eq]) only [x62b, go_sem, ↓reduceIte, dropK_eq, d3]
    exact Ends_plain rfl (by congr 1; rw [decide_eq_decide]; omega)
  · have d3 := decide_eq_false h1
    simp (disch := first | omega | simp only [go_sem, ↓reduceIte, dropK_eq]) only [x62b, go_sem, ↓reduceIte, dropK_eq, d3]
    exact Ends_plain rfl (by rw [decide_eq_false (fun e => h1 e.1)])
theorem F62_8 {c v : Int} : F62 [.int .i64 c, .int .i64 8, .int .i64 v] = some (.bool (decide (1 ≤ v ∧ v ≤ 99))) := by
  unfold F62
  refine pureF_of (x := x62) rfl rfl ?_
  rw [x62_eq.1, x62_eq.2.1]
  by_cases h1 : 1 ≤ v
  · have d3 := decide_eq_true h1
    simp (disch := first | omega | simp only [go_sem, ↓reduceIte, dropK_eq]) only [x62b, go_sem, ↓reduceIte, dropK_eq, d3]
    exact Ends_plain rfl (by congr 1; rw [decide_eq_decide]; omega)
  · have d3 := decide_eq_false h1
    simp (disch := first | omega | simp only [go_sem, ↓reduceIte, dropK_eq]) only [x62b, go_sem, ↓reduceIte, dropK_eq, d3]
    exact Ends_plain rfl (by rw [decide_eq_false (fun e => h1 e.1)])
theorem F62_9 {c v : Int} : F62 [.int .i64 c, .int .i64 9, .int .i64 v] = some (.bool (decide (1 ≤ v ∧ v ≤ 1000000))) := by
  unfold F62
  refine pureF_of (x := x62) rfl rfl ?_
  rw [x62_eq.1, x62_eq.2.1]
  by_cases h1 : 1 ≤ v
  · have d3 := decide_eq_true h1
    simp (disch := first | omega | simp only [go_sem, ↓reduceIte, dropK_eq]) only [x62b, go_sem, ↓reduceIte, dropK_eq, d3]
    exact Ends_plain rfl (by congr 1; rw [decide_eq_decide]; omega)
  · have d3 := decide_eq_false h1
    simp (disch := first | omega | simp only [go_sem, ↓reduceIte, dropK_eq]) only [x62b, go_sem, ↓reduceIte, dropK_eq, d3]
    exact Ends_plain rfl (by rw [decide_eq_false (fun e => h1 e.1)])
theorem F62_10 {c v : Int} : F62 [.int .i64 c, .int .i64 10, .int .i64 v] = some (.bool (decide ((-1000000) ≤ v ∧ v ≤ 1000000))) := by
  unfold F62
  refine pureF_of (x := x62) rfl rfl ?_
  rw [x62_eq.1, x62_eq.2.1]
  by_cases h1 : (-1000000) ≤ v
  · have d3 := decide_eq_true h1
    simp (disch := first | omega | simp only [go_sem, ↓reduceIte, dropK_eq]) only [x62b, go_sem, ↓reduceIte, dropK_eq, d3]
    exact Ends_plain rfl (by congr 1; rw [decide_eq_decide]; omega)
  · have d3 := decide_eq_false h1
    simp (disch := first | omega | simp only [go_sem, ↓reduceIte, dropK_eq]) only [x62b, go_sem, ↓reduceIte, dropK_eq, d3]
    exact Ends_plain rfl (by rw [decide_eq_false (fun e => h1 e.1)])
theorem F62_11 {c v : Int} : F62 [.int .i64 c, .int .i64 11, .int .i64 v] = some (.bool (decide ((-1000000) ≤ v ∧ v ≤ 1000000))) := by
  unfold F62
  refine pureF_of (x := x62) rfl rfl ?_
  rw [x62_eq.1, x62_eq.2.1]
  by_cases h1 : (-1000000) ≤ v
  · have d3 := decide_eq_true h1
    simp (disch := first | omega | simp only [go_sem, ↓reduceIte, dropK_eq]) only [x62b, go_sem, ↓reduceIte, dropK_eq, d3]
    exact Ends_plain rfl (by congr 1; rw [decide_eq_decide]; omega)
  · have d3 := decide_eq_false h1
    simp (disch := first | omega | simp only [go_sem, ↓reduceIte, dropK_eq]) only [x62b, go_sem, ↓reduceIte, dropK_eq, d3]
    exact Ends_plain rfl (by rw [decide_eq_false (fun e => h1 e.1)])
theorem F62_eq {c v : Int} {k : Nat} (hk : k < fdL.length) : F62 [.int .i64 c, .int .i64 k, .int .i64 v] = some (.bool (inF fdL[k] c v)) := by
  match k, hk with
  | 0, _ =>
    refine F62_0.trans ?_
    unfold inF
    congr 2
    by_cases h : c = 0
    · rw [if_pos h, if_pos ⟨rfl, h⟩]
    · rw [if_neg h, if_neg (fun e => h e.2)]
      rfl
  | 1, _ => exact F62_1.trans (by unfold inF; rw [if_neg (fun e => absurd e.1 (by simp [fdL]))]; rfl)
  | 2, _ => exact F62_2.trans (by unfold inF; rw [if_neg (fun e => absurd e.1 (by simp [fdL]))]; rfl)
  | 3, _ => exact F62_3.trans (by unfold inF; rw [if_neg (fun e => absurd e.1 (by simp [fdL]))]; rfl)
  | 4, _ => exact F62_4.trans (by unfold inF; rw [if_neg (fun e => absurd e.1 (by simp [fdL]))]; rfl)
  | 5, _ => exact F62_5.trans (by unfold inF; rw [if_neg (fun e => absurd e.1 (by simp [fdL]))]; rfl)
  | 6, _ => exact F62_6.trans (by unfold inF; rw [if_neg (fun e => absurd e.1 (by simp [fdL]))]; rfl)
  | 7, _ => exact F62_7.trans (by unfold inF; rw [if_neg (fun e => absurd e.1 (by simp [fdL]))]; rfl)
  | 8, _ => exact F62_8.trans (by unfold inF; rw [if_neg (fun e => absurd e.1 (by simp [fdL]))]; rfl)
  | 9, _ => exact F62_9.trans (by unfold inF; rw [if_neg (fun e => absurd e.1 (by simp [fdL]))]; rfl)
  | 10, _ => exact F62_10.trans (by unfold inF; rw [if_neg (fun e => absurd e.1 (by simp [fdL]))]; rfl)
  | 11, _ => exact F62_11.trans (by unfold inF; rw [if_neg (fun e => absurd e.1 (by simp [fdL]))]; rfl)
  | k + 12, h => exact absurd h (by simp [fdL])
/-! ### E -/

set_option maxRecDepth 10000
/-- A channel: its name, its chart, its twelve fields. -/
structure Ch where
  n : List UInt8
  t : Int
  f0 : Int
  f1 : Int
  f2 : Int
  f3 : Int
  f4 : Int
  f5 : Int
  f6 : Int
  f7 : Int
  f8 : Int
  f9 : Int
  f10 : Int
  f11 : Int
  deriving DecidableEq
abbrev CK (c : Ch) : AVal := .agg [sv c.n, .int .i64 c.t, .int .i64 c.f0, .int .i64 c.f1, .int .i64 c.f2, .int .i64 c.f3, .int .i64 c.f4, .int .i64 c.f5, .int .i64 c.f6, .int .i64 c.f7, .int .i64 c.f8, .int .i64 c.f9, .int .i64 c.f10, .int .i64 c.f11]
def Ch.fs (c : Ch) : List Int := [c.f0, c.f1, c.f2, c.f3, c.f4, c.f5, c.f6, c.f7, c.f8, c.f9, c.f10, c.f11]
theorem Ch.fs_len (c : Ch) : c.fs.length = 12 := rfl
noncomputable def F35 : List AVal → Option AVal := pureF C0 1 35
theorem sound35 : Sound Tryz.prog 35 F35 := sound_self ok0 1 35
theorem F35_0 {c : Ch} : F35 [CK c, .int .i64 0] = some (.int .i64 c.f0) := by
  unfold F35
  refine pureF_of (x := x35) rfl rfl ?_
  rw [x35_eq.1, x35_eq.2.1]
  simp (disch := first | omega | simp only [go_sem, ↓reduceIte, dropK_eq]) only [x35b, go_sem, ↓reduceIte, dropK_eq]
  exact Ends_plain rfl rfl
theorem F35_1 {c : Ch} : F35 [CK c, .int .i64 1] = some (.int .i64 c.f1) := by
  unfold F35
  refine pureF_of (x := x35) rfl rfl ?_
  rw [x35_eq.1, x35_eq.2.1]
  simp (disch := first | omega | simp only [go_sem, ↓reduceIte, dropK_eq]) only [x35b, go_sem, ↓reduceIte, dropK_eq]
  exact Ends_plain rfl rfl
theorem F35_2 {c : Ch} : F35 [CK c, .int .i64 2] = some (.int .i64 c.f2) := by
  unfold F35
  refine pureF_of (x := x35) rfl rfl ?_
  rw [x35_eq.1, x35_eq.2.1]
  simp (disch := first | omega | simp only [go_sem, ↓reduceIte, dropK_eq]) only [x35b, go_sem, ↓reduceIte, dropK_eq]
  exact Ends_plain rfl rfl
theorem F35_3 {c : Ch} : F35 [CK c, .int .i64 3] = some (.int .i64 c.f3) := by
  unfold F35
  refine pureF_of (x := x35) rfl rfl ?_
  rw [x35_eq.1, x35_eq.2.1]
  simp (disch := first | omega | simp only [go_sem, ↓reduceIte, dropK_eq]) only [x35b, go_sem, ↓reduceIte, dropK_eq]
  exact Ends_plain rfl rfl
theorem F35_4 {c : Ch} : F35 [CK c, .int .i64 4] = some (.int .i64 c.f4) := by
  unfold F35
  refine pureF_of (x := x35) rfl rfl ?_
  rw [x35_eq.1, x35_eq.2.1]
  simp (disch := first | omega | simp only [go_sem, ↓reduceIte, dropK_eq]) only [x35b, go_sem, ↓reduceIte, dropK_eq]
  exact Ends_plain rfl rfl
theorem F35_5 {c : Ch} : F35 [CK c, .int .i64 5] = some (.int .i64 c.f5) := by
  unfold F35
  refine pureF_of (x := x35) rfl rfl ?_
  rw [x35_eq.1, x35_eq.2.1]
  simp (disch := first | omega | simp only [go_sem, ↓reduceIte, dropK_eq]) only [x35b, go_sem, ↓reduceIte, dropK_eq]
  exact Ends_plain rfl rfl
theorem F35_6 {c : Ch} : F35 [CK c, .int .i64 6] = some (.int .i64 c.f6) := by
  unfold F35
  refine pureF_of (x := x35) rfl rfl ?_
  rw [x35_eq.1, x35_eq.2.1]
  simp (disch := first | omega | simp only [go_sem, ↓reduceIte, dropK_eq]) only [x35b, go_sem, ↓reduceIte, dropK_eq]
  exact Ends_plain rfl rfl
theorem F35_7 {c : Ch} : F35 [CK c, .int .i64 7] = some (.int .i64 c.f7) := by
  unfold F35
  refine pureF_of (x := x35) rfl rfl ?_
  rw [x35_eq.1, x35_eq.2.1]
  simp (disch := first | omega | simp only [go_sem, ↓reduceIte, dropK_eq]) only [x35b, go_sem, ↓reduceIte, dropK_eq]
  exact Ends_plain rfl rfl
theorem F35_8 {c : Ch} : F35 [CK c, .int .i64 8] = some (.int .i64 c.f8) := by
  unfold F35
  refine pureF_of (x := x35) rfl rfl ?_
  rw [x35_eq.1, x35_eq.2.1]
  simp (disch := first | omega | simp only [go_sem, ↓reduceIte, dropK_eq]) only [x35b, go_sem, ↓reduceIte, dropK_eq]
  exact Ends_plain rfl rfl
theorem F35_9 {c : Ch} : F35 [CK c, .int .i64 9] = some (.int .i64 c.f9) := by
  unfold F35
  refine pureF_of (x := x35) rfl rfl ?_
  rw [x35_eq.1, x35_eq.2.1]
  simp (disch := first | omega | simp only [go_sem, ↓reduceIte, dropK_eq]) only [x35b, go_sem, ↓reduceIte, dropK_eq]
  exact Ends_plain rfl rfl
theorem F35_10 {c : Ch} : F35 [CK c, .int .i64 10] = some (.int .i64 c.f10) := by
  unfold F35
  refine pureF_of (x := x35) rfl rfl ?_
  rw [x35_eq.1, x35_eq.2.1]
  simp (disch := first | omega | simp only [go_sem, ↓reduceIte, dropK_eq]) only [x35b, go_sem, ↓reduceIte, dropK_eq]
  exact Ends_plain rfl rfl
theorem F35_11 {c : Ch} : F35 [CK c, .int .i64 11] = some (.int .i64 c.f11) := by
  unfold F35
  refine pureF_of (x := x35) rfl rfl ?_
  rw [x35_eq.1, x35_eq.2.1]
  simp (disch := first | omega | simp only [go_sem, ↓reduceIte, dropK_eq]) only [x35b, go_sem, ↓reduceIte, dropK_eq]
  exact Ends_plain rfl rfl
theorem F35_eq {c : Ch} {k : Nat} (hk : k < 12) : F35 [CK c, .int .i64 k] = some (.int .i64 (c.fs[k]'hk)) := by
  match k, hk with
  | 0, _ => exact F35_0
  | 1, _ => exact F35_1
  | 2, _ => exact F35_2
  | 3, _ => exact F35_3
  | 4, _ => exact F35_4
  | 5, _ => exact F35_5
  | 6, _ => exact F35_6
  | 7, _ => exact F35_7
  | 8, _ => exact F35_8
  | 9, _ => exact F35_9
  | 10, _ => exact F35_10
  | 11, _ => exact F35_11
  | k + 12, h => exact absurd h (by omega)
/-- What each chart needs, a sign each. -/
def ndL : List (List UInt8) := [[49, 49, 49, 49, 49, 48, 48, 48, 48, 48, 48, 48], [48, 49, 49, 49, 49, 48, 48, 48, 48, 48, 48, 48], [49, 48, 48, 49, 49, 48, 48, 48, 48, 48, 48, 48], [49, 48, 48, 49, 49, 48, 48, 48, 48, 48, 48, 48],
  [48, 48, 48, 49, 49, 48, 48, 48, 48, 48, 48, 48], [49, 48, 48, 49, 49, 48, 48, 48, 48, 48, 48, 48], [48, 49, 49, 48, 49, 49, 49, 49, 48, 48, 48, 48], [48, 49, 49, 48, 49, 49, 48, 48, 49, 49, 48, 48]]
noncomputable def F64 : List AVal → Option AVal := pureF C0 1 64
theorem sound64 : Sound Tryz.prog 64 F64 := sound_self ok0 1 64
theorem F64_0 : F64 [.int .i64 0] = some (sv (ndL.getD 0 [])) := by
  unfold F64
  refine pureF_of (x := x64) rfl rfl ?_
  rw [x64_eq.1, x64_eq.2.1]
  simp (disch := first | omega | simp only [go_sem, ↓reduceIte, dropK_eq]) only [x64b, go_sem, ↓reduceIte, dropK_eq]
  exact Ends_plain rfl rfl
theorem F64_1 : F64 [.int .i64 1] = some (sv (ndL.getD 1 [])) := by
  unfold F64
  refine pureF_of (x := x64) rfl rfl ?_
  rw [x64_eq.1, x64_eq.2.1]
  simp (disch := first | omega | simp only [go_sem, ↓reduceIte, dropK_eq]) only [x64b, go_sem, ↓reduceIte, dropK_eq]
  exact Ends_plain rfl rfl
theorem F64_2 : F64 [.int .i64 2] = some (sv (ndL.getD 2 [])) := by
  unfold F64
  refine pureF_of (x := x64) rfl rfl ?_
  rw [x64_eq.1, x64_eq.2.1]
  simp (disch := first | omega | simp only [go_sem, ↓reduceIte, dropK_eq]) only [x64b, go_sem, ↓reduceIte, dropK_eq]
  exact Ends_plain rfl rfl
theorem F64_3 : F64 [.int .i64 3] = some (sv (ndL.getD 3 [])) := by
  unfold F64
  refine pureF_of (x := x64) rfl rfl ?_
  rw [x64_eq.1, x64_eq.2.1]
  simp (disch := first | omega | simp only [go_sem, ↓reduceIte, dropK_eq]) only [x64b, go_sem, ↓reduceIte, dropK_eq]
  exact Ends_plain rfl rfl
theorem F64_4 : F64 [.int .i64 4] = some (sv (ndL.getD 4 [])) := by
  unfold F64
  refine pureF_of (x := x64) rfl rfl ?_
  rw [x64_eq.1, x64_eq.2.1]
  simp (disch := first | omega | simp only [go_sem, ↓reduceIte, dropK_eq]) only [x64b, go_sem, ↓reduceIte, dropK_eq]
  exact Ends_plain rfl rfl
theorem F64_5 : F64 [.int .i64 5] = some (sv (ndL.getD 5 [])) := by
  unfold F64
  refine pureF_of (x := x64) rfl rfl ?_
  rw [x64_eq.1, x64_eq.2.1]
  simp (disch := first | omega | simp only [go_sem, ↓reduceIte, dropK_eq]) only [x64b, go_sem, ↓reduceIte, dropK_eq]
  exact Ends_plain rfl rfl
theorem F64_6 : F64 [.int .i64 6] = some (sv (ndL.getD 6 [])) := by
  unfold F64
  refine pureF_of (x := x64) rfl rfl ?_
  rw [x64_eq.1, x64_eq.2.1]
  simp (disch := first | omega | simp only [go_sem, ↓reduceIte, dropK_eq]) only [x64b, go_sem, ↓reduceIte, dropK_eq]
  exact Ends_plain rfl rfl
theorem F64_7 : F64 [.int .i64 7] = some (sv (ndL.getD 7 [])) := by
  unfold F64
  refine pureF_of (x := x64) rfl rfl ?_
  rw [x64_eq.1, x64_eq.2.1]
  simp (disch := first | omega | simp only [go_sem, ↓reduceIte, dropK_eq]) only [x64b, go_sem, ↓reduceIte, dropK_eq]
  exact Ends_plain rfl rfl
theorem F64_eq {t : Nat} (ht : t < 8) : F64 [.int .i64 t] = some (sv (ndL.getD t [])) := by
  match t, ht with
  | 0, _ => exact F64_0
  | 1, _ => exact F64_1
  | 2, _ => exact F64_2
  | 3, _ => exact F64_3
  | 4, _ => exact F64_4
  | 5, _ => exact F64_5
  | 6, _ => exact F64_6
  | 7, _ => exact F64_7
  | t + 8, h => exact absurd h (by omega)
/-! ### F -/

set_option maxRecDepth 10000
noncomputable def C1 : Cfg := ((((((((((C0.add 64 F64).add 62 F62).add 35 F35).add 31 F31).add 32 F32).add 54 F54).add 23 F23).add 25 F25).add 26 F26).add 59 F59).add 60 F60
theorem ok1 : CfgOk Tryz.prog C1 := ((((((((((ok0.add sound64).add sound62).add sound35).add sound31).add sound32).add sound54).add sound23).add sound25).add sound26).add sound59).add sound60
theorem need_nd : ∀ t < 8, ∀ k, ∀ h : k < fdL.length, needB fdL[k] (t : Nat) = decide ((ndL.getD t []).getD k 0 = 49) := by decide
theorem nd_len : ∀ t < 8, (ndL.getD t []).length = 12 := by decide
noncomputable def F33 : List AVal → Option AVal := pureF C1 1 33
theorem sound33 : Sound Tryz.prog 33 F33 := sound_self ok1 1 33
theorem F33_eq {t k : Nat} (ht : t < 8) (hk : k < fdL.length) : F33 [.int .i64 t, .int .i64 k] = some (.bool (needB fdL[k] t)) := by
  have e64 := F64_eq ht
  rw [need_nd t ht k hk]
  have hl := nd_len t ht
  generalize ndL.getD t [] = s at *
  have hk2 : k < s.length := by rw [hl]; exact hk
  unfold F33
  refine pureF_of (x := x33) rfl rfl ?_
  rw [x33_eq.1, x33_eq.2.1]
  have hix := str_ixN (l := s) .i64 hk2
  by_cases h : s.getD k 0 = 49
  · have d1 : decide (((s.getD k 0).toNat : Int) = 49) = true := decide_eq_true (by rw [h]; rfl)
    rw [decide_eq_true h]
    simp (disch := first | omega | simp only [go_sem, ↓reduceIte, dropK_eq]) only [x33b, go_sem, ↓reduceIte, dropK_eq, callX_known (C := C1) (g := 64) rfl, ft_call (C := C1) (g := 64) rfl, e64, hix, d1]
    exact Ends_plain rfl rfl
  · have d1 : decide (((s.getD k 0).toNat : Int) = 49) = false := decide_eq_false (fun e => h (UInt8.toNat_inj.1 (by show _ = 49; omega)))
    rw [decide_eq_false h]
    simp (disch := first | omega | simp only [go_sem, ↓reduceIte, dropK_eq]) only [x33b, go_sem, ↓reduceIte, dropK_eq, callX_known (C := C1) (g := 64) rfl, ft_call (C := C1) (g := 64) rfl, e64, hix, d1]
    exact Ends_plain rfl rfl
noncomputable def C2 : Cfg := C1.add 33 F33
theorem ok2 : CfgOk Tryz.prog C2 := ok1.add sound33
/-- May a chart have a field? -/
def mayB (t k : Nat) : Bool := (if h : k < fdL.length then needB fdL[k] t else false) || (decide (t ≤ 1) && decide (10 ≤ k))
noncomputable def F63 : List AVal → Option AVal := pureF C2 1 63
theorem sound63 : Sound Tryz.prog 63 F63 := sound_self ok2 1 63
theorem F63_eq {t k : Nat} (ht : t < 8) (hk : k < fdL.length) : F63 [.int .i64 t, .int .i64 k] = some (.bool (mayB t k)) := by
  have e33 := F33_eq ht hk
  unfold F63 mayB
  rw [dif_pos hk]
  refine pureF_of (x := x63) rfl rfl ?_
  rw [x63_eq.1, x63_eq.2.1]
  generalize needB fdL[k] t = b at *
  cases b with
  | true =>
    simp (disch := first | omega | simp only [go_sem, ↓reduceIte, dropK_eq]) only [x63b, go_sem, ↓reduceIte, dropK_eq, callX_known (C := C2) (g := 33) rfl, ft_call (C := C2) (g := 33) rfl, e33]
    exact Ends_plain rfl rfl
  | false =>
    by_cases h1 : t ≤ 1
    · have d1 : decide ((t : Int) ≤ 1) = true := decide_eq_true (by omega)
      rw [decide_eq_true h1]
      by_cases h2 : 10 ≤ k
      · have d2 : decide ((10 : Int) ≤ (k : Int)) = true := decide_eq_true (by omega)
        rw [decide_eq_true h2]
        simp (disch := first | omega | simp only [go_sem, ↓reduceIte, dropK_eq]) only [x63b, go_sem, ↓reduceIte, dropK_eq, callX_known (C := C2) (g := 33) rfl, ft_call (C := C2) (g := 33) rfl, e33, d1, d2]
        exact Ends_plain rfl rfl
      · have d2 : decide ((10 : Int) ≤ (k : Int)) = false := decide_eq_false (by omega)
        rw [decide_eq_false h2]
        simp (disch := first | omega | simp only [go_sem, ↓reduceIte, dropK_eq]) only [x63b, go_sem, ↓reduceIte, dropK_eq, callX_known (C := C2) (g := 33) rfl, ft_call (C := C2) (g := 33) rfl, e33, d1, d2]
        exact Ends_plain rfl rfl
    · have d1 : decide ((t : Int) ≤ 1) = false := decide_eq_false (by omega)
      rw [decide_eq_false h1]
      simp (disch := first | omega | simp only [go_sem, ↓reduceIte, dropK_eq]) only [x63b, go_sem, ↓reduceIte, dropK_eq, callX_known (C := C2) (g := 33) rfl, ft_call (C := C2) (g := 33) rfl, e33, d1]
      exact Ends_plain rfl rfl
end Go.Proofs.YtppehejnnjlkfaaGreatDoor
