/-
  What a scan answers: the document's, in plain Lean.
-/
import Derived.Test.YtjcjlgiigjckeaaDoorYE
set_option linter.unusedVariables false
set_option linter.unusedSimpArgs false
namespace Go.Proofs.YtjcjlgiigjckeaaDoor
open Go Go.Xec

/-- Digits' number. -/
def vlA (a : Nat) (l : List UInt8) : Nat := l.foldl (fun a c => a * 10 + (c.toNat - 48)) a
abbrev vl (l : List UInt8) : Nat := vlA 0 l
abbrev digs (l : List UInt8) : Prop := ∀ b ∈ l, digB b
theorem vlA_cons (a : Nat) (c : UInt8) (l : List UInt8) : vlA a (c :: l) = vlA (a * 10 + (c.toNat - 48)) l := by simp only [vlA, List.foldl_cons]
theorem vlA_snoc (a : Nat) (c : UInt8) (l : List UInt8) : vlA a (l ++ [c]) = vlA a l * 10 + (c.toNat - 48) := by simp [vlA]
theorem vlA_le (l : List UInt8) : ∀ (a : Nat), a ≤ vlA a l := by
  induction l with
  | nil => intro a; exact Nat.le_refl _
  | cons c l ih => intro a; rw [vlA_cons]; exact Nat.le_trans (by omega) (ih _)
theorem parse_digs (l : List UInt8) : ∀ (a : Nat), digs l → a < 18446744073709551616 → Lib.parseUint10 a l = if vlA a l < 18446744073709551616 then .ok (vlA a l) else .range := by
  induction l with
  | nil => intro a _ ha; rw [if_pos (show vlA a [] < _ from ha)]; rfl
  | cons c l ih =>
    intro a h ha
    have hc := h c (by simp)
    simp only [digB, digi] at hc
    have hle := vlA_le l (a * 10 + (c.toNat - 48))
    rw [vlA_cons]
    simp only [Lib.parseUint10]
    have h3 : 48 ≤ c.toNat ∧ c.toNat ≤ 57 := by omega
    rw [if_pos h3]
    by_cases h1 : 1844674407370955162 ≤ a
    · rw [if_pos h1, if_neg (by omega)]
    · rw [if_neg h1]
      by_cases h2 : 18446744073709551616 ≤ a * 10 + (c.toNat - 48)
      · rw [if_pos h2, if_neg (by omega)]
      · rw [if_neg h2]
        exact ih _ (fun b hb => h b (by simp [hb])) (by omega)
theorem mag_digs {l : List UInt8} (h : digs l) (h0 : l ≠ []) : Lib.parseMag l = if vl l < 18446744073709551616 then .ok (vl l) else .range := by
  unfold Lib.parseMag
  rw [if_neg h0]
  exact parse_digs l 0 h (by omega)
theorem atoi_plain {l : List UInt8} (h : digs l) (h0 : l ≠ []) : Lib.atoiAll l = if vl l < 9223372036854775808 then .ok (vl l : Int) else .range := by
  cases l with
  | nil => exact absurd rfl h0
  | cons c r =>
    have hc := h c (by simp)
    simp only [digB, digi] at hc
    unfold Lib.atoiAll
    simp only
    rw [if_neg (by omega), mag_digs h h0]
    by_cases h1 : vl (c :: r) < 18446744073709551616
    · rw [if_pos h1]
      simp only
      by_cases h2 : vl (c :: r) < 9223372036854775808
      · rw [if_pos h2, if_neg (by omega), if_neg (by omega), if_neg (by omega)]
      · rw [if_neg h2, if_pos (by omega)]
    · rw [if_neg h1, if_neg (by omega)]
theorem atoi_minus {l : List UInt8} (h : digs l) (h0 : l ≠ []) : Lib.atoiAll (45 :: l) = if vl l ≤ 9223372036854775808 then .ok (-(vl l : Int)) else .range := by
  unfold Lib.atoiAll
  simp only
  rw [if_pos (by right; rfl), mag_digs h h0]
  by_cases h1 : vl l < 18446744073709551616
  · rw [if_pos h1]
    simp only
    by_cases h2 : vl l ≤ 9223372036854775808
    · rw [if_pos h2, if_neg (by simp), if_neg (by omega), if_pos (by rfl)]
    · rw [if_neg h2, if_neg (by simp), if_pos ⟨by rfl, by omega⟩]
  · rw [if_neg h1, if_neg (by omega)]
theorem dd_ne (n : Nat) : dd n ≠ [] := by
  by_cases h : n < 10
  · rw [dd_small h]; simp
  · rw [dd_step (by omega), dd_small (by omega : n % 10 < 10)]; simp
theorem dd_digs (n : Nat) : digs (dd n) := by
  induction n using Nat.strongRecOn with
  | _ n ih =>
    by_cases h : n < 10
    · rw [dd_small h]
      intro b hb
      simp at hb
      subst hb
      simp [digB, digi, UInt8.toNat_ofNat']
      omega
    · rw [dd_step (by omega)]
      intro b hb
      rcases List.mem_append.1 hb with hb | hb
      · exact ih _ (by omega) b hb
      · exact ih _ (by omega) b hb
theorem dd_vl (n : Nat) : vl (dd n) = n := by
  induction n using Nat.strongRecOn with
  | _ n ih =>
    by_cases h : n < 10
    · rw [dd_small h]
      simp [vlA]
      omega
    · rw [dd_step (by omega), dd_small (by omega : n % 10 < 10)]
      have := ih (n / 10) (by omega)
      simp only [vl] at this ⊢
      rw [vlA_snoc, this]
      simp
      omega
theorem dd_head (n : Nat) : (dd n).head? = some 48 → n = 0 := by
  induction n using Nat.strongRecOn with
  | _ n ih =>
    by_cases h : n < 10
    · rw [dd_small h]
      intro e
      simp at e
      have := congrArg UInt8.toNat e
      simp at this
      omega
    · rw [dd_step (by omega)]
      intro e
      have : (dd (n / 10)).head? = some 48 := by
        cases hd : dd (n / 10) with
        | nil => exact absurd hd (dd_ne _)
        | cons c r => rw [hd] at e; exact e
      have := ih _ (by omega) this
      omega
theorem vl_pos {c : UInt8} {l : List UInt8} (h : digB c) (h0 : c ≠ 48) : 1 ≤ vl (c :: l) := by
  have := vlA_le l (c.toNat - 48)
  have hc : c.toNat ≠ 48 := fun e => h0 (UInt8.toNat_inj.1 (by rw [e]; rfl))
  simp only [digB, digi] at h
  simp only [vlA_cons, Nat.zero_mul, Nat.zero_add]
  omega
theorem canon : ∀ (k : Nat) (l : List UInt8), l.length = k + 1 → digs l → l.head? ≠ some 48 ∨ l.length = 1 → dd (vl l) = l
  | 0, l, hk, h, _ => by
    match l, hk with
    | [c], _ =>
      have hc := h c (by simp)
      simp only [digB, digi] at hc
      have e : vl [c] = c.toNat - 48 := by simp [vlA]
      rw [e, dd_small (by omega)]
      simp
      apply UInt8.toNat_inj.1
      simp
      omega
  | k + 1, l, hk, h, h0 => by
    have hne : l ≠ [] := fun e => by rw [e] at hk; simp at hk
    obtain ⟨m, c, rfl⟩ : ∃ m c, l = m ++ [c] := ⟨_, _, (List.dropLast_concat_getLast hne).symm⟩
    simp at hk
    have hh : m.head? ≠ some 48 := by
      rcases h0 with h0 | h0
      · intro e
        apply h0
        cases m with
        | nil => simp at hk
        | cons d r => exact e
      · simp at h0; subst h0; simp at hk
    have ih := canon k m hk (fun b hb => h b (by simp [hb])) (.inl hh)
    have hc := h c (by simp)
    have hp : 1 ≤ vl m := by
      cases m with
      | nil => simp at hk
      | cons d r => exact vl_pos (h d (by simp)) (fun e => hh (by rw [e]; rfl))
    simp only [digB, digi] at hc
    simp only [vl] at hp ih ⊢
    rw [vlA_snoc, dd_step (by omega)]
    have e1 : (vlA 0 m * 10 + (c.toNat - 48)) / 10 = vlA 0 m := by omega
    have e2 : (vlA 0 m * 10 + (c.toNat - 48)) % 10 = c.toNat - 48 := by omega
    rw [e1, e2, ih, dd_small (by omega)]
    congr 2
    apply UInt8.toNat_inj.1
    simp
    omega
theorem not_canon {l : List UInt8} (h1 : l.head? = some 48) (h2 : dd (vl l) = l) : vl l = 0 ∧ l = [48] := by
  have := dd_head (vl l) (by rw [h2]; exact h1)
  refine ⟨this, ?_⟩
  rw [← h2, this]
  exact dd_small (by decide)
/-- A number that is no numeral, or too big. -/
abbrev numBad (neg : Bool) (l : List UInt8) : Prop := l.head? = some 48 ∧ (1 < l.length ∨ neg = true) ∨ 1000000000 < vl l
theorem its_plain {l : List UInt8} (h : digs l) (h0 : l ≠ []) : its (vl l : Int) = l ↔ ¬ (l.head? = some 48 ∧ 1 < l.length) := by
  have e : its (vl l : Int) = dd (vl l) := by unfold its Lib.itoa; rw [if_neg (by omega)]; simp
  have hl : l.length ≠ 0 := fun e => h0 (List.length_eq_zero_iff.1 e)
  rw [e]
  constructor
  · rintro h2 ⟨h3, h4⟩
    rw [(not_canon h3 h2).2] at h4
    simp at h4
  · intro h3
    refine canon (l.length - 1) l (by omega) h ?_
    by_cases h4 : l.head? = some 48
    · right
      have : ¬ 1 < l.length := fun h5 => h3 ⟨h4, h5⟩
      omega
    · exact .inl h4
theorem its_minus {l : List UInt8} (h : digs l) (h0 : l ≠ []) : its (-(vl l : Int)) = 45 :: l ↔ ¬ l.head? = some 48 := by
  have hl : l.length ≠ 0 := fun e => h0 (List.length_eq_zero_iff.1 e)
  constructor
  · intro h2 h3
    by_cases hv : vl l = 0
    · rw [hv] at h2
      have : its (-((0 : Nat) : Int)) = [48] := by unfold its Lib.itoa; rw [if_neg (by decide)]; exact dd_small (n := 0) (by decide)
      rw [this] at h2
      simp at h2
    · have e : its (-(vl l : Int)) = 45 :: dd (vl l) := by unfold its Lib.itoa; rw [if_pos (by omega)]; simp
      rw [e] at h2
      simp at h2
      exact hv (not_canon h3 h2).1
  · intro h3
    have hv : 1 ≤ vl l := by
      cases l with
      | nil => exact absurd rfl h0
      | cons d r => exact vl_pos (h d (by simp)) (fun e => h3 (by rw [e]; rfl))
    have e : its (-(vl l : Int)) = 45 :: dd (vl l) := by unfold its Lib.itoa; rw [if_pos (by omega)]; simp
    rw [e, canon (l.length - 1) l (by omega) h (.inl h3)]
/-- The number at a text's head, and how long it is. -/
def numN (neg : Bool) (ds : List UInt8) : Except Int (Int × Nat) :=
  if ds = [] then .error 7 else if numBad neg ds then .error 3 else .ok (if neg then -(vl ds : Int) else vl ds, (if neg then 1 else 0) + ds.length)
abbrev dgB (b : UInt8) : Bool := decide (digB b)
abbrev ltB (b : UInt8) : Bool := decide (letB b)
def numR : List UInt8 → Except Int (Int × Nat)
  | [] => .error 7
  | b :: r => if (b.toNat : Int) = 45 then numN true (r.takeWhile dgB) else numN false ((b :: r).takeWhile dgB)
abbrev signB (b : UInt8) : Prop := (b.toNat : Int) = 123 ∨ (b.toNat : Int) = 125 ∨ (b.toNat : Int) = 59
def sgk (b : UInt8) : Int := if (b.toNat : Int) = 123 then 3 else if (b.toNat : Int) = 125 then 4 else 5
/-- The token at a text's head, and how long it is. -/
def oneR : List UInt8 → Except Int (Tok × Nat)
  | [] => .error 7
  | b :: r =>
    if signB b then .ok (⟨sgk b, [], 0, 0⟩, 1)
    else if (b.toNat : Int) = 45 ∨ digB b then match numR (b :: r) with
      | .error e => .error e
      | .ok (n, k) => .ok (⟨2, [], n, 0⟩, k)
    else if (b :: r).takeWhile ltB = [] then .error 7
    else if 12 < ((b :: r).takeWhile ltB).length then .error 2
    else .ok (⟨1, (b :: r).takeWhile ltB, 0, 0⟩, ((b :: r).takeWhile ltB).length)
abbrev spB (b : UInt8) : Prop := (b.toNat : Int) = 32 ∨ (b.toNat : Int) = 9 ∨ (b.toNat : Int) = 10 ∨ (b.toNat : Int) = 13
abbrev inB (b : UInt8) : Bool := decide (¬ (b.toNat : Int) = 10)
/-- How long a blank is. -/
def blk : List UInt8 → Nat
  | [] => 0
  | b :: r => if spB b then 1 else if (b.toNat : Int) = 35 then ((b :: r).takeWhile inB).length else 0
theorem blk_le (r : List UInt8) : blk r ≤ r.length := by
  cases r with
  | nil => exact Nat.le_refl _
  | cons b r =>
    simp only [blk]
    by_cases h : spB b
    · rw [if_pos h]; simp
    · rw [if_neg h]
      by_cases h2 : (b.toNat : Int) = 35
      · rw [if_pos h2]; exact (List.takeWhile_prefix _).length_le
      · rw [if_neg h2]; simp
/-- A scan. -/
def scan (r : List UInt8) (at' : Nat) : Except (Nat × Int) (List Tok) :=
  if h0 : r = [] then .ok []
  else if h1 : 0 < blk r then scan (r.drop (blk r)) (at' + blk r)
  else match oneR r with
    | .error e => .error (at', e)
    | .ok (t, k) => if h2 : 0 < k then match scan (r.drop k) (at' + k) with
      | .error x => .error x
      | .ok l => .ok ({ t with at' := at' } :: l) else .error (at', 7)
termination_by r.length
decreasing_by
  all_goals
    have := List.length_pos_iff.2 h0
    rw [List.length_drop]
    omega
theorem scan_nil (at' : Nat) : scan [] at' = .ok [] := by rw [scan]; simp
theorem scan_blk {r : List UInt8} {at' : Nat} (h : 0 < blk r) : scan r at' = scan (r.drop (blk r)) (at' + blk r) := by
  have h0 : r ≠ [] := fun e => by rw [e] at h; simp [blk] at h
  rw [scan, dif_neg h0, dif_pos h]
theorem scan_bad {r : List UInt8} {at' : Nat} {e : Int} (h0 : r ≠ []) (h : blk r = 0) (h1 : oneR r = .error e) : scan r at' = .error (at', e) := by
  rw [scan, dif_neg h0, dif_neg (by omega), h1]
theorem scan_one {r : List UInt8} {at' : Nat} {t : Tok} {k : Nat} (h0 : r ≠ []) (h : blk r = 0) (h1 : oneR r = .ok (t, k)) (hk : 0 < k) : scan r at' = match scan (r.drop k) (at' + k) with
      | .error x => .error x
      | .ok l => .ok ({ t with at' := at' } :: l) := by
  rw [scan, dif_neg h0, dif_neg (by omega), h1]
  simp only
  rw [dif_pos hk]
theorem numN_len {neg : Bool} {ds : List UInt8} {n : Int} {k : Nat} (h : numN neg ds = .ok (n, k)) : 0 < k ∧ k = (if neg then 1 else 0) + ds.length := by
  unfold numN at h
  split at h
  · cases h
  · split at h
    · cases h
    · rename_i h1 h2
      simp only [Except.ok.injEq, Prod.mk.injEq] at h
      have := List.length_pos_iff.2 h1
      omega
theorem oneR_len {r : List UInt8} {t : Tok} {k : Nat} (h : oneR r = .ok (t, k)) : 0 < k ∧ k ≤ r.length := by
  cases r with
  | nil => cases h
  | cons b r =>
    simp only [oneR] at h
    by_cases c1 : signB b
    · rw [if_pos c1] at h
      simp only [Except.ok.injEq, Prod.mk.injEq] at h
      simp; omega
    · rw [if_neg c1] at h
      by_cases c2 : (b.toNat : Int) = 45 ∨ digB b
      · rw [if_pos c2] at h
        cases hn : numR (b :: r) with
        | error e => rw [hn] at h; cases h
        | ok x =>
          obtain ⟨n, k'⟩ := x
          rw [hn] at h
          simp only [Except.ok.injEq, Prod.mk.injEq] at h
          obtain ⟨_, rfl⟩ := h
          simp only [numR] at hn
          by_cases c3 : (b.toNat : Int) = 45
          · rw [if_pos c3] at hn
            have := numN_len hn
            have h2 := (List.takeWhile_prefix (l := r) dgB).length_le
            simp at this ⊢
            omega
          · rw [if_neg c3] at hn
            have := numN_len hn
            have h2 := (List.takeWhile_prefix (l := b :: r) dgB).length_le
            simp at this h2 ⊢
            omega
      · rw [if_neg c2] at h
        by_cases c3 : (b :: r).takeWhile ltB = []
        · rw [if_pos c3] at h; cases h
        · rw [if_neg c3] at h
          by_cases c4 : 12 < ((b :: r).takeWhile ltB).length
          · rw [if_pos c4] at h; cases h
          · rw [if_neg c4] at h
            simp only [Except.ok.injEq, Prod.mk.injEq] at h
            obtain ⟨_, rfl⟩ := h
            exact ⟨List.length_pos_iff.2 c3, (List.takeWhile_prefix _).length_le⟩
/-- What is passed over. -/
theorem drop_cons {l : List UInt8} {i : Nat} (h : i < l.length) : l.drop i = l.getD i 0 :: l.drop (i + 1) := by
  rw [List.drop_eq_getElem_cons h]
  congr 1
  simp [List.getD_eq_getElem?_getD, List.getElem?_eq_getElem h]
theorem run_eq {p : UInt8 → Bool} {l : List UInt8} {a e : Nat} (h1 : a ≤ e) (h2 : e ≤ l.length) (h3 : ∀ j, a ≤ j → j < e → p (l.getD j 0) = true) (h4 : e < l.length → p (l.getD e 0) = false) :
    (l.drop a).takeWhile p = (l.drop a).take (e - a) := by
  have hx : l.drop a = (l.drop a).take (e - a) ++ l.drop e := by
    have := (List.take_append_drop (e - a) (l.drop a)).symm
    rwa [List.drop_drop, show a + (e - a) = e by omega] at this
  have hall : ∀ b ∈ (l.drop a).take (e - a), p b = true := by
    intro b hb
    obtain ⟨i, hi, rfl⟩ := List.getElem_of_mem hb
    simp at hi
    have := h3 (a + i) (by omega) (by omega)
    simpa [List.getD_eq_getElem?_getD, List.getElem?_eq_getElem (show a + i < l.length by omega)] using this
  have hz : (l.drop e).takeWhile p = [] := by
    rcases Nat.lt_or_ge e l.length with h | h
    · rw [drop_cons h, List.takeWhile_cons, if_neg (by rw [h4 h]; simp)]
    · rw [List.drop_of_length_le h]; rfl
  have h5 : ((l.drop a).take (e - a) ++ l.drop e).takeWhile p = (l.drop a).take (e - a) ++ (l.drop e).takeWhile p := List.takeWhile_append_of_pos hall
  rw [← hx, hz, List.append_nil] at h5
  exact h5
theorem run_len {l : List UInt8} {a e : Nat} (h2 : e ≤ l.length) : ((l.drop a).take (e - a)).length = e - a := by simp; omega
theorem run_snoc {l : List UInt8} {a e : Nat} (h1 : a ≤ e) (h2 : e < l.length) : (l.drop a).take (e + 1 - a) = (l.drop a).take (e - a) ++ [l.getD e 0] := by
  have h := take_next (l := l.drop a) (i := e - a) (by simp; omega)
  rw [show e - a + 1 = e + 1 - a by omega] at h
  rw [h]
  congr 2
  simp [List.getD_eq_getElem?_getD, List.getElem?_eq_getElem h2, show a + (e - a) = e by omega]
theorem run_step {p : UInt8 → Bool} {l : List UInt8} {a k : Nat} (h : ∀ j, a ≤ j → j < k → p (l.getD j 0) = true) (hk : p (l.getD k 0) = true) : ∀ j, a ≤ j → j < k + 1 → p (l.getD j 0) = true := by
  intro j h1 h2
  by_cases e : j = k
  · rw [e]; exact hk
  · exact h j h1 (by omega)
theorem vl_snoc (c : UInt8) (l : List UInt8) : vl (l ++ [c]) = vl l * 10 + (c.toNat - 48) := vlA_snoc 0 c l
end Go.Proofs.YtjcjlgiigjckeaaDoor
