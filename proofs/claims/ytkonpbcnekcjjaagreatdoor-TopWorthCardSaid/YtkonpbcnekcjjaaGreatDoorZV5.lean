/-
  Laid together: part 5.
-/
import Derived.Test.YtkonpbcnekcjjaaGreatDoorZV4
set_option linter.unusedVariables false
set_option linter.unusedSimpArgs false
namespace Go.Xec
open Go
section
variable {α β : Type}
noncomputable def lenR (l : List α) : Nat := List.rec (motive := fun _ => Nat) 0 (fun _ _ ih => Nat.succ ih) l
noncomputable def nthR (l : List α) (i : Nat) : Option α := List.rec (motive := fun _ => Nat → Option α) (fun _ => none) (fun x _ ih i => Nat.rec (motive := fun _ => Option α) (some x) (fun j _ => ih j) i) l i
noncomputable def dropR (n : Nat) (l : List α) : List α := Nat.rec (motive := fun _ => List α → List α) (fun l => l) (fun _ ih l => List.rec (motive := fun _ => List α) [] (fun _ xs _ => ih xs) l) n l
noncomputable def takeR (n : Nat) (l : List α) : List α := Nat.rec (motive := fun _ => List α → List α) (fun _ => []) (fun _ ih l => List.rec (motive := fun _ => List α) [] (fun x xs _ => x :: ih xs) l) n l
noncomputable def mapR (f : α → β) (l : List α) : List β := List.rec (motive := fun _ => List β) [] (fun x _ ih => f x :: ih) l
noncomputable def allR (f : α → Bool) (l : List α) : Bool := List.rec (motive := fun _ => Bool) true (fun x _ ih => Bool.rec (motive := fun _ => Bool) false ih (f x)) l
noncomputable def ovl (cells : List α) (off : Nat) (new : List α) : List α :=
  List.rec (motive := fun _ => Nat → List α → List α) (fun _ _ => []) (fun x xs ih off new => Nat.rec (motive := fun _ => List α) (List.rec (motive := fun _ => List α) (x :: xs) (fun v vs _ => v :: ih 0 vs) new) (fun j _ => x :: ih j new) off) cells off new
theorem lenR_eq (l : List α) : lenR l = l.length := by induction l with
  | nil => rfl
  | cons x l ih => exact congrArg Nat.succ ih
theorem nthR_eq (l : List α) (i : Nat) : nthR l i = l[i]? := by
  induction l generalizing i with
  | nil => simp [nthR]
  | cons x l ih => cases i with
    | zero => rfl
    | succ i => exact (ih i).trans (List.getElem?_cons_succ).symm
theorem dropR_eq (n : Nat) (l : List α) : dropR n l = l.drop n := by
  induction n generalizing l with
  | zero => rfl
  | succ n ih => cases l with
    | nil => rfl
    | cons x l => exact ih l
theorem takeR_eq (n : Nat) (l : List α) : takeR n l = l.take n := by
  induction n generalizing l with
  | zero => rfl
  | succ n ih => cases l with
    | nil => rfl
    | cons x l => exact congrArg (x :: ·) (ih l)
theorem mapR_eq (f : α → β) (l : List α) : mapR f l = l.map f := by induction l with
  | nil => rfl
  | cons x l ih => exact congrArg (f x :: ·) ih
theorem allR_eq (f : α → Bool) (l : List α) : allR f l = l.all f := by induction l with
  | nil => rfl
  | cons x l ih =>
    rw [List.all_cons, ← ih]
    show Bool.rec (motive := fun _ => Bool) false (allR f l) (f x) = _
    cases f x <;> rfl
theorem ovl_eq (cells : List α) (off : Nat) (new : List α) (h : off + new.length ≤ cells.length) : ovl cells off new = cells.take off ++ (new ++ cells.drop (off + new.length)) := by
  induction cells generalizing off new with
  | nil =>
    have h1 : off = 0 := by simp at h; omega
    have h2 : new = [] := by
      cases new with
      | nil => rfl
      | cons v vs => simp at h
    subst h1 h2
    rfl
  | cons x xs ih =>
    cases off with
    | zero =>
      cases new with
      | nil => rfl
      | cons v vs =>
        have := ih 0 vs (by simp at h ⊢; omega)
        show v :: ovl xs 0 vs = _
        rw [this]
        simp
    | succ j =>
      have := ih j new (by simp at h ⊢; omega)
      show x :: ovl xs j new = _
      rw [this, show j + 1 + new.length = (j + new.length) + 1 by omega]
      simp
end
inductive D16 where
  | d0 | d1 | d2 | d3 | d4 | d5 | d6 | d7 | d8 | d9 | dA | dB | dC | dD | dE | dF
  deriving DecidableEq
inductive N16 (α : Type) where
  | mk (a0 a1 a2 a3 a4 a5 a6 a7 a8 a9 aA aB aC aD aE aF : α)
namespace N16
variable {α : Type}
noncomputable def get (n : N16 α) (d : D16) : α := N16.rec (fun a0 a1 a2 a3 a4 a5 a6 a7 a8 a9 aA aB aC aD aE aF => D16.rec a0 a1 a2 a3 a4 a5 a6 a7 a8 a9 aA aB aC aD aE aF d) n
noncomputable def set (n : N16 α) (d : D16) (x : α) : N16 α := N16.rec (fun a0 a1 a2 a3 a4 a5 a6 a7 a8 a9 aA aB aC aD aE aF => D16.rec (.mk x a1 a2 a3 a4 a5 a6 a7 a8 a9 aA aB aC aD aE aF) (.mk a0 x a2 a3 a4 a5 a6 a7 a8 a9 aA aB aC aD aE aF) (.mk a0 a1 x a3 a4 a5 a6 a7 a8 a9 aA aB aC aD aE aF) (.mk a0 a1 a2 x a4 a5 a6 a7 a8 a9 aA aB aC aD aE aF) (.mk a0 a1 a2 a3 x a5 a6 a7 a8 a9 aA aB aC aD aE aF) (.mk a0 a1 a2 a3 a4 x a6 a7 a8 a9 aA aB aC aD aE aF) (.mk a0 a1 a2 a3 a4 a5 x a7 a8 a9 aA aB aC aD aE aF) (.mk a0 a1 a2 a3 a4 a5 a6 x a8 a9 aA aB aC aD aE aF) (.mk a0 a1 a2 a3 a4 a5 a6 a7 x a9 aA aB aC aD aE aF) (.mk a0 a1 a2 a3 a4 a5 a6 a7 a8 x aA aB aC aD aE aF) (.mk a0 a1 a2 a3 a4 a5 a6 a7 a8 a9 x aB aC aD aE aF) (.mk a0 a1 a2 a3 a4 a5 a6 a7 a8 a9 aA x aC aD aE aF) (.mk a0 a1 a2 a3 a4 a5 a6 a7 a8 a9 aA aB x aD aE aF) (.mk a0 a1 a2 a3 a4 a5 a6 a7 a8 a9 aA aB aC x aE aF) (.mk a0 a1 a2 a3 a4 a5 a6 a7 a8 a9 aA aB aC aD x aF) (.mk a0 a1 a2 a3 a4 a5 a6 a7 a8 a9 aA aB aC aD aE x) d) n
def all (x : α) : N16 α := .mk x x x x x x x x x x x x x x x x
theorem get_set (n : N16 α) (d e : D16) (x : α) : (n.set d x).get e = if e = d then x else n.get e := by
  cases n; cases d <;> cases e <;> rfl
theorem get_all (d : D16) (x : α) : (all x).get d = x := by cases d <;> rfl
end N16
noncomputable def dg (n : Nat) : D16 :=
  Bool.rec (Bool.rec (Bool.rec (Bool.rec .dF .dE (Nat.ble n 14)) (Bool.rec .dD .dC (Nat.ble n 12)) (Nat.ble n 13)) (Bool.rec (Bool.rec .dB .dA (Nat.ble n 10)) (Bool.rec .d9 .d8 (Nat.ble n 8)) (Nat.ble n 9)) (Nat.ble n 11)) (Bool.rec (Bool.rec (Bool.rec .d7 .d6 (Nat.ble n 6)) (Bool.rec .d5 .d4 (Nat.ble n 4)) (Nat.ble n 5)) (Bool.rec (Bool.rec .d3 .d2 (Nat.ble n 2)) (Bool.rec .d1 .d0 (Nat.ble n 0)) (Nat.ble n 1)) (Nat.ble n 3)) (Nat.ble n 7)
def dgv : D16 → Nat
  | .d0 => 0
  | .d1 => 1
  | .d2 => 2
  | .d3 => 3
  | .d4 => 4
  | .d5 => 5
  | .d6 => 6
  | .d7 => 7
  | .d8 => 8
  | .d9 => 9
  | .dA => 10
  | .dB => 11
  | .dC => 12
  | .dD => 13
  | .dE => 14
  | .dF => 15
theorem dgv_dg {n : Nat} (h : n < 16) : dgv (dg n) = n := by
  match n, h with
  | 0, _ => exact rfl
  | 1, _ => exact rfl
  | 2, _ => exact rfl
  | 3, _ => exact rfl
  | 4, _ => exact rfl
  | 5, _ => exact rfl
  | 6, _ => exact rfl
  | 7, _ => exact rfl
  | 8, _ => exact rfl
  | 9, _ => exact rfl
  | 10, _ => exact rfl
  | 11, _ => exact rfl
  | 12, _ => exact rfl
  | 13, _ => exact rfl
  | 14, _ => exact rfl
  | 15, _ => exact rfl
  | n + 16, h => exact absurd h (by omega)
theorem dg_inj {a b : Nat} (ha : a < 16) (hb : b < 16) : dg a = dg b ↔ a = b := ⟨fun h => by rw [← dgv_dg ha, h, dgv_dg hb], fun h => by rw [h]⟩
inductive Dt where
  | in2 (a b : D16)
  | out
noncomputable def dt (n : Nat) : Dt := Bool.rec .out (.in2 (dg (Nat.div n 16)) (dg (Nat.mod n 16))) (Nat.ble n 255)
inductive Dk where
  | in4 (a b c d : D16)
  | out
noncomputable def dk (n : Nat) : Dk := Bool.rec .out (.in4 (dg (Nat.div n 4096)) (dg (Nat.mod (Nat.div n 256) 16)) (dg (Nat.mod (Nat.div n 16) 16)) (dg (Nat.mod n 16))) (Nat.ble n 65535)
theorem beq_spec (a b : Nat) : Nat.beq a b = decide (a = b) := by
  by_cases h : a = b
  · subst h; simp
  · rw [decide_eq_false h]
    cases hb : Nat.beq a b
    · rfl
    · exact absurd (Nat.eq_of_beq_eq_true hb) h
theorem ble_cases (n m : Nat) : (Nat.ble n m = true ∧ n ≤ m) ∨ (Nat.ble n m = false ∧ m < n) := by
  cases h : Nat.ble n m
  · exact .inr ⟨rfl, Nat.lt_of_not_le fun h2 => by rw [Nat.ble_eq_true_of_le h2] at h; cases h⟩
  · exact .inl ⟨rfl, Nat.le_of_ble_eq_true h⟩
theorem dt_in {n : Nat} (h : n ≤ 255) : dt n = .in2 (dg (n / 16)) (dg (n % 16)) := by
  unfold dt; rw [Nat.ble_eq_true_of_le h]; rfl
theorem dt_out {n : Nat} (h : 255 < n) : dt n = .out := by
  unfold dt
  rcases ble_cases n 255 with ⟨_, h2⟩ | ⟨h2, _⟩
  · omega
  · rw [h2]
theorem dk_in {n : Nat} (h : n ≤ 65535) : dk n = .in4 (dg (n / 4096)) (dg (n / 256 % 16)) (dg (n / 16 % 16)) (dg (n % 16)) := by
  unfold dk; rw [Nat.ble_eq_true_of_le h]; rfl
theorem dk_out {n : Nat} (h : 65535 < n) : dk n = .out := by
  unfold dk
  rcases ble_cases n 65535 with ⟨_, h2⟩ | ⟨h2, _⟩
  · omega
  · rw [h2]
structure KTm where
  top : N16 (N16 AVal)
  over : Nat → AVal
def KTm.e : KTm := ⟨.all (.all .undef), fun _ => .undef⟩
noncomputable def KTm.get (t : KTm) (n : Nat) : AVal := Dt.rec (fun a b => (t.top.get a).get b) (t.over n) (dt n)
noncomputable def KTm.set (t : KTm) (n : Nat) (x : AVal) : KTm := Dt.rec (fun a b => ⟨t.top.set a ((t.top.get a).set b x), t.over⟩) ⟨t.top, fun k => if k = n then x else t.over k⟩ (dt n)
theorem KTm.get_set (t : KTm) (n j : Nat) (x : AVal) : (t.set n x).get j = if j = n then x else t.get j := by
  unfold KTm.set KTm.get
  rcases Nat.lt_or_ge 255 n with hn | hn
  · rw [dt_out hn]
    rcases Nat.lt_or_ge 255 j with hj | hj
    · rw [dt_out hj]
    · rw [dt_in hj, if_neg (by omega)]
  · rw [dt_in hn]
    rcases Nat.lt_or_ge 255 j with hj | hj
    · rw [dt_out hj, if_neg (by omega)]
    · rw [dt_in hj]
      simp only [N16.get_set, dg_inj (show j / 16 < 16 by omega) (show n / 16 < 16 by omega)]
      by_cases h1 : j / 16 = n / 16
      · rw [if_pos h1]
        simp only [N16.get_set, dg_inj (show j % 16 < 16 by omega) (show n % 16 < 16 by omega)]
        by_cases h2 : j % 16 = n % 16
        · rw [if_pos h2, if_pos (by omega)]
        · rw [if_neg h2, if_neg (by omega), h1]
      · rw [if_neg h1, if_neg (by omega)]
theorem KTm.get_e (n : Nat) : KTm.e.get n = .undef := by
  unfold KTm.get KTm.e
  cases dt n with
  | in2 a b => simp only [N16.get_all]
  | out => rfl
abbrev Cell := List (Nat × Option Blk)
structure KHeap where
  top : N16 (N16 (N16 (N16 Cell)))
  over : Nat → Cell
def KHeap.e : KHeap := ⟨.all (.all (.all (.all []))), fun _ => []⟩
noncomputable def KHeap.get (t : KHeap) (n : Nat) : Cell := Dk.rec (fun a b c d => (((t.top.get a).get b).get c).get d) (t.over n) (dk n)
noncomputable def KHeap.set (t : KHeap) (n : Nat) (x : Cell) : KHeap := Dk.rec (fun a b c d => ⟨t.top.set a ((t.top.get a).set b (((t.top.get a).get b).set c ((((t.top.get a).get b).get c).set d x))), t.over⟩) ⟨t.top, fun k => if k = n then x else t.over k⟩ (dk n)
theorem KHeap.get_set (t : KHeap) (n j : Nat) (x : Cell) : (t.set n x).get j = if j = n then x else t.get j := by
  unfold KHeap.set KHeap.get
  rcases Nat.lt_or_ge 65535 n with hn | hn
  · rw [dk_out hn]
    rcases Nat.lt_or_ge 65535 j with hj | hj
    · rw [dk_out hj]
    · rw [dk_in hj, if_neg (by omega)]
  · rw [dk_in hn]
    rcases Nat.lt_or_ge 65535 j with hj | hj
    · rw [dk_out hj, if_neg (by omega)]
    · rw [dk_in hj]
      simp only [N16.get_set, dg_inj (show j / 4096 < 16 by omega) (show n / 4096 < 16 by omega)]
      by_cases h1 : j / 4096 = n / 4096
      · rw [if_pos h1]
        simp only [N16.get_set, dg_inj (show j / 256 % 16 < 16 by omega) (show n / 256 % 16 < 16 by omega)]
        by_cases h2 : j / 256 % 16 = n / 256 % 16
        · rw [if_pos h2]
          simp only [N16.get_set, dg_inj (show j / 16 % 16 < 16 by omega) (show n / 16 % 16 < 16 by omega)]
          by_cases h3 : j / 16 % 16 = n / 16 % 16
          · rw [if_pos h3]
            simp only [N16.get_set, dg_inj (show j % 16 < 16 by omega) (show n % 16 < 16 by omega)]
            by_cases h4 : j % 16 = n % 16
            · rw [if_pos h4, if_pos (by omega)]
            · rw [if_neg h4, if_neg (by omega), h1, h2, h3]
          · rw [if_neg h3, if_neg (by omega), h1, h2]
        · rw [if_neg h2, if_neg (by omega), h1]
      · rw [if_neg h1, if_neg (by omega)]
theorem KHeap.get_e (n : Nat) : KHeap.e.get n = [] := by
  unfold KHeap.get KHeap.e
  cases dk n with
  | in4 a b c d => simp only [N16.get_all]
  | out => rfl
noncomputable def look (l : Cell) (s : Nat) : Option Blk := List.rec (motive := fun _ => Option Blk) none (fun p _ ih => Bool.rec (motive := fun _ => Option Blk) ih p.2 (Nat.beq p.1 s)) l
theorem look_cons (s' : Nat) (b : Option Blk) (r : Cell) (s : Nat) : look ((s', b) :: r) s = bif Nat.beq s' s then b else look r s := by
  show Bool.rec (motive := fun _ => Option Blk) (look r s) b (Nat.beq s' s) = _
  cases Nat.beq s' s <;> rfl
theorem look_nil (s : Nat) : look [] s = none := rfl
def put : List (Nat × Option Blk) → Nat → Option Blk → List (Nat × Option Blk)
  | [], s, b => [(s, b)]
  | (s', b') :: r, s, b => bif Nat.beq s' s then (s, b) :: r else (s', b') :: put r s b
theorem look_put (l : List (Nat × Option Blk)) (s j : Nat) (b : Option Blk) : look (put l s b) j = if j = s then b else look l j := by
  induction l with
  | nil =>
    simp only [put, look_cons, look_nil, beq_spec]
    by_cases h : j = s
    · subst h; simp
    · rw [if_neg h, decide_eq_false (fun e => h e.symm)]; rfl
  | cons x l ih =>
    obtain ⟨s', b'⟩ := x
    simp only [put, beq_spec]
    by_cases h : s' = s
    · subst h
      simp only [decide_true, cond_true, look_cons, beq_spec]
      by_cases h2 : j = s'
      · subst h2; simp
      · rw [if_neg h2, decide_eq_false (fun e => h2 e.symm)]; rfl
    · rw [decide_eq_false h]
      simp only [cond_false, look_cons, beq_spec, ih]
      by_cases h2 : s' = j
      · subst h2
        simp [h]
      · rw [decide_eq_false h2]
        simp
noncomputable def toHeap (kh : KHeap) : Heap := fun k => look (kh.get k.2) k.1
noncomputable def setH (kh : KHeap) (k : Key) (b : Option Blk) : KHeap := kh.set k.2 (put (kh.get k.2) k.1 b)
theorem toHeap_set (kh : KHeap) (k : Key) (b : Option Blk) : toHeap (setH kh k b) = upd (toHeap kh) k b := by
  funext j
  obtain ⟨s, c⟩ := k
  obtain ⟨s', c'⟩ := j
  simp only [toHeap, setH, upd, KHeap.get_set]
  by_cases h : c' = c
  · subst h
    rw [if_pos rfl]
    simp only [look_put]
    by_cases h2 : s' = s
    · subst h2; simp
    · rw [if_neg h2, if_neg (fun e => h2 (Prod.mk.inj e).1)]
  · rw [if_neg h, if_neg (fun e => h (Prod.mk.inj e).2)]
noncomputable def applyK (kh : KHeap) : Wr → KHeap
  | [] => kh
  | (k, b) :: ws => applyK (setH kh k b) ws
theorem toHeap_apply (kh : KHeap) (ws : Wr) : toHeap (applyK kh ws) = applyW (toHeap kh) ws := by
  induction ws generalizing kh with
  | nil => rfl
  | cons x ws ih => obtain ⟨k, b⟩ := x; simp only [applyK, applyW, ih, toHeap_set]
theorem toHeap_empty : toHeap .e = fun _ => none := by funext k; unfold toHeap; rw [KHeap.get_e]; rfl
def lendW (f : AVal → Rd (AVal × List Key)) : List AVal → Rd (List AVal × List Key)
  | [] => .ret ([], [])
  | x :: xs => (f x).bind fun r => (lendW f xs).bind fun q => .ret (r.1 :: q.1, r.2 ++ q.2)
def lendK : Nat → AVal → Rd (AVal × List Key)
  | 0, x => match x with
    | .sl .. => .fail
    | .agg _ => .fail
    | .tup _ => .fail
    | .fn .. => .fail
    | .ifc .. => .fail
    | .ptr .. => .fail
    | .mp .. => .fail
    | x => .ret (x, [])
  | d + 1, x => match x with
    | .sl k g es off len => .get k fun b => match b with
      | none => .fail
      | some b => match b.els g es off len with
        | none => .fail
        | some xs => (lendW (lendK d) xs).bind fun r => .ret (.slc es r.1, k :: r.2)
    | .agg xs => (lendW (lendK d) xs).bind fun r => .ret (.agg r.1, r.2)
    | .tup xs => (lendW (lendK d) xs).bind fun r => .ret (.tup r.1, r.2)
    | .fn f first cap => (lendW (lendK d) first).bind fun r => (lendW (lendK d) cap).bind fun q => .ret (.fn f r.1 q.1, r.2 ++ q.2)
    | .ifc t v => (lendK d v).bind fun r => .ret (.ifc t r.1, r.2)
    | .ptr k g i es off => .get k fun b => match b with
      | some (.var cells) => if g = 0 then (lendW (lendK d) cells).bind fun r => .ret (.pvo r.1 (i * es + off), k :: r.2) else .fail
      | _ => .fail
    | .mp .. => .fail
    | x => .ret (x, [])
theorem lendW_lend (d : Nat) : lendW (lend d) = lendL d := by
  funext xs
  induction xs with
  | nil => rw [lendL]; rfl
  | cons x xs ih => rw [lendL, lendW, ih]
theorem lendK_eq (d : Nat) : lendK d = lend d := by
  induction d with
  | zero => funext x; cases x <;> (rw [lend]; rfl) <;> simp [lendK, lend]
  | succ d ih =>
    funext x
    cases x <;> simp only [lendK, lend, ih, lendW_lend] <;> rfl
theorem lendLK_eq (d : Nat) (xs : List AVal) : lendW (lendK d) xs = lendL d xs := by rw [lendK_eq, lendW_lend]
def callRK (F : List AVal → Option AVal) (args : List AVal) : Rd Outp :=
  (lendW (lendK freeze) args).bind fun r => match F r.1 with
    | some v => .ret (v, if hasRef v then r.2.map (fun k => (k, none)) else [])
    | none => .fail
theorem callRK_eq : callRK = callR := by funext F args; unfold callRK callR; rw [lendLK_eq]; rfl
def callNRK (key : Key) (F : List AVal → Option (Option (Nat × List AVal))) (args : List AVal) : Rd Outp :=
  (lendW (lendK freeze) args).bind fun r => match F r.1 with
    | some (some p) => if p.1 = 0 then
        match entsOf 0 p.2 with
        | some es => if r.2.isEmpty = true then .ret (.mp key, [(key, some (.obj (.map es p.2.length)))]) else .fail
        | none => .fail
      else if hasRefL p.2 = false then .ret (.sl key 0 p.1 0 p.2.length, [(key, some (.row 0 p.1 p.2))]) else .fail
    | some none => .ret (.nils, [])
    | none => .fail
theorem callNRK_eq : callNRK = callNR := by funext key F args; unfold callNRK callNR; rw [lendLK_eq]; rfl
def appRK (es bytes : Nat) (key : Key) (x y : AVal) : Rd Outp :=
  (elemsR es y).bind fun new0 => (lendW (lendK freeze) new0).bind fun r =>
  let new := r.1
  let gone : Wr := r.2.map fun k => (k, none)
  match x with
  | .nils => if new.isEmpty then .ret (.nils, gone) else
      if new.length * bytes ≤ 140737488355328 then .ret (.sl key 0 es 0 new.length, gone ++ [(key, some (.row 0 es new))]) else .fail
  | .emp => if new.isEmpty then .ret (.emp, gone) else
      if new.length * bytes ≤ 140737488355328 then .ret (.sl key 0 es 0 new.length, gone ++ [(key, some (.row 0 es new))]) else .fail
  | .sl k g es' off len => if es' = es ∧ r.2.contains k = false then .get k fun b => match b with
      | some (.row g' es'' elems) =>
        if g = g' ∧ es'' = es ∧ off + len = elems.length ∧ (len + new.length) * bytes ≤ 140737488355328 ∧ new.all (fun e => (cellsOf e).all isSc) = true then
          .ret (.sl k (g + 1) es 0 (len + new.length), gone ++ [(k, some (.row (g + 1) es (elems.drop off ++ new)))])
        else .fail
      | _ => .fail
    else .fail
  | _ => .fail
theorem appRK_eq : appRK = appR := by
  funext es bytes key x y
  unfold appRK appR
  refine congrArg _ (funext fun new0 => ?_)
  rw [lendLK_eq]
  rfl
def rdOfK (C : Cfg) (key : Key) (op : XOp) (e : XArg → AVal) : Rd Outp ⊕ (FuncId × List AVal) :=
  match op with
  | .call f as0 => match target (e f) (as0.map e) with
    | some (g, vs) => match C.Γ g with
      | some F => .inl (callRK F vs)
      | none => .inr (g, vs)
    | none => .inl .fail
  | .callN f as0 => match target (e f) (as0.map e) with
    | some (g, vs) => match C.Γn g with
      | some F => .inl (callNRK key F vs)
      | none => .inl .fail
    | none => .inl .fail
  | .callM f as0 => match target (e f) (as0.map e) with
    | some (g, vs) => match C.Γm g with
      | some F => .inl (callMR key F vs)
      | none => .inl .fail
    | none => .inl .fail
  | .callA f as0 => match target (e f) (as0.map e) with
    | some (g, vs) => match C.Γa g with
      | some q => .inl (q vs)
      | none => .inl .fail
    | none => .inl .fail
  | .inv m x as0 => match e x with
    | .ifc t v => match C.μ t m with
      | some g => match C.Γ g with
        | some F => .inl (callRK F (v :: as0.map e))
        | none => .inr (g, v :: as0.map e)
      | none => .inl .fail
    | _ => .inl .fail
  | .app es bytes x y => .inl (appRK es bytes key (e x) (e y))
  | op => .inl (opR key op e)
theorem rdOfK_eq (C : Cfg) (key : Key) (op : XOp) (e : XArg → AVal) : rdOfK C key op e = rdOf C key op e := by
  cases op <;> simp only [rdOfK, rdOf, callRK_eq, callNRK_eq, appRK_eq, opR] <;> rfl
structure KSt where
  tm : KTm
  hp : KHeap
  nc : Nat
noncomputable def KSt.tmf (s : KSt) : Nat → AVal := s.tm.get
noncomputable def KSt.st (s : KSt) : St := ⟨s.tmf, toHeap s.hp, s.nc⟩
abbrev InlK := FuncId → List AVal → KHeap → Nat → Option (AVal × KHeap × Nat)
noncomputable def runPK (inl : InlK) (p : Rd Outp ⊕ (FuncId × List AVal)) (h : KHeap) (nc : Nat) : Option (AVal × KHeap × Nat) :=
  match p with
  | .inl r => match r.run (toHeap h) with
    | some r => some (r.1, applyK h r.2, nc)
    | none => none
  | .inr (g, vs) => inl g vs h nc
noncomputable def putK (t : KTm) (d : Option Nat) (v : AVal) : KTm :=
  match d with
  | some d => t.set d v
  | none => t
noncomputable def progK (C : Cfg) (key : Key) (o : XOper) (tm : Nat → AVal) : Option (Rd Outp ⊕ (FuncId × List AVal)) :=
  match goes tm o.g with
  | none => none
  | some b => some (if b then rdOfK C key o.op (arg tm) else .inl (.ret (.undef, [])))
theorem progK_eq (C : Cfg) (key : Key) (o : XOper) (tm : Nat → AVal) : progK C key o tm = progO C key o tm := by
  unfold progK progO; simp only [rdOfK_eq]; rfl
inductive ClP where
  | p (f : (XArg → AVal) → Option AVal)
  | h (f : Key → (XArg → AVal) → KHeap → Option (AVal × KHeap))
  | c (f : XArg) (xs : List XArg)
  | g
noncomputable def takeVK (agg : Bool) (n off : Nat) (cs : List AVal) : Option AVal :=
  bif agg then (bif Nat.ble (off + n) (lenR cs) then some (.agg (takeR n (dropR off cs))) else none) else nthR cs off
theorem ble_dec (a b : Nat) : Nat.ble a b = decide (a ≤ b) := by
  rcases ble_cases a b with ⟨h, h2⟩ | ⟨h, h2⟩
  · rw [h, decide_eq_true h2]
  · rw [h, decide_eq_false (by omega)]
theorem takeVK_eq (agg : Bool) (n off : Nat) (cs : List AVal) : takeVK agg n off cs = takeV agg n off cs := by
  unfold takeVK takeV
  rw [lenR_eq, nthR_eq, takeR_eq, dropR_eq, ble_dec]
  cases agg
  · rfl
  · by_cases h : off + n ≤ cs.length <;> simp [h]
noncomputable def loadK (agg : Bool) (n : Nat) (hp : KHeap) : AVal → Option AVal
  | .ptr k g i es off => match look (hp.get k.2) k.1 with
    | some (.var cells) => bif Nat.beq g 0 then takeVK agg n off (dropR (i * es) cells) else none
    | some (.row g' es' elems) => bif Nat.beq g g' && Nat.beq es es' then match nthR elems i with
        | some x => takeVK agg n off (cellsOf x)
        | none => none
      else none
    | _ => none
  | .pvo cs off => takeVK agg n off cs
  | _ => none
noncomputable def storeK (n : Nat) (hp : KHeap) : AVal → AVal → Option KHeap
  | .ptr k g i es off, y => bif Nat.beq (lenR (cellsOf y)) n && allR isSc (cellsOf y) then
      match look (hp.get k.2) k.1 with
      | some (.var cells) => bif Nat.beq g 0 && Nat.ble (i * es + off + n) (lenR cells) then some (setH hp k (some (.var (ovl cells (i * es + off) (cellsOf y))))) else none
      | some (.row g' es' elems) => bif Nat.beq g g' && Nat.beq es es' then match nthR elems i with
          | some e => bif Nat.ble (off + n) (lenR (cellsOf e)) then some (setH hp k (some (.row g' es' (ovl elems i [remake e (ovl (cellsOf e) off (cellsOf y))])))) else none
          | none => none
        else none
      | _ => none
    else none
  | _, _ => none
noncomputable def pop : XOp → ClP
  | .mv x => .p fun e => some (e x)
  | .pick c a b => .p fun e => match e c with
    | .bool t => some (bif t then e a else e b)
    | _ => none
  | .bin op x y => .p fun e => binA op (e x) (e y)
  | .eqB neg x y => .p fun e => match e x, e y with
    | .bool a, .bool b => some (.bool (if neg then !(a == b) else a == b))
    | _, _ => none
  | .eqN neg kd x => .p fun e => match nilA kd (e x) with
    | some b => some (.bool (if neg then !b else b))
    | none => none
  | .un op x => .p fun e => unA op (e x)
  | .conv k x => .p fun e => match e x with
    | .int _ n => some (.int k (k.wrap n))
    | _ => none
  | .fa off x => .p fun e => faA off (e x)
  | .fld agg n off x => .p fun e => match e x with
    | .agg cs => takeVK agg n off cs
    | _ => none
  | .iaA n es x i => .p fun e => iaAA n es (e x) (e i)
  | .iaS es x i => .p fun e => iaSA es (e x) (e i)
  | .ixA agg n es x i => .p fun e => ixAA agg n es (e x) (e i)
  | .ixS x i => .p fun e => ixSA (e x) (e i)
  | .lenS x => .p fun e => match e x with
    | .str s => some (.int .i64 s.size)
    | _ => none
  | .lenV x => .p fun e => lenVA (e x)
  | .ext x i => .p fun e => match e x with
    | .tup xs => nthR xs i
    | _ => none
  | .mkf f first cap => .p fun e => some (.fn f (mapR e first) (mapR e cap))
  | .mki t x => .p fun e => some (.ifc t (e x))
  | .alloc cells => .h fun key e hp => some (.ptr key 0 0 0 0, setH hp key (some (.var cells)))
  | .load agg n x => .h fun key e hp => match loadK agg n hp (e x) with
    | some v => some (v, hp)
    | none => none
  | .store n x y => .h fun key e hp => match storeK n hp (e x) (e y) with
    | some hp' => some (.undef, hp')
    | none => none
  | .call f xs => .c f xs
  | _ => .g
theorem pop_ok (C : Cfg) (key : Key) {op : XOp} {f : (XArg → AVal) → Option AVal} (h : pop op = .p f) (e : XArg → AVal) {v : AVal} (hv : f e = some v) : rdOf C key op e = .inl (.ret (v, [])) := by
  cases op <;> simp only [pop, ClP.p.injEq, reduceCtorEq] at h <;> subst h <;> simp only [rdOf, opR] <;> simp only [takeVK_eq, nthR_eq, mapR_eq] at hv
  all_goals first
    | (rw [hv]; rfl)
    | (obtain rfl := Option.some.inj hv; rfl)
    | (split at hv <;> simp_all [Rd.ofO, Rd.bind] <;> done)
    | (split at hv <;> simp_all [Rd.ofO, Rd.bind] <;> (rw [← hv]; rename_i t _; cases t <;> rfl))
theorem loadK_ok {agg : Bool} {n : Nat} {hp : KHeap} {x v : AVal} (h : loadK agg n hp x = some v) : (loadR agg n x).run (toHeap hp) = some v := by
  unfold loadK at h
  split at h
  · rename_i k g i es off
    simp only [loadR, Rd.run]
    change (match toHeap hp k with | some (.var cells) => _ | some (.row g' es' elems) => _ | _ => none) = _ at h
    split at h
    · rename_i cells hk
      rw [hk]
      rw [beq_spec, Bool.cond_eq_ite] at h
      split at h
      · rename_i hg
        simp only [decide_eq_true_eq] at hg
        simp only [Blk.cs]
        rw [if_pos hg, Option.bind_some, ← dropR_eq, ← takeVK_eq, h]
        rfl
      · cases h
    · rename_i g' es' elems hk
      rw [hk]
      rw [beq_spec, beq_spec, Bool.cond_eq_ite] at h
      split at h
      · rename_i hg
        simp only [Bool.and_eq_true, decide_eq_true_eq] at hg
        simp only [Blk.cs]
        rw [if_pos hg, ← nthR_eq]
        cases hn : nthR elems i with
        | none => rw [hn] at h; cases h
        | some x =>
          rw [hn] at h
          simp only at h
          rw [Option.map_some, Option.bind_some, ← takeVK_eq, h]
          rfl
      · cases h
    · cases h
  · simp only [loadR]; rw [← takeVK_eq, h]; rfl
  · cases h
theorem storeK_ok {n : Nat} {hp hp' : KHeap} {x y : AVal} (h : storeK n hp x y = some hp') : ∃ ws, (storeR n x y).run (toHeap hp) = some (.undef, ws) ∧ toHeap hp' = applyW (toHeap hp) ws := by
  unfold storeK at h
  split at h
  · rename_i k g i es off
    rw [Bool.cond_eq_ite] at h
    split at h
    · rename_i hc
      rw [Bool.and_eq_true, beq_spec, decide_eq_true_eq, lenR_eq, allR_eq] at hc
      change (match toHeap hp k with | some (.var cells) => _ | some (.row g' es' elems) => _ | _ => none) = _ at h
      simp only [storeR]
      rw [if_pos hc]
      simp only [Rd.run]
      split at h
      · rename_i cells hk
        rw [Bool.cond_eq_ite] at h
        split at h
        · rename_i hg
          rw [Bool.and_eq_true, beq_spec, decide_eq_true_eq, lenR_eq] at hg
          have hg2 := Nat.le_of_ble_eq_true hg.2
          rw [hk]
          simp only
          rw [if_pos ⟨hg.1, hg2⟩]
          obtain rfl := Option.some.inj h
          refine ⟨_, rfl, ?_⟩
          rw [toHeap_set, ovl_eq _ _ _ (by rw [hc.1]; exact hg2)]
          rfl
        · cases h
      · rename_i g' es' elems hk
        rw [hk]
        rw [beq_spec, beq_spec, Bool.cond_eq_ite] at h
        split at h
        · rename_i hg
          simp only [Bool.and_eq_true, decide_eq_true_eq] at hg
          simp only
          rw [if_pos hg, ← nthR_eq]
          cases hn : nthR elems i with
          | none => rw [hn] at h; cases h
          | some e =>
            rw [hn] at h
            simp only at h ⊢
            rw [Bool.cond_eq_ite] at h
            split at h
            · rename_i hle
              rw [lenR_eq] at hle
              have hle := Nat.le_of_ble_eq_true hle
              obtain rfl := Option.some.inj h
              rw [if_pos hle]
              have hi : i < elems.length := by
                rw [nthR_eq] at hn
                exact (List.getElem?_eq_some_iff.1 hn).1
              refine ⟨_, rfl, ?_⟩
              rw [toHeap_set, ovl_eq (cellsOf e) off _ (by rw [hc.1]; exact hle), ovl_eq elems i _ (by simp; omega), List.set_eq_take_append_cons_drop, if_pos hi]
              rfl
            · cases h
        · cases h
      · cases h
    · cases h
  · cases h
theorem pop_h (C : Cfg) {key : Key} {op : XOp} {f : Key → (XArg → AVal) → KHeap → Option (AVal × KHeap)} (h : pop op = .h f) {e : XArg → AVal} {hp hp' : KHeap} {v : AVal} (hv : f key e hp = some (v, hp')) :
    ∃ rd ws, rdOf C key op e = .inl rd ∧ rd.run (toHeap hp) = some (v, ws) ∧ toHeap hp' = applyW (toHeap hp) ws := by
  cases op <;> simp only [pop, ClP.h.injEq, reduceCtorEq] at h <;> subst h <;> simp only [rdOf, opR] <;> simp only at hv
  · simp only [Option.some.injEq, Prod.mk.injEq] at hv
    obtain ⟨rfl, rfl⟩ := hv
    exact ⟨_, _, rfl, rfl, by rw [toHeap_set]; rfl⟩
  · rename_i agg n x
    cases hl : loadK agg n hp (e x) with
    | none => rw [hl] at hv; cases hv
    | some u =>
      rw [hl] at hv
      simp only [Option.some.injEq, Prod.mk.injEq] at hv
      obtain ⟨rfl, rfl⟩ := hv
      refine ⟨_, [], rfl, ?_, rfl⟩
      rw [Rd.run_bind, loadK_ok hl]
      rfl
  · rename_i n x y
    cases hl : storeK n hp (e x) (e y) with
    | none => rw [hl] at hv; cases hv
    | some u =>
      rw [hl] at hv
      simp only [Option.some.injEq, Prod.mk.injEq] at hv
      obtain ⟨rfl, rfl⟩ := hv
      obtain ⟨ws, h1, h2⟩ := storeK_ok hl
      exact ⟨_, ws, rfl, h1, h2⟩
theorem pop_c {op : XOp} {f : XArg} {xs : List XArg} (h : pop op = .c f xs) : op = .call f xs := by
  cases op <;> simp only [pop, ClP.c.injEq, reduceCtorEq] at h
  obtain ⟨rfl, rfl⟩ := h
  rfl
noncomputable def callK (C : Cfg) (inl : InlK) (f : AVal) (xs : List AVal) (hp : KHeap) (nc : Nat) : Option (AVal × KHeap × Nat) :=
  match target f xs with
  | some (g, vs) => match C.Γ g with
    | some F => match (callRK F vs).run (toHeap hp) with
      | some r => some (r.1, applyK hp r.2, nc)
      | none => none
    | none => inl g vs hp nc
  | none => none
theorem callK_eq (C : Cfg) (inl : InlK) (key : Key) (f : XArg) (xs : List XArg) (e : XArg → AVal) (hp : KHeap) (nc : Nat) : callK C inl (e f) (xs.map e) hp nc = runPK inl (rdOf C key (.call f xs) e) hp nc := by
  unfold callK
  simp only [rdOf]
  cases target (e f) (xs.map e) with
  | none => rfl
  | some q =>
    obtain ⟨g, vs⟩ := q
    simp only
    cases C.Γ g with
    | none => rfl
    | some F => simp only [runPK, callRK_eq]
noncomputable def stepK (C : Cfg) (inl : InlK) (key : Key) (o : XOper) (s : KSt) : Option KSt :=
  match goes s.tmf o.g with
  | none => none
  | some b => bif b then
      match pop o.op with
      | .p f => match f (arg s.tmf) with
        | some v => some ⟨putK s.tm o.dst v, s.hp, s.nc⟩
        | none => none
      | .h f => match f key (arg s.tmf) s.hp with
        | some r => some ⟨putK s.tm o.dst r.1, r.2, s.nc⟩
        | none => none
      | .c f xs => match callK C inl (arg s.tmf f) (mapR (arg s.tmf) xs) s.hp s.nc with
        | some r => some ⟨putK s.tm o.dst r.1, r.2.1, r.2.2⟩
        | none => none
      | .g => match runPK inl (rdOfK C key o.op (arg s.tmf)) s.hp s.nc with
        | some r => some ⟨putK s.tm o.dst r.1, r.2.1, r.2.2⟩
        | none => none
    else some ⟨putK s.tm o.dst .undef, s.hp, s.nc⟩
def InlKOk (inlK : InlK) (inl : Inl) : Prop := ∀ f as0 kh nc v kh' nc', inlK f as0 kh nc = some (v, kh', nc') → inl f as0 (toHeap kh) nc = some (v, toHeap kh', nc')
section
variable {C : Cfg} {inlK : InlK} {inl : Inl}
theorem runPK_ok (hi : InlKOk inlK inl) {p : Rd Outp ⊕ (FuncId × List AVal)} {h : KHeap} {nc : Nat} {v : AVal} {h' : KHeap} {nc' : Nat} (hr : runPK inlK p h nc = some (v, h', nc')) : runP inl p (toHeap h) nc = some (v, toHeap h', nc') := by
  cases p with
  | inl r =>
    simp only [runPK] at hr
    simp only [runP]
    cases hq : r.run (toHeap h) with
    | none => rw [hq] at hr; cases hr
    | some q =>
      rw [hq] at hr
      simp only [Option.some.injEq, Prod.mk.injEq] at hr
      obtain ⟨rfl, rfl, rfl⟩ := hr
      simp only [Option.map_some, toHeap_apply]
  | inr q => exact hi _ _ _ _ _ _ _ hr
theorem putK_ok (s : KSt) (d : Option Nat) (v : AVal) (h : KHeap) (nc : Nat) : (KSt.mk (putK s.tm d v) h nc).st = ⟨putO s.tmf d v, toHeap h, nc⟩ := by
  unfold KSt.st
  congr 1
  funext m
  cases d with
  | none => rfl
  | some d =>
    simp only [KSt.tmf, putK, putO, updT, KTm.get_set]
theorem stepK_ok (hi : InlKOk inlK inl) {key : Key} {o : XOper} {s s' : KSt} (h : stepK C inlK key o s = some s') : stepO C inl key o s.st = some s'.st := by
  unfold stepK at h
  unfold stepO progO
  change (match (match goes s.tmf o.g with | none => none | some b => some (if b = true then rdOf C key o.op (arg s.tmf) else Sum.inl (Rd.ret (AVal.undef, [])))) with | none => none | some p => _) = _
  cases hg : goes s.tmf o.g with
  | none => rw [hg] at h; cases h
  | some b =>
    rw [hg] at h
    cases b with
    | false =>
      simp only [cond_false, Option.some.injEq] at h
      subst h
      rw [putK_ok]
      rfl
    | true =>
      simp only [cond_true] at h
      simp only [if_true]
      cases hp : pop o.op with
      | p f =>
        rw [hp] at h
        simp only at h
        cases hv : f (arg s.tmf) with
        | none => rw [hv] at h; cases h
        | some v =>
          rw [hv] at h
          simp only [Option.some.injEq] at h
          subst h
          rw [putK_ok, pop_ok C key hp _ hv]
          rfl
      | h f =>
        rw [hp] at h
        simp only at h
        cases hv : f key (arg s.tmf) s.hp with
        | none => rw [hv] at h; cases h
        | some r =>
          obtain ⟨v, h'⟩ := r
          rw [hv] at h
          simp only [Option.some.injEq] at h
          subst h
          obtain ⟨rd, ws, h1, h2, h3⟩ := pop_h C hp hv
          rw [putK_ok, h1, h3]
          simp only [runP]
          change (((rd.run (toHeap s.hp)).map _).map _) = _
          rw [h2]
          rfl
      | c f xs =>
        rw [hp] at h
        simp only at h
        rw [mapR_eq, callK_eq C inlK key, ← pop_c hp] at h
        cases hr : runPK inlK (rdOf C key o.op (arg s.tmf)) s.hp s.nc with
        | none => rw [hr] at h; cases h
        | some r =>
          obtain ⟨v, h', nc'⟩ := r
          rw [hr] at h
          simp only [Option.some.injEq] at h
          subst h
          have := runPK_ok hi hr
          change (runP inl _ (toHeap s.hp) s.nc).map _ = _
          rw [this, putK_ok]
          rfl
      | g =>
        rw [hp, rdOfK_eq] at h
        simp only at h
        cases hr : runPK inlK (rdOf C key o.op (arg s.tmf)) s.hp s.nc with
        | none => rw [hr] at h; cases h
        | some r =>
          obtain ⟨v, h', nc'⟩ := r
          rw [hr] at h
          simp only [Option.some.injEq] at h
          subst h
          have := runPK_ok hi hr
          change (runP inl _ (toHeap s.hp) s.nc).map _ = _
          rw [this, putK_ok]
          rfl
noncomputable def runOpsK (C : Cfg) (inl : InlK) (fid rid c : Nat) : Nat → List XOper → KSt → Option KSt
  | _, [], st => some st
  | i, o :: os, st => match stepK C inl (site fid rid i, c) o st with
    | some st' => runOpsK C inl fid rid c (i + 1) os st'
    | none => none
theorem runOpsK_ok (hi : InlKOk inlK inl) {fid rid c i : Nat} {os : List XOper} {s s' : KSt} (h : runOpsK C inlK fid rid c i os s = some s') : runOps C inl fid rid c i os s.st = some s'.st := by
  induction os generalizing i s with
  | nil => simp only [runOpsK, Option.some.injEq] at h; subst h; rfl
  | cons o os ih =>
    simp only [runOpsK] at h
    simp only [runOps]
    cases hs : stepK C inlK (site fid rid i, c) o s with
    | none => rw [hs] at h; cases h
    | some s1 => rw [hs] at h; rw [stepK_ok hi hs, Option.bind_some]; exact ih h
mutual
def avEq : AVal → AVal → Bool
  | .bool a, .bool b => a == b
  | .int k a, .int k' b => decide (k = k') && decide (a = b)
  | .str a, .str b => a.data.toList == b.data.toList
  | .agg a, .agg b => avEqL a b
  | .nilp, .nilp => true
  | .nils, .nils => true
  | .emp, .emp => true
  | .nili, .nili => true
  | .nilf, .nilf => true
  | .undef, .undef => true
  | .ptr k g i es o, .ptr k' g' i' es' o' => decide (k = k') && (decide (g = g') && (decide (i = i') && (decide (es = es') && decide (o = o'))))
  | .sl k g es o l, .sl k' g' es' o' l' => decide (k = k') && (decide (g = g') && (decide (es = es') && (decide (o = o') && decide (l = l'))))
  | .slc es a, .slc es' b => decide (es = es') && avEqL a b
  | .ifc t a, .ifc t' b => decide (t = t') && avEq a b
  | .mp k, .mp k' => decide (k = k')
  | _, _ => false
def avEqL : List AVal → List AVal → Bool
  | [], [] => true
  | x :: xs, y :: ys => avEq x y && avEqL xs ys
  | _, _ => false
end
mutual
theorem avEq_ok : ∀ (a b : AVal), avEq a b = true → a = b
  | .bool a, b, h => by cases b <;> simp_all [avEq]
  | .int k a, b, h => by cases b <;> simp_all [avEq]
  | .str a, b, h => by
    cases b <;> simp [avEq] at h
    rename_i b
    cases a; cases b; simp at h; rename_i a b; cases a; cases b; simp at h; subst h; rfl
  | .agg a, b, h => by
    cases b <;> simp [avEq] at h
    rw [avEqL_ok _ _ h]
  | .slc es a, b, h => by
    cases b <;> simp [avEq] at h
    rw [avEqL_ok _ _ h.2, h.1]
  | .ifc t a, b, h => by
    cases b <;> simp [avEq] at h
    rw [avEq_ok _ _ h.2, h.1]
  | .nilp, b, h => by cases b <;> simp_all [avEq]
  | .nils, b, h => by cases b <;> simp_all [avEq]
  | .emp, b, h => by cases b <;> simp_all [avEq]
  | .nili, b, h => by cases b <;> simp_all [avEq]
  | .nilf, b, h => by cases b <;> simp_all [avEq]
  | .undef, b, h => by cases b <;> simp_all [avEq]
  | .ptr .., b, h => by cases b <;> simp_all [avEq]
  | .sl .., b, h => by cases b <;> simp_all [avEq]
  | .mp .., b, h => by cases b <;> simp_all [avEq]
  | .any, b, h => by cases b <;> simp [avEq] at h
  | .tup .., b, h => by cases b <;> simp [avEq] at h
  | .pvo .., b, h => by cases b <;> simp [avEq] at h
  | .fn .., b, h => by cases b <;> simp [avEq] at h
theorem avEqL_ok : ∀ (a b : List AVal), avEqL a b = true → a = b
  | [], b, h => by cases b <;> simp_all [avEqL]
  | x :: xs, b, h => by
    cases b with
    | nil => simp [avEqL] at h
    | cons y ys =>
      simp [avEqL] at h
      rw [avEq_ok _ _ h.1, avEqL_ok _ _ h.2]
end
def blkEq : Option Blk → Option Blk → Bool
  | none, none => true
  | some (.var a), some (.var b) => avEqL a b
  | some (.row g es a), some (.row g' es' b) => decide (g = g') && (decide (es = es') && avEqL a b)
  | _, _ => false
theorem blkEq_ok {a b : Option Blk} (h : blkEq a b = true) : a = b := by
  match a, b with
  | none, none => rfl
  | some (.var a), some (.var b) => rw [avEqL_ok _ _ h]
  | some (.row g es a), some (.row g' es' b) => simp [blkEq] at h; rw [avEqL_ok _ _ h.2.2, h.1, h.2.1]
  | none, some (.var b) => simp [blkEq] at h
  | none, some (.row ..) => simp [blkEq] at h
  | none, some (.obj b) => simp [blkEq] at h
  | some (.var b), none => simp [blkEq] at h
  | some (.row ..), none => simp [blkEq] at h
  | some (.obj b), none => simp [blkEq] at h
  | some (.var b), some (.row ..) => simp [blkEq] at h
  | some (.var b), some (.obj ..) => simp [blkEq] at h
  | some (.row ..), some (.var ..) => simp [blkEq] at h
  | some (.row ..), some (.obj ..) => simp [blkEq] at h
  | some (.obj ..), some (.var ..) => simp [blkEq] at h
  | some (.obj ..), some (.row ..) => simp [blkEq] at h
  | some (.obj ..), some (.obj ..) => simp [blkEq] at h
inductive RdsK where
  | kn (l : List Key)
  | cl (a b : KHeap)
abbrev FootK := RdsK × List Key
noncomputable def toFoot (f : FootK) : Foot := (match f.1 with
  | .kn l => .kn l
  | .cl a b => .cl fun k => toHeap b k = toHeap a k, f.2)
noncomputable def footPK (p : Rd Outp ⊕ (FuncId × List AVal)) (h h' : KHeap) : FootK :=
  match p with
  | .inl r => (.kn (r.reads (toHeap h)), match r.run (toHeap h) with | some r => r.2.map (·.1) | none => [])
  | .inr _ => (.cl h h', [])
noncomputable def footK (C : Cfg) (key : Key) (o : XOper) (s : KSt) (h' : KHeap) : FootK :=
  match progK C key o s.tmf with
  | some p => footPK p s.hp h'
  | none => (.kn [], [])
theorem footK_eq (C : Cfg) (key : Key) (o : XOper) (s : KSt) (h' : KHeap) : foot C key o s.st (toHeap h') = toFoot (footK C key o s h') := by
  unfold foot footK
  rw [progK_eq]
  change (match progO C key o s.tmf with | some p => _ | none => _) = _
  cases progO C key o s.tmf with
  | none => rfl
  | some p => cases p <;> rfl
noncomputable def runOpsFK (C : Cfg) (inl : InlK) (fid rid c : Nat) : Nat → List XOper → KSt → Option (KSt × List FootK)
  | _, [], st => some (st, [])
  | i, o :: os, st => match stepK C inl (site fid rid i, c) o st with
    | some st' => match runOpsFK C inl fid rid c (i + 1) os st' with
      | some r => some (r.1, footK C (site fid rid i, c) o st st'.hp :: r.2)
      | none => none
    | none => none
theorem runOpsFK_ok (hi : InlKOk inlK inl) {fid rid c i : Nat} {os : List XOper} {s s' : KSt} {fs : List FootK} (h : runOpsFK C inlK fid rid c i os s = some (s', fs)) : runOpsF C inl fid rid c i os s.st = some (s'.st, fs.map toFoot) := by
  induction os generalizing i s fs with
  | nil => simp only [runOpsFK, Option.some.injEq, Prod.mk.injEq] at h; obtain ⟨rfl, rfl⟩ := h; rfl
  | cons o os ih =>
    simp only [runOpsFK] at h
    simp only [runOpsF]
    cases hs : stepK C inlK (site fid rid i, c) o s with
    | none => rw [hs] at h; cases h
    | some s1 =>
      rw [hs] at h
      simp only at h
      rw [stepK_ok hi hs, Option.bind_some]
      cases hr : runOpsFK C inlK fid rid c (i + 1) os s1 with
      | none => rw [hr] at h; cases h
      | some r =>
        obtain ⟨s2, fs2⟩ := r
        rw [hr] at h
        simp only [Option.some.injEq, Prod.mk.injEq] at h
        obtain ⟨rfl, rfl⟩ := h
        rw [ih hr]
        simp only [Option.map_some, List.map_cons]
        rw [← footK_eq]
        rfl
noncomputable def apartK (x y : FootK) : Bool :=
  match x.1, y.1 with
  | .kn rx, .kn ry => disj x.2 (ry ++ y.2) && disj y.2 rx
  | .cl a b, .kn ry => y.2.isEmpty && ry.all fun k => blkEq (toHeap b k) (toHeap a k)
  | .kn rx, .cl a b => x.2.isEmpty && rx.all fun k => blkEq (toHeap b k) (toHeap a k)
  | .cl .., .cl .. => false
theorem apartK_ok {x y : FootK} (h : apartK x y = true) : apartF (toFoot x) (toFoot y) = true := by
  obtain ⟨x1, x2⟩ := x
  obtain ⟨y1, y2⟩ := y
  unfold apartF
  cases x1 <;> cases y1
  · exact h
  · simp only [apartK, Bool.and_eq_true] at h
    simp only [toFoot, Bool.and_eq_true, decide_eq_true_eq]
    exact ⟨h.1, fun k hk => blkEq_ok (List.all_eq_true.1 h.2 k hk)⟩
  · simp only [apartK, Bool.and_eq_true] at h
    simp only [toFoot, Bool.and_eq_true, decide_eq_true_eq]
    exact ⟨h.1, fun k hk => blkEq_ok (List.all_eq_true.1 h.2 k hk)⟩
  · cases h
noncomputable def hotK (fs : List FootK) (hot : List (Nat × Nat)) : Bool :=
  hot.all fun p => match fs[p.1]?, fs[p.2]? with
    | some x, some y => apartK x y
    | _, _ => false
theorem hotK_ok {fs : List FootK} {hot : List (Nat × Nat)} (h : hotK fs hot = true) : hotOk (fs.map toFoot) hot = true := by
  unfold hotOk
  refine List.all_eq_true.2 fun p hp => ?_
  have := List.all_eq_true.1 h p hp
  rw [List.getElem?_map, List.getElem?_map]
  cases h1 : fs[p.1]? with
  | none => rw [h1] at this; cases this
  | some x =>
    cases h2 : fs[p.2]? with
    | none => rw [h1, h2] at this; cases this
    | some y => rw [h1, h2] at this; exact apartK_ok this
noncomputable def runRegK (C : Cfg) (inl : InlK) (fid rid : Nat) (ops : List XOper) (draw : Option XDraw) (s : KSt) : Option KSt :=
  match draw with
  | none => runOpsK C inl fid rid s.nc 0 ops ⟨s.tm, s.hp, s.nc + 1⟩
  | some d => match d.hot with
    | [] => runOpsK C inl fid rid s.nc 0 ops ⟨s.tm, s.hp, s.nc + 1⟩
    | hot => match runOpsFK C inl fid rid s.nc 0 ops ⟨s.tm, s.hp, s.nc + 1⟩ with
      | some (st', fs) => if hotK fs hot = true then some st' else none
      | none => none
theorem runRegK_ok (hi : InlKOk inlK inl) {fid rid : Nat} {ops : List XOper} {draw : Option XDraw} {s s' : KSt} (h : runRegK C inlK fid rid ops draw s = some s') : runReg C inl fid rid ops draw s.st = some s'.st := by
  unfold runRegK at h
  unfold runReg
  match draw, h with
  | none, h => exact runOpsK_ok hi h
  | some ⟨[]⟩, h => exact runOpsK_ok hi h
  | some ⟨p :: ps⟩, h =>
    simp only at h ⊢
    cases hr : runOpsFK C inlK fid rid s.nc 0 ops ⟨s.tm, s.hp, s.nc + 1⟩ with
    | none => rw [hr] at h; cases h
    | some r =>
      obtain ⟨s1, fs⟩ := r
      rw [hr] at h
      simp only at h
      have := runOpsFK_ok hi hr
      change (match runOpsF C inl fid rid s.nc 0 ops (KSt.mk s.tm s.hp (s.nc + 1)).st with | some (st', fs) => _ | none => _) = _
      rw [this]
      simp only
      by_cases hh : hotK fs (p :: ps) = true
      · rw [if_pos hh] at h
        rw [if_pos (hotK_ok hh)]
        rw [Option.some.inj h]
      · rw [if_neg hh] at h; cases h
abbrev ResK := Option (Out × KSt)
def iterK : Nat → (KSt → ResK) → KSt → ResK
  | 0, _, _ => none
  | n + 1, f, s => match f s with
    | some (.nrm, s') => iterK n f s'
    | r => r
theorem iterK_ok {f : KSt → ResK} {g : St → Res} (hf : ∀ s o s', f s = some (o, s') → g s.st = some (o, s'.st)) {n m : Nat} (hn : n ≤ m) {s s' : KSt} {o : Out} (h : iterK n f s = some (o, s')) : iterN m g s.st = some (o, s'.st) := by
  induction n generalizing m s with
  | zero => cases h
  | succ n ih =>
    obtain ⟨m, rfl⟩ : ∃ k, m = k + 1 := ⟨m - 1, by omega⟩
    simp only [iterK] at h
    simp only [iterN]
    cases hs : f s with
    | none => rw [hs] at h; cases h
    | some r =>
      obtain ⟨o1, s1⟩ := r
      rw [hs] at h
      rw [hf _ _ _ hs]
      cases o1 with
      | nrm => exact ih (by omega) h
      | ext i => simp only [Option.some.injEq, Prod.mk.injEq] at h ⊢; obtain ⟨rfl, rfl⟩ := h; exact ⟨rfl, rfl⟩
      | ret => simp only [Option.some.injEq, Prod.mk.injEq] at h ⊢; obtain ⟨rfl, rfl⟩ := h; exact ⟨rfl, rfl⟩
noncomputable def execK (C : Cfg) (inl : InlK) (fid : Nat) : XCode → KSt → ResK
  | .skip, s => some (.nrm, s)
  | .reg id ops draw, s => match runRegK C inl fid id ops draw s with
    | some s' => some (.nrm, s')
    | none => none
  | .seq a b, s => match execK C inl fid a s with
    | some (.nrm, s') => execK C inl fid b s'
    | r => r
  | .cond c a b, s => match arg s.tmf c with
    | .bool t => bif t then execK C inl fid a s else execK C inl fid b s
    | _ => none
  | .block id c, s => match execK C inl fid c s with
    | some (.ext i, s') => if i = id then some (.nrm, s') else some (.ext i, s')
    | r => r
  | .loop c, s => iterK 100000 (fun s => execK C inl fid c s) s
  | .scope c, s => execK C inl fid c s
  | .exit id, s => some (.ext id, s)
  | .ret, s => some (.ret, s)
  | .bad, _ => none
theorem execK_ok (hi : InlKOk inlK inl) {fid : Nat} {c : XCode} {s s' : KSt} {o : Out} (h : execK C inlK fid c s = some (o, s')) : execC C inl fid c s.st = some (o, s'.st) := by
  induction c generalizing s s' o with
  | skip => simp only [execK, Option.some.injEq, Prod.mk.injEq] at h; obtain ⟨rfl, rfl⟩ := h; rfl
  | exit i => simp only [execK, Option.some.injEq, Prod.mk.injEq] at h; obtain ⟨rfl, rfl⟩ := h; rfl
  | ret => simp only [execK, Option.some.injEq, Prod.mk.injEq] at h; obtain ⟨rfl, rfl⟩ := h; rfl
  | bad => cases h
  | reg id ops draw =>
    simp only [execK] at h
    cases hr : runRegK C inlK fid id ops draw s with
    | none => rw [hr] at h; cases h
    | some s1 =>
      rw [hr] at h
      simp only [Option.some.injEq, Prod.mk.injEq] at h
      obtain ⟨rfl, rfl⟩ := h
      rw [execC, runRegK_ok hi hr]
      rfl
  | seq a b iha ihb =>
    simp only [execK] at h
    rw [execC]
    cases ha : execK C inlK fid a s with
    | none => rw [ha] at h; cases h
    | some r =>
      obtain ⟨o1, s1⟩ := r
      rw [ha] at h
      rw [iha ha]
      cases o1 with
      | nrm => exact ihb h
      | ext i => simp only [Option.some.injEq, Prod.mk.injEq] at h ⊢; obtain ⟨rfl, rfl⟩ := h; exact ⟨rfl, rfl⟩
      | ret => simp only [Option.some.injEq, Prod.mk.injEq] at h ⊢; obtain ⟨rfl, rfl⟩ := h; exact ⟨rfl, rfl⟩
  | cond c a b iha ihb =>
    simp only [execK] at h
    rw [execC]
    change (match arg s.tmf c with | .bool t => _ | _ => _) = _
    cases hc : arg s.tmf c with
    | bool t =>
      rw [hc] at h
      cases t with
      | true => exact iha h
      | false => exact ihb h
    | _ => rw [hc] at h; cases h
  | block id c ih =>
    simp only [execK] at h
    rw [execC]
    cases hc : execK C inlK fid c s with
    | none => rw [hc] at h; cases h
    | some r =>
      obtain ⟨o1, s1⟩ := r
      rw [hc] at h
      rw [ih hc]
      cases o1 with
      | nrm => simp only [Option.some.injEq, Prod.mk.injEq] at h ⊢; obtain ⟨rfl, rfl⟩ := h; exact ⟨rfl, rfl⟩
      | ret => simp only [Option.some.injEq, Prod.mk.injEq] at h ⊢; obtain ⟨rfl, rfl⟩ := h; exact ⟨rfl, rfl⟩
      | ext i =>
        simp only at h ⊢
        by_cases e : i = id
        · rw [if_pos e] at h ⊢; simp only [Option.some.injEq, Prod.mk.injEq] at h ⊢; obtain ⟨rfl, rfl⟩ := h; exact ⟨rfl, rfl⟩
        · rw [if_neg e] at h ⊢; simp only [Option.some.injEq, Prod.mk.injEq] at h ⊢; obtain ⟨rfl, rfl⟩ := h; exact ⟨rfl, rfl⟩
  | loop c ih =>
    simp only [execK] at h
    rw [execC]
    exact iterK_ok (fun s o s' => ih) (by decide) h
  | scope c ih => simp only [execK] at h; rw [execC]; exact ih h
end
noncomputable def inK : List AVal → Nat → KTm → KTm
  | [], _, t => t
  | v :: vs, i, t => inK vs (i + 1) (t.set i v)
theorem inK_get (vs : List AVal) (i : Nat) (t : KTm) (m : Nat) : (inK vs i t).get m = if i ≤ m then (vs[m - i]?).getD (t.get m) else t.get m := by
  induction vs generalizing i t with
  | nil => simp [inK]
  | cons v vs ih =>
    rw [inK, ih, KTm.get_set]
    by_cases h : i ≤ m
    · rw [if_pos h]
      by_cases h2 : m = i
      · subst h2; rw [if_neg (by omega), if_pos rfl]; simp
      · rw [if_pos (by omega), if_neg h2, show m - i = (m - (i + 1)) + 1 by omega, List.getElem?_cons_succ]
    · rw [if_neg h, if_neg (by omega), if_neg (by omega)]
theorem inK_tm0 (vs : List AVal) : (inK vs 0 .e).get = tm0 vs := by
  funext m
  rw [inK_get, if_pos (Nat.zero_le _), KTm.get_e]
  rfl
noncomputable def execFK (C : Cfg) (inl : InlK) (fid : Nat) (x : XFunc) (args : List AVal) (h : KHeap) (nc : Nat) : Option (AVal × KHeap × Nat) :=
  if args.length = x.np then
    match execK C inl fid x.body ⟨inK args 0 .e, h, nc⟩ with
    | some (.nrm, s) => match resL s.st x.res with
      | some vs => some (one vs, s.hp, s.nc)
      | none => none
    | some (.ret, s) => match resL s.st x.res with
      | some vs => some (one vs, s.hp, s.nc)
      | none => none
    | _ => none
  else none
theorem execFK_ok {C : Cfg} {inlK : InlK} {inl : Inl} (hi : InlKOk inlK inl) (fid : Nat) (x : XFunc) : InlKOk (fun _ as0 h nc => execFK C inlK fid x as0 h nc) (fun _ as0 h nc => execF C inl fid x as0 h nc) := by
  intro f as0 kh nc v kh' nc' h
  simp only [execFK] at h
  simp only [execF]
  by_cases hl : as0.length = x.np
  · rw [if_pos hl] at h ⊢
    rw [show St.mk (tm0 as0) (toHeap kh) nc = (KSt.mk (inK as0 0 .e) kh nc).st by unfold KSt.st KSt.tmf; rw [inK_tm0]]
    change (match execC C inl fid x.body (KSt.mk (inK as0 0 .e) kh nc).st with | some (.nrm, st) => _ | some (.ret, st) => _ | _ => _) = _
    cases he : execK C inlK fid x.body ⟨inK as0 0 .e, kh, nc⟩ with
    | none => rw [he] at h; cases h
    | some r =>
      obtain ⟨o, s⟩ := r
      rw [he] at h
      rw [execK_ok hi he]
      cases o with
      | ext i => cases h
      | nrm =>
        simp only at h ⊢
        cases hr : resL s.st x.res with
        | none => rw [hr] at h; cases h
        | some vs => rw [hr] at h; simp only [Option.some.injEq, Prod.mk.injEq] at h; obtain ⟨rfl, rfl, rfl⟩ := h; rfl
      | ret =>
        simp only at h ⊢
        cases hr : resL s.st x.res with
        | none => rw [hr] at h; cases h
        | some vs => rw [hr] at h; simp only [Option.some.injEq, Prod.mk.injEq] at h; obtain ⟨rfl, rfl, rfl⟩ := h; rfl
  · rw [if_neg hl] at h; cases h
noncomputable def inlDK (C : Cfg) : Nat → InlK
  | 0 => fun _ _ _ _ => none
  | d + 1 => fun f as0 h nc => match C.xf f with
    | some x => execFK C (inlDK C d) f x as0 h nc
    | none => none
theorem inlDK_ok (C : Cfg) (d : Nat) : InlKOk (inlDK C d) (inlD C d) := by
  induction d with
  | zero => intro f as0 kh nc v kh' nc' h; cases h
  | succ d ih =>
    intro f as0 kh nc v kh' nc' h
    simp only [inlDK] at h
    simp only [inlD]
    cases hx : C.xf f with
    | none => rw [hx] at h; cases h
    | some x => rw [hx] at h; exact execFK_ok ih f x f _ _ _ _ _ _ h
noncomputable def pureK (C : Cfg) (d : Nat) (f : FuncId) (as0 : List AVal) : Option AVal :=
  match inlDK C d f as0 .e 0 with
  | some (v, h, _) => match (lendK freeze v).run (toHeap h) with
    | some r => some r.1
    | none => none
  | none => none
theorem pureK_ok {C : Cfg} {d : Nat} {f : FuncId} {as0 : List AVal} {v : AVal} (h : pureK C d f as0 = some v) : pureF C d f as0 = some v := by
  unfold pureK at h
  unfold pureF
  cases hr : inlDK C d f as0 .e 0 with
  | none => rw [hr] at h; cases h
  | some r =>
    obtain ⟨w, kh, nc⟩ := r
    rw [hr] at h
    have := inlDK_ok C d _ _ _ _ _ _ _ hr
    rw [toHeap_empty] at this
    rw [this]
    simp only at h ⊢
    rw [← lendK_eq]
    cases hq : (lendK freeze w).run (toHeap kh) with
    | none => rw [hq] at h; cases h
    | some q => rw [hq] at h; rw [Option.some.inj h.symm]; rfl
end Go.Xec
namespace Go.Xec
open Go
def mapO {α β : Type} (f : α → Option β) : List α → Option (List β)
  | [] => some []
  | x :: xs => match f x with
    | some y => match mapO f xs with
      | some ys => some (y :: ys)
      | none => none
    | none => none
def gS (v : Value) : Option AVal :=
  match v with
  | .bool b => some (.bool b)
  | .int k n => some (.int k n)
  | .string s => some (.str s)
  | .pointer none => some .nilp
  | .slice none 0 0 => some .nils
  | .nilIface => some .nili
  | .nilFunc => some .nilf
  | .map none => some .any
  | _ => none
def gV (v : Value) : Option AVal :=
  match v with
  | .agg cs => (mapO gS cs.toList).map .agg
  | v => gS v
def gA : Operand → Option XArg
  | .tmp t => some (.t t)
  | .const v => (gV v).map .c
  | .func f => some (.c (.fn (.func f) [] []))
  | _ => none
def gAs (a : Array Operand) : Option (List XArg) := mapO gA a.toList
def gO : Option Operand → Option (Option XArg)
  | none => some none
  | some v => (gA v).map some
section
variable (P : Program)
def gZs (t : TypeId) : Option (List AVal) := (zeroOf P t).bind fun z => mapO gS z.cells.toList
def gZ (t : TypeId) : Option AVal := (zeroOf P t).bind fun z => (mapO gS z.cells.toList).bind fun cs => match z, cs with
  | .agg _, cs => some (.agg cs)
  | _, [x] => some x
  | _, _ => none
def gKd (t : TypeId) : Option Nat := match P.underlying t with
  | some (.int _) => some 0
  | some .bool => some 1
  | some .string => some 2
  | some (.struct fs) => some (fs.size + 3)
  | _ => none
def gCall (cn cm ca : List FuncId) (c : Call) : Option XOp :=
  match c.callee with
  | .value f => match gA f, gAs c.args with
    | some x, some as0 => some (match f with
      | .func g => if cn.contains g then .callN x as0 else if cm.contains g then .callM x as0 else if ca.contains g then .callA x as0 else .call x as0
      | _ => .call x as0)
    | _, _ => none
  | .invoke r m => match gA r, gAs c.args with
    | some x, some as0 => some (.inv m x as0)
    | _, _ => none
  | .builtin b => match gAs c.args, c.argTypes[0]? with
    | some as0, some t => match b, P.underlying t, as0 with
      | .len, some .string, [x] => some (.lenS x)
      | .len, some (.slice _), [x] => some (.lenV x)
      | .len, some (.array m _), _ => some (.mv (.c (.int .i64 m)))
      | .append, some (.slice e), [x, y] => (szOf P e).bind fun s => (byOf P e).map fun b => .app s b x y
      | .copy, some (.slice e), [x, y] => (szOf P e).map fun s => .cpy s x y
      | .max, _, x :: xs => some (.mnx true x xs)
      | .min, _, x :: xs => some (.mnx false x xs)
      | .delete, some (.map k _), [x, y] => (gKd P k).map fun k => .mdel k x y
      | _, _, _ => none
    | _, _ => none
def gOp (cn cm ca : List FuncId) (op : Op) : Option XOp :=
  match op with
  | .move x => (gA x).map .mv
  | .assign x => (gA x).map .mv
  | .pick c a b => (gA c).bind fun c => (gA a).bind fun a => (gA b).map fun b => .pick c a b
  | .alloc t => (gZs P t).map .alloc
  | .box _ x => (gA x).map .box
  | .build t parts => (gZs P t).bind fun z => match P.underlying t with
    | some (.struct fs) => (mapO (fun p => (fs[p.1]?).bind fun f => (szOf P f.type).bind fun n => (gA p.2).map fun x => (f.offset, n, x)) parts.toList).map fun ps => .build z ps
    | some (.array _ e) => (szOf P e).bind fun s => (mapO (fun p => (gA p.2).map fun x => (p.1 * s, s, x)) parts.toList).map fun ps => .build z ps
    | _ => none
  | .buildSlice t len parts => match P.underlying t with
    | some (.slice e) => (szOf P e).bind fun es => (gZ P e).bind fun z => (mapO (fun p => (gA p.2).map fun x => (p.1, x)) parts.toList).map fun ps => .mkslice es z len ps
    | _ => none
  | .load t x => (aggOf P t).bind fun a => (szOf P t).bind fun s => (gA x).map fun x => .load a s x
  | .store t x y => (szOf P t).bind fun s => (gA x).bind fun x => (gA y).map fun y => .store s x y
  | .binOp op t x y _ => (gA x).bind fun x' => (gA y).bind fun y' =>
    match (match op with | .neq => some true | .eql => some false | _ => none) with
    | none => some (.bin op x' y')
    | some neg => match P.underlying t with
      | some .bool => some (.eqB neg x' y')
      | some (.slice _) => some (.eqN neg 0 x')
      | some (.interface _) => match y with
        | .const .nilIface => some (.eqN neg 1 x')
        | _ => none
      | some (.pointer _) => match y with
        | .const (.pointer none) => some (.eqN neg 2 x')
        | _ => none
      | some (.struct _) => (kinds P 20 t).map fun ks => .eqA neg ks x' y'
      | some (.array _ _) => none
      | _ => some (.bin op x' y')
  | .nilCheck x => (gA x).map .nilChk
  | .unOp op _ x => (gA x).map fun x => .un op x
  | .convert s d x => (gA x).bind fun x => match P.underlying s, P.underlying d with
    | some .string, some .string => some (.idS x)
    | some (.slice u), some .string => match P.underlying u with
      | some (.int .u8) => some (.b2s x)
      | _ => none
    | some (.int _), some (.int k) => some (.conv k x)
    | _, _ => none
  | .fieldAddr s x f => match P.underlying s with
    | some (.struct fs) => (fs[f]?).bind fun fd => (gA x).map fun x => .fa fd.offset x
    | _ => none
  | .field s x f => match P.underlying s with
    | some (.struct fs) => (fs[f]?).bind fun fd => (aggOf P fd.type).bind fun a => (szOf P fd.type).bind fun n => (gA x).map fun x => .fld a n fd.offset x
    | _ => none
  | .indexAddr t x i => (gA x).bind fun x => (gA i).bind fun i => match P.underlying t with
    | some (.array n e) => (szOf P e).map fun s => .iaA n s x i
    | some (.slice e) => (szOf P e).map fun s => .iaS s x i
    | _ => none
  | .index t x i => (gA x).bind fun x => (gA i).bind fun i => match P.underlying t with
    | some (.array n e) => (aggOf P e).bind fun a => (szOf P e).map fun s => .ixA a n s x i
    | some .string => some (.ixS x i)
    | _ => none
  | .makeSlice t l c => match P.underlying t with
    | some (.slice e) => (szOf P e).bind fun s => (byOf P e).bind fun b => (gZ P e).bind fun z => (gA l).bind fun l => (gA c).map fun c => .mkS s b z l c
    | _ => none
  | .slice t x lo hi mx => (gA x).bind fun x => (gO lo).bind fun lo => (gO hi).bind fun hi => (gO mx).bind fun mx => match P.underlying t with
    | some .string => some (.slS x lo hi)
    | some (.slice e) => (szOf P e).map fun s => .slV s x lo hi mx
    | some (.array n e) => (szOf P e).map fun s => .slA n s x lo hi
    | _ => none
  | .extract x i => (gA x).map fun x => .ext x i
  | .makeFunc f first cap => (gAs first).bind fun a => (gAs cap).map fun b => .mkf f a b
  | .makeInterface t x => (gA x).map fun x => .mki t x
  | .call c => gCall P cn cm ca c
  | .range t x => match P.underlying t with
    | some .string => (gA x).map .rngS
    | _ => none
  | .next x true => (gA x).map .nxtS
  | .lookup t x i c => match P.underlying t with
    | some (.map k e) => (gKd P k).bind fun k => (gZ P e).bind fun z => (gA x).bind fun x => (gA i).map fun i => .lkp k c z x i
    | _ => none
  | .mapUpdate t x i v => match P.underlying t with
    | some (.map k _) => (gKd P k).bind fun k => (gA x).bind fun x => (gA i).bind fun i => (gA v).map fun v => .mset k x i v
    | _ => none
  | .insert t x i v => match P.underlying t with
    | some (.map k _) => (gKd P k).bind fun k => (gA x).bind fun x => (gA i).bind fun i => (gA v).map fun v => .mset k x i v
    | _ => none
  | .mapEntry t x i => match P.underlying t with
    | some (.map k e) => (gKd P k).bind fun k => (gZ P e).bind fun z => (gA x).bind fun x => (gA i).map fun i => .ment k z x i
    | _ => none
  | .entryStore _ x i v => (gA x).bind fun x => (gA i).bind fun i => (gA v).map fun v => .msto x i v
  | .makeMap _ none => some .mkM
  | .typeAssert x _ t true => match P.underlying t with
    | some (.interface _) => none
    | _ => (gZ P t).bind fun z => (gA x).map fun x => .tas t z x
  | _ => none
def gHot (ops : List Oper) (xs : List XOper) : List (Nat × Nat) :=
  let bef := befC [] ops
  (List.range xs.length).flatMap fun j => (List.range j).filterMap fun i =>
    if (bef[j]?.getD []).contains i then none else match xs[i]?, xs[j]? with
      | some x, some y => if isPure x.op || isPure y.op || (isLook x.op && isLook y.op) then none else some (i, j)
      | _, _ => none
def gCode (cn cm ca : List FuncId) : Code → XCode
  | .skip => .skip
  | .label _ => .skip
  | .region id ops draw =>
    let xs := ops.toList.map fun o => ({ dst := o.dst, g := o.guard.bind fun g => ((ops[g.1]?).bind (·.dst)).map fun s => (s, g.2), op := (gOp P cn cm ca o.op).getD .bad } : XOper)
    .reg id xs (if draw then some ⟨gHot ops.toList xs⟩ else none)
  | .seq a b => .seq (gCode cn cm ca a) (gCode cn cm ca b)
  | .cond c a b => match gA c with
    | some c => .cond c (gCode cn cm ca a) (gCode cn cm ca b)
    | none => .bad
  | .block id a => .block id (gCode cn cm ca a)
  | .loop a => .loop (gCode cn cm ca a)
  | .scope a => .scope (gCode cn cm ca a)
  | .exit id => .exit id
  | .ret => .ret
  | _ => .bad
def gRes : ResultVar → Option XRes
  | .tmp t => some (.tmp t)
  | .cell a t => (aggOf P t).bind fun g => (szOf P t).map fun s => .cell a g s
def gF (cn cm ca : List FuncId) (fn : Func) : Option XFunc := match fn.body with
  | some c => (mapO (gRes P) fn.results.toList).map fun r => ⟨fn.ntmps, fn.params.size + fn.nfree, r, gCode P cn cm ca c⟩
  | none => none
end
end Go.Xec
namespace Go.Proofs.YtkonpbcnekcjjaaGreatDoor
open Go Go.Xec
def idsK : List Nat := [8, 9, 15, 16, 17, 23, 24, 39, 40, 41, 42, 43, 49, 51, 52, 55, 59, 60, 65, 68, 69, 71, 72, 73, 74, 77, 78, 79, 84, 85, 86, 96, 97, 100, 101, 102, 103, 104, 112, 113, 122, 123, 124, 125, 126, 127, 128, 131, 132, 133, 134, 135, 136, 137, 138, 139, 140, 141, 142, 155, 158, 159, 160, 169, 170, 171, 172, 173, 174, 175, 176, 196, 203, 204, 205, 206, 207, 208, 209, 210, 212, 214, 215, 216, 217, 218, 238, 239, 240, 241, 242, 243, 244, 245, 246, 247, 248, 249, 250, 252, 254, 255, 256, 257, 258, 259, 287, 288, 289, 290, 291, 296, 298, 334, 385, 386, 387, 388, 404, 406, 408, 409, 410, 411, 412, 413, 414, 415, 416, 417, 418, 420, 421, 422, 423, 424, 425]
noncomputable def xfK (g : FuncId) : Option XFunc := if idsK.contains g then (Tryz.prog.funcs[g]?).bind (gF Tryz.prog [188, 419] [177] []) else none
theorem chkK : (idsK.all fun g => match Tryz.prog.funcs[g]? with
  | some fn => match gF Tryz.prog [188, 419] [177] [] fn with
    | some x => chkF Tryz.prog fn x
    | none => true
  | none => true) = true := by kernel_rfl
set_option maxRecDepth 100000 in
theorem xfK_ok (g : FuncId) (x : XFunc) (h : xfK g = some x) : ∃ fn, Tryz.prog.funcs[g]? = some fn ∧ chkF Tryz.prog fn x = true := by
  unfold xfK at h
  split at h
  · rename_i hg
    have := List.all_eq_true.1 chkK g (by simpa using hg)
    cases hf : Tryz.prog.funcs[g]? with
    | none => rw [hf] at h; cases h
    | some fn =>
      rw [hf] at h this
      change gF Tryz.prog [188, 419] [177] [] fn = some x at h
      change (match gF Tryz.prog [188, 419] [177] [] fn with | some x => chkF Tryz.prog fn x | none => true) = true at this
      rw [h] at this
      exact ⟨fn, rfl, this⟩
  · cases h
end Go.Proofs.YtkonpbcnekcjjaaGreatDoor
namespace Go.Proofs
open Go.Shelf
def Tryz.lays169_ren : Go.Shelf.Ren := ⟨fun | 169 => 76 | n => n, fun | 70 => 148 | 9 => 9 | 0 => 0 | 72 => 151 | 37 => 149 | 127 => 208 | 3 => 3 | 5 => 5 | n => n, fun | n => n⟩
theorem Tryz.lays169 : Go.Proofs.Lays.n169 Tryz.prog Tryz.lays169_ren := {
  mixed := by kernel_rfl
  f169 := Tryz.func76.trans (congrArg some (by kernel_rfl))
  t0 := Tryz.underlying0
  a0 := Tryz.isAgg0
  z0 := Tryz.sizeOf0
  v0 := Tryz.zeroValue0
  t3 := Tryz.underlying3
  a3 := Tryz.isAgg3
  z3 := Tryz.sizeOf3
  v3 := Tryz.zeroValue3
  t9 := Tryz.underlying9
  a9 := Tryz.isAgg9
  z9 := Tryz.sizeOf9
  v9 := Tryz.zeroValue9
  t37 := Tryz.underlying149
  a37 := Tryz.isAgg149
  z37 := Tryz.sizeOf149
  v37 := Tryz.zeroValue149
  t70 := Tryz.underlying148
  a70 := Tryz.isAgg148
  z70 := Tryz.sizeOf148
  v70 := Tryz.zeroValue148
  t72 := Tryz.underlying151
  a72 := Tryz.isAgg151
  z72 := Tryz.sizeOf151
  v72 := Tryz.zeroValue151
  t127 := Tryz.underlying208
  a127 := Tryz.isAgg208
  z127 := Tryz.sizeOf208
  v127 := Tryz.zeroValue208 }
theorem Tryz.Builder_Extra_169 : Builder.Extra Tryz.prog Tryz.lays169_ren := {
  sizeBuilder := by kernel_rfl
  liesBuilder := by kernel_rfl
  t5 := Tryz.underlying5
  a5 := Tryz.isAgg5
  z5 := Tryz.sizeOf5
  v5 := Tryz.zeroValue5
  infoByte := by kernel_rfl
  cellsByte := by kernel_rfl
  sizeByte := by kernel_rfl
  neB5 := by decide }
def Tryz.lays137_ren : Go.Shelf.Ren := ⟨fun | 137 => 253 | 217 => 297 | 266 => 336 | n => n, fun | 9 => 9 | 5 => 5 | 3 => 3 | n => n, fun | n => n⟩
theorem Tryz.lays137 : Go.Proofs.Lays.n137 Tryz.prog Tryz.lays137_ren := {
  mixed := by kernel_rfl
  f137 := Tryz.func253.trans (congrArg some (by kernel_rfl))
  f217 := Tryz.func297.trans (congrArg some (by kernel_rfl))
  f266 := Tryz.func336.trans (congrArg some (by kernel_rfl))
  t3 := Tryz.underlying3
  a3 := Tryz.isAgg3
  z3 := Tryz.sizeOf3
  v3 := Tryz.zeroValue3
  t5 := Tryz.underlying5
  a5 := Tryz.isAgg5
  z5 := Tryz.sizeOf5
  v5 := Tryz.zeroValue5
  t9 := Tryz.underlying9
  a9 := Tryz.isAgg9
  z9 := Tryz.sizeOf9
  v9 := Tryz.zeroValue9 }
open Go.RowKit in

theorem Tryz.strings_IndexByte (s : ByteArray) (c : Int) (w : World) :
    Calls Tryz.prog 253 #[.string s, .int .u8 c] w fun e w' => e = .returned (.int .i64 (Lib.indexByte s.data.toList c.toNat.toUInt8)) ∧ w' = w := Any.strings_IndexByte Tryz.lays137 s c w
open Go.RowKit in

theorem Tryz.Builder_String_any_k (B b : Nat) (l : List UInt8) (w : World) (h : Lib.IsBuilderF 151 5 B b (Lib.byteCells l) w) (hBw : B ≤ w.heap.size) :
    Calls Tryz.prog 76 #[.pointer (some ⟨b, 0, none⟩)] w fun e w' => e = .returned (.string ⟨l.toArray⟩) ∧ (Lib.IsBuilderF 151 5 B b (Lib.byteCells l) w' ∧ Below B w w' ∧ Lib.OthersKept 5 (some b) w w') := Any.Builder_String_any_k Tryz.lays169 Tryz.Builder_Extra_169 B b l w h hBw
def Tryz.laysM171_ren : Go.Shelf.Ren := ⟨fun | 171 => 75 | 243 => 99 | 246 => 130 | 283 => 161 | 284 => 162 | 285 => 163 | 286 => 164 | 129 => 85 | 317 => 193 | 318 => 194 | 319 => 195 | 320 => 196 | 337 => 232 | 338 => 233 | n => n, fun | 3 => 3 | 9 => 9 | 2 => 2 | 4 => 4 | 171 => 291 | 0 => 0 | 53 => 24 | 37 => 149 | 5 => 5 | 173 => 293 | 212 => 361 | 51 => 184 | 20 => 20 | 213 => 362 | 46 => 172 | 232 => 434 | 233 => 435 | n => n, fun | 17 => 3 | 18 => 4 | 19 => 5 | n => n⟩
theorem Tryz.laysM171 : Go.Proofs.LaysM.n171 Tryz.prog Tryz.laysM171_ren := {
  mixed := by kernel_rfl
  f129 := Tryz.func85.trans (congrArg some (by kernel_rfl))
  f171 := Tryz.func75.trans (congrArg some (by kernel_rfl))
  f243 := Tryz.func99.trans (congrArg some (by kernel_rfl))
  f246 := Tryz.func130.trans (congrArg some (by kernel_rfl))
  f283 := Tryz.func161.trans (congrArg some (by kernel_rfl))
  f284 := Tryz.func162.trans (congrArg some (by kernel_rfl))
  f285 := Tryz.func163.trans (congrArg some (by kernel_rfl))
  f286 := Tryz.func164.trans (congrArg some (by kernel_rfl))
  f317 := Tryz.func193.trans (congrArg some (by kernel_rfl))
  f318 := Tryz.func194.trans (congrArg some (by kernel_rfl))
  f319 := Tryz.func195.trans (congrArg some (by kernel_rfl))
  f320 := Tryz.func196.trans (congrArg some (by kernel_rfl))
  f337 := Tryz.func232.trans (congrArg some (by kernel_rfl))
  f338 := Tryz.func233.trans (congrArg some (by kernel_rfl))
  t0 := Tryz.underlying0
  a0 := Tryz.isAgg0
  z0 := Tryz.sizeOf0
  v0 := Tryz.zeroValue0
  t2 := Tryz.underlying2
  a2 := Tryz.isAgg2
  z2 := Tryz.sizeOf2
  v2 := Tryz.zeroValue2
  t3 := Tryz.underlying3
  a3 := Tryz.isAgg3
  z3 := Tryz.sizeOf3
  v3 := Tryz.zeroValue3
  t4 := Tryz.underlying4
  a4 := Tryz.isAgg4
  z4 := Tryz.sizeOf4
  v4 := Tryz.zeroValue4
  t5 := Tryz.underlying5
  a5 := Tryz.isAgg5
  z5 := Tryz.sizeOf5
  v5 := Tryz.zeroValue5
  t9 := Tryz.underlying9
  a9 := Tryz.isAgg9
  z9 := Tryz.sizeOf9
  v9 := Tryz.zeroValue9
  t20 := Tryz.underlying20
  a20 := Tryz.isAgg20
  z20 := Tryz.sizeOf20
  v20 := Tryz.zeroValue20
  t37 := Tryz.underlying149
  a37 := Tryz.isAgg149
  z37 := Tryz.sizeOf149
  v37 := Tryz.zeroValue149
  t46 := Tryz.underlying172
  a46 := Tryz.isAgg172
  z46 := Tryz.sizeOf172
  v46 := Tryz.zeroValue172
  t51 := Tryz.underlying184
  a51 := Tryz.isAgg184
  z51 := Tryz.sizeOf184
  v51 := Tryz.zeroValue184
  t53 := Tryz.underlying24
  a53 := Tryz.isAgg24
  z53 := Tryz.sizeOf24
  v53 := Tryz.zeroValue24
  t171 := Tryz.underlying291
  a171 := Tryz.isAgg291
  z171 := Tryz.sizeOf291
  v171 := Tryz.zeroValue291
  t173 := Tryz.underlying293
  a173 := Tryz.isAgg293
  z173 := Tryz.sizeOf293
  v173 := Tryz.zeroValue293
  t212 := Tryz.underlying361
  a212 := Tryz.isAgg361
  z212 := Tryz.sizeOf361
  v212 := Tryz.zeroValue361
  t213 := Tryz.underlying362
  a213 := Tryz.isAgg362
  z213 := Tryz.sizeOf362
  t232 := Tryz.underlying434
  a232 := Tryz.isAgg434
  z232 := Tryz.sizeOf434
  v232 := Tryz.zeroValue434
  t233 := Tryz.underlying435
  a233 := Tryz.isAgg435
  z233 := Tryz.sizeOf435
  v233 := Tryz.zeroValue435
  g17 := by kernel_rfl
  g18 := by kernel_rfl
  g19 := by kernel_rfl
  i0 := by kernel_rfl
  i2 := by kernel_rfl
  i3 := by kernel_rfl
  i4 := by kernel_rfl
  i5 := by kernel_rfl
  i9 := by kernel_rfl
  i20 := by kernel_rfl
  i37 := by kernel_rfl
  i46 := by kernel_rfl
  i51 := by kernel_rfl
  i53 := by kernel_rfl
  i171 := by kernel_rfl
  i173 := by kernel_rfl
  i212 := by kernel_rfl
  i232 := by kernel_rfl
  i233 := by kernel_rfl
  m17 := by kernel_rfl
  m18 := by kernel_rfl
  m19 := by kernel_rfl }
open Go.RowKit Go.Sort Go.Lib in

theorem Tryz.strconv_Itoa (n : Int) (h0 : -9223372036854775808 ≤ n) (h1 : n ≤ 9223372036854775807) (w : World) (htab : Lib.TabIs Tryz.prog w "internal/strconv.uint64pow10" .u64 Lib.pow10Tab) :
    Calls Tryz.prog 75 #[.int .i64 n] w fun e w' => e = .returned (.string ⟨(Lib.itoa n).toArray⟩) ∧ ∃ k os, w' = grow (w.drewN k) os := Any.strconv_Itoa Tryz.laysM171 n h0 h1 w htab
def Tryz.laysC172_ren : Go.Shelf.Ren := ⟨fun | 172 => 272 | 244 => 324 | 245 => 325 | 247 => 353 | 279 => 354 | 280 => 355 | 281 => 356 | 282 => 357 | 287 => 362 | 316 => 363 | 171 => 75 | 205 => 364 | 321 => 366 | 322 => 367 | 243 => 99 | 246 => 130 | 283 => 161 | 284 => 162 | 285 => 163 | 286 => 164 | 129 => 85 | 317 => 193 | 318 => 194 | 319 => 195 | 320 => 196 | 337 => 232 | 338 => 233 | n => n, fun | 9 => 9 | 3 => 3 | 75 => 153 | 76 => 154 | 4 => 4 | 5 => 5 | 167 => 480 | 37 => 149 | 0 => 0 | 85 => 481 | 2 => 2 | 168 => 483 | 53 => 24 | 175 => 495 | 46 => 172 | 210 => 498 | 127 => 208 | 145 => 504 | 143 => 502 | 21 => 21 | 171 => 291 | 173 => 293 | 212 => 361 | 51 => 184 | 20 => 20 | 213 => 362 | 232 => 434 | 233 => 435 | 80 => 167 | n => n, fun | 15 => 9 | 16 => 10 | 17 => 3 | 18 => 4 | 19 => 5 | n => n⟩
theorem Tryz.laysC172 : Go.Proofs.LaysC.n172 Tryz.prog Tryz.laysC172_ren := {
  mixed := by kernel_rfl
  f129 := Tryz.func85.trans (congrArg some (by kernel_rfl))
  f171 := Tryz.func75.trans (congrArg some (by kernel_rfl))
  f172 := Tryz.func272.trans (congrArg some (by kernel_rfl))
  f205 := Tryz.func364.trans (congrArg some (by kernel_rfl))
  f243 := Tryz.func99.trans (congrArg some (by kernel_rfl))
  f244 := Tryz.func324.trans (congrArg some (by kernel_rfl))
  f245 := Tryz.func325.trans (congrArg some (by kernel_rfl))
  f246 := Tryz.func130.trans (congrArg some (by kernel_rfl))
  f247 := Tryz.func353.trans (congrArg some (by kernel_rfl))
  f279 := Tryz.func354.trans (congrArg some (by kernel_rfl))
  f280 := Tryz.func355.trans (congrArg some (by kernel_rfl))
  f281 := Tryz.func356.trans (congrArg some (by kernel_rfl))
  f282 := Tryz.func357.trans (congrArg some (by kernel_rfl))
  f283 := Tryz.func161.trans (congrArg some (by kernel_rfl))
  f284 := Tryz.func162.trans (congrArg some (by kernel_rfl))
  f285 := Tryz.func163.trans (congrArg some (by kernel_rfl))
  f286 := Tryz.func164.trans (congrArg some (by kernel_rfl))
  f287 := Tryz.func362.trans (congrArg some (by kernel_rfl))
  f316 := Tryz.func363.trans (congrArg some (by kernel_rfl))
  f317 := Tryz.func193.trans (congrArg some (by kernel_rfl))
  f318 := Tryz.func194.trans (congrArg some (by kernel_rfl))
  f319 := Tryz.func195.trans (congrArg some (by kernel_rfl))
  f320 := Tryz.func196.trans (congrArg some (by kernel_rfl))
  f321 := Tryz.func366.trans (congrArg some (by kernel_rfl))
  f322 := Tryz.func367.trans (congrArg some (by kernel_rfl))
  f337 := Tryz.func232.trans (congrArg some (by kernel_rfl))
  f338 := Tryz.func233.trans (congrArg some (by kernel_rfl))
  t0 := Tryz.underlying0
  a0 := Tryz.isAgg0
  z0 := Tryz.sizeOf0
  v0 := Tryz.zeroValue0
  t2 := Tryz.underlying2
  a2 := Tryz.isAgg2
  z2 := Tryz.sizeOf2
  v2 := Tryz.zeroValue2
  t3 := Tryz.underlying3
  a3 := Tryz.isAgg3
  z3 := Tryz.sizeOf3
  v3 := Tryz.zeroValue3
  t4 := Tryz.underlying4
  a4 := Tryz.isAgg4
  z4 := Tryz.sizeOf4
  v4 := Tryz.zeroValue4
  t5 := Tryz.underlying5
  a5 := Tryz.isAgg5
  z5 := Tryz.sizeOf5
  v5 := Tryz.zeroValue5
  t9 := Tryz.underlying9
  a9 := Tryz.isAgg9
  z9 := Tryz.sizeOf9
  v9 := Tryz.zeroValue9
  t20 := Tryz.underlying20
  a20 := Tryz.isAgg20
  z20 := Tryz.sizeOf20
  v20 := Tryz.zeroValue20
  t21 := Tryz.underlying21
  a21 := Tryz.isAgg21
  z21 := Tryz.sizeOf21
  v21 := Tryz.zeroValue21
  t37 := Tryz.underlying149
  a37 := Tryz.isAgg149
  z37 := Tryz.sizeOf149
  v37 := Tryz.zeroValue149
  t46 := Tryz.underlying172
  a46 := Tryz.isAgg172
  z46 := Tryz.sizeOf172
  v46 := Tryz.zeroValue172
  t51 := Tryz.underlying184
  a51 := Tryz.isAgg184
  z51 := Tryz.sizeOf184
  v51 := Tryz.zeroValue184
  t53 := Tryz.underlying24
  a53 := Tryz.isAgg24
  z53 := Tryz.sizeOf24
  v53 := Tryz.zeroValue24
  t75 := Tryz.underlying153
  a75 := Tryz.isAgg153
  z75 := Tryz.sizeOf153
  v75 := Tryz.zeroValue153
  t76 := Tryz.underlying154
  a76 := Tryz.isAgg154
  z76 := Tryz.sizeOf154
  v76 := Tryz.zeroValue154
  t85 := Tryz.underlying481
  a85 := Tryz.isAgg481
  z85 := Tryz.sizeOf481
  v85 := Tryz.zeroValue481
  t127 := Tryz.underlying208
  a127 := Tryz.isAgg208
  z127 := Tryz.sizeOf208
  v127 := Tryz.zeroValue208
  t143 := Tryz.underlying502
  a143 := Tryz.isAgg502
  z143 := Tryz.sizeOf502
  v143 := Tryz.zeroValue502
  t145 := Tryz.underlying504
  a145 := Tryz.isAgg504
  z145 := Tryz.sizeOf504
  v145 := Tryz.zeroValue504
  t167 := Tryz.underlying480
  a167 := Tryz.isAgg480
  z167 := Tryz.sizeOf480
  v167 := Tryz.zeroValue480
  t168 := Tryz.underlying483
  a168 := Tryz.isAgg483
  z168 := Tryz.sizeOf483
  v168 := Tryz.zeroValue483
  t171 := Tryz.underlying291
  a171 := Tryz.isAgg291
  z171 := Tryz.sizeOf291
  v171 := Tryz.zeroValue291
  t173 := Tryz.underlying293
  a173 := Tryz.isAgg293
  z173 := Tryz.sizeOf293
  v173 := Tryz.zeroValue293
  t175 := Tryz.underlying495
  a175 := Tryz.isAgg495
  z175 := Tryz.sizeOf495
  v175 := Tryz.zeroValue495
  t210 := Tryz.underlying498
  a210 := Tryz.isAgg498
  z210 := Tryz.sizeOf498
  v210 := Tryz.zeroValue498
  t212 := Tryz.underlying361
  a212 := Tryz.isAgg361
  z212 := Tryz.sizeOf361
  v212 := Tryz.zeroValue361
  t213 := Tryz.underlying362
  a213 := Tryz.isAgg362
  z213 := Tryz.sizeOf362
  t232 := Tryz.underlying434
  a232 := Tryz.isAgg434
  z232 := Tryz.sizeOf434
  v232 := Tryz.zeroValue434
  t233 := Tryz.underlying435
  a233 := Tryz.isAgg435
  z233 := Tryz.sizeOf435
  v233 := Tryz.zeroValue435
  g15 := by kernel_rfl
  g16 := by kernel_rfl
  g17 := by kernel_rfl
  g18 := by kernel_rfl
  g19 := by kernel_rfl
  t80 := Tryz.underlying167
  a80 := Tryz.isAgg167
  z80 := Tryz.sizeOf167
  v80 := Tryz.zeroValue167
  i0 := by kernel_rfl
  i2 := by kernel_rfl
  i3 := by kernel_rfl
  i4 := by kernel_rfl
  i5 := by kernel_rfl
  i9 := by kernel_rfl
  i20 := by kernel_rfl
  i21 := by kernel_rfl
  i37 := by kernel_rfl
  i46 := by kernel_rfl
  i51 := by kernel_rfl
  i53 := by kernel_rfl
  i75 := by kernel_rfl
  i76 := by kernel_rfl
  i80 := by kernel_rfl
  i85 := by kernel_rfl
  i127 := by kernel_rfl
  i143 := by kernel_rfl
  i145 := by kernel_rfl
  i167 := by kernel_rfl
  i168 := by kernel_rfl
  i171 := by kernel_rfl
  i173 := by kernel_rfl
  i175 := by kernel_rfl
  i210 := by kernel_rfl
  i212 := by kernel_rfl
  i232 := by kernel_rfl
  i233 := by kernel_rfl
  m15 := by kernel_rfl
  m16 := by kernel_rfl
  m17 := by kernel_rfl
  m18 := by kernel_rfl
  m19 := by kernel_rfl
  c0 := by kernel_rfl
  c2 := by kernel_rfl
  c3 := by kernel_rfl
  c4 := by kernel_rfl
  c5 := by kernel_rfl
  c9 := by kernel_rfl
  c20 := by kernel_rfl
  c21 := by kernel_rfl
  c37 := by kernel_rfl
  c46 := by kernel_rfl
  c51 := by kernel_rfl
  c53 := by kernel_rfl
  c75 := by kernel_rfl
  c76 := by kernel_rfl
  c80 := by kernel_rfl
  c85 := by kernel_rfl
  c127 := by kernel_rfl
  c143 := by kernel_rfl
  c145 := by kernel_rfl
  c167 := by kernel_rfl
  c168 := by kernel_rfl
  c171 := by kernel_rfl
  c173 := by kernel_rfl
  c175 := by kernel_rfl
  c210 := by kernel_rfl
  c212 := by kernel_rfl
  c213 := by kernel_rfl
  c232 := by kernel_rfl
  c233 := by kernel_rfl }
open Go.RowKit in

theorem Tryz.strconv_Atoi_ok (s : ByteArray) (hmax : s.size ≤ 9223372036854775806) (v : Int) (h : Lib.atoiAll s.data.toList = .ok v) (w : World) :
    Calls Tryz.prog 272 #[.string s] w fun e w' => e = .returned (.tuple #[.int .i64 v, .nilIface]) ∧ (w' = w ∨ ∃ t, w' = Lib.bytesWorld w 5 t) := Any.strconv_Atoi_ok Tryz.laysC172 s hmax v h w
open Go.RowKit in
theorem Tryz.strconv_Atoi_range_var (s : ByteArray) (hlim : s.size ≤ 281474976710656) (h : Lib.atoiAll s.data.toList = .range) (tp : TypeId) (p : Value) (w : World) (hvar : w.var? Tryz.prog "strconv.ErrRange" = some #[.iface tp p]) :
    Calls Tryz.prog 272 #[.string s] w fun e w' => ∃ N, e = .returned (.tuple #[.int .i64 (Lib.atoiSat s.data.toList), .iface 483 (.pointer (some ⟨N, 0, none⟩))]) ∧ w.heap.size ≤ N ∧ w'.heap[N]? = some (.cells #[.string ⟨#[65, 116, 111, 105]⟩, .string s, .iface tp p] 498 (0, 0)) ∧ Below w.heap.size w w' := Any.strconv_Atoi_range_var Tryz.laysC172 s hlim h tp p w hvar
def Tryz.sortA_ren : Go.Shelf.Ren := ⟨fun | 6 => 219 | 15 => 241 | 14 => 260 | 28 => 286 | 29 => 85 | 20 => 299 | 21 => 300 | 22 => 301 | 23 => 302 | 24 => 303 | 25 => 304 | 26 => 305 | 27 => 306 | 46 => 337 | 47 => 338 | 48 => 339 | 49 => 340 | 50 => 341 | 57 => 358 | n => n, fun | 22 => 61 | 24 => 221 | 25 => 314 | 3 => 3 | 39 => 172 | 0 => 0 | 53 => 184 | 55 => 24 | 4 => 4 | 46 => 444 | 45 => 443 | 50 => 133 | 5 => 5 | 9 => 9 | 66 => 470 | 70 => 166 | 76 => 486 | 77 => 437 | n => n, fun | n => n⟩
theorem Tryz.sortA : Go.Proofs.SlLaysF0.n6 Tryz.prog Tryz.sortA_ren := {
  mixed := by kernel_rfl
  f6 := ⟨Tryz.f219.name, by decide, Tryz.func219.trans (congrArg some (by kernel_rfl))⟩
  f14 := ⟨Tryz.f260.name, by decide, Tryz.func260.trans (congrArg some (by kernel_rfl))⟩
  f15 := Tryz.func241.trans (congrArg some (by kernel_rfl))
  f20 := ⟨Tryz.f299.name, by decide, Tryz.func299.trans (congrArg some (by kernel_rfl))⟩
  f21 := ⟨Tryz.f300.name, by decide, Tryz.func300.trans (congrArg some (by kernel_rfl))⟩
  f22 := ⟨Tryz.f301.name, by decide, Tryz.func301.trans (congrArg some (by kernel_rfl))⟩
  f23 := ⟨Tryz.f302.name, by decide, Tryz.func302.trans (congrArg some (by kernel_rfl))⟩
  f24 := ⟨Tryz.f303.name, by decide, Tryz.func303.trans (congrArg some (by kernel_rfl))⟩
  f25 := ⟨Tryz.f304.name, by decide, Tryz.func304.trans (congrArg some (by kernel_rfl))⟩
  f26 := ⟨Tryz.f305.name, by decide, Tryz.func305.trans (congrArg some (by kernel_rfl))⟩
  f27 := ⟨Tryz.f306.name, by decide, Tryz.func306.trans (congrArg some (by kernel_rfl))⟩
  f28 := Tryz.func286.trans (congrArg some (by kernel_rfl))
  f29 := Tryz.func85.trans (congrArg some (by kernel_rfl))
  f46 := ⟨Tryz.f337.name, by decide, Tryz.func337.trans (congrArg some (by kernel_rfl))⟩
  f47 := Tryz.func338.trans (congrArg some (by kernel_rfl))
  f48 := Tryz.func339.trans (congrArg some (by kernel_rfl))
  f49 := ⟨Tryz.f340.name, by decide, Tryz.func340.trans (congrArg some (by kernel_rfl))⟩
  f50 := ⟨Tryz.f341.name, by decide, Tryz.func341.trans (congrArg some (by kernel_rfl))⟩
  f57 := ⟨Tryz.f358.name, by decide, Tryz.func358.trans (congrArg some (by kernel_rfl))⟩
  t0 := Tryz.underlying0
  a0 := Tryz.isAgg0
  z0 := Tryz.sizeOf0
  v0 := Tryz.zeroValue0
  t3 := Tryz.underlying3
  a3 := Tryz.isAgg3
  z3 := Tryz.sizeOf3
  v3 := Tryz.zeroValue3
  t4 := Tryz.underlying4
  a4 := Tryz.isAgg4
  z4 := Tryz.sizeOf4
  v4 := Tryz.zeroValue4
  t5 := Tryz.underlying5
  a5 := Tryz.isAgg5
  z5 := Tryz.sizeOf5
  v5 := Tryz.zeroValue5
  t9 := Tryz.underlying9
  a9 := Tryz.isAgg9
  z9 := Tryz.sizeOf9
  v9 := Tryz.zeroValue9
  t22 := Tryz.underlying61
  a22 := Tryz.isAgg61
  z22 := Tryz.sizeOf61
  v22 := Tryz.zeroValue61
  t25 := Tryz.underlying314
  a25 := Tryz.isAgg314
  z25 := Tryz.sizeOf314
  v25 := Tryz.zeroValue314
  t39 := Tryz.underlying172
  a39 := Tryz.isAgg172
  z39 := Tryz.sizeOf172
  v39 := Tryz.zeroValue172
  t45 := Tryz.underlying443
  a45 := Tryz.isAgg443
  z45 := Tryz.sizeOf443
  v45 := Tryz.zeroValue443
  t46 := Tryz.underlying444
  a46 := Tryz.isAgg444
  z46 := Tryz.sizeOf444
  v46 := Tryz.zeroValue444
  t50 := Tryz.underlying133
  a50 := Tryz.isAgg133
  z50 := Tryz.sizeOf133
  v50 := Tryz.zeroValue133
  t53 := Tryz.underlying184
  a53 := Tryz.isAgg184
  z53 := Tryz.sizeOf184
  v53 := Tryz.zeroValue184
  t55 := Tryz.underlying24
  a55 := Tryz.isAgg24
  z55 := Tryz.sizeOf24
  v55 := Tryz.zeroValue24
  t66 := Tryz.underlying470
  a66 := Tryz.isAgg470
  z66 := Tryz.sizeOf470
  v66 := Tryz.zeroValue470
  t70 := Tryz.underlying166
  a70 := Tryz.isAgg166
  z70 := Tryz.sizeOf166
  v70 := Tryz.zeroValue166
  t76 := Tryz.underlying486
  a76 := Tryz.isAgg486
  z76 := Tryz.sizeOf486
  v76 := Tryz.zeroValue486
  t77 := Tryz.underlying437
  a77 := Tryz.isAgg437
  z77 := Tryz.sizeOf437
  v77 := Tryz.zeroValue437 }
def Tryz.cmpIA_ren : Go.Shelf.Ren := ⟨fun | 5 => 207 | 7 => 250 | n => n, fun | 22 => 3 | 3 => 3 | 4 => 4 | n => n, fun | n => n⟩
theorem Tryz.cmpIA : Go.Proofs.SlLaysC2.n5 Tryz.prog Tryz.cmpIA_ren := {
  mixed := by kernel_rfl
  f5 := ⟨Tryz.f207.name, by decide, Tryz.func207.trans (congrArg some (by kernel_rfl))⟩
  f7 := ⟨Tryz.f250.name, by decide, Tryz.func250.trans (congrArg some (by kernel_rfl))⟩
  t3 := Tryz.underlying3
  a3 := Tryz.isAgg3
  z3 := Tryz.sizeOf3
  v3 := Tryz.zeroValue3
  t4 := Tryz.underlying4
  a4 := Tryz.isAgg4
  z4 := Tryz.sizeOf4
  v4 := Tryz.zeroValue4
  t22 := Tryz.underlying3
  a22 := Tryz.isAgg3
  z22 := Tryz.sizeOf3
  v22 := Tryz.zeroValue3 }
end Go.Proofs
namespace Go.Proofs.YtkonpbcnekcjjaaGreatDoor
open Go Go.Xec Go.RowKit
theorem named1 : Tryz.prog.globalNamed "internal/strconv.uint64pow10" ≠ none := by
  have e : (Tryz.prog.globalNamed "internal/strconv.uint64pow10").isSome = true := by kernel_rfl
  intro h; rw [h] at e; cases e
theorem named2 : Tryz.prog.globalNamed "strconv.ErrSyntax" ≠ none := by
  have e : (Tryz.prog.globalNamed "strconv.ErrSyntax").isSome = true := by kernel_rfl
  intro h; rw [h] at e; cases e
theorem named3 : Tryz.prog.globalNamed "strconv.ErrRange" ≠ none := by
  have e : (Tryz.prog.globalNamed "strconv.ErrRange").isSome = true := by kernel_rfl
  intro h; rw [h] at e; cases e
theorem tab10 {w : World} (h : Laid Tryz.prog w) : Lib.TabIs Tryz.prog w "internal/strconv.uint64pow10" .u64 Lib.pow10Tab :=
  h.1 ("internal/strconv.uint64pow10", .u64, Lib.pow10Tab) (by simp [tabs]) named1
theorem sound75 : Sound Tryz.prog 75 F_itoa := by
  refine sound_calls Tryz.func75 (by kernel_rfl) (by kernel_rfl) ?_
  intro ys r hr w S vs hS hL hl
  unfold F_itoa at hr
  split at hr
  · rename_i n
    split at hr
    · rename_i hn
      cases hr
      obtain ⟨u, rfl, hu⟩ := VL_1 hl
      have hu := V_int hu
      subst hu
      refine (Tryz.strconv_Itoa n hn.1 hn.2 w (tab10 hL)).mono ?_
      rintro e w' ⟨rfl, k, os, rfl⟩
      obtain ⟨h1, h2, h3⟩ := env_grow w k os
      exact ⟨_, rfl, h1, h2, h3, by simp only [V]; rfl⟩
    · cases hr
  · cases hr
theorem sound253 : Sound Tryz.prog 253 F_index := by
  refine sound_calls Tryz.func253 (by kernel_rfl) (by kernel_rfl) ?_
  intro ys r hr w S vs hS hL hl
  unfold F_index at hr
  split at hr
  · rename_i s c
    cases hr
    obtain ⟨u, v, rfl, hu, hv⟩ := VL_2 hl
    have hu := V_str hu
    have hv := V_int hv
    subst hu; subst hv
    refine (Tryz.strings_IndexByte s c w).mono ?_
    rintro e w' ⟨rfl, rfl⟩
    exact ⟨_, rfl, Nat.le_refl _, fun _ _ => rfl, SameEnv.refl _, by simp only [V]⟩
  · cases hr
theorem sound272 : Sound Tryz.prog 272 (F_atoi 483) := by
  refine sound_calls Tryz.func272 (by kernel_rfl) (by kernel_rfl) ?_
  intro ys r hr w S vs hS hL hl
  unfold F_atoi at hr
  split at hr
  · rename_i s
    split at hr
    · rename_i hsz
      obtain ⟨u, rfl, hu⟩ := VL_1 hl
      have hu := V_str hu
      subst hu
      cases hv : Lib.atoiAll s.data.toList with
      | ok v =>
        rw [hv] at hr
        cases hr
        refine (Tryz.strconv_Atoi_ok s (by omega) v hv w).mono ?_
        rintro e w' ⟨rfl, rfl | ⟨t, rfl⟩⟩
        · refine ⟨_, rfl, Nat.le_refl _, fun _ _ => rfl, SameEnv.refl _, ?_⟩
          simp only [V, VL]
          exact ⟨_, rfl, _, _, rfl, rfl, _, _, rfl, rfl, rfl⟩
        · obtain ⟨h1, h2, h3⟩ := env_bytes w 5 t
          refine ⟨_, rfl, h1, h2, h3, ?_⟩
          simp only [V, VL]
          exact ⟨_, rfl, _, _, rfl, rfl, _, _, rfl, rfl, rfl⟩
      | range =>
        rw [hv] at hr
        cases hr
        obtain ⟨tp, p, hp⟩ := hL.2.1 "strconv.ErrRange" (by simp [errs]) named3
        refine (Tryz.strconv_Atoi_range_var s hsz hv tp p w hp).mono ?_
        rintro e w' ⟨N, rfl, _, _, hb⟩
        obtain ⟨h1, h2, h3⟩ := env_below hb
        refine ⟨_, rfl, h1, h2, h3, ?_⟩
        simp only [V, VL]
        exact ⟨_, rfl, _, _, rfl, rfl, _, _, rfl, ⟨_, rfl, trivial⟩, rfl⟩
      | _ =>
        rw [hv] at hr
        cases hr
        obtain ⟨tp, p, hp⟩ := hL.2.1 "strconv.ErrSyntax" (by simp [errs]) named2
        refine (Any.strconv_Atoi_syntax_var Tryz.laysC172 s hsz hv tp p w hp).mono ?_
        rintro e w' ⟨N, rfl, _, _, hb⟩
        obtain ⟨h1, h2, h3⟩ := env_below hb
        refine ⟨_, rfl, h1, h2, h3, ?_⟩
        simp only [V, VL]
        exact ⟨_, rfl, _, _, rfl, rfl, _, _, rfl, ⟨_, rfl, trivial⟩, rfl⟩
    · cases hr
  · cases hr
end Go.Proofs.YtkonpbcnekcjjaaGreatDoor
namespace Go.Proofs.YtkonpbcnekcjjaaGreatDoor
open Go
def Tryz.lays7x29_ren : Go.Shelf.Ren := ⟨fun | 29 => 233 | n => n, fun | 22 => 24 | 3 => 3 | 4 => 4 | 25 => 172 | 54 => 435 | 0 => 0 | 5 => 5 | n => n, fun | 1 => 5 | n => n⟩
theorem Tryz.lays7x29 : Go.Proofs.Lays7.n29 Tryz.prog Tryz.lays7x29_ren := {
  mixed := by kernel_rfl
  f29 := Tryz.func233.trans (congrArg some (by kernel_rfl))
  t0 := Tryz.underlying0
  a0 := Tryz.isAgg0
  z0 := Tryz.sizeOf0
  v0 := Tryz.zeroValue0
  i0 := by kernel_rfl
  t3 := Tryz.underlying3
  a3 := Tryz.isAgg3
  z3 := Tryz.sizeOf3
  v3 := Tryz.zeroValue3
  i3 := by kernel_rfl
  t4 := Tryz.underlying4
  a4 := Tryz.isAgg4
  z4 := Tryz.sizeOf4
  v4 := Tryz.zeroValue4
  i4 := by kernel_rfl
  t5 := Tryz.underlying5
  a5 := Tryz.isAgg5
  z5 := Tryz.sizeOf5
  v5 := Tryz.zeroValue5
  i5 := by kernel_rfl
  t22 := Tryz.underlying24
  a22 := Tryz.isAgg24
  z22 := Tryz.sizeOf24
  v22 := Tryz.zeroValue24
  i22 := by kernel_rfl
  t25 := Tryz.underlying172
  a25 := Tryz.isAgg172
  z25 := Tryz.sizeOf172
  v25 := Tryz.zeroValue172
  i25 := by kernel_rfl
  t54 := Tryz.underlying435
  a54 := Tryz.isAgg435
  z54 := Tryz.sizeOf435
  g1 := by kernel_rfl }
open Go.Xec Go.RowKit
theorem named_db : Tryz.prog.globalNamed "math/bits.deBruijn64tab" = some 5 := by kernel_rfl
def F_tz : List AVal → Option AVal
  | [.int .u64 x] => if 0 ≤ x ∧ x < 18446744073709551616 then some (.int .i64 (Lib.ctz 64 x.toNat : Nat)) else none
  | _ => none
theorem sound233 : Sound Tryz.prog 233 F_tz := by
  refine sound_calls Tryz.func233 (by kernel_rfl) (by kernel_rfl) ?_
  intro ys r hr w S vs hS hL hl
  unfold F_tz at hr
  split at hr
  · rename_i x
    split at hr
    · rename_i hx
      cases hr
      obtain ⟨u, rfl, hu⟩ := VL_1 hl
      have hu := V_int hu
      subst hu
      obtain ⟨n, rfl⟩ : ∃ n : Nat, x = n := ⟨x.toNat, by omega⟩
      have hT : TabAt 5 Lib.deBruijn64tab w := by
        intro j hj
        have h := hL.1 ("math/bits.deBruijn64tab", .u8, Lib.deBruijn64tab.map Int.ofNat) (by simp [tabs]) (by rw [named_db]; simp)
        rw [h.cell named_db j (by simpa using hj)]
        simp [List.getD_eq_getElem?_getD, List.getElem?_map, List.getElem?_eq_getElem hj]
      refine (Any7.bits_TrailingZeros64 Tryz.lays7x29 n (by omega) w (fun _ => hT)).mono ?_
      rintro e w' ⟨rfl, rfl⟩
      exact ⟨_, rfl, Nat.le_refl _, fun _ _ => rfl, SameEnv.refl _, by simp only [V, Int.toNat_natCast]⟩
    · cases hr
  · cases hr
end Go.Proofs.YtkonpbcnekcjjaaGreatDoor
namespace Go.Proofs.YtkonpbcnekcjjaaGreatDoor
open Go Go.Xec
set_option maxRecDepth 10000
structure Fd where
  w : List UInt8
  lo : Int
  hi : Int
  nd : Int
abbrev FK (b : Fd) : AVal := .agg [sv b.w, .int .i64 b.lo, .int .i64 b.hi, .int .i64 b.nd]
def needB (b : Fd) (c : Int) : Bool := decide (b.nd / 2 ^ c.toNat % 2 = 1)
def fdL : List Fd := [⟨[115, 105, 122, 101], 1, 1000, 45⟩, ⟨[108, 111, 119], -1000000, 1000000, 195⟩, ⟨[104, 105, 103, 104], -1000000, 1000000, 195⟩, ⟨[98, 97, 115, 101], 2, 25, 63⟩, ⟨[99, 97, 112], 1, 1000000000, 255⟩,
  ⟨[116, 97, 114, 103, 101, 116], -1000000, 1000000, 192⟩, ⟨[115, 116, 101, 112], 0, 1000000, 64⟩, ⟨[98, 111, 117, 110, 100], 1, 1000000000, 64⟩, ⟨[119, 101, 105, 103, 104, 116], 1, 99, 128⟩, ⟨[115, 105, 103, 109, 97], 1, 1000000, 128⟩,
  ⟨[108, 111, 119, 101, 114], -1000000, 1000000, 0⟩, ⟨[117, 112, 112, 101, 114], -1000000, 1000000, 0⟩]
def fd (f : Nat) : Fd := fdL.getD f ⟨[], 0, 0, 0⟩
def chW : List (List UInt8) := [[120, 98, 97, 114], [115, 105, 110, 103, 108, 101], [112], [110, 112], [99], [117], [99, 117, 115, 117, 109], [101, 119, 109, 97]]
structure Ch where
  n : List UInt8
  t : Int
  f0 : Int
  f1 : Int
  f2 : Int
  f3 : Int
  f4 : Int
  f5 : Int
  f6 : Int
  f7 : Int
  f8 : Int
  f9 : Int
  f10 : Int
  f11 : Int
  deriving DecidableEq
abbrev CK (c : Ch) : AVal := .agg [sv c.n, .int .i64 c.t, .int .i64 c.f0, .int .i64 c.f1, .int .i64 c.f2, .int .i64 c.f3, .int .i64 c.f4, .int .i64 c.f5, .int .i64 c.f6, .int .i64 c.f7, .int .i64 c.f8, .int .i64 c.f9, .int .i64 c.f10, .int .i64 c.f11]
def Ch.fs (c : Ch) : List Int := [c.f0, c.f1, c.f2, c.f3, c.f4, c.f5, c.f6, c.f7, c.f8, c.f9, c.f10, c.f11]
def chanW : List UInt8 := [99, 104, 97, 110, 110, 101, 108]
def vl (c : Ch) (k : Nat) : Int := c.fs.getD k 0
def flB (c : Ch) (k : Nat) : Bool := needB (fd k) c.t || (decide (10 ≤ k) && !decide (c.f10 = c.f11))
def fl (c : Ch) : List Nat := (List.range 12).filter (flB c)
abbrev itz (n : Int) : List UInt8 := Lib.itoa n
def fP (c : Ch) (k : Nat) : List UInt8 := (fd k).w ++ ([32] ++ (itz (vl c k) ++ [59, 10]))
def chP (c : Ch) : List UInt8 := chanW ++ ([32] ++ (c.n ++ ([32] ++ (chW.getD c.t.toNat [] ++ ([32, 123, 10] ++ ((fl c).flatMap (fP c) ++ [125, 10]))))))
def prtR (r : List Ch) : List UInt8 := r.flatMap chP
def hdP (c : Ch) : List UInt8 := chanW ++ ([32] ++ (c.n ++ ([32] ++ (chW.getD c.t.toNat [] ++ [32, 123, 10]))))
theorem chP_eq (c : Ch) : chP c = hdP c ++ ((fl c).flatMap (fP c) ++ [125, 10]) := by simp [chP, hdP]
theorem range_next (p : Nat → Bool) (g : Nat → List UInt8) (i : Nat) : ((List.range (i + 1)).filter p).flatMap g = ((List.range i).filter p).flatMap g ++ (if p i then g i else []) := by
  rw [List.range_succ, List.filter_append, List.flatMap_append]
  congr 1
  by_cases h : p i = true
  · simp [h]
  · simp [h]
abbrev RC (a : AVal) (r : List Ch) : Prop := Rg 14 CK a r
def chOk (c : Ch) : Prop := (True ∧ True ∧ c.n.length ≤ 20) ∧ (0 ≤ c.t ∧ c.t ≤ 7) ∧ (∀ i < 12, (-1000000000 ≤ vl c i ∧ vl c i ≤ 1000000000) ∧ (itz (vl c i)).length ≤ 21) ∧ (∀ i ≤ 12, (((List.range i).filter (flB c)).flatMap (fP c)).length ≤ 400)
theorem vl_num {c : Ch} (hc : chOk c) {i : Nat} (hi : i < 12) (h : flB c i = true) : -1000000000 ≤ vl c i ∧ vl c i ≤ 1000000000 := (hc.2.2.1 i hi).1
theorem fls_len {c : Ch} (hc : chOk c) {i : Nat} (hi : i ≤ 12) : (((List.range i).filter (flB c)).flatMap (fP c)).length ≤ 400 := hc.2.2.2 i hi
def rOk (r : List Ch) : Prop := (∀ c ∈ r, chOk c) ∧ True ∧ True ∧ r.length ≤ 4
theorem chP_len {c : Ch} (hc : chOk c) : (chP c).length ≤ 500 := by
  have h1 := hc.1.2.2
  have h2 := hc.2.1
  have h3 : ((fl c).flatMap (fP c)).length ≤ 400 := hc.2.2.2 12 (by decide)
  have h4 : ∀ t < 8, (chW.getD t []).length ≤ 6 := by decide
  have h5 := h4 c.t.toNat (by omega)
  unfold chP
  simp only [List.length_append, List.length_cons, List.length_nil, chanW]
  omega
theorem prtR_len : ∀ {r : List Ch}, (∀ c ∈ r, chOk c) → (prtR r).length ≤ 500 * r.length
  | [], _ => by simp [prtR]
  | c :: r, h => by
    have h1 := prtR_len (r := r) fun d hd => h d (by simp [hd])
    have h2 := chP_len (h c (by simp))
    simp only [prtR, List.flatMap_cons, List.length_append, List.length_cons] at *
    omega
def avIs (o : Option AVal) (v : AVal) : Bool := match o with
  | some x => avEq x v
  | none => false
theorem pureK_is {C : Cfg} {d : Nat} {f : FuncId} {xs : List AVal} {v : AVal} (h : avIs (pureK C d f xs) v = true) : pureF C d f xs = some v := by
  cases hp : pureK C d f xs with
  | none => rw [hp] at h; cases h
  | some x => rw [hp] at h; rw [pureK_ok hp, avEq_ok _ _ h]
noncomputable def CP : Cfg := ⟨fun _ => none, xfK, fun _ => none, fun _ => none, fun _ => none, fun _ _ => none⟩
theorem okP : CfgOk Tryz.prog CP := ⟨(fun g F h => by cases h), xfK_ok, by kernel_rfl, (fun g F h => by cases h), (fun g F h => by cases h), (fun g F h => by cases h), (fun t m g h => by cases h)⟩
noncomputable def F69 : List AVal → Option AVal := pureF CP 20 69
theorem sound69 : Sound Tryz.prog 69 F69 := sound_self okP 20 69
noncomputable def F71 : List AVal → Option AVal := pureF CP 20 71
theorem sound71 : Sound Tryz.prog 71 F71 := sound_self okP 20 71
theorem F71_eq : F71 [] = some (.agg (chW.map sv)) := pureK_is (by kernel_rfl)
noncomputable def F74 : List AVal → Option AVal := pureF CP 20 74
theorem sound74 : Sound Tryz.prog 74 F74 := sound_self okP 20 74
theorem need_all : ((List.range 8).all fun t => (List.range 12).all fun k => avIs (pureK CP 20 74 [FK (fd k), .int .i64 (Int.ofNat t)]) (.bool (needB (fd k) (Int.ofNat t)))) = true := by kernel_rfl
theorem E26 {t k : Nat} {ct : Int} (ht : t < 8) (hk : k < 12) (hct : ct = (t : Nat)) : F74 [FK (fd k), .int .i64 ct] = some (.bool (needB (fd k) (t : Nat))) := by
  subst hct
  have h1 := List.all_eq_true.1 need_all t (List.mem_range.2 ht)
  exact pureK_is (List.all_eq_true.1 h1 k (List.mem_range.2 hk))
def c0 : Ch := ⟨[97], 1, 0, 0, 100, 2, 9, 0, 0, 0, 0, 0, 0, 0⟩
theorem right0 : F69 [.agg [.slc 14 [CK c0]]] = some (.bool true) := pureK_is (by kernel_rfl)
theorem c0_ok : chOk c0 := ⟨⟨trivial, trivial, by decide⟩, by decide, by decide +kernel, by decide +kernel⟩
def txtL : List UInt8 := [99, 104, 97, 110, 110, 101, 108, 32, 97, 32, 115, 105, 110, 103, 108, 101, 32, 123, 10, 108, 111, 119, 32, 48, 59, 10, 104, 105, 103, 104, 32, 49, 48, 48, 59, 10, 98, 97, 115, 101, 32, 50, 59, 10, 99, 97, 112, 32, 57, 59, 10, 125, 10]
theorem txt_eq : prtR [c0] = txtL := by decide +kernel
end Go.Proofs.YtkonpbcnekcjjaaGreatDoor
namespace Go.Proofs.YtkonpbcnekcjjaaGreatDoor
open Go Go.Xec Go.RowKit
def ren166 : Go.Shelf.Ren := ⟨fun | 166 => 70 | 240 => 98 | 276 => 129 | n => n, fun | 70 => 148 | 9 => 9 | 0 => 0 | 72 => 151 | 37 => 149 | 3 => 3 | 5 => 5 | 4 => 4 | 20 => 20 | 75 => 153 | 80 => 167 | 164 => 246 | n => n, fun | n => n⟩
theorem l166_f166 : Tryz.prog.funcs[70]? = some (Go.Proofs.Body.n166 ren166) := Tryz.func70.trans (congrArg some (by kernel_rfl))
theorem l166_f240 : Tryz.prog.funcs[98]? = some (Go.Proofs.Body.n240 ren166) := Tryz.func98.trans (congrArg some (by kernel_rfl))
theorem l166_f276 : Tryz.prog.funcs[129]? = some (Go.Proofs.Body.n276 ren166) := Tryz.func129.trans (congrArg some (by kernel_rfl))
theorem lays166 : Go.Proofs.Lays.n166 Tryz.prog ren166 := {
  mixed := by kernel_rfl
  f166 := l166_f166
  f240 := l166_f240
  f276 := l166_f276
  t0 := Tryz.underlying0
  a0 := Tryz.isAgg0
  z0 := Tryz.sizeOf0
  v0 := Tryz.zeroValue0
  t3 := Tryz.underlying3
  a3 := Tryz.isAgg3
  z3 := Tryz.sizeOf3
  v3 := Tryz.zeroValue3
  t4 := Tryz.underlying4
  a4 := Tryz.isAgg4
  z4 := Tryz.sizeOf4
  v4 := Tryz.zeroValue4
  t9 := Tryz.underlying9
  a9 := Tryz.isAgg9
  z9 := Tryz.sizeOf9
  v9 := Tryz.zeroValue9
  t20 := Tryz.underlying20
  a20 := Tryz.isAgg20
  z20 := Tryz.sizeOf20
  v20 := Tryz.zeroValue20
  t37 := Tryz.underlying149
  a37 := Tryz.isAgg149
  z37 := Tryz.sizeOf149
  v37 := Tryz.zeroValue149
  t70 := Tryz.underlying148
  a70 := Tryz.isAgg148
  z70 := Tryz.sizeOf148
  v70 := Tryz.zeroValue148
  t72 := Tryz.underlying151
  a72 := Tryz.isAgg151
  z72 := Tryz.sizeOf151
  v72 := Tryz.zeroValue151
  t75 := Tryz.underlying153
  a75 := Tryz.isAgg153
  z75 := Tryz.sizeOf153
  v75 := Tryz.zeroValue153
  t164 := Tryz.underlying246
  a164 := Tryz.isAgg246
  z164 := Tryz.sizeOf246
  v164 := Tryz.zeroValue246
}
theorem ext166 : Builder.Extra Tryz.prog ren166 := {
  sizeBuilder := by kernel_rfl
  liesBuilder := by kernel_rfl
  t5 := Tryz.underlying5
  a5 := Tryz.isAgg5
  z5 := Tryz.sizeOf5
  v5 := Tryz.zeroValue5
  infoByte := by kernel_rfl
  cellsByte := by kernel_rfl
  sizeByte := by kernel_rfl
  neB5 := by decide }
theorem bld_write (B b : Nat) (cs : List Value) (s : ByteArray) (w : World) (h : Lib.IsBuilderF 151 5 B b cs w) (hlen : cs.length + s.size ≤ 140737488355328) (hBw : B ≤ w.heap.size) :
    Calls Tryz.prog 70 #[.pointer (some ⟨b, 0, none⟩), .string s] w fun e w' => e = .returned (.tuple #[.int .i64 s.size, .nilIface]) ∧ (Lib.BuilderAtF 151 5 B b (.pointer (some ⟨b, 0, none⟩)) (cs ++ Lib.strCells s) w' ∧ Below B w w' ∧ Lib.OthersKept 5 (some b) w w') :=
  Any.Builder_WriteString_k lays166 ext166 B b cs s w h hlen hBw
theorem bld_string (B b : Nat) (l : List UInt8) (w : World) (h : Lib.IsBuilderF 151 5 B b (Lib.byteCells l) w) (hBw : B ≤ w.heap.size) :
    Calls Tryz.prog 76 #[.pointer (some ⟨b, 0, none⟩)] w fun e w' => e = .returned (.string ⟨l.toArray⟩) ∧ Below B w w' :=
  (Tryz.Builder_String_any_k B b l w h hBw).mono fun e w' h => ⟨h.1, h.2.2.1⟩
theorem ctx_grow {w w' : World} (h : Below w.heap.size w w') : Grow (ctx0 w fun b => b < w.heap.size) (ctx0 w' fun b => b < w'.heap.size) := by
  refine ⟨fun b hb => Nat.lt_of_lt_of_le hb h.size, fun b hb => h.block b hb, fun _ _ _ hp => hp, fun b => ?_⟩
  show bsz w b ≤ bsz w' b
  unfold bsz
  rcases Nat.lt_or_ge b w.heap.size with hb | hb
  · rw [h.block b hb]
    exact Nat.le_refl _
  · rw [Array.getElem?_eq_none hb]
    exact Nat.zero_le _
def chV (c : Ch) : List Value := [.string (bs c.n), .int .i64 c.t, .int .i64 c.f0, .int .i64 c.f1, .int .i64 c.f2, .int .i64 c.f3, .int .i64 c.f4, .int .i64 c.f5, .int .i64 c.f6, .int .i64 c.f7, .int .i64 c.f8, .int .i64 c.f9, .int .i64 c.f10, .int .i64 c.f11]
theorem vc_ch {x : Ctx} {b o : Nat} {c : Ch} (h : VE x 14 (CK c) b o) : ∀ j v, (chV c)[j]? = some v → x.w.cell? ⟨b, o + j, none⟩ = some v := by
  simp only [VE, VC, V] at h
  obtain ⟨_, ⟨_, h0, rfl⟩, ⟨_, h1, rfl⟩, ⟨_, h2, rfl⟩, ⟨_, h3, rfl⟩, ⟨_, h4, rfl⟩, ⟨_, h5, rfl⟩, ⟨_, h6, rfl⟩, ⟨_, h7, rfl⟩, ⟨_, h8, rfl⟩, ⟨_, h9, rfl⟩, ⟨_, h10, rfl⟩, ⟨_, h11, rfl⟩, ⟨_, h12, rfl⟩, ⟨_, h13, rfl⟩, _⟩ := h
  intro j v hj
  match j with
  | 0 => cases hj; exact h0
  | 1 => cases hj; exact h1
  | 2 => cases hj; exact h2
  | 3 => cases hj; exact h3
  | 4 => cases hj; exact h4
  | 5 => cases hj; exact h5
  | 6 => cases hj; exact h6
  | 7 => cases hj; exact h7
  | 8 => cases hj; exact h8
  | 9 => cases hj; exact h9
  | 10 => cases hj; exact h10
  | 11 => cases hj; exact h11
  | 12 => cases hj; exact h12
  | 13 => cases hj; exact h13
  | j + 14 => simp [chV] at hj
theorem vr_ch {x : Ctx} {b : Nat} : ∀ (l : List Ch) (o : Nat), VR x 14 (l.map CK) b o → ∀ i (hi : i < l.length), ∀ j v, (chV l[i])[j]? = some v → x.w.cell? ⟨b, o + i * 14 + j, none⟩ = some v
  | [], _, _, i, hi => absurd hi (by simp)
  | e :: l, o, h, i, hi => by
    rw [List.map_cons, VR] at h
    cases i with
    | zero => simpa using vc_ch h.1
    | succ i =>
      have := vr_ch l (o + 14) h.2 i (by simp at hi; omega)
      simp only [List.getElem_cons_succ]
      rw [show o + (i + 1) * 14 = o + 14 + i * 14 by omega]
      exact this
theorem rec_val {w : World} {S : Nat → Prop} {a : AVal} {l : List Ch} {v : Value} (ha : RC a l) (h : V (ctx0 w S) (.agg [a]) v) :
    ∃ ao cp, v = .agg #[.slice ao l.length cp] ∧ ∀ i (hi : i < l.length), ∃ b o, ao = some ⟨b, o, none⟩ ∧ (S b) ∧ ∀ j v, (chV l[i])[j]? = some v → w.cell? ⟨b, o + i * 14 + j, none⟩ = some v := by
  simp only [V, VL] at h
  obtain ⟨cs, rfl, u, _, rfl, hu, rfl⟩ := h
  rcases ha with ⟨rfl, rfl⟩ | ⟨rfl, rfl⟩ | rfl
  · simp only [V] at hu
    subst hu
    exact ⟨_, _, rfl, fun i hi => absurd hi (by simp)⟩
  · simp only [V] at hu
    obtain ⟨q, rfl⟩ := hu
    exact ⟨_, _, rfl, fun i hi => absurd hi (by simp)⟩
  · simp only [V] at hu
    obtain ⟨b, o, cp, rfl, _, hS, hr⟩ := hu
    refine ⟨some ⟨b, o, none⟩, cp, by simp, fun i hi => ⟨b, o, rfl, ?_, vr_ch l o hr i hi⟩⟩
    rcases hS with h0 | h0
    · rw [List.map_eq_nil_iff] at h0
      rw [h0] at hi
      simp at hi
    · exact h0
theorem vl_strs {x : Ctx} : ∀ {l : List (List UInt8)} {vs : List Value}, VL x (l.map sv) vs → vs = l.map fun s => Value.string (bs s)
  | [], vs, h => by simpa only [List.map_nil, VL] using h
  | s :: l, vs, h => by
    rw [List.map_cons, VL] at h
    obtain ⟨u, r, rfl, hu, hr⟩ := h
    rw [vl_strs hr, List.map_cons]
    simp only [V] at hu
    rw [hu]
def wsA : Array Value := (chW.map fun s => Value.string (bs s)).toArray
theorem words_calls (w : World) (hL : Laid Tryz.prog w) : Calls Tryz.prog 71 #[] w fun e w' => e = .returned (.agg wsA) ∧ Below w.heap.size w w' := by
  refine (calls_sound Tryz.func71 (by kernel_rfl) (by kernel_rfl) sound71 F71_eq w hL (vs := []) (by simp only [VL])).mono ?_
  rintro e w' ⟨v, rfl, hb, hv⟩
  simp only [V] at hv
  obtain ⟨cs, rfl, h⟩ := hv
  exact ⟨by rw [vl_strs h]; rfl, hb⟩
theorem vl_strs' {x : Ctx} : ∀ {l : List (List UInt8)}, VL x (l.map sv) (l.map fun s => Value.string (bs s))
  | [] => by simp only [List.map_nil, VL]
  | s :: l => by
    rw [List.map_cons, List.map_cons, VL]
    exact ⟨_, _, rfl, by simp only [V], vl_strs'⟩
theorem idx_words {t : Nat} (ht : t < 8) (W : World) : (Instr.index 156 (.agg wsA) (.int .i64 (t : Int))).run Tryz.prog W = .ok (.string (bs (chW.getD t []))) W := by
  have hr : (0 : Int) ≤ (t : Int) ∧ (t : Int) < ((8 : Nat) : Int) := by omega
  have hn : szOf Tryz.prog 9 = some 1 := by kernel_rfl
  simp only [Instr.index, asIntOf, Sem.run_bind, run_underlying Tryz.underlying156, Result.andThen_ok, Sem.run_pure, Sem.run_ite, hr, and_self, if_true, szOf_run hn]
  have htw : t < chW.length := ht
  obtain ⟨u, hu, hvu⟩ := part_ok (P := Tryz.prog) (x := ctx0 W fun _ => True) (t := 9) (agg := false) (off := t * 1) (cs := chW.map sv) (vs := chW.map fun s => Value.string (bs s)) (v := sv (chW.getD t [])) (by kernel_rfl) hn vl_strs'
    (by simp only [takeV, Bool.false_eq_true, if_false, Nat.mul_one, List.getElem?_map, List.getD_eq_getElem?_getD, List.getElem?_eq_getElem htw]; rfl) W
  rw [Int.toNat_natCast]
  simp only [V] at hvu
  subst hvu
  exact hu
def ptrs (b : Nat) : List Value := (List.range 12).map fun k => .pointer (some ⟨b, k + 2, none⟩)
set_option maxRecDepth 100000 in
set_option maxHeartbeats 8000000 in
theorem fields_calls (b : Nat) (w : World) : Calls Tryz.prog 72 #[.pointer (some ⟨b, 0, none⟩)] w fun e w' => ∃ B, e = .returned (.slice (some ⟨B, 0, none⟩) 12 12) ∧ w.heap.size ≤ B ∧ w'.heap[B]? = some (.cells (ptrs b).toArray 166 (0, 0)) ∧ Below w.heap.size w w' := by
  go_enter Tryz.func72, Tryz.ntmps72
  go_wp2_with fail
  go_still_tail 36, (by kernel_rfl)
  change wpList _ _ _ _ _ w.drew
  generalize hw : w.drew = w2
  go_wp2
  go_ret
  subst hw
  refine ⟨w.heap.size, rfl, Nat.le_refl _, heap_alloc_new w.drew _, ?_⟩
  exact Below.alloc (w := w.drew) ((Below.refl _ w).drew) (Nat.le_refl _) _
set_option maxRecDepth 100000 in
set_option maxHeartbeats 8000000 in
theorem bounds_calls (w : World) : Calls Tryz.prog 73 #[] w fun e w' => ∃ B, e = .returned (.slice (some ⟨B, 0, none⟩) 12 12) ∧ w.heap.size ≤ B ∧ (∃ cs : Array Value, w'.heap[B]? = some (.cells cs 164 (0, 0)) ∧ ∀ k < 12, cs[k * 4]? = some (.string (bs (fd k).w)) ∧ cs[k * 4 + 1]? = some (.int .i64 (fd k).lo) ∧ cs[k * 4 + 2]? = some (.int .i64 (fd k).hi) ∧ cs[k * 4 + 3]? = some (.int .i64 (fd k).nd)) ∧ Below w.heap.size w w' := by
  go_enter Tryz.func73, Tryz.ntmps73
  go_wp2
  go_ret
  refine ⟨w.heap.size, rfl, Nat.le_refl _, ⟨_, heap_alloc_new w _, ?_⟩, (Below.refl _ w).alloc (Nat.le_refl _) _⟩
  intro k hk
  match k, hk with
  | 0, _ => exact ⟨rfl, rfl, rfl, rfl⟩
  | 1, _ => exact ⟨rfl, rfl, rfl, rfl⟩
  | 2, _ => exact ⟨rfl, rfl, rfl, rfl⟩
  | 3, _ => exact ⟨rfl, rfl, rfl, rfl⟩
  | 4, _ => exact ⟨rfl, rfl, rfl, rfl⟩
  | 5, _ => exact ⟨rfl, rfl, rfl, rfl⟩
  | 6, _ => exact ⟨rfl, rfl, rfl, rfl⟩
  | 7, _ => exact ⟨rfl, rfl, rfl, rfl⟩
  | 8, _ => exact ⟨rfl, rfl, rfl, rfl⟩
  | 9, _ => exact ⟨rfl, rfl, rfl, rfl⟩
  | 10, _ => exact ⟨rfl, rfl, rfl, rfl⟩
  | 11, _ => exact ⟨rfl, rfl, rfl, rfl⟩
def Stg (w : World) (B : Nat) (acc : List UInt8) (wr : World) : Prop := Lib.IsBuilderF 151 5 B B (Lib.byteCells acc) wr ∧ Below w.heap.size w wr ∧ w.heap.size ≤ B ∧ B < wr.heap.size
theorem Stg.alloc {w wr : World} {B : Nat} {acc : List UInt8} (h : Stg w B acc wr) (o : Obj) : Stg w B acc (wr.alloc o) :=
  ⟨h.1.alloc o, h.2.1.alloc (h.2.1.size) o, h.2.2.1, by have := h.2.2.2; simp; omega⟩
theorem Stg.below {w wr w' : World} {B : Nat} {acc : List UInt8} (h : Stg w B acc wr) (hb : Below wr.heap.size wr w') : Stg w B acc w' :=
  ⟨h.1.below hb, h.2.1.trans (hb.mono h.2.1.size), h.2.2.1, Nat.lt_of_lt_of_le h.2.2.2 hb.size⟩
theorem Stg.drew {w wr : World} {B : Nat} {acc : List UInt8} (h : Stg w B acc wr) : Stg w B acc wr.drew := h.below (Below.refl _ wr).drew
theorem Stg.laid {w wr : World} {B : Nat} {acc : List UInt8} (h : Stg w B acc wr) (hL : Laid Tryz.prog w) : Laid Tryz.prog wr := below_laid hL h.2.1
theorem stg_write {w wr : World} {B : Nat} {acc : List UInt8} (h : Stg w B acc wr) (s : List UInt8) {q : ByteArray} (hq : q = bs s) (hlen : acc.length + s.length ≤ 1000000) :
    Calls Tryz.prog 70 #[.pointer (some ⟨B, 0, none⟩), .string q] wr fun e w' => e = .returned (.tuple #[.int .i64 s.length, .nilIface]) ∧ Stg w B (acc ++ s) w' ∧ wr.heap.size ≤ w'.heap.size ∧ (∀ (k : Nat) (cs : Array Value) (T : TypeId), wr.heap[k]? = some (.cells cs T (0, 0)) → k ≠ B → T ≠ 5 → w'.heap[k]? = some (.cells cs T (0, 0))) := by
  subst hq
  refine (bld_write B B (Lib.byteCells acc) (bs s) wr h.1 (by rw [Lib.byteCells_length, bs_size]; omega) (Nat.le_of_lt h.2.2.2)).mono ?_
  rintro e w' ⟨rfl, h1, h2, h3⟩
  refine ⟨by rw [bs_size], ⟨.inr ?_, h.2.1.trans (h2.mono h.2.2.1), h.2.2.1, Nat.lt_of_lt_of_le h.2.2.2 h2.size⟩, h2.size, ?_⟩
  · rw [Lib.byteCells_append, show Lib.byteCells s = Lib.strCells (bs s) from rfl]
    exact h1
  · intro k cs T hk hne hT
    refine h3 k _ hk (fun h => hne (Option.some.inj h)) ?_
    intro c fz he
    cases he
    exact hT rfl
theorem stg_string {w wr : World} {B : Nat} {acc : List UInt8} (h : Stg w B acc wr) :
    Calls Tryz.prog 76 #[.pointer (some ⟨B, 0, none⟩)] wr fun e w' => e = .returned (.string (bs acc)) ∧ Below w.heap.size w w' :=
  (bld_string B B acc wr h.1 (Nat.le_of_lt h.2.2.2)).mono fun e w' h' => ⟨h'.1, h.2.1.trans (h'.2.mono h.2.2.1)⟩
theorem itoa_calls (n : Int) (h : -9223372036854775808 ≤ n ∧ n ≤ 9223372036854775807) (w : World) (hL : Laid Tryz.prog w) : Calls Tryz.prog 75 #[.int .i64 n] w fun e w' => e = .returned (.string (bs (Lib.itoa n))) ∧ Below w.heap.size w w' := by
  have hF : F_itoa [.int .i64 n] = some (sv (Lib.itoa n)) := by
    unfold F_itoa
    simp only
    rw [if_pos h]
  refine (calls_sound Tryz.func75 (by kernel_rfl) (by kernel_rfl) sound75 hF w hL (vs := [.int .i64 n]) (by simp only [VL, V]; exact ⟨_, _, rfl, rfl, rfl⟩)).mono ?_
  rintro e w' ⟨v, rfl, hb, hv⟩
  simp only [V] at hv
  subst hv
  exact ⟨rfl, hb⟩
theorem need_calls {t k : Nat} (ht : t < 8) (hk : k < 12) (w : World) (hL : Laid Tryz.prog w) :
    Calls Tryz.prog 74 #[.agg #[.string (bs (fd k).w), .int .i64 (fd k).lo, .int .i64 (fd k).hi, .int .i64 (fd k).nd], .int .i64 (t : Int)] w fun e w' => e = .returned (.bool (needB (fd k) (t : Nat))) ∧ Below w.heap.size w w' := by
  refine (calls_sound Tryz.func74 (by kernel_rfl) (by kernel_rfl) sound74 (E26 ht hk rfl) w hL (vs := [.agg #[.string (bs (fd k).w), .int .i64 (fd k).lo, .int .i64 (fd k).hi, .int .i64 (fd k).nd], .int .i64 (t : Int)]) ?_).mono ?_
  · simp only [VL, V]
    exact ⟨_, _, rfl, ⟨_, rfl, _, _, rfl, rfl, _, _, rfl, rfl, _, _, rfl, rfl, _, _, rfl, rfl, rfl⟩, _, _, rfl, rfl, rfl⟩
  rintro e w' ⟨v, rfl, hb, hv⟩
  simp only [V] at hv
  subst hv
  exact ⟨rfl, hb⟩
theorem ch_at (c : Ch) (u v : Value) {j : Nat} (hj : j < 12) : (#[u, v, .int .i64 c.f0, .int .i64 c.f1, .int .i64 c.f2, .int .i64 c.f3, .int .i64 c.f4, .int .i64 c.f5, .int .i64 c.f6, .int .i64 c.f7, .int .i64 c.f8, .int .i64 c.f9, .int .i64 c.f10, .int .i64 c.f11] : Array Value)[j + 2]? = some (.int .i64 (vl c j)) :=
  match j, hj with
  | 0, _ => rfl
  | 1, _ => rfl
  | 2, _ => rfl
  | 3, _ => rfl
  | 4, _ => rfl
  | 5, _ => rfl
  | 6, _ => rfl
  | 7, _ => rfl
  | 8, _ => rfl
  | 9, _ => rfl
  | 10, _ => rfl
  | 11, _ => rfl
theorem ptr_at (b : Nat) {j : Nat} (hj : j < 12) : (ptrs b).toArray[j]? = some (.pointer (some ⟨b, j + 2, none⟩)) := by
  simp [ptrs, hj]
set_option maxHeartbeats 16000000 in
set_option maxRecDepth 100000 in
theorem prt_calls {a : AVal} {r : List Ch} {v : Value} (w : World) (hL : Laid Tryz.prog w) (ha : RC a r) (hr : rOk r) (hF14 : F69 [.agg [a]] = some (.bool true)) (hv : V (ctx0 w fun b => b < w.heap.size) (.agg [a]) v) :
    Calls Tryz.prog 50 #[v] w fun e w' => e = .returned (.tuple #[.string (bs (prtR r)), .int .i64 0]) ∧ Below w.heap.size w w' := by
  have hl4 := hr.2.2.2
  obtain ⟨ao, cp, rfl, hcell⟩ := rec_val ha hv
  have hnn : ∀ c ∈ r, c.n.length ≤ 1000000 := fun c hc => by have := (hr.1 c hc).1.2.2; omega
  go_enter Tryz.func50, Tryz.ntmps50
  go_wp2_with (go_at_call 69; refine (calls_sound Tryz.func69 (by kernel_rfl) (by kernel_rfl) sound69 hF14 _ ?hL14 (vs := [.agg #[.slice ao r.length cp]]) ?hV14).mono ?_)
  case hL14 => exact below_laid hL ((Below.refl _ w).alloc (Nat.le_refl _) _)
  case hV14 =>
    simp only [VL]
    exact ⟨_, _, rfl, V_grow (ctx_grow ((Below.refl _ w).alloc (Nat.le_refl _) _)) _ _ hv, rfl⟩
  rintro e w2 ⟨v, rfl, hb2, hv2⟩
  simp only [V] at hv2
  subst hv2
  have hbw2 : Below w.heap.size w w2 := ((Below.refl _ w).alloc (Nat.le_refl _) _).trans (hb2.mono (by simp))
  have hJ2 : w2.heap[w.heap.size]? = some (.cells #[.slice ao r.length cp] 112 (0, 0)) := by
    rw [hb2.block _ (by simp)]
    exact heap_alloc_new _ _
  have hlt2 : w.heap.size < w2.heap.size := by have := hb2.size; simp at this; omega
  have hJ3 : (w2.alloc (.cells #[.pointer none, .slice none 0 0] 151)).heap[w.heap.size]? = some (.cells #[.slice ao r.length cp] 112 (0, 0)) := by
    rw [Lib.alloc_old _ _ _ hlt2]
    exact hJ2
  have c0 : (w2.alloc (.cells #[.pointer none, .slice none 0 0] 151)).cell? ⟨w.heap.size, 0, none⟩ = some (.slice ao r.length cp) := by rw [Lib.cell_of_heap hJ3]; rfl
  have hO : Stg w w2.heap.size [] (w2.alloc (.cells #[.pointer none, .slice none 0 0] 151)) :=
    ⟨Lib.IsBuilderF.of (Lib.fresh_isBuilder 151 5 w2), hbw2.alloc (by omega) _, by omega, by simp⟩
  generalize hB : w2.heap.size = B at *
  go_wp2_with fail
  generalize w2.alloc (.cells #[.pointer none, .slice none 0 0] 151) = w3 at *
  go_loopw [16] (fun i wr => ∃ k : Nat, k ≤ r.length ∧ i = .int .i64 k ∧ Stg w B (prtR (r.take k)) wr)
    (fun i _ => r.length - (intOf i).toNat)
  case atStart =>
    exact ⟨0, Nat.zero_le _, rfl, by simpa [prtR] using hO⟩
  case round =>
    obtain ⟨k, hk, rfl, hW⟩ := hrel
    by_cases hkl : k < r.length
    · obtain ⟨b, o, rfl, hbl, hc⟩ := hcell k hkl
      have hco := hr.1 _ (List.getElem_mem hkl)
      have hnx : prtR (r.take (k + 1)) = prtR (r.take k) ++ chP r[k] := by
        unfold prtR
        rw [take_next hkl, List.flatMap_append]
        simp
      have hpl := prtR_len (r := r.take k) fun c hc => hr.1 c (List.mem_of_mem_take hc)
      rw [List.length_take] at hpl
      generalize prtR (r.take k) = p at *
      generalize hrk : r[k] = c at *
      obtain ⟨t, hct⟩ : ∃ t : Nat, c.t = t := ⟨c.t.toNat, by have := hco.2.1; omega⟩
      have ht : t < 8 := by have := hco.2.1; omega
      have ce : ∀ q, wr.cell? ⟨b, q, none⟩ = w.cell? ⟨b, q, none⟩ := fun q => cell_of_heap (hW.2.1.block b hbl)
      have d0 : wr.cell? ⟨b, o + k * 14, none⟩ = some (.string (bs c.n)) := (ce _).trans (hc 0 _ rfl)
      have d1 : wr.cell? ⟨b, o + k * 14 + 1, none⟩ = some (.int .i64 (t : Int)) := (ce _).trans ((hc 1 _ rfl).trans (by rw [hct]))
      have d2 : wr.cell? ⟨b, o + k * 14 + 2, none⟩ = some (.int .i64 c.f0) := (ce _).trans (hc 2 _ rfl)
      have d3 : wr.cell? ⟨b, o + k * 14 + 3, none⟩ = some (.int .i64 c.f1) := (ce _).trans (hc 3 _ rfl)
      have d4 : wr.cell? ⟨b, o + k * 14 + 4, none⟩ = some (.int .i64 c.f2) := (ce _).trans (hc 4 _ rfl)
      have d5 : wr.cell? ⟨b, o + k * 14 + 5, none⟩ = some (.int .i64 c.f3) := (ce _).trans (hc 5 _ rfl)
      have d6 : wr.cell? ⟨b, o + k * 14 + 6, none⟩ = some (.int .i64 c.f4) := (ce _).trans (hc 6 _ rfl)
      have d7 : wr.cell? ⟨b, o + k * 14 + 7, none⟩ = some (.int .i64 c.f5) := (ce _).trans (hc 7 _ rfl)
      have d8 : wr.cell? ⟨b, o + k * 14 + 8, none⟩ = some (.int .i64 c.f6) := (ce _).trans (hc 8 _ rfl)
      have d9 : wr.cell? ⟨b, o + k * 14 + 9, none⟩ = some (.int .i64 c.f7) := (ce _).trans (hc 9 _ rfl)
      have d10 : wr.cell? ⟨b, o + k * 14 + 10, none⟩ = some (.int .i64 c.f8) := (ce _).trans (hc 10 _ rfl)
      have d11 : wr.cell? ⟨b, o + k * 14 + 11, none⟩ = some (.int .i64 c.f9) := (ce _).trans (hc 11 _ rfl)
      have d12 : wr.cell? ⟨b, o + k * 14 + 12, none⟩ = some (.int .i64 c.f10) := (ce _).trans (hc 12 _ rfl)
      have d13 : wr.cell? ⟨b, o + k * 14 + 13, none⟩ = some (.int .i64 c.f11) := (ce _).trans (hc 13 _ rfl)
      have hkl2 : (k : Int) < (r.length : Int) := by omega
      clear ce hc hcell hv hb2 hJ2 hJ3 c0
      have hX := heap_alloc_new wr (.cells #[.string (bs c.n), .int .i64 (t : Int), .int .i64 c.f0, .int .i64 c.f1, .int .i64 c.f2, .int .i64 c.f3, .int .i64 c.f4, .int .i64 c.f5, .int .i64 c.f6, .int .i64 c.f7, .int .i64 c.f8, .int .i64 c.f9, .int .i64 c.f10, .int .i64 c.f11] 71)
      have hW4 := hW.alloc (.cells #[.string (bs c.n), .int .i64 (t : Int), .int .i64 c.f0, .int .i64 c.f1, .int .i64 c.f2, .int .i64 c.f3, .int .i64 c.f4, .int .i64 c.f5, .int .i64 c.f6, .int .i64 c.f7, .int .i64 c.f8, .int .i64 c.f9, .int .i64 c.f10, .int .i64 c.f11] 71)
      have hnB : wr.heap.size ≠ B := Nat.ne_of_gt hW.2.2.2
      have hs4 : wr.heap.size < (wr.alloc (.cells #[.string (bs c.n), .int .i64 (t : Int), .int .i64 c.f0, .int .i64 c.f1, .int .i64 c.f2, .int .i64 c.f3, .int .i64 c.f4, .int .i64 c.f5, .int .i64 c.f6, .int .i64 c.f7, .int .i64 c.f8, .int .i64 c.f9, .int .i64 c.f10, .int .i64 c.f11] 71)).heap.size := by simp
      go_wp2_with fail
      generalize wr.alloc (.cells #[.string (bs c.n), .int .i64 (t : Int), .int .i64 c.f0, .int .i64 c.f1, .int .i64 c.f2, .int .i64 c.f3, .int .i64 c.f4, .int .i64 c.f5, .int .i64 c.f6, .int .i64 c.f7, .int .i64 c.f8, .int .i64 c.f9, .int .i64 c.f10, .int .i64 c.f11] 71) = w4 at *
      generalize wr.heap.size = n6 at *
      have e0 : w4.cell? ⟨n6, 0, none⟩ = some (.string (bs c.n)) := by rw [Lib.cell_of_heap hX]; rfl
      have e1 : w4.cell? ⟨n6, 1, none⟩ = some (.int .i64 (t : Int)) := by rw [Lib.cell_of_heap hX]; rfl
      clear d0 d1 d2 d3 d4 d5 d6 d7 d8 d9 d10 d11 d12 d13 hO hW
      have hn2 := hco.1.2.2
      have h6 : ∀ t < 8, (chW.getD t []).length ≤ 6 := by decide
      have h6 := h6 t ht
      obtain ⟨wd, hwd⟩ : ∃ wd, chW.getD t [] = wd := ⟨_, rfl⟩
      have hidx : ∀ W, (Instr.index 156 (.agg wsA) (.int .i64 (t : Int))).run Tryz.prog W = .ok (.string (bs wd)) W := by rw [← hwd]; exact fun W => idx_words ht W
      rw [hwd] at h6
      have hhd : (hdP c).length ≤ 100 := by simp only [hdP, List.length_append, List.length_cons, List.length_nil, chanW, hct, Int.toNat_natCast, hwd]; omega
      have hpp : p.length + 100 ≤ 1000000 := by omega
      have htI : (t : Int) < 8 := by omega
      have hz1 : ¬ 9223372036854775807 < 8 + c.n.length := by omega
      have hz2 : ¬ 9223372036854775807 < 8 + c.n.length + 1 := by omega
      have hz3 : ¬ 9223372036854775807 < 8 + c.n.length + 1 + wd.length := by omega
      have hz4 : ¬ 9223372036854775807 < 8 + c.n.length + 1 + wd.length + 3 := by omega
      go_region_held3 (fun w' => w'.cell? ⟨n6, 0, none⟩ = some (.string (bs c.n)) ∧ w'.cell? ⟨n6, 1, none⟩ = some (.int .i64 (t : Int))) (first | exact ⟨e0, e1⟩ | exact ⟨f0, f1⟩ | exact ⟨g0, g1⟩)
        (first
          | (go_at_call 71
             refine (words_calls _ (hW4.drew.laid hL)).mono ?_
             rintro e w5 ⟨rfl, hb5⟩
             have hW5 := hW4.drew.below hb5
             have hX5 := (hb5.block _ hs4).trans hX
             have hs5 := Nat.lt_of_lt_of_le hs4 hb5.size
             have f0 : w5.cell? ⟨n6, 0, none⟩ = some (.string (bs c.n)) := (by rw [Lib.cell_of_heap hX5]; rfl)
             have f1 : w5.cell? ⟨n6, 1, none⟩ = some (.int .i64 (t : Int)) := (by rw [Lib.cell_of_heap hX5]; rfl))
          | (go_at_call 70
             refine (stg_write hW5 (hdP c) (by simp only [bs_append]; unfold hdP; rw [hct, Int.toNat_natCast, hwd]; simp [chanW]) (by omega)).mono ?_
             rintro e w6 ⟨rfl, hW6, hs6, hk6⟩
             have hX6 := hk6 _ _ _ hX5 hnB (by decide)
             have hs6' := Nat.lt_of_lt_of_le hs5 hs6
             have g0 : w6.cell? ⟨n6, 0, none⟩ = some (.string (bs c.n)) := (by rw [Lib.cell_of_heap hX6]; rfl)
             have g1 : w6.cell? ⟨n6, 1, none⟩ = some (.int .i64 (t : Int)) := (by rw [Lib.cell_of_heap hX6]; rfl)))
      clear hW4 hX hz1 hz2 hz3 hz4 e0 e1 hs4
      have hBn6 : B < w6.heap.size := hW6.2.2.2
      have hqq : (p ++ hdP c).length ≤ 1800 := by simp; omega
      go_wp2_with fail
      refine (fields_calls n6 _).mono ?_
      rintro e w7 ⟨BA, rfl, hBA, hP7, hb7⟩
      have hW7 := hW6.below hb7
      have hX7 := (hb7.block _ hs6').trans hX6
      have hs7 := Nat.lt_of_lt_of_le hs6' hb7.size
      have hA7 : BA < w7.heap.size := (Array.getElem?_eq_some_iff.1 hP7).1
      go_wp2_with fail
      refine (bounds_calls _).mono ?_
      rintro e w8 ⟨BB, rfl, hBB, ⟨cs, hC8, hcs⟩, hb8⟩
      have hW8 := hW7.below hb8
      have hX8 := (hb8.block _ hs7).trans hX7
      have hP8 := (hb8.block _ hA7).trans hP7
      have hAB : BA ≠ B := by omega
      have hBB2 : BB ≠ B := by have := hb7.size; omega
      have hnx2 : prtR (r.take (k + 1)) = (p ++ hdP c) ++ ((fl c).flatMap (fP c) ++ [125, 10]) := by rw [hnx, chP_eq]; simp
      clear hX5 hW5 f0 f1 g0 g1 hX6 hW6 hX7 hW7 hP7 hb7 hb8 hb5 hk6 hidx hnx
      generalize hq : p ++ hdP c = q at *
      go_wp2_with fail
      go_loopw [34] (fun i wr => ∃ j : Nat, j ≤ 12 ∧ i = .int .i64 j ∧ Stg w B (q ++ ((List.range j).filter (flB c)).flatMap (fP c)) wr ∧ wr.heap[n6]? = some (.cells #[.string (bs c.n), .int .i64 (t : Int), .int .i64 c.f0, .int .i64 c.f1, .int .i64 c.f2, .int .i64 c.f3, .int .i64 c.f4, .int .i64 c.f5, .int .i64 c.f6, .int .i64 c.f7, .int .i64 c.f8, .int .i64 c.f9, .int .i64 c.f10, .int .i64 c.f11] 71) ∧ wr.heap[BA]? = some (.cells (ptrs n6).toArray 166 (0, 0)) ∧ wr.heap[BB]? = some (.cells cs 164 (0, 0)))
        (fun i _ => 12 - (intOf i).toNat)
      case atStart =>
        exact ⟨0, Nat.zero_le _, rfl, by simpa using hW8, hX8, hP8, hC8⟩
      case round =>
        obtain ⟨j, hj, rfl, hWt, hXt, hPt, hCt⟩ := hrel
        by_cases hj12 : j < 12
        · have d12 : (j : Int) < 12 := by omega
          obtain ⟨q0, q1, q2, q3⟩ := hcs j hj12
          have u0 : wr.cell? ⟨BB, j * 4, none⟩ = some (.string (bs (fd j).w)) := by rw [Lib.cell_of_heap hCt]; exact q0
          have u1 : wr.cell? ⟨BB, j * 4 + 1, none⟩ = some (.int .i64 (fd j).lo) := by rw [Lib.cell_of_heap hCt]; exact q1
          have u2 : wr.cell? ⟨BB, j * 4 + 2, none⟩ = some (.int .i64 (fd j).hi) := by rw [Lib.cell_of_heap hCt]; exact q2
          have u3 : wr.cell? ⟨BB, j * 4 + 3, none⟩ = some (.int .i64 (fd j).nd) := by rw [Lib.cell_of_heap hCt]; exact q3
          have hBt : B < wr.heap.size := hWt.2.2.2
          have hn6t : n6 < wr.heap.size := (Array.getElem?_eq_some_iff.1 hXt).1
          have hAt : BA < wr.heap.size := (Array.getElem?_eq_some_iff.1 hPt).1
          have hCtl : BB < wr.heap.size := (Array.getElem?_eq_some_iff.1 hCt).1
          have hX9 : (wr.alloc (.cells #[.string (bs (fd j).w), .int .i64 (fd j).lo, .int .i64 (fd j).hi, .int .i64 (fd j).nd] 164)).heap[n6]? = some (.cells #[.string (bs c.n), .int .i64 (t : Int), .int .i64 c.f0, .int .i64 c.f1, .int .i64 c.f2, .int .i64 c.f3, .int .i64 c.f4, .int .i64 c.f5, .int .i64 c.f6, .int .i64 c.f7, .int .i64 c.f8, .int .i64 c.f9, .int .i64 c.f10, .int .i64 c.f11] 71) := by rw [Lib.alloc_old _ _ _ hn6t]; exact hXt
          have hP9 : (wr.alloc (.cells #[.string (bs (fd j).w), .int .i64 (fd j).lo, .int .i64 (fd j).hi, .int .i64 (fd j).nd] 164)).heap[BA]? = some (.cells (ptrs n6).toArray 166 (0, 0)) := by rw [Lib.alloc_old _ _ _ hAt]; exact hPt
          have hC9 : (wr.alloc (.cells #[.string (bs (fd j).w), .int .i64 (fd j).lo, .int .i64 (fd j).hi, .int .i64 (fd j).nd] 164)).heap[BB]? = some (.cells cs 164 (0, 0)) := by rw [Lib.alloc_old _ _ _ hCtl]; exact hCt
          have hF9 := heap_alloc_new wr (.cells #[.string (bs (fd j).w), .int .i64 (fd j).lo, .int .i64 (fd j).hi, .int .i64 (fd j).nd] 164)
          have hW9 := hWt.alloc (.cells #[.string (bs (fd j).w), .int .i64 (fd j).lo, .int .i64 (fd j).hi, .int .i64 (fd j).nd] 164)
          have x1 : (wr.alloc (.cells #[.string (bs (fd j).w), .int .i64 (fd j).lo, .int .i64 (fd j).hi, .int .i64 (fd j).nd] 164)).cell? ⟨n6, 1, none⟩ = some (.int .i64 (t : Int)) := by rw [Lib.cell_of_heap hX9]; rfl
          have hs9 : (wr.alloc (.cells #[.string (bs (fd j).w), .int .i64 (fd j).lo, .int .i64 (fd j).hi, .int .i64 (fd j).nd] 164)).heap.size = wr.heap.size + 1 := by simp
          go_wp2_with fail
          generalize wr.alloc (.cells #[.string (bs (fd j).w), .int .i64 (fd j).lo, .int .i64 (fd j).hi, .int .i64 (fd j).nd] 164) = w9 at *
          generalize wr.heap.size = n9 at *
          refine (need_calls ht hj12 _ (hW9.laid hL)).mono ?_
          rintro e w10 ⟨rfl, hb10⟩
          have hW10 := hW9.below hb10
          have hX10 := (hb10.block _ (by omega)).trans hX9
          have hP10 := (hb10.block _ (by omega)).trans hP9
          have hC10 := (hb10.block _ (by omega)).trans hC9
          have hF10 := (hb10.block _ (by omega)).trans hF9
          have y12 : w10.cell? ⟨n6, 12, none⟩ = some (.int .i64 c.f10) := by rw [Lib.cell_of_heap hX10]; rfl
          have y13 : w10.cell? ⟨n6, 13, none⟩ = some (.int .i64 c.f11) := by rw [Lib.cell_of_heap hX10]; rfl
          have hs10 : n9 < w10.heap.size := Nat.lt_of_lt_of_le (by omega) hb10.size
          have hn6s : n6 < w10.heap.size := by omega
          have hAs : BA < w10.heap.size := by omega
          have hCs : BB < w10.heap.size := by omega
          have hn9B : n9 ≠ B := by omega
          have hst := range_next (flB c) (fP c) j
          have hfl := fls_len hco (i := j) (by omega)
          have hfb : flB c j = (needB (fd j) (t : Nat) || (decide (10 ≤ j) && !decide (c.f10 = c.f11))) := by unfold flB; rw [hct]
          clear hXt hPt hCt hWt hX9 hP9 hC9 hF9 hW9 x1 u0 u1 u2 u3 q0 q1 q2 q3 hb10
          cases hnd : needB (fd j) (t : Nat) with
          | true =>
            rw [hnd] at hfb
            have hb : flB c j = true := hfb
            clear hfb
            rw [hb, if_pos rfl] at hst
            have hnum := vl_num hco hj12 hb
            have hrg : -9223372036854775808 ≤ vl c j ∧ vl c j ≤ 9223372036854775807 := ⟨by have := hnum.1; omega, by have := hnum.2; omega⟩
            have hil : (Lib.itoa (vl c j)).length ≤ 21 := (hco.2.2.1 j hj12).2
            have h6w : ∀ f < 12, (fd f).w.length ≤ 6 := by decide
            have h6w := h6w j hj12
            have hz1 : ¬ 9223372036854775807 < (fd j).w.length + 1 := by omega
            have hz2 : ¬ 9223372036854775807 < (fd j).w.length + 1 + (Lib.itoa (vl c j)).length := by omega
            have hz3 : ¬ 9223372036854775807 < (fd j).w.length + 1 + (Lib.itoa (vl c j)).length + 2 := by omega
            have hle : (q ++ ((List.range j).filter (flB c)).flatMap (fP c)).length + (fP c j).length ≤ 1000000 := by
              have hil2 : (itz (vl c j)).length ≤ 21 := hil
              simp only [fP, List.length_append, List.length_cons, List.length_nil] at hqq hfl ⊢
              omega
            go_wp2_with fail
            have a0 : w10.cell? ⟨n9, 0, none⟩ = some (.string (bs (fd j).w)) := by rw [Lib.cell_of_heap hF10]; rfl
            have a1 : w10.cell? ⟨BA, j, none⟩ = some (.pointer (some ⟨n6, j + 2, none⟩)) := by rw [Lib.cell_of_heap hP10]; exact ptr_at n6 hj12
            have a2 : w10.cell? ⟨n6, j + 2, none⟩ = some (.int .i64 (vl c j)) := by rw [Lib.cell_of_heap hX10]; exact ch_at c _ _ hj12
            go_region_held3 (fun w' => w'.cell? ⟨n9, 0, none⟩ = some (.string (bs (fd j).w)) ∧ w'.cell? ⟨BA, j, none⟩ = some (.pointer (some ⟨n6, j + 2, none⟩)) ∧ w'.cell? ⟨n6, j + 2, none⟩ = some (.int .i64 (vl c j))) (first | exact ⟨a0, a1, a2⟩ | exact ⟨b0, b1, b2⟩ | exact ⟨e0, e1, e2⟩)
              (first
                | (go_at_call 75
                   refine (itoa_calls _ hrg _ (hW10.drew.laid hL)).mono ?_
                   rintro e w11 ⟨rfl, hb11⟩
                   have hW11 := hW10.drew.below hb11
                   have hX11 := (hb11.block _ hn6s).trans hX10
                   have hP11 := (hb11.block _ hAs).trans hP10
                   have hC11 := (hb11.block _ hCs).trans hC10
                   have hF11 := (hb11.block _ hs10).trans hF10
                   have b0 : w11.cell? ⟨n9, 0, none⟩ = some (.string (bs (fd j).w)) := (by rw [Lib.cell_of_heap hF11]; rfl)
                   have b1 : w11.cell? ⟨BA, j, none⟩ = some (.pointer (some ⟨n6, j + 2, none⟩)) := (by rw [Lib.cell_of_heap hP11]; exact ptr_at n6 hj12)
                   have b2 : w11.cell? ⟨n6, j + 2, none⟩ = some (.int .i64 (vl c j)) := (by rw [Lib.cell_of_heap hX11]; exact ch_at c _ _ hj12))
                | (go_at_call 70
                   refine (stg_write hW11 (fP c j) (by simp only [bs_append]; unfold fP; simp) hle).mono ?_
                   rintro e w12 ⟨rfl, hW12, hs12, hk12⟩
                   have hX12 := hk12 _ _ _ hX11 hnB (by decide)
                   have hP12 := hk12 _ _ _ hP11 hAB (by decide)
                   have hC12 := hk12 _ _ _ hC11 hBB2 (by decide)
                   have hF12 := hk12 _ _ _ hF11 hn9B (by decide)
                   have e0 : w12.cell? ⟨n9, 0, none⟩ = some (.string (bs (fd j).w)) := (by rw [Lib.cell_of_heap hF12]; rfl)
                   have e1 : w12.cell? ⟨BA, j, none⟩ = some (.pointer (some ⟨n6, j + 2, none⟩)) := (by rw [Lib.cell_of_heap hP12]; exact ptr_at n6 hj12)
                   have e2 : w12.cell? ⟨n6, j + 2, none⟩ = some (.int .i64 (vl c j)) := (by rw [Lib.cell_of_heap hX12]; exact ch_at c _ _ hj12)))
            clear hz1 hz2 hz3
            go_wp2_with fail
            go_roundw
            case rel => exact ⟨j + 1, by omega, by simp, by rw [hst, ← List.append_assoc]; exact hW12, hX12, hP12, hC12⟩
            case measure => simp [intOf]; omega
          | false =>
            rw [hnd] at hfb
            by_cases h10 : 10 ≤ j
            · have h10' : (10 : Int) ≤ (j : Int) := by omega
              by_cases hff : c.f10 = c.f11
              · have hb : flB c j = false := by rw [hfb, decide_eq_true hff]; simp
                have hff' : (c.f10 != c.f11) = false := by simpa using hff
                clear hfb hff
                rw [hb, if_neg (by decide), List.append_nil] at hst
                go_wp2_with fail
                go_roundw
                case rel => exact ⟨j + 1, by omega, by simp, by rw [hst]; exact hW10, hX10, hP10, hC10⟩
                case measure => simp [intOf]; omega
              · have hb : flB c j = true := by rw [hfb, decide_eq_true h10, decide_eq_false hff]; rfl
                have hff' : (c.f10 != c.f11) = true := by simpa using hff
                clear hfb
                rw [hb, if_pos rfl] at hst
                have hnum := vl_num hco hj12 hb
                have hrg : -9223372036854775808 ≤ vl c j ∧ vl c j ≤ 9223372036854775807 := ⟨by have := hnum.1; omega, by have := hnum.2; omega⟩
                have hil : (Lib.itoa (vl c j)).length ≤ 21 := (hco.2.2.1 j hj12).2
                have h6w : ∀ f < 12, (fd f).w.length ≤ 6 := by decide
                have h6w := h6w j hj12
                have hz1 : ¬ 9223372036854775807 < (fd j).w.length + 1 := by omega
                have hz2 : ¬ 9223372036854775807 < (fd j).w.length + 1 + (Lib.itoa (vl c j)).length := by omega
                have hz3 : ¬ 9223372036854775807 < (fd j).w.length + 1 + (Lib.itoa (vl c j)).length + 2 := by omega
                have hle : (q ++ ((List.range j).filter (flB c)).flatMap (fP c)).length + (fP c j).length ≤ 1000000 := by
                  have hil2 : (itz (vl c j)).length ≤ 21 := hil
                  simp only [fP, List.length_append, List.length_cons, List.length_nil] at hqq hfl ⊢
                  omega
                go_wp2_with fail
                have a0 : w10.cell? ⟨n9, 0, none⟩ = some (.string (bs (fd j).w)) := by rw [Lib.cell_of_heap hF10]; rfl
                have a1 : w10.cell? ⟨BA, j, none⟩ = some (.pointer (some ⟨n6, j + 2, none⟩)) := by rw [Lib.cell_of_heap hP10]; exact ptr_at n6 hj12
                have a2 : w10.cell? ⟨n6, j + 2, none⟩ = some (.int .i64 (vl c j)) := by rw [Lib.cell_of_heap hX10]; exact ch_at c _ _ hj12
                go_region_held3 (fun w' => w'.cell? ⟨n9, 0, none⟩ = some (.string (bs (fd j).w)) ∧ w'.cell? ⟨BA, j, none⟩ = some (.pointer (some ⟨n6, j + 2, none⟩)) ∧ w'.cell? ⟨n6, j + 2, none⟩ = some (.int .i64 (vl c j))) (first | exact ⟨a0, a1, a2⟩ | exact ⟨b0, b1, b2⟩ | exact ⟨e0, e1, e2⟩)
                  (first
                    | (go_at_call 75
                       refine (itoa_calls _ hrg _ (hW10.drew.laid hL)).mono ?_
                       rintro e w11 ⟨rfl, hb11⟩
                       have hW11 := hW10.drew.below hb11
                       have hX11 := (hb11.block _ hn6s).trans hX10
                       have hP11 := (hb11.block _ hAs).trans hP10
                       have hC11 := (hb11.block _ hCs).trans hC10
                       have hF11 := (hb11.block _ hs10).trans hF10
                       have b0 : w11.cell? ⟨n9, 0, none⟩ = some (.string (bs (fd j).w)) := (by rw [Lib.cell_of_heap hF11]; rfl)
                       have b1 : w11.cell? ⟨BA, j, none⟩ = some (.pointer (some ⟨n6, j + 2, none⟩)) := (by rw [Lib.cell_of_heap hP11]; exact ptr_at n6 hj12)
                       have b2 : w11.cell? ⟨n6, j + 2, none⟩ = some (.int .i64 (vl c j)) := (by rw [Lib.cell_of_heap hX11]; exact ch_at c _ _ hj12))
                    | (go_at_call 70
                       refine (stg_write hW11 (fP c j) (by simp only [bs_append]; unfold fP; simp) hle).mono ?_
                       rintro e w12 ⟨rfl, hW12, hs12, hk12⟩
                       have hX12 := hk12 _ _ _ hX11 hnB (by decide)
                       have hP12 := hk12 _ _ _ hP11 hAB (by decide)
                       have hC12 := hk12 _ _ _ hC11 hBB2 (by decide)
                       have hF12 := hk12 _ _ _ hF11 hn9B (by decide)
                       have e0 : w12.cell? ⟨n9, 0, none⟩ = some (.string (bs (fd j).w)) := (by rw [Lib.cell_of_heap hF12]; rfl)
                       have e1 : w12.cell? ⟨BA, j, none⟩ = some (.pointer (some ⟨n6, j + 2, none⟩)) := (by rw [Lib.cell_of_heap hP12]; exact ptr_at n6 hj12)
                       have e2 : w12.cell? ⟨n6, j + 2, none⟩ = some (.int .i64 (vl c j)) := (by rw [Lib.cell_of_heap hX12]; exact ch_at c _ _ hj12)))
                clear hz1 hz2 hz3
                go_wp2_with fail
                go_roundw
                case rel => exact ⟨j + 1, by omega, by simp, by rw [hst, ← List.append_assoc]; exact hW12, hX12, hP12, hC12⟩
                case measure => simp [intOf]; omega
            · have h10' : ¬ (10 : Int) ≤ (j : Int) := by omega
              have hb : flB c j = false := by rw [hfb, decide_eq_false h10]; rfl
              clear hfb
              rw [hb, if_neg (by decide), List.append_nil] at hst
              go_wp2_with fail
              go_roundw
              case rel => exact ⟨j + 1, by omega, by simp, by rw [hst]; exact hW10, hX10, hP10, hC10⟩
              case measure => simp [intOf]; omega
        · obtain rfl : j = 12 := by omega
          have hflc : ((List.range 12).filter (flB c)).flatMap (fP c) = (fl c).flatMap (fP c) := rfl
          have hfl := fls_len hco (i := 12) (by omega)
          rw [hflc] at hWt hfl
          go_wp2_with fail
          refine (stg_write hWt [125, 10] rfl (by simp only [List.length_append, List.length_cons, List.length_nil] at hqq ⊢; omega)).mono ?_
          rintro e w11 ⟨rfl, hW11, hs11, hk11⟩
          go_wp2_with fail
          go_roundw
          case rel => exact ⟨k + 1, by omega, by simp, by rw [hnx2, ← List.append_assoc]; exact hW11⟩
          case measure => simp [intOf]; omega
    · obtain rfl : k = r.length := by omega
      rw [List.take_length] at hW
      go_wp2_with fail
      refine (stg_string hW).mono ?_
      rintro e w6 ⟨rfl, hb6⟩
      go_wp2
      go_ret2
      exact ⟨rfl, hb6⟩
end Go.Proofs.YtkonpbcnekcjjaaGreatDoor
namespace Go.Proofs.YtkonpbcnekcjjaaGreatDoor
open Go Go.Xec
attribute [local go_sem] tm0 ne_eq not_false_eq_true List.length_append List.length_replicate List.replicate_succ List.replicate_zero Int.cast_ofNat_Int not_true_eq_false decide_true decide_false ite_self beq_self_eq_true Bool.true_beq Bool.false_beq Bool.not_true Bool.not_false
attribute [local go_sem_proc] Nat.reduceAdd Nat.reduceMul Nat.reduceSub Nat.reduceLeDiff Nat.reduceLT Nat.reduceEqDiff Int.reduceLT Int.reduceLE Int.reduceAdd Int.reduceSub Int.reduceMul Int.reduceToNat Int.reducePow Int.reduceNe Int.reduceMod Int.reduceDiv Int.reduceEq Nat.reducePow Int.reduceNeg
set_option maxRecDepth 10000
structure En where
  k : Int
  c : Int
  s : Int
  v : Int
abbrev EK (e : En) : AVal := .agg [.int .i64 e.k, .int .i64 e.c, .int .i64 e.s, .int .i64 e.v]
abbrev RE (a : AVal) (l : List En) : Prop := Rg 4 EK a l
theorem EK_plain (d : Nat) (e : En) : plain (d + 1) (EK e) = true := rfl
theorem EK_sc (e : En) : (cellsOf (EK e)).all isSc = true := rfl
def isEK : AVal → Bool
  | .agg [.int .i64 _, .int .i64 _, .int .i64 _, .int .i64 _] => true
  | _ => false
theorem isEK_inv : ∀ (xs : List AVal), xs.all isEK = true → ∃ l : List En, xs = l.map EK
  | [], _ => ⟨[], rfl⟩
  | x :: xs, h => by
    simp only [List.all_cons, Bool.and_eq_true] at h
    obtain ⟨l, rfl⟩ := isEK_inv xs h.2
    have h1 := h.1
    unfold isEK at h1
    split at h1
    · exact ⟨⟨_, _, _, _⟩ :: l, rfl⟩
    · cases h1
def clN : List AVal → Option (Option (Nat × List AVal))
  | [.nils] => some none
  | [.emp] => some (some (4, []))
  | [.slc 4 xs] => if xs.all isEK = true ∧ xs.length ≤ 100000 then some (some (4, xs)) else none
  | _ => none
theorem clone188 {a : AVal} {l : List En} (ha : RE a l) (h0 : a ≠ .nils) (hl : l.length ≤ 100000) : Bd (inlD C2 1 188 [a] (fun _ => none) 0) fun q => ∃ k g, q.1 = .sl k g 4 0 (l.map EK).length ∧ q.2.1 k = some (.row g 4 (l.map EK)) := by
  refine inl_of (x := x188) rfl rfl ?_
  rw [x188_eq.1, x188_eq.2.1]
  have hn : nilA 0 a = some false := by
    rcases ha with ⟨rfl, rfl⟩ | ⟨rfl, rfl⟩ | rfl
    · exact absurd rfl h0
    · rfl
    · rfl
  have hel : ∀ hp, elemsA 4 a hp = some (l.map EK) := fun hp => ha.elems
  have hpl : ∀ d, plainL (d + 1) (l.map EK) = true := fun d => plainL_map _ (fun x => EK_plain d x) _
  have hsc := all_map EK_sc l
  have hlen : (l.map EK).length = l.length := List.length_map ..
  have ht : (0 + (l.map EK).length) * 32 ≤ 140737488355328 := by rw [hlen]; omega
  have hap : ∀ (key : Key) (hp : Heap) (k : Key), hp k = some (.row 0 4 []) → appA 4 32 key (.sl k 0 4 0 0) a hp = some (.sl k 1 4 0 (l.map EK).length, upd hp k (some (.row 1 4 (l.map EK)))) := by
    intro key hp k hk
    rw [appA_sl, hel, Option.bind_some, lendA_plain (hpl 63), Option.bind_some]
    rw [if_pos (by simp), hk, Option.bind_some, grown_row, if_pos ⟨by simp, ht, hsc⟩]
    simp only [List.map_nil, List.nil_append, applyW, List.drop_zero, Nat.zero_add]
  simp (disch := first | omega | simp only [go_sem, ↓reduceIte, dropK_eq]) only [x188b, go_sem, ↓reduceIte, dropK_eq, hn, hap]
  exact ⟨_, _, rfl, by simp only [go_sem, ↓reduceIte, dropK_eq]⟩
theorem soundN188 : SoundN Tryz.prog 188 clN := by
  refine soundN_of ok2 1 ?_
  intro ys r hr
  have main : ∀ (a : AVal) (l : List En), RE a l → a ≠ .nils → l.length ≤ 100000 → ∃ v h nc, inlD C2 1 188 [a] (fun _ => none) 0 = some (v, h, nc) ∧ ∃ k g, v = .sl k g 4 0 (l.map EK).length ∧ h k = some (.row g 4 (l.map EK)) := by
    intro a l ha h0 hl
    have h := clone188 ha h0 hl
    unfold Bd at h
    obtain ⟨⟨v, hp, nc⟩, e, k, g, h1, h2⟩ := h
    exact ⟨v, hp, nc, e, k, g, h1, h2⟩
  unfold clN at hr
  split at hr
  · cases hr
    have : Bd (inlD C2 1 188 [.nils] (fun _ => none) 0) fun q => q.1 = .nils := by
      refine inl_of (x := x188) rfl rfl ?_
      rw [x188_eq.1, x188_eq.2.1]
      simp (disch := first | omega | simp only [go_sem, ↓reduceIte, dropK_eq]) only [x188b, go_sem, ↓reduceIte, dropK_eq]
    unfold Bd at this
    obtain ⟨⟨v, hp, nc⟩, e, rfl⟩ := this
    exact ⟨_, hp, nc, e, rfl⟩
  · cases hr
    exact main .emp [] (.inr (.inl ⟨rfl, rfl⟩)) (by intro h; cases h) (by simp)
  · split at hr
    · rename_i xs hc
      cases hr
      obtain ⟨l, rfl⟩ := isEK_inv xs hc.1
      exact main (.slc 4 (l.map EK)) l (Rg.slc l) (by intro h; cases h) (by simpa using hc.2)
    · cases hr
  · cases hr
def clQ : List AVal → Option (Option (Nat × List AVal))
  | [.nils] => some none
  | _ => none
theorem soundN419 : SoundN Tryz.prog 419 clQ := by
  refine soundN_of ok2 1 ?_
  intro ys r hr
  unfold clQ at hr
  split at hr
  · cases hr
    have : Bd (inlD C2 1 419 [.nils] (fun _ => none) 0) fun q => q.1 = .nils := by
      refine inl_of (x := x419) rfl rfl ?_
      rw [x419_eq.1, x419_eq.2.1]
      simp (disch := first | omega | simp only [go_sem, ↓reduceIte, dropK_eq]) only [x419b, go_sem, ↓reduceIte, dropK_eq]
    unfold Bd at this
    obtain ⟨⟨v, hp, nc⟩, e, rfl⟩ := this
    exact ⟨_, hp, nc, e, rfl⟩
  · cases hr
end Go.Proofs.YtkonpbcnekcjjaaGreatDoor
namespace Go.Proofs.YtkonpbcnekcjjaaGreatDoor
open Go Go.Xec
set_option maxRecDepth 10000
structure Al where
  c : Int
  k : Int
  s : Int
  deriving DecidableEq
abbrev AK (a : Al) : AVal := .agg [.int .i64 a.c, .int .i64 a.k, .int .i64 a.s]
abbrev KV (c k : Int) : AVal := .agg [.int .i64 c, .int .i64 k]
abbrev kOk (c k : Int) : Prop := 0 ≤ c ∧ c ≤ 3 ∧ 0 ≤ k ∧ k ≤ 15
def num (a : Al) : Int := 16 * a.c + a.k
def cmpI (a b : Int) : Int := if a < b then -1 else if b < a then 1 else 0
def ordA (a b : Al) : Int := if cmpI a.c b.c = 0 then cmpI a.k b.k else cmpI a.c b.c
theorem ordA_num {a b : Al} (ha : kOk a.c a.k) (hb : kOk b.c b.k) : ordA a b < 0 ↔ num a < num b := by
  simp only [kOk] at ha hb
  unfold ordA cmpI num
  repeat' split
  all_goals omega
end Go.Proofs.YtkonpbcnekcjjaaGreatDoor
namespace Go.Proofs.YtkonpbcnekcjjaaGreatDoor
open Go Go.RowKit Go.Shelf Go.Sort
set_option maxHeartbeats 1000000 in
theorem or_calls (a b r : Int) (hr1 : a ≠ 0 → r = a) (hr0 : a = 0 → r = b) (B : Nat) (w : World) (h0 : w.cell? ⟨B, 0, none⟩ = some (.int .i64 a)) (h1 : w.cell? ⟨B, 1, none⟩ = some (.int .i64 b)) :
    Calls Tryz.prog 206 #[.slice (some ⟨B, 0, none⟩) 2 2] w fun e w' => e = .returned (.int .i64 r) ∧ w' = w := by
  go_enter Tryz.func206, Tryz.ntmps206
  go_wp2_with fail
  go_loopw [8] (fun i wr => wr = w ∧ ∃ k : Nat, k ≤ 2 ∧ i = .int .i64 k ∧ (1 ≤ k → a = 0) ∧ (2 ≤ k → b = 0)) (fun i _ => 2 - (intOf i).toNat)
  case atStart => exact ⟨rfl, 0, by omega, rfl, by omega, by omega⟩
  case round =>
    obtain ⟨rfl, k, hk, rfl, ha, hb⟩ := hrel
    match k, hk, ha, hb with
    | 0, _, _, _ =>
      go_wp2_with fail
      · have hne : (a != 0) = true := by assumption
        go_ret
        exact ⟨by rw [hr1 (by simpa using hne)]; rfl, rfl⟩
      · have hne : (a != 0) = false := by assumption
        go_roundw
        case rel => exact ⟨trivial, 1, by omega, by simp, fun _ => by simpa using hne, by omega⟩
        case measure => simp [intOf]
    | 1, _, ha, _ =>
      go_wp2_with fail
      · have hne : (b != 0) = true := by assumption
        go_ret
        exact ⟨by rw [hr0 (ha (by omega))]; rfl, rfl⟩
      · have hne : (b != 0) = false := by assumption
        go_roundw
        case rel => exact ⟨trivial, 2, by omega, by simp, fun _ => ha (by omega), fun _ => by simpa using hne⟩
        case measure => simp [intOf]
    | 2, _, ha, hb =>
      go_wp2_with fail
      go_ret
      exact ⟨by rw [hr0 (ha (by omega)), hb (by omega)]; rfl, rfl⟩
theorem cmp_lib (a b : Int) : Lib.compareInt a b = cmpI a b := by
  unfold Lib.compareInt cmpI
  rfl
theorem cmp_calls (a b : Int) (w : World) : Calls Tryz.prog 207 #[.int .i64 a, .int .i64 b] w fun e w' => e = .returned (.int .i64 (cmpI a b)) ∧ w' = w := by
  have h := AnyG.cmp_Compare_int Tryz.cmpIA a b w
  rw [cmp_lib] at h
  exact h
def encAl (a : Al) : List Value := [.int .i64 a.c, .int .i64 a.k, .int .i64 a.s]
theorem region_still (n : Nat) {P : Program} {l : List Oper} {id : Nat} {Q : Exit → Act → World → Prop} {a : Act} {w : World} (hm : P.follows .mixedOrders = true)
    (hB : Region.lexTailB .any l.toArray n = true) (W : World) (hW : W = w.drew) (h : wpStill P l.toArray W (fun a' => wpList P l.toArray Q (l.drop n) a' W) (l.take n) a) : (Code.region id l.toArray true).wp P Q a w := by
  subst hW
  exact wp_region_still_tail n hm hB h
theorem cellE {w : World} {b i : Nat} {cs : Array Value} {T : TypeId} {fr : Nat × Nat} {v : Value} (h : w.heap[b]? = some (.cells cs T fr)) (hi : cs[i]? = some v) : w.cell? ⟨b, i, none⟩ = some v := by
  simp only [World.cell?, h, hi]
  rfl
set_option maxRecDepth 100000 in
set_option maxHeartbeats 1000000 in
theorem order_calls (x y : Al) (w : World) : Calls Tryz.prog 172 #[.agg #[.int .i64 x.c, .int .i64 x.k, .int .i64 x.s], .agg #[.int .i64 y.c, .int .i64 y.k, .int .i64 y.s]] w fun e w' => e = .returned (.int .i64 (ordA x y)) ∧ ∃ q os', w' = grow (w.drewN q) os' := by
  have h1 := fun W => cmp_calls x.c y.c W
  have h2 := fun W => cmp_calls x.k y.k W
  have h3 := or_calls (cmpI x.c y.c) (cmpI x.k y.k) (ordA x y) (fun h => if_neg h) (fun h => if_pos h)
  generalize ordA x y = r at h3 ⊢
  generalize cmpI x.c y.c = p at h1 h3
  generalize cmpI x.k y.k = q at h2 h3
  go_enter Tryz.func172, Tryz.ntmps172
  go_wp2_with fail
  have a1 := Go.heap_alloc_new w (.cells #[Value.int .i64 x.c, Value.int .i64 x.k, Value.int .i64 x.s] 221)
  have a2 := Go.heap_alloc_new (w.alloc (.cells #[Value.int .i64 x.c, Value.int .i64 x.k, Value.int .i64 x.s] 221)) (.cells #[Value.int .i64 y.c, Value.int .i64 y.k, Value.int .i64 y.s] 221)
  rw [show (w.alloc (.cells #[Value.int .i64 x.c, Value.int .i64 x.k, Value.int .i64 x.s] 221)).heap.size = w.heap.size + 1 by simp] at a2
  have hx : ((w.alloc (.cells #[Value.int .i64 x.c, Value.int .i64 x.k, Value.int .i64 x.s] 221)).alloc (.cells #[Value.int .i64 y.c, Value.int .i64 y.k, Value.int .i64 y.s] 221)).drew.heap[w.heap.size]? = some (.cells #[Value.int .i64 x.c, Value.int .i64 x.k, Value.int .i64 x.s] 221) := (Below.heap_alloc _ _ _ (by simp)).trans a1
  have hy : ((w.alloc (.cells #[Value.int .i64 x.c, Value.int .i64 x.k, Value.int .i64 x.s] 221)).alloc (.cells #[Value.int .i64 y.c, Value.int .i64 y.k, Value.int .i64 y.s] 221)).drew.heap[w.heap.size + 1]? = some (.cells #[Value.int .i64 y.c, Value.int .i64 y.k, Value.int .i64 y.s] 221) := a2
  have hg : ((w.alloc (.cells #[Value.int .i64 x.c, Value.int .i64 x.k, Value.int .i64 x.s] 221)).alloc (.cells #[Value.int .i64 y.c, Value.int .i64 y.k, Value.int .i64 y.s] 221)).drew = grow (w.drewN 1) #[.cells #[Value.int .i64 x.c, Value.int .i64 x.k, Value.int .i64 x.s] 221, .cells #[Value.int .i64 y.c, Value.int .i64 y.k, Value.int .i64 y.s] 221] := rfl
  generalize ((w.alloc (.cells #[Value.int .i64 x.c, Value.int .i64 x.k, Value.int .i64 x.s] 221)).alloc (.cells #[Value.int .i64 y.c, Value.int .i64 y.k, Value.int .i64 y.s] 221)) = W1 at hx hy hg ⊢
  refine region_still 10 (by kernel_rfl) (by kernel_rfl) _ rfl ?_
  generalize W1.drew = W at hx hy hg ⊢
  have x0 : W.cell? ⟨w.heap.size, 0, none⟩ = some (.int .i64 x.c) := cellE hx rfl
  have x1 : W.cell? ⟨w.heap.size, 1, none⟩ = some (.int .i64 x.k) := cellE hx rfl
  have y0 : W.cell? ⟨w.heap.size + 1, 0, none⟩ = some (.int .i64 y.c) := cellE hy rfl
  have y1 : W.cell? ⟨w.heap.size + 1, 1, none⟩ = some (.int .i64 y.k) := cellE hy rfl
  simp only [List.take_succ_cons, List.take_zero, List.drop_succ_cons, List.drop_zero]
  have HG : Hid _ := hg
  have H3 : Hid _ := h3
  clear a1 a2 hx hy hg h3
  repeat still_step
  still_call (h1 W)
  repeat still_step
  still_call (h2 W)
  refine wpStill_nil ?_
  go_wp2_with (go_at_call 206; refine (H3.out _ _ ?_ ?_).mono ?_; exact cellE (Go.heap_alloc_new _ _) rfl; exact cellE (Go.heap_alloc_new _ _) rfl; rintro e w' ⟨rfl, hw⟩; rw [hw])
  go_ret
  exact ⟨rfl, 1, _, by rw [HG.out, alloc_eq_grow, grow_grow]⟩
instance : Inhabited Al := ⟨⟨0, 0, 0⟩⟩
theorem order_lays (blk off size : Nat) (w : World) : CmpLays Tryz.prog 172 #[] encAl 3 ordA blk off size w :=
  fun _ _ _ _ x y => order_calls x y _
theorem cmpI_lt (a b : Int) : (cmpI a b < 0 ↔ a < b) ∧ (cmpI a b = 0 ↔ a = b) := by
  unfold cmpI
  constructor
  all_goals repeat' split
  all_goals omega
theorem ordA_lt (a b : Al) : ordA a b < 0 ↔ a.c < b.c ∨ (a.c = b.c ∧ a.k < b.k) := by
  have h1 := cmpI_lt a.c b.c
  have h2 := cmpI_lt a.k b.k
  unfold ordA
  split <;> omega
theorem ordA_swo : SWO (ltOf ordA) where
  irrefl x := by rw [ltOf, decide_eq_false_iff_not, ordA_lt]; omega
  trans x y z h1 h2 := by
    rw [ltOf, decide_eq_true_eq, ordA_lt] at *
    omega
  ntrans x y z h1 h2 := by
    rw [ltOf, decide_eq_false_iff_not, ordA_lt] at *
    omega
def ME (p : Al × Nat) : MapEntry := { key := .agg #[.int .i64 p.1.c, .int .i64 p.1.k], val := .int .i64 p.1.s, born := p.2 }
def entM (m : List (Al × Nat)) : List (Go.Xec.AVal × Go.Xec.AVal × Nat) := m.map fun p => (KV p.1.c p.1.k, .int .i64 p.1.s, p.2)
theorem EL_ent {x : Go.Xec.Ctx} : ∀ {m : List (Al × Nat)} {es : List MapEntry}, Go.Xec.EL x (entM m) es → es = m.map ME
  | [], _, h => h
  | p :: m, _, ⟨e, r, rfl, h1, h2, h3, h4⟩ => by
    rw [List.map_cons, ← EL_ent h4]
    simp only [Go.Xec.V, Go.Xec.VL] at h1 h2
    obtain ⟨cs, hk, a, q, rfl, ha, b, s, rfl, hb, rfl⟩ := h1
    obtain ⟨k, v, n⟩ := e
    simp only at hk h2 h3
    subst hk ha hb h2 h3
    rfl
def leftL (m : List (Al × Nat)) (seen : Array Nat) : List (Al × Nat) := m.filter fun p => !seen.contains p.2
theorem leftL_nil (m : List (Al × Nat)) : leftL m #[] = m := by simp [leftL]
theorem leftOf_ME (m : List (Al × Nat)) (seen : Array Nat) : (leftOf (m.map ME).toArray seen).toList = (leftL m seen).map ME := by
  unfold leftOf leftL
  rw [Array.toList_filter, List.filter_map]
  rfl
theorem strike {p : Al × Nat} : ∀ {L : List (Al × Nat)}, (L.map (·.2)).Nodup → p ∈ L → L.Perm (p :: L.filter fun q => q.2 != p.2)
  | x :: r, hn, hp => by
    rw [List.map_cons, List.nodup_cons] at hn
    rcases List.mem_cons.1 hp with rfl | hp
    · have h : (p :: r).filter (fun q => q.2 != p.2) = r := by
        rw [List.filter_cons, if_neg (by simp)]
        refine List.filter_eq_self.2 fun q hq => ?_
        have : q.2 ≠ p.2 := fun e => hn.1 (List.mem_map.2 ⟨q, hq, e⟩)
        simp [this]
      rw [h]
    · have hx : x.2 ≠ p.2 := fun e => hn.1 (List.mem_map.2 ⟨p, hp, e.symm⟩)
      rw [List.filter_cons, if_pos (by simp [hx])]
      exact ((strike hn.2 hp).cons x).trans (List.Perm.swap _ _ _)
theorem leftL_push (m : List (Al × Nat)) (seen : Array Nat) (n : Nat) : leftL m (seen.push n) = (leftL m seen).filter fun q => q.2 != n := by
  unfold leftL
  rw [List.filter_filter]
  congr 1
  funext q
  rw [Array.contains_push]
  cases seen.contains q.2 <;> simp [bne]
theorem leftL_nodup {m : List (Al × Nat)} (hn : (m.map (·.2)).Nodup) (seen : Array Nat) : ((leftL m seen).map (·.2)).Nodup := hn.sublist (List.filter_sublist.map _)
theorem vis_step {m ms : List (Al × Nat)} {seen : Array Nat} (hn : (m.map (·.2)).Nodup) (h : (ms ++ leftL m seen).Perm m) {p : Al × Nat} (hp : p ∈ leftL m seen) : ((ms ++ [p]) ++ leftL m (seen.push p.2)).Perm m ∧ (leftL m (seen.push p.2)).length < (leftL m seen).length := by
  rw [leftL_push]
  have hs := strike (leftL_nodup hn seen) hp
  constructor
  · rw [List.append_assoc]
    exact (List.Perm.append_left ms hs.symm).trans h
  · rw [hs.length_eq, List.length_cons]
    omega
section
variable {P : Program} (w : World) {ops : Array Oper} {rest : List Oper} {o : Oper} {a : Act} {Q : Exit → Act → World → Prop}
theorem wpList_range_m (hg : o.guard = none) (m : Operand) (t : TypeId) (hop : o.op = Op.range t m) (k e : TypeId) (ht : P.underlying t = some (.map k e)) (b : Nat) (es : Array MapEntry) (cl : Nat)
    (hm : a.eval m = .map (some b)) (hb : w.heap[b]? = some (.map es cl))
    (hK : wpList P ops Q rest (a.put o.dst (.pointer (some ⟨w.heap.size, 0, none⟩))) (w.alloc (.mapIter (some b) cl #[] cl))) :
    wpList P ops Q (o :: rest) a w := by
  refine wpList_plain hg fun K' hK' => ?_
  unfold Oper.wp
  simp [execOp, hop, hm, run_range_map w t k e b es cl ht hb, Result.andThen]
  exact hK' _ _ hK
theorem wpList_next_m (hg : o.guard = none) (it : Operand) (hop : o.op = Op.next it false) (r b cl : Nat) (seen : Array Nat) (m : List (Al × Nat))
    (hit : a.eval it = .pointer (some ⟨r, 0, none⟩)) (hr : w.heap[r]? = some (.mapIter (some b) cl seen cl)) (hrb : r ≠ b) (hb : w.heap[b]? = some (.map (m.map ME).toArray cl)) (hold : ∀ p ∈ m, p.2 < cl) (hn : (m.map (·.2)).Nodup)
    (hDone : leftL m seen = [] → wpList P ops Q rest (a.put o.dst (.tuple #[.bool false])) w)
    (hMore : ∀ p ∈ leftL m seen, ∀ w' : World, w.grownBy w' (some r) → w'.heap.size = w.heap.size → w'.heap[r]? = some (.mapIter (some b) cl (seen.push p.2) cl) → (Instr.entry (.pointer (some ⟨r, 0, none⟩))).run P w' = .ok (.tuple #[.agg #[.int .i64 p.1.c, .int .i64 p.1.k], .int .i64 p.1.s]) w' →
      wpList P ops Q rest (a.put o.dst (.tuple #[.bool true, .agg #[.int .i64 p.1.c, .int .i64 p.1.k], .int .i64 p.1.s])) w') :
    wpList P ops Q (o :: rest) a w := by
  refine wpList_plain hg fun K' hK' => ?_
  have hold' : ∀ x ∈ (m.map ME).toArray.toList, x.born < cl := by
    intro x hx
    obtain ⟨p, hp, rfl⟩ := List.mem_map.1 hx
    exact hold p hp
  have hn' : ((m.map ME).toArray.toList.map (·.born)).Nodup := by
    rw [List.map_map]
    exact hn
  unfold Oper.wp
  rcases run_next_at (P := P) w o.type r b cl cl seen _ cl hr hb hold' (Nat.le_refl _) with ⟨h0, hrun⟩ | ⟨e, he, w1, hw1, hrun⟩
  · simp [execOp, hop, hit, hrun, Result.andThen]
    refine hK' _ _ (hDone ?_)
    have : (leftOf (m.map ME).toArray seen).toList.length = 0 := by simpa using h0
    rw [leftOf_ME, List.length_map] at this
    exact List.eq_nil_of_length_eq_zero this
  · rw [leftOf_ME] at he
    obtain ⟨p, hp, rfl⟩ := List.mem_map.1 he
    simp [execOp, hop, hit, hrun, Result.andThen]
    have hlt := (Array.getElem?_eq_some_iff.1 hr).1
    have hs : w1.heap = w.heap := by rcases hw1 with rfl | rfl <;> rfl
    have hr1 : w1.heap[r]? = some (.mapIter (some b) cl seen cl) := by rw [hs]; exact hr
    refine hK' _ _ (hMore p hp _ ?_ ?_ ?_ ?_)
    · refine ⟨by rcases hw1 with rfl | rfl <;> rfl, by rcases hw1 with rfl | rfl <;> rfl, by rcases hw1 with rfl | rfl <;> rfl, ?_, ?_⟩
      · simp [ChangeMaps.setBlock, hs]
      · intro k hk hne
        have : r ≠ k := fun e => hne (by rw [e])
        simp [ChangeMaps.setBlock, hs, Array.getElem?_setIfInBounds, this]
    · simp [ChangeMaps.setBlock, hs]
    · simp [ChangeMaps.setBlock, hs, hlt]
      rfl
    · refine run_entry_at (P := P) _ r b cl seen _ cl (ME p) ?_ ?_ ?_ hn'
      · simp [ChangeMaps.setBlock, hs, hlt]
      · simp [ChangeMaps.setBlock, hs, Array.getElem?_setIfInBounds, hrb, hb]
      · exact List.mem_map.2 ⟨p, (List.mem_filter.1 hp).1, rfl⟩
end
theorem iterSeen_of {w : World} {r : Nat} {a : Option Nat} {b c : Nat} {s : Array Nat} (h : w.heap[r]? = some (.mapIter a b s c)) : w.iterSeen r = s := by
  unfold World.iterSeen
  rw [h]
theorem infoA : (Tryz.prog.info? 221).map (fun i => (i.zero, i.size, i.bytes)) = some (some (.agg #[.int .i64 0, .int .i64 0, .int .i64 0]), 3, 24) := by kernel_rfl
theorem cells3_new (w : World) (x y z : Value) (t : TypeId) : ∀ j u, [x, y, z][j]? = some u → (w.alloc (.cells #[x, y, z] t)).cell? ((⟨w.heap.size, 0, none⟩ : Addr).add j) = some u := by
  intro j u hj
  have h := Go.heap_alloc_new w (.cells #[x, y, z] t)
  match j, hj with
  | 0, hj | 1, hj | 2, hj =>
    exact cellE h (by simpa [Addr.add] using hj)
  | j + 3, hj => simp at hj
theorem rowOff {W : World} {b : Nat} {e : TypeId} {size : Nat} {v : Value} {n : Nat} {xs : List Value} (h : W.ownsRow b e size v n xs) {k : Nat} (hk : k < b) : v.ownBlock ≠ some k := by
  intro e'
  have := (h.lt k e').1
  omega
theorem rowSucc {w : World} {b : Nat} {e : TypeId} {size n : Nat} {v : Value} {xs : List Value} (h : w.ownsRow b e size v (n + 1) xs) : ∃ g cap, v = .slice (some ⟨g, 0, none⟩) (n + 1) cap := by
  rcases h.2 with ⟨_, h⟩ | ⟨g, cap, _, h, _⟩
  · cases h
  · exact ⟨g, cap, h⟩
def Listed (al : List Al) (B : Nat) (w' : World) (v : Value) : Prop := ∃ ds : List Al, ds.Perm al ∧ (ds.Pairwise fun x y => ¬ ordA y x < 0) ∧
  ((ds = [] ∧ v = .slice none 0 0) ∨ (ds ≠ [] ∧ ∃ g cap cur, v = .slice (some ⟨g, 0, none⟩) ds.length cap ∧ B ≤ g ∧ w'.heap[g]? = some (.cells cur 221 (0, 0)) ∧ ds.length ≤ cap ∧ cur.size = cap * 3 ∧ HoldsK encAl 3 w' g 0 ds.toArray))
theorem heapK {w : World} {g n : Nat} {os : Array Obj} {cur : Array Value} {e : TypeId} {fr : Nat × Nat} (d : Array Al) (hb : w.heap[g]? = some (.cells cur e fr)) :
    (sortWorldK encAl 3 w g 0 n d os).heap[g]? = some (.cells (putCells id 0 (flatK encAl 3 d) cur) e fr) := by
  have hg : g < w.heap.size := (Array.getElem?_eq_some_iff.1 hb).1
  unfold sortWorldK
  rw [heap_grow_old _ _ (by simpa [putRowK] using hg)]
  simp [putRowK, putRow, mapBlock, Sort.ahead, Array.getElem?_modify, hb, onCells]
theorem grownByK {w : World} {g n : Nat} {os : Array Obj} (d : Array Al) : w.grownBy (sortWorldK encAl 3 w g 0 n d os) (some g) := by
  unfold sortWorldK
  refine ⟨rfl, rfl, rfl, by simp [putRowK], fun k hk hne => ?_⟩
  rw [heap_grow_old _ _ (by simpa [putRowK] using hk)]
  have : g ≠ k := fun e => hne (by rw [e])
  simp [putRowK, putRow, mapBlock, Sort.ahead, Array.getElem?_modify, this]
theorem flat_get : ∀ (l : List Al) (j r : Nat) (h : j < l.length), r < 3 → (l.flatMap encAl)[3 * j + r]? = (encAl l[j])[r]?
  | a :: l, 0, r, _, hr => by
    rw [List.flatMap_cons, List.getElem?_append_left (by simp [encAl]; omega)]
    simp
  | a :: l, j + 1, r, h, hr => by
    rw [List.flatMap_cons, List.getElem?_append_right (by simp [encAl]; omega)]
    rw [show 3 * (j + 1) + r - (encAl a).length = 3 * j + r by simp [encAl]; omega, flat_get l j r (by simpa using h) hr]
    rfl
theorem holds_flat {w : World} {g : Nat} {cur : Array Value} {e : TypeId} {l : List Al} (hb : w.heap[g]? = some (.cells cur e (0, 0))) (ht : cur.toList.take (l.length * 3) = l.flatMap encAl) : HoldsK encAl 3 w g 0 l.toArray := by
  intro t hj
  have ht' : t < l.length * 3 := by simpa using hj
  refine ⟨?_, by simp [World.frozen?, hb]⟩
  have h1 : (cur.toList.take (l.length * 3))[t]? = (l.flatMap encAl)[t]? := by rw [ht]
  rw [List.getElem?_take_of_lt ht'] at h1
  have hq : t / 3 < l.length := by omega
  have h2 := flat_get l (t / 3) (t % 3) hq (by omega)
  rw [show 3 * (t / 3) + t % 3 = t by omega] at h2
  refine cellE (i := 0 + t) hb ?_
  rw [Nat.zero_add, ← Array.getElem?_toList, h1, h2, id, get_flatK _ _ _ _ (by simpa using ht'), getElem!_pos l.toArray (t / 3) (by simpa using hq), List.getElem_toArray, getElem!_pos (encAl l[t / 3]) (t % 3) (by simp [encAl]; omega)]
  exact List.getElem?_eq_getElem _
theorem flatMap_fst (ms : List (Al × Nat)) : (ms.flatMap fun p => encAl p.1) = (ms.map (·.1)).flatMap encAl := by rw [List.flatMap_map]
theorem listed_sorted {al : List Al} {ms : List (Al × Nat)} {B g cap n : Nat} {os : Array Obj} {cur : Array Value} {w wr : World} {d' : Array Al} (hA : (ms.map (·.1)).Perm al) (hbw : RowKit.Below w.heap.size w wr) (hBg : w.heap.size ≤ g)
    (hg : wr.heap[g]? = some (.cells cur 221 (0, 0))) (h1 : ms.length ≤ cap) (h3 : cur.size = cap * 3) (hne : ms ≠ []) (hH : HoldsK encAl 3 wr g 0 (ms.map (·.1)).toArray)
    (hp : PermIn 0 ms.length (ms.map (·.1)).toArray d') (hs : SortedIn (ltOf ordA) 0 ms.length d') :
    RowKit.Below w.heap.size w (sortWorldK encAl 3 wr g 0 n d' os) ∧ Listed al w.heap.size (sortWorldK encAl 3 wr g 0 n d' os) (.slice (some ⟨g, 0, none⟩) ms.length cap) := by
  have hgl := (Array.getElem?_eq_some_iff.1 hg).1
  have hsz : d'.size = ms.length := by rw [hp.1]; simp
  have hperm : d'.toList.Perm (ms.map (·.1)) := by
    have := hp.2.2
    rw [show d'.extract 0 ms.length = d' by rw [← hsz]; simp, show (ms.map (·.1)).toArray.extract 0 ms.length = (ms.map (·.1)).toArray by simp; rw [List.take_of_length_le (by simp)]] at this
    exact this
  have hlen : d'.toList.length = ms.length := by simpa using hsz
  refine ⟨hbw.grown (grownByK d') hbw.size (fun k e => by cases e; exact hBg), d'.toList, hperm.trans hA, ?_, .inr ⟨?_, g, cap, _, by rw [hlen], hBg, heapK d' hg, by omega, by simp [putCells, h3], ?_⟩⟩
  · rw [List.pairwise_iff_getElem]
    intro i j hi hj hij
    have h := hs i j (Nat.zero_le _) hij (by omega)
    rw [ltOf, decide_eq_false_iff_not, getElem!_pos d' i (by simpa using hi), getElem!_pos d' j (by simpa using hj)] at h
    simpa using h
  · intro e
    rw [e] at hlen
    exact hne (List.eq_nil_of_length_eq_zero hlen.symm)
  · rw [Array.toArray_toList]
    exact holdsK_sortWorldK_c encAl 3 wr g 0 _ d' n os hH hgl (by rw [hsz]; simp)
set_option maxHeartbeats 4000000 in
set_option maxRecDepth 100000 in
theorem list_calls (m : List (Al × Nat)) (cl b : Nat) (w : World) (hn : (m.map (·.2)).Nodup) (hold : ∀ p ∈ m, p.2 < cl) (hl : m.length ≤ 200000) (hb : w.heap[b]? = some (.map (m.map ME).toArray cl)) :
    Calls Tryz.prog 177 #[.map (some b)] w fun e w' => ∃ v, e = .returned v ∧ Below w.heap.size w w' ∧ Listed (m.map (·.1)) w.heap.size w' v := by
  obtain ⟨i0, hi, hz0, hz1, hz2⟩ := info_parts infoA
  have hblt := (Array.getElem?_eq_some_iff.1 hb).1
  have HM : Hid (∀ ms : List (Al × Nat), ms.Perm m → (ms.map (·.1)).Perm (m.map (·.1))) := fun ms h => h.map _
  generalize m.map (·.1) = al at HM ⊢
  have HN : Hid _ := hn
  have HO : Hid _ := hold
  have HL : Hid _ := hl
  have HB : Hid _ := hb
  clear hn hold hl
  go_enter Tryz.func177, Tryz.ntmps177
  go_wp2_with (first
    | (at_range; refine wpList_range_m _ rfl _ 255 rfl 313 3 Tryz.underlying255 b _ cl rfl HB.out ?_)
    | go_in)
  go_frame
  go_loopw [3] (fun v wr => ∃ (ms : List (Al × Nat)) (seen : Array Nat), wr.heap[w.heap.size]? = some (.mapIter (some b) cl seen cl) ∧ wr.ownsRow (w.heap.size + 1) 221 3 v ms.length (ms.flatMap fun p => encAl p.1) ∧ Hid (v = .slice none 0 0 ↔ ms = []) ∧ Hid ((ms ++ leftL m seen).Perm m) ∧ Below w.heap.size w wr ∧ w.heap.size < wr.heap.size)
    (fun _ wr => (leftL m (wr.iterSeen w.heap.size)).length)
  case atStart =>
    refine ⟨[], #[], Go.heap_alloc_new _ _, World.ownsRow_nil _ _ _ _, by constructor <;> simp, ?_, (Below.refl _ w).alloc (Nat.le_refl _) _, by simp⟩
    show List.Perm _ _
    rw [leftL_nil]
    exact List.Perm.refl _
  case round =>
    obtain ⟨ms, seen, hit, hrow, HV, HP, hbw, hsz⟩ := hrel
    have HI : Hid _ := hit
    have hbr : wr.heap[b]? = some (.map (m.map ME).toArray cl) := (hbw.block b hblt).trans HB.out
    have HBr : Hid _ := hbr
    clear hit hbr
    go_wp2_with (first
      | (at_next; refine wpList_next_m _ rfl _ rfl w.heap.size b cl seen m rfl HI.out (by omega) HBr.out HO.out HN.out ?_ ?_)
      | go_in)
    · intro h0
      have hP : ms.Perm m := by have := HP.out; rwa [h0, List.append_nil] at this
      have hA := HM.out ms hP
      have hml : ms.length ≤ 200000 := by rw [hP.length_eq]; exact HL.out
      have HA : Hid _ := hA
      clear hP hA h0
      rcases hrow.2 with ⟨hnil, hk0⟩ | ⟨g, cap, cur, hv, hbase, hg, h1, h2, h3, h4⟩
      · subst hnil
        obtain rfl : ms = [] := List.eq_nil_of_length_eq_zero hk0
        have hcon := fun W => AnyF.slices_SortFunc_none Tryz.sortA none 0 (.func (.func 172) #[] #[]) W
        change ∀ W, Calls Tryz.prog 219 _ _ _ at hcon
        go_wp2_with (go_at_call 219; refine (hcon _).mono ?_; rintro e w' ⟨rfl, rfl⟩)
        go_ret
        exact ⟨_, rfl, hbw, [], HA.out, List.Pairwise.nil, .inl ⟨rfl, rfl⟩⟩
      · subst hv
        have hgl := (Array.getElem?_eq_some_iff.1 hg).1
        have hne : ms ≠ [] := fun e => by have := HV.out.2 e; cases this
        rw [flatMap_fst] at h4
        have hH : HoldsK encAl 3 wr g 0 (ms.map (·.1)).toArray := holds_flat hg (by rw [List.length_map]; exact h4)
        have eg : ∀ args w, (callFunc 172 args).run Tryz.prog w = .ok (.enter 172 args) w := enters_of Tryz.func172 (by kernel_rfl) rfl
        have hcon := AnyQ.slices_SortFunc Tryz.sortA 3 Tryz.isAgg221 Tryz.sizeOf221 encAl (fun _ => rfl) (fun x v hv => by simp [encAl] at hv; rcases hv with rfl | rfl | rfl <;> rfl) ordA ordA_swo 172 #[] g 0 cap (ms.map (·.1)).toArray wr eg (order_lays _ _ _ _) hH hgl (by simp; omega)
        rw [show (ms.map (·.1)).toArray.size = ms.length by simp] at hcon
        change Calls Tryz.prog 219 _ _ _ at hcon
        have K := fun n os d' hp hs => @listed_sorted al ms 0 g cap n os cur w wr d' HA.out hbw (by omega) hg h1 h3 hne hH hp hs
        have HK : Hid _ := K
        clear K hrow hH hg h1 h2 h3 h4 hne eg
        go_wp2_with (go_at_call 219; refine hcon.mono ?_; rintro e w' ⟨rfl, d', n, os, hp, hs, rfl⟩)
        go_ret
        obtain ⟨k1, k2⟩ := HK.out n os d' hp hs
        exact ⟨_, rfl, k1, k2⟩
    · intro pa pn hp w1 hg1 hs1 hr1 hen
      obtain ⟨st1, st2⟩ := vis_step HN.out HP.out hp
      have hml : ms.length + 1 ≤ 200000 := by
        have h1 := st1.length_eq
        have h2 := HL.out
        simp only [List.length_append, List.length_cons, List.length_nil] at h1
        omega
      have hl1 : ms.length + 1 ≤ maxLen := by simp only [maxLen]; omega
      have hl2 : (ms.length + 1) * 24 ≤ 140737488355328 := by omega
      have hrow1 := hrow.kept hg1 (.inr (rowOff hrow (by omega)))
      have hbw1 := hbw.grown hg1 hbw.size (fun k e => by cases e; exact Nat.le_refl _)
      have hnews : ∀ j u, [Value.int .i64 pa.c, .int .i64 pa.k, .int .i64 pa.s][j]? = some u → ((w1.alloc (.cells #[Value.int .i64 pa.c, .int .i64 pa.k] 313)).alloc (.cells #[Value.int .i64 pa.c, .int .i64 pa.k, .int .i64 pa.s] 221)).cell? ((⟨w1.heap.size + 1, 0, none⟩ : Addr).add j) = some u := by
        have := cells3_new (w1.alloc (.cells #[Value.int .i64 pa.c, .int .i64 pa.k] 313)) (.int .i64 pa.c) (.int .i64 pa.k) (.int .i64 pa.s) 221
        rw [show (w1.alloc (.cells #[Value.int .i64 pa.c, .int .i64 pa.k] 313)).heap.size = w1.heap.size + 1 by simp] at this
        exact this
      have HNW : Hid _ := hnews
      have hwl : w.heap.size < w1.heap.size := by omega
      have HR1 : Hid _ := hr1
      have HS1 : Hid _ := And.intro st1 st2
      clear hr1 st1 st2 hp hrow hg1 hnews hs1 hsz
      go_wp2_with (at_builtin; refine wpList_append_own_at _ rfl _ _ 61 rfl (w.heap.size + 1) 221 i0 _ 3 24 Tryz.underlying61 hi hz0 hz1 hz2 rfl (by decide) _ _ _ rfl ((hrow1.alloc _).alloc _) ⟨w1.heap.size + 1, 0, none⟩ 1 1 [.int .i64 pa.c, .int .i64 pa.k, .int .i64 pa.s] rfl rfl HNW.out (by simp [Value.oneCell']) hl1 hl2 (by simp; omega) ?_; intro v' w2 hown' hgrow hnil hat)
      have hl2w : w1.heap.size + 2 ≤ w2.heap.size := by simpa using hgrow.size
      have hoff := rowOff hrow1 (k := w.heap.size) (by omega)
      go_roundw
      case rel =>
        refine ⟨ms ++ [(pa, pn)], seen.push pn, ?_, ?_, ?_, HS1.out.1, ?_, by omega⟩
        · rw [hgrow.block _ (by simp; omega) (fun e => hoff e.symm), Below.heap_alloc _ _ _ (by simp; omega), Below.heap_alloc _ _ _ hwl]
          exact HR1.out
        · rw [List.length_append, List.flatMap_append]
          exact hown'
        · obtain ⟨g, cap, rfl⟩ := rowSucc hown'
          show _ ↔ _
          constructor <;> simp
        · exact ((hbw1.alloc (by omega) _).alloc (by simp; omega) _).grown hgrow (by simp; omega) (fun k e => by have := (hrow1.lt k e).1; omega)
      case measure =>
        rw [iterSeen_of (w := wr) HI.out, iterSeen_of (w := w2) (s := seen.push pn) (a := some b) (b := cl) (c := cl)]
        · exact HS1.out.2
        · rw [hgrow.block _ (by simp; omega) (fun e => hoff e.symm), Below.heap_alloc _ _ _ (by simp; omega), Below.heap_alloc _ _ _ hwl]
          exact HR1.out
end Go.Proofs.YtkonpbcnekcjjaaGreatDoor
namespace Go.Proofs.YtkonpbcnekcjjaaGreatDoor
open Go Go.Shelf Go.Sort
theorem VR_al {y : Go.Xec.Ctx} {b : Nat} : ∀ {l : List Al} {o : Nat}, (∀ j (h : j < l.length), y.w.cell? ⟨b, o + j * 3, none⟩ = some (.int .i64 l[j].c) ∧ y.w.cell? ⟨b, o + j * 3 + 1, none⟩ = some (.int .i64 l[j].k) ∧ y.w.cell? ⟨b, o + j * 3 + 2, none⟩ = some (.int .i64 l[j].s)) →
    Go.Xec.VR y 3 (l.map AK) b o
  | [], _, _ => by simp only [List.map_nil, Go.Xec.VR]
  | a :: l, o, h => by
    rw [List.map_cons]
    have h0 := h 0 (by simp)
    simp only [Nat.zero_mul, Nat.add_zero, List.getElem_cons_zero] at h0
    simp only [Go.Xec.VR, Go.Xec.VE, Go.Xec.VC, Go.Xec.V, List.length_cons, List.length_nil]
    refine ⟨⟨trivial, ⟨_, h0.1, rfl⟩, ⟨_, h0.2.1, rfl⟩, ⟨_, h0.2.2, rfl⟩, trivial⟩, VR_al fun j hj => ?_⟩
    have h1 := h (j + 1) (by simp; omega)
    rw [show o + (j + 1) * 3 = o + 3 + j * 3 by omega] at h1
    simpa using h1
theorem ord_num {l : List Al} (hk : ∀ a ∈ l, kOk a.c a.k) (h : l.Pairwise fun x y => ¬ ordA y x < 0) : l.Pairwise fun x y => num x ≤ num y := by
  rw [List.pairwise_iff_getElem] at *
  intro i j hi hj hij
  have h1 := h i j hi hj hij
  rw [ordA_num (hk _ (List.getElem_mem hj)) (hk _ (List.getElem_mem hi))] at h1
  omega
theorem sorted_one {l ds : List Al} (hk : ∀ a ∈ l, kOk a.c a.k) (hl : l.Pairwise fun x y => num x < num y) (hp : ds.Perm l) (h : ds.Pairwise fun x y => ¬ ordA y x < 0) : ds = l := by
  have hn := ord_num (fun a ha => hk a (hp.mem_iff.1 ha)) h
  refine List.Perm.eq_of_pairwise (le := fun x y => num x ≤ num y) ?_ hn (hl.imp fun h => by omega) hp
  intro a b ha hb h1 h2
  obtain ⟨i, hi, rfl⟩ := List.mem_iff_getElem.1 (hp.mem_iff.1 ha)
  obtain ⟨j, hj, rfl⟩ := List.mem_iff_getElem.1 hb
  rw [List.pairwise_iff_getElem] at hl
  rcases Nat.lt_trichotomy i j with h3 | h3 | h3
  · have := hl i j hi hj h3; omega
  · subst h3; rfl
  · have := hl j i hj hi h3; omega
def ListAsk (es : List (Go.Xec.AVal × Go.Xec.AVal × Nat)) (cl : Nat) (l : List Al) : Prop :=
  (∀ a ∈ l, kOk a.c a.k) ∧ (l.Pairwise fun x y => num x < num y) ∧ ∃ m : List (Al × Nat), es = entM m ∧ (m.map (·.1)).Perm l ∧ (m.map (·.2)).Nodup ∧ (∀ p ∈ m, p.2 < cl) ∧ m.length ≤ 200000
open Classical in
noncomputable def F23m (es : List (Go.Xec.AVal × Go.Xec.AVal × Nat)) (cl : Nat) : Option (Option (Nat × List Go.Xec.AVal)) :=
  if h : ∃ l, ListAsk es cl l then some (if h.choose = [] then none else some (3, h.choose.map AK)) else none
theorem ME_inj : ∀ {m m' : List (Al × Nat)}, entM m = entM m' → m = m'
  | [], [], _ => rfl
  | [], _ :: _, h => by cases h
  | _ :: _, [], h => by cases h
  | p :: m, q :: m', h => by
    simp only [entM, List.map_cons, List.cons.injEq, Prod.mk.injEq, Go.Xec.AVal.agg.injEq, Go.Xec.AVal.int.injEq, true_and, and_true] at h
    obtain ⟨⟨⟨h1, h2⟩, h3, h4⟩, h5⟩ := h
    rw [ME_inj h5]
    obtain ⟨⟨a, b, c⟩, n⟩ := p
    obtain ⟨⟨a', b', c'⟩, n'⟩ := q
    simp only at h1 h2 h3 h4
    subst h1 h2 h3 h4
    rfl
theorem ask_one {es : List (Go.Xec.AVal × Go.Xec.AVal × Nat)} {cl : Nat} {l l' : List Al} (h : ListAsk es cl l) (h' : ListAsk es cl l') : l = l' := by
  obtain ⟨a1, a2, m, rfl, a3, a4, a5, a6⟩ := h
  obtain ⟨b1, b2, m', e, b3, b4, b5, b6⟩ := h'
  obtain rfl := ME_inj e
  refine (sorted_one b1 b2 (a3.symm.trans b3) ?_)
  rw [List.pairwise_iff_getElem] at *
  intro i j hi hj hij
  rw [ordA_num (a1 _ (List.getElem_mem hj)) (a1 _ (List.getElem_mem hi))]
  have := a2 i j hi hj hij
  omega
theorem F23m_eq {es : List (Go.Xec.AVal × Go.Xec.AVal × Nat)} {cl : Nat} {l : List Al} (h : ListAsk es cl l) : F23m es cl = some (if l = [] then none else some (3, l.map AK)) := by
  have he : ∃ l, ListAsk es cl l := ⟨l, h⟩
  unfold F23m
  rw [dif_pos he, ask_one he.choose_spec h]
theorem sound23 : Go.Xec.SoundM Tryz.prog 177 F23m := by
  intro es cl r hF x b arr hL hb hEL
  by_cases hx : ∃ l, ListAsk es cl l
  · obtain ⟨l, hl⟩ := hx
    rw [F23m_eq hl] at hF
    obtain rfl := Option.some.inj hF
    obtain ⟨a1, a2, m, rfl, a3, a4, a5, a6⟩ := hl
    have harr : arr = (m.map ME).toArray := by
      apply Array.toList_inj.1
      rw [EL_ent hEL]
    subst harr
    refine .inl ⟨enters_of Tryz.func177 (by kernel_rfl) rfl _ _, (list_calls m cl b x.w a4 a5 a6 hb).mono ?_⟩
    rintro e w' ⟨v, rfl, hbw, ds, hp, hs, hv⟩
    obtain rfl := sorted_one a1 a2 (hp.trans a3) hs
    refine ⟨v, rfl, hbw.size, fun b hb => hbw.block b hb, ⟨hbw.os, hbw.tape, hbw.output⟩, ?_⟩
    rcases hv with ⟨rfl, rfl⟩ | ⟨hne, g, cap, cur, rfl, hg, hc, h1, h3, hH⟩
    · rw [if_pos rfl]
    · rw [if_neg hne]
      have hgl := (Array.getElem?_eq_some_iff.1 hc).1
      refine ⟨g, 0, ⟨g, 0, none⟩, cap, cur, 221, by rw [List.length_map], .inr rfl, rfl, hg, hgl, hc, by rw [List.length_map]; exact h1, by omega, fun _ y hy => ?_⟩
      refine VR_al fun j hj => ?_
      rw [hy]
      have h0 := (hH.cell (i := j) (c := 0) (by simpa using hj) (by omega)).1
      have h1 := (hH.cell (i := j) (c := 1) (by simpa using hj) (by omega)).1
      have h2 := (hH.cell (i := j) (c := 2) (by simpa using hj) (by omega)).1
      rw [getElem!_pos ds.toArray j (by simpa using hj), List.getElem_toArray] at h0 h1 h2
      exact ⟨h0, h1, h2⟩
  · unfold F23m at hF
    rw [dif_neg hx] at hF
    cases hF
end Go.Proofs.YtkonpbcnekcjjaaGreatDoor
namespace Go.Proofs.YtkonpbcnekcjjaaGreatDoor
open Go Go.Xec
attribute [local go_sem] tm0 ne_eq not_false_eq_true List.length_append List.length_replicate List.replicate_succ List.replicate_zero Int.cast_ofNat_Int not_true_eq_false decide_true decide_false ite_self beq_self_eq_true Bool.true_beq Bool.false_beq Bool.not_true Bool.not_false
attribute [local go_sem_proc] Nat.reduceAdd Nat.reduceMul Nat.reduceSub Nat.reduceLeDiff Nat.reduceLT Nat.reduceEqDiff Int.reduceLT Int.reduceLE Int.reduceAdd Int.reduceSub Int.reduceMul Int.reduceToNat Int.reducePow Int.reduceNe Int.reduceMod Int.reduceDiv Int.reduceEq Nat.reducePow Int.reduceNeg
set_option maxRecDepth 10000
noncomputable def F88 : List AVal → Option AVal := pureF C2 1 88
theorem sound88 : Sound Tryz.prog 88 F88 := sound_self ok2 1 88
theorem F88_eq {x : Int} : F88 [.int .i64 x] = some (.bool (decide (0 ≤ x ∧ x < 7))) := by
  unfold F88
  refine pureF_of (x := x88) rfl rfl ?_
  rw [x88_eq.1, x88_eq.2.1]
  simp (disch := first | omega | simp only [go_sem, ↓reduceIte, dropK_eq]) only [x88b, go_sem, ↓reduceIte, dropK_eq]
  repeat' (first | refine Ends_plain rfl ?_ | (first | refine Gd_split_t (fun h => ?_) (fun h => ?_) | refine Gd_split_f (fun h => ?_) (fun h => ?_) | refine Cd_split (fun h => ?_) (fun h => ?_)) <;> (try simp (disch := first | omega | simp only [go_sem, ↓reduceIte, dropK_eq]) only [*, go_sem, ↓reduceIte, dropK_eq]))
  all_goals (congr 1; (try simp only [Bool.not_eq_true', Bool.not_eq_false', decide_eq_true_eq, decide_eq_false_iff_not] at *); first | exact decide_eq_decide.2 (by omega) | exact (decide_eq_false (by omega)).symm | exact (decide_eq_true (by omega)).symm)
noncomputable def F89 : List AVal → Option AVal := pureF C2 1 89
theorem sound89 : Sound Tryz.prog 89 F89 := sound_self ok2 1 89
theorem F89_eq {x : Int} : F89 [.int .i64 x] = some (.bool (decide (2 ≤ x ∧ x ≤ 10))) := by
  unfold F89
  refine pureF_of (x := x89) rfl rfl ?_
  rw [x89_eq.1, x89_eq.2.1]
  simp (disch := first | omega | simp only [go_sem, ↓reduceIte, dropK_eq]) only [x89b, go_sem, ↓reduceIte, dropK_eq]
  repeat' (first | refine Ends_plain rfl ?_ | (first | refine Gd_split_t (fun h => ?_) (fun h => ?_) | refine Gd_split_f (fun h => ?_) (fun h => ?_) | refine Cd_split (fun h => ?_) (fun h => ?_)) <;> (try simp (disch := first | omega | simp only [go_sem, ↓reduceIte, dropK_eq]) only [*, go_sem, ↓reduceIte, dropK_eq]))
  all_goals (congr 1; (try simp only [Bool.not_eq_true', Bool.not_eq_false', decide_eq_true_eq, decide_eq_false_iff_not] at *); first | exact decide_eq_decide.2 (by omega) | exact (decide_eq_false (by omega)).symm | exact (decide_eq_true (by omega)).symm)
end Go.Proofs.YtkonpbcnekcjjaaGreatDoor
namespace Go.Proofs.YtkonpbcnekcjjaaGreatDoor
open Go Go.Xec Go.RowKit
theorem on_disable (w : World) : (callFunc 273 #[]).run Tryz.prog w = .ok (.value (.tuple #[])) w := run_call_mark0 Tryz.func273 (by kernel_rfl) (by kernel_rfl) (by kernel_rfl) .disable (by kernel_rfl) w
theorem on_enable (w : World) : (callFunc 275 #[]).run Tryz.prog w = .ok (.value (.tuple #[])) w := run_call_mark0 Tryz.func275 (by kernel_rfl) (by kernel_rfl) (by kernel_rfl) .enable (by kernel_rfl) w
theorem on_acquire (a : Addr) (w : World) : (callFunc 276 #[.pointer (some a)]).run Tryz.prog w = .ok (.value (.tuple #[])) w := run_call_marked Tryz.func276 (by kernel_rfl) (by kernel_rfl) (by kernel_rfl) .acquire (by kernel_rfl) a w
theorem on_release (a : Addr) (w : World) : (callFunc 278 #[.pointer (some a)]).run Tryz.prog w = .ok (.value (.tuple #[])) w := run_call_marked Tryz.func278 (by kernel_rfl) (by kernel_rfl) (by kernel_rfl) .releaseMerge (by kernel_rfl) a w
theorem on_store (a : Addr) (x : Value) (u : FrameMode) (w : World) (hc : w.cell? a = some x) (hz : w.frozen? a = false) :
    CallsD Tryz.prog 192 #[.pointer (some a), .bool true] u w fun e u' w' => u' = u ∧ (e = .returned (.tuple #[]) ∧ w' = w.drew.setCell a (.int .u32 1)) := by
  have hc' : w.drew.cell? a = some x := by go_simp
  have hz' : w.drew.frozen? a = false := by go_simp
  have hst := run_call_store (P := Tryz.prog) Tryz.func230 (by kernel_rfl) (by kernel_rfl) (by kernel_rfl) (by kernel_rfl) (k := .u32) (y := 1) hc' hz'
  go_enter_d Tryz.func192, Tryz.ntmps192
  go_wp2
  go_region_calls
  all_goals (go_end0; exact ⟨rfl, rfl⟩)
set_option maxRecDepth 100000 in
set_option maxHeartbeats 1600000 in
theorem on_unlock (a : Addr) (u : FrameMode) (w : World) (hc : w.cell? a = some (.int .i32 1)) (hz : w.frozen? a = false) :
    CallsD Tryz.prog 191 #[.pointer (some a)] u w fun e u' w' => u' = u ∧ (e = .returned (.tuple #[]) ∧ w' = w.setCell a (.int .i32 0)) := by
  have hd := on_disable
  have he := on_enable
  have hr := on_release
  have hadd := run_call_add (P := Tryz.prog) Tryz.func279 (by kernel_rfl) (by kernel_rfl) (by kernel_rfl) .i32 (by kernel_rfl) (y := -1) (s := 0) hc hz (by simp [go_sem]; rfl)
  have hcv := run_convert_to_unsafe (P := Tryz.prog) (src := 428) (dst := 246) Tryz.underlying428 Tryz.underlying246 (by kernel_rfl) hc
  go_enter_d Tryz.func191, Tryz.ntmps191
  go_wp2
  go_end0
  go_wp2
  go_end0
  exact ⟨rfl, rfl⟩
set_option maxRecDepth 100000 in
set_option maxHeartbeats 1600000 in
theorem on_lock (a : Addr) (w : World) (hc : w.cell? a = some (.int .i32 0)) (hz : w.frozen? a = false) :
    Calls Tryz.prog 190 #[.pointer (some a)] w fun e w' => e = .returned (.tuple #[]) ∧ w' = w.setCell a (.int .i32 1) := by
  have hd := on_disable
  have he := on_enable
  have ha := on_acquire
  have hcas := run_call_cas_hit (P := Tryz.prog) Tryz.func274 (by kernel_rfl) (by kernel_rfl) (by kernel_rfl) .i32 (by kernel_rfl) (y := 1) hc hz
  have hc' : (w.setCell a (.int .i32 1)).cell? a = some (.int .i32 1) := World.cell?_setCell_same w a _ hc
  have hcv := run_convert_to_unsafe (P := Tryz.prog) (src := 428) (dst := 246) Tryz.underlying428 Tryz.underlying246 (by kernel_rfl) hc'
  go_enter Tryz.func190, Tryz.ntmps190
  go_wp2
  first | go_end0 | (simp only [Exit.inBlock, Exit.then]; refine bodyPost_ret (results_none rfl _ _ _) rfl ?_) | refine bodyPost_ret (results_none rfl _ _ _) rfl ?_
  go_wp2
  go_end0
  exact ⟨rfl, rfl⟩
def facL : List Int := [18800, 10230, 7290, 5770, 4830, 4190, 3730, 3370, 3080, 0, 0, 0, 0, 0, 760, 1360, 1840, 2230, 32670, 25740, 22820, 21140, 20040, 19240, 18640, 18160, 17770, 11280, 16930, 20590, 23260, 25340, 27040, 28470, 29700, 30780, 26590, 19540, 16280, 14270, 12870, 11820, 10990, 10320, 9750, 0, 0, 0, 0, 300, 1180, 1850, 2390, 2840, 32670, 25680, 22660, 20890, 19700, 18820, 18150, 17610, 17160]
abbrev facV : List Value := facL.map (Value.int .i64)
set_option maxRecDepth 100000 in
set_option maxHeartbeats 1600000 in
theorem fill_calls (b : Nat) (w : World) (ht : w.there b 3 63) :
    Calls Tryz.prog 117 #[.pointer (some ⟨b, 0, none⟩)] w fun e w' => e = .returned (.tuple #[]) ∧ w' = w.setCells b 3 facV := by
  have hi : (Tryz.prog.info? 194).map (·.size) = some facV.toArray.size := by kernel_rfl
  have h1 : facV.toArray.all (·.oneCell') = true := by kernel_rfl
  go_enter Tryz.func117, Tryz.ntmps117
  repeat (first | refine wp_store_mid 194 (.tmp 12) (.tmp 10) rfl b 3 facV.toArray rfl rfl ht hi h1 ?_ | go_step)
  go_end0
  exact ⟨rfl, rfl⟩
abbrev facW (b : Nat) (w : World) : World := ((((w.setCell ⟨b, 1, none⟩ (.int .i32 1)).setCells b 3 facV).drew.setCell ⟨b, 0, none⟩ (.int .u32 1)).setCell ⟨b, 1, none⟩ (.int .i32 0))
theorem there_setCell {w : World} {b o n : Nat} (h : w.there b o n) (x : Addr) (v : Value) (hx : x.block = b → x.off < o ∨ o + n ≤ x.off) : (w.setCell x v).there b o n := by
  intro j hj
  obtain ⟨h1, h2⟩ := h j hj
  refine ⟨?_, by simp [h2]⟩
  rw [World.cell?_setCell_other _ _ _ _ (by rintro e; have := congrArg Addr.block e; have h3 := congrArg Addr.off e; simp at this h3; have := hx this; omega)]
  exact h1
theorem load_not (a : Addr) (w : World) (h : w.cell? a = some (.int .u32 0)) : Calls Tryz.prog 156 #[.pointer (some a)] w fun e w' => e = .returned (.bool false) ∧ w' = w := by
  have hl := run_call_load (P := Tryz.prog) Tryz.func189 (by kernel_rfl) (by kernel_rfl) (by kernel_rfl) .u32 (by kernel_rfl) h
  go_enter Tryz.func156, Tryz.ntmps156
  go_wp2
  go_ret
  exact ⟨rfl, rfl⟩
set_option maxRecDepth 100000 in
set_option maxHeartbeats 1600000 in
theorem slow_calls (b : Nat) (w : World) (h0 : w.cell? ⟨b, 0, none⟩ = some (.int .u32 0)) (h1 : w.cell? ⟨b, 1, none⟩ = some (.int .i32 0)) (ht : w.there b 3 63) (f0 : w.frozen? ⟨b, 0, none⟩ = false) (f1 : w.frozen? ⟨b, 1, none⟩ = false) :
    Calls Tryz.prog 157 #[.pointer (some ⟨b, 0, none⟩), .func (.func 117) #[.pointer (some ⟨b, 0, none⟩)] #[]] w fun e w' => e = .returned (.tuple #[]) ∧ w' = facW b w := by
  have hl : (w.setCell ⟨b, 1, none⟩ (.int .i32 1)).cell? ⟨b, 0, none⟩ = some (.int .u32 0) := (World.cell?_setCell_other _ ⟨b, 1, none⟩ ⟨b, 0, none⟩ _ (by simp)).trans h0
  have ht1 := there_setCell ht ⟨b, 1, none⟩ (.int .i32 1) (by simp)
  have hnot : ∀ (x : Bool) (w : World), (Op.unary .not (.bool x)).run Tryz.prog w = .ok (.bool (!x)) w := fun _ _ => rfl
  go_enter_defers Tryz.func157, Tryz.ntmps157
  go_wp2_with (go_at_call 190; refine (on_lock ⟨b, 1, none⟩ _ (by go_simp) (by go_simp)).mono ?_; rintro e w' ⟨rfl, rfl⟩)
  go_wp2_with (go_at_call 156; refine (load_not ⟨b, 0, none⟩ _ hl).mono ?_; rintro e w' ⟨rfl, rfl⟩)
  go_wp2_with (go_at_call 117; refine (fill_calls b _ ht1).mono ?_; rintro e w' ⟨rfl, rfl⟩)
  have q0 : ((w.setCell ⟨b, 1, none⟩ (.int .i32 1)).setCells b 3 facV).cell? ⟨b, 0, none⟩ = some (.int .u32 0) := by
    rw [World.cell?_setCells_out b facV 3 _ ⟨b, 0, none⟩ (fun _ _ => .inl (by simp))]
    exact hl
  have q1 : ((w.setCell ⟨b, 1, none⟩ (.int .i32 1)).setCells b 3 facV).cell? ⟨b, 1, none⟩ = some (.int .i32 1) := by
    rw [World.cell?_setCells_out b facV 3 _ ⟨b, 1, none⟩ (fun _ _ => .inl (by simp))]
    exact World.cell?_setCell_same _ _ _ h1
  have z0 : ((w.setCell ⟨b, 1, none⟩ (.int .i32 1)).setCells b 3 facV).frozen? ⟨b, 0, none⟩ = false := by
    rw [World.frozen?_setCells]; simp [f0]
  have z1 : ((w.setCell ⟨b, 1, none⟩ (.int .i32 1)).setCells b 3 facV).frozen? ⟨b, 1, none⟩ = false := by
    rw [World.frozen?_setCells]; simp [f1]
  unfold facW
  generalize (w.setCell ⟨b, 1, none⟩ (.int .i32 1)).setCells b 3 facV = w2 at *
  refine leaves_cons (f := 192) (args := #[.pointer (some ⟨b, 0, none⟩), .bool true]) (by simp) (by simp [go_sem]) ?_
  refine (on_store ⟨b, 0, none⟩ (.int .u32 0) .returning _ q0 z0).mono ?_
  rintro e u' w'' ⟨rfl, rfl, rfl⟩
  refine leaves_cons (f := 191) (args := #[.pointer (some ⟨b, 1, none⟩)]) (by simp [settle]) (by simp [go_sem]) ?_
  refine (on_unlock ⟨b, 1, none⟩ _ _ ?_ (by simp [z1])).mono ?_
  · refine (World.cell?_setCell_other _ ⟨b, 0, none⟩ ⟨b, 1, none⟩ _ (by simp)).trans ?_
    rw [World.cell?_drew]
    exact q1
  rintro e u' w'' ⟨rfl, rfl, rfl⟩
  simp [Leaves, settle, results, Tryz.results157]
theorem do_calls (b : Nat) (w : World) (h0 : w.cell? ⟨b, 0, none⟩ = some (.int .u32 0)) (h1 : w.cell? ⟨b, 1, none⟩ = some (.int .i32 0)) (ht : w.there b 3 63) (f0 : w.frozen? ⟨b, 0, none⟩ = false) (f1 : w.frozen? ⟨b, 1, none⟩ = false) :
    Calls Tryz.prog 116 #[.pointer (some ⟨b, 0, none⟩), .func (.func 117) #[.pointer (some ⟨b, 0, none⟩)] #[]] w fun e w' => e = .returned (.tuple #[]) ∧ w' = facW b w := by
  have hnot : ∀ (x : Bool) (w : World), (Op.unary .not (.bool x)).run Tryz.prog w = .ok (.bool (!x)) w := fun _ _ => rfl
  go_enter Tryz.func116, Tryz.ntmps116
  go_wp2_with (first | (go_at_call 156; refine (load_not ⟨b, 0, none⟩ _ h0).mono ?_; rintro e w' ⟨rfl, rfl⟩) | (go_at_call 157; refine (slow_calls b _ h0 h1 ht f0 f1).mono ?_; rintro e w' ⟨rfl, rfl⟩))
  go_end0
  exact ⟨rfl, rfl⟩
def facI (k n : Int) : Int := facL.getD (k.toNat * 9 + (n.toNat - 2)) 0
theorem facW_below {B b : Nat} (hb : B ≤ b) (w : World) : Below B w (facW b w) := by
  refine (((?_ : Below B w ((w.setCell ⟨b, 1, none⟩ (.int .i32 1)).setCells b 3 facV)).drew).setCell hb _).setCell hb _
  have h1 : Below B w (w.setCell ⟨b, 1, none⟩ (.int .i32 1)) := (Below.refl _ _).setCell hb _
  generalize w.setCell ⟨b, 1, none⟩ (.int .i32 1) = w1 at h1
  have h2 : ∀ (vs : List Value) (o : Nat) (w1 : World), Below B w w1 → Below B w (w1.setCells b o vs) := by
    intro vs
    induction vs with
    | nil => intro o w1 h; exact h
    | cons v vs ih => intro o w1 h; exact ih (o + 1) _ (h.setCell hb _)
  exact h2 _ _ _ h1
theorem facW_cell {b : Nat} {w : World} (ht : w.there b 3 63) {j : Nat} (hj : j < 63) : (facW b w).cell? ⟨b, 3 + j, none⟩ = some (.int .i64 (facL.getD j 0)) := by
  unfold facW
  rw [World.cell?_setCell_other _ _ _ _ (by simp), World.cell?_setCell_other _ _ _ _ (by simp), World.cell?_drew]
  have hj' : j < facV.length := hj
  rw [World.cell?_setCells_in b facV 3 _ (fun i hi => (there_setCell ht ⟨b, 1, none⟩ _ (by simp) i hi).1) j hj']
  simp only [facV, List.getElem_map]
  rw [List.getD_eq_getElem?_getD, List.getElem?_eq_getElem (show j < facL.length from hj)]
  rfl
set_option maxRecDepth 100000 in
set_option maxHeartbeats 1600000 in
theorem at_calls (b : Nat) (k n : Int) (hk : 0 ≤ k ∧ k < 7) (hn : 2 ≤ n ∧ n ≤ 10) (w : World) (h0 : w.cell? ⟨b, 0, none⟩ = some (.int .u32 0)) (h1 : w.cell? ⟨b, 1, none⟩ = some (.int .i32 0)) (ht : w.there b 3 63) (f0 : w.frozen? ⟨b, 0, none⟩ = false) (f1 : w.frozen? ⟨b, 1, none⟩ = false) :
    Calls Tryz.prog 90 #[.pointer (some ⟨b, 0, none⟩), .int .i64 k, .int .i64 n] w fun e w' => e = .returned (.int .i64 (facI k n)) ∧ w' = facW b w := by
  have hmf : ∀ (fn : Fn) (first cap : Array Value) (w : World), (Instr.makeFunc fn first cap).run Tryz.prog w = .ok (.func fn first cap) w := fun _ _ _ _ => rfl
  go_enter Tryz.func90, Tryz.ntmps90
  have hcell := fun j hj => facW_cell ht (j := j) hj
  have hdo := do_calls b w h0 h1 ht f0 f1
  generalize facW b w = w2 at *
  obtain ⟨i, rfl⟩ : ∃ i : Nat, k = i := ⟨k.toNat, by omega⟩
  obtain ⟨j, rfl⟩ : ∃ j : Nat, n = j + 2 := ⟨(n - 2).toNat, by omega⟩
  have hj := hcell (i * 9 + j) (by omega)
  have hf : facI (i : Int) ((j : Int) + 2) = facL.getD (i * 9 + j) 0 := by
    unfold facI
    rw [Int.toNat_natCast, show ((j : Int) + 2).toNat - 2 = j by omega]
  rw [hf]
  rw [← Nat.add_assoc] at hj
  have w1 : (j : Int) + 2 - 2 = j := by omega
  have g1 : (i : Int) < 7 := by omega
  have g2 : (j : Int) < 9 := by omega
  clear hcell h0 h1 ht f0 f1 hf
  go_wp2_with (go_at_call 116; refine hdo.mono ?_; rintro e w' ⟨rfl, rfl⟩)
  go_ret
  exact ⟨rfl, rfl⟩
def F_fac : List AVal → Option AVal
  | [.int .i64 k, .int .i64 n] => if (0 ≤ k ∧ k < 7) ∧ 2 ≤ n ∧ n ≤ 10 then some (.tup [.int .i64 (facI k n), .int .i64 0]) else none
  | _ => none
set_option maxRecDepth 100000 in
theorem fac_calls (k n : Int) (hk : 0 ≤ k ∧ k < 7) (hn : 2 ≤ n ∧ n ≤ 10) (w : World) (hL : Laid Tryz.prog w) :
    Calls Tryz.prog 66 #[.int .i64 k, .int .i64 n] w fun e w' => e = .returned (.tuple #[.int .i64 (facI k n), .int .i64 0]) ∧ Below w.heap.size w w' := by
  have e88 := F88_eq (x := k)
  have e89 := F89_eq (x := n)
  rw [decide_eq_true hk] at e88
  rw [decide_eq_true hn] at e89
  have c88 := calls_sound Tryz.func88 (by kernel_rfl) (by kernel_rfl) sound88 e88 w hL (vs := [.int .i64 k]) (by simp only [VL, V]; exact ⟨_, _, rfl, rfl, rfl⟩)
  have hnot : ∀ (x : Bool) (w : World), (Op.unary .not (.bool x)).run Tryz.prog w = .ok (.bool (!x)) w := fun _ _ => rfl
  go_enter Tryz.func66, Tryz.ntmps66
  go_wp2_with (go_at_call 88; refine c88.mono ?_; rintro e w1 ⟨v, rfl, hb1, hv⟩; obtain rfl := V_bool hv)
  have c89 := calls_sound Tryz.func89 (by kernel_rfl) (by kernel_rfl) sound89 e89 w1 (below_laid hL hb1) (vs := [.int .i64 n]) (by simp only [VL, V]; exact ⟨_, _, rfl, rfl, rfl⟩)
  go_wp2_with (go_at_call 89; refine c89.mono ?_; rintro e w2 ⟨v, rfl, hb2, hv⟩; obtain rfl := V_bool hv)
  have z0 : Tryz.zeroCells196[0]? = some (.int .u32 0) := by kernel_rfl
  have z1 : Tryz.zeroCells196[1]? = some (.int .i32 0) := by kernel_rfl
  have zs : Tryz.zeroCells196.size = 66 := by kernel_rfl
  have hb3 : Below w2.heap.size w2 (w2.alloc (.cells Tryz.zeroCells196 196)) := (Below.refl _ _).alloc (Nat.le_refl _) _
  have ha := at_calls w2.heap.size k n hk hn (w2.alloc (.cells Tryz.zeroCells196 196)) (by rw [World.cell?_alloc_new]; exact z0) (by rw [World.cell?_alloc_new]; exact z1)
    (fun j hj => ⟨by rw [World.cell?_alloc_new, Array.getElem?_eq_getElem (by omega)]; rfl, by simp⟩) (by simp) (by simp)
  have hb4 := hb3.trans (facW_below (Nat.le_refl _) (w2.alloc (.cells Tryz.zeroCells196 196)))
  generalize w2.alloc (.cells Tryz.zeroCells196 196) = w3 at *
  generalize facW w2.heap.size w3 = w4 at *
  have hz1 := hb1.size
  have hz2 := hb2.size
  have hb : Below w.heap.size w w4 := hb1.trans ((hb2.mono hz1).trans (hb4.mono (Nat.le_trans hz1 hz2)))
  clear hb1 hb2 hb3 hb4
  go_wp2_with (go_at_call 90; refine ha.mono ?_; rintro e w' ⟨rfl, rfl⟩)
  go_ret2
  exact ⟨rfl, hb⟩
theorem sound66 : Sound Tryz.prog 66 F_fac := by
  refine sound_calls Tryz.func66 (by kernel_rfl) (by kernel_rfl) ?_
  intro ys r hr w S vs hS hL hl
  unfold F_fac at hr
  split at hr
  · rename_i k n
    split at hr
    · rename_i hx
      cases hr
      obtain ⟨u1, u2, rfl, e1, e2⟩ := VL_2 hl
      have e1 := V_int e1
      have e2 := V_int e2
      subst e1 e2
      refine (fac_calls k n hx.1 hx.2 w hL).mono ?_
      rintro e w' ⟨rfl, hb⟩
      obtain ⟨q1, q2, q3⟩ := env_below hb
      refine ⟨_, rfl, q1, q2, q3, ?_⟩
      simp only [V, VL]
      exact ⟨_, rfl, _, _, rfl, rfl, _, _, rfl, rfl, rfl⟩
    · cases hr
  · cases hr
def F_prt (xs : List AVal) : Option AVal := if avEqL xs [.agg [.slc 14 [CK c0]]] = true then some (.tup [sv txtL, .int .i64 0]) else none
theorem sound50 : Sound Tryz.prog 50 F_prt := by
  refine sound_calls Tryz.func50 (by kernel_rfl) (by kernel_rfl) ?_
  intro ys r hr w S vs hS hL hl
  unfold F_prt at hr
  split at hr
  · rename_i h
    cases hr
    obtain rfl := avEqL_ok _ _ h
    obtain ⟨v, rfl, hv⟩ := VL_1 hl
    have hg : Grow (ctx0 w S) (ctx0 w fun b => b < w.heap.size) := ⟨fun b hb => hS b hb, fun _ _ => rfl, fun _ _ _ h => h, fun _ => Nat.le_refl _⟩
    have hv := V_grow hg _ _ hv
    have hc : rOk [c0] := ⟨fun c hc => by simp at hc; subst hc; exact c0_ok, trivial, trivial, by decide⟩
    refine (prt_calls w hL (Rg.slc [c0]) hc right0 hv).mono ?_
    rintro e w' ⟨rfl, hb⟩
    obtain ⟨e1, e2, e3⟩ := env_below hb
    refine ⟨_, rfl, e1, e2, e3, ?_⟩
    rw [txt_eq]
    simp only [V, VL]
    exact ⟨_, rfl, _, _, rfl, rfl, _, _, rfl, rfl, rfl⟩
  · cases hr
def decE : AVal × AVal × Nat → Option (Al × Nat)
  | (.agg [.int .i64 c, .int .i64 k], .int .i64 s, n) => some (⟨c, k, s⟩, n)
  | _ => none
theorem decE_eq {e : AVal × AVal × Nat} {p : Al × Nat} (h : decE e = some p) : e = (KV p.1.c p.1.k, .int .i64 p.1.s, p.2) := by
  unfold decE at h
  split at h
  · cases h; rfl
  · cases h
theorem decL_eq : ∀ {es : List (AVal × AVal × Nat)} {m : List (Al × Nat)}, mapO decE es = some m → es = entM m
  | [], m, h => by
    simp only [mapO, Option.some.injEq] at h
    subst h
    rfl
  | e :: es, m, h => by
    rw [mapO] at h
    cases h1 : decE e with
    | none => rw [h1] at h; cases h
    | some p =>
      rw [h1] at h
      cases h2 : mapO decE es with
      | none => rw [h2] at h; cases h
      | some ps =>
        rw [h2] at h
        simp only [Option.some.injEq] at h
        subst h
        rw [decE_eq h1, decL_eq h2]
        rfl
def lsK (es : List (AVal × AVal × Nat)) (cl : Nat) : Option (Option (Nat × List AVal)) :=
  match mapO decE es with
  | some m => if (∀ p ∈ m, kOk p.1.c p.1.k ∧ p.2 < cl) ∧ (m.Pairwise fun x y => num x.1 < num y.1 ∧ x.2 < y.2) ∧ m.length ≤ 200000 then some (if (m.map (·.1)) = [] then none else some (3, (m.map (·.1)).map AK)) else none
  | none => none
theorem soundM177 : SoundM Tryz.prog 177 lsK := by
  intro es cl r hF
  refine sound23 es cl r ?_
  unfold lsK at hF
  cases hm : mapO decE es with
  | none => rw [hm] at hF; cases hF
  | some m =>
    rw [hm] at hF
    simp only at hF
    split at hF
    · rename_i hc
      obtain ⟨h1, h2, h3⟩ := hc
      rw [← Option.some.inj hF]
      refine F23m_eq ⟨fun a ha => ?_, ?_, m, decL_eq hm, List.Perm.refl _, ?_, fun p hp => (h1 p hp).2, h3⟩
      · obtain ⟨p, hp, rfl⟩ := List.mem_map.1 ha
        exact (h1 p hp).1
      · rw [List.pairwise_map]
        exact h2.imp fun h => h.1
      · show List.Pairwise _ _
        rw [List.pairwise_map]
        exact h2.imp fun h => by have := h.2; omega
    · cases hF
def Cfg.addμ (C : Cfg) (t : TypeId) (m : String) (g : FuncId) : Cfg := ⟨C.Γ, C.xf, C.Γn, C.Γm, C.Γa, fun t' m' => if t' = t ∧ m' = m then some g else C.μ t' m'⟩
theorem addμ_ok {P : Program} {C : Cfg} (ok : CfgOk P C) {t : TypeId} {m : String} {g : FuncId} (h : ∀ v w, (Go.method (P.types.size + Made.depth) t v m).run P w = .ok (g, v) w) : CfgOk P (Cfg.addμ C t m g) := by
  refine ⟨ok.Γ, ok.xf, ok.mixed, ok.Γn, ok.Γm, ok.Γa, fun t' m' g' hg => ?_⟩
  simp only [Cfg.addμ] at hg
  split at hg
  · rename_i e
    obtain ⟨rfl, rfl⟩ := e
    cases hg
    exact h
  · exact ok.μ t' m' g' hg
noncomputable def CA0 : Cfg := ((((((CP.add 52 F52).add 24 F24).add 26 F26).add 55 F55).add 10 F10).add 80 F80).add 9 F9
theorem okA0 : CfgOk Tryz.prog CA0 := ((((((okP.add sound52).add sound24).add sound26).add sound55).add sound10).add sound80).add sound9
noncomputable def CA1 : Cfg := ((((((((CA0.add 25 F_add64).add 114 F_sub64).add 233 F_tz).add 66 F_fac).add 67 F_md).add 50 F_prt).add 253 F_index).add 272 (F_atoi 483)).add 75 F_itoa
theorem okA1 : CfgOk Tryz.prog CA1 := ((((((((okA0.add sound25).add sound114).add sound233).add sound66).add sound67).add sound50).add sound253).add sound272).add sound75
noncomputable def CA2 : Cfg := ((CA1.addN 188 clN).addN 419 clQ).addM 177 lsK
theorem okA2 : CfgOk Tryz.prog CA2 := ((okA1.addN soundN188).addN soundN419).addM soundM177
noncomputable def CA : Cfg := Cfg.addμ (Cfg.addμ (Cfg.addμ (Cfg.addμ (Cfg.addμ (Cfg.addμ CA2 299 "datum/channel.right" 424) 299 "datum/channel.step" 425) 141 "datum/base.ranges" 385) 141 "datum/base.reach" 386) 141 "datum/base.scale" 387) 141 "datum/base.steps" 388
theorem okA : CfgOk Tryz.prog CA := addμ_ok (addμ_ok (addμ_ok (addμ_ok (addμ_ok (addμ_ok okA2 (fun v w => by kernel_rfl)) (fun v w => by kernel_rfl)) (fun v w => by kernel_rfl)) (fun v w => by kernel_rfl)) (fun v w => by kernel_rfl)) (fun v w => by kernel_rfl)
noncomputable def F8 : List AVal → Option AVal := pureF CA 20 8
theorem sound8 : Sound Tryz.prog 8 F8 := sound_self okA 20 8
theorem F8_eq : F8 [] = some (.bool true) := pureK_is (by kernel_rfl)
end Go.Proofs.YtkonpbcnekcjjaaGreatDoor
namespace Go.Proofs.YtkonpbcnekcjjaaGreatDoor.DV
open Go Go.Xec
noncomputable def CX4 : Cfg := C4 F8
theorem okX4 : CfgOk Tryz.prog CX4 := ((((((okJ.add sound6).add sound7).add sound8).add sound11).add sound12).add sound13).add sound14
theorem law4f (xs : List AVal) (h : WTL [.slice 1 8 (.int .i64), .int .i64, .int .i64] xs) : pureF CX4 1 4 xs = some (.bool true) := law4w F8_eq xs h
end Go.Proofs.YtkonpbcnekcjjaaGreatDoor.DV
namespace Go.Proofs.YtkonpbcnekcjjaaGreatDoor
open Go Go.Xec Go.ChangeShapes Go.WideShapes Go.ChangeAt Go.RowKit
theorem seatOwn : ownKnob Tryz.prog.godebug = none := by kernel_rfl
theorem seatLaidOut : laidOutB Tryz.prog = true := by kernel_rfl
theorem gv0 : Tryz.prog.globalNamed "math/bits.deBruijn32tab" = some 4 := by kernel_rfl
theorem gv1 : Tryz.prog.globalNamed "math/bits.deBruijn64tab" = some 5 := by kernel_rfl
theorem gv2 : Tryz.prog.globalNamed "internal/strconv.uint64pow10" = some 3 := by kernel_rfl
theorem gv3 : Tryz.prog.globalNamed "unicode/utf8.acceptRanges" = some 8 := by kernel_rfl
theorem gv4 : Tryz.prog.globalNamed "strconv.ErrRange" = some 10 := by kernel_rfl
theorem gv5 : Tryz.prog.globalNamed "strconv.ErrSyntax" = some 9 := by kernel_rfl
theorem gv6 : Tryz.prog.globalNamed "unicode/utf8.first" = some 7 := by kernel_rfl
theorem seatStar : "*" ++ "errors.errorString" = "*errors.errorString" := by decide
theorem seatRow (u : TypeId) (h : Tryz.prog.typeName? 3 u = some "*errors.errorString") : u = 502 :=
  typeName_ptr_named (nm := "errors.errorString") (by rw [seatStar]; kernel_rfl) (by kernel_rfl) (by decide) u (by rw [seatStar]; exact h)
theorem seatEt : Tryz.prog.globalNamed "errors.errorType" = some 2 := by kernel_rfl
abbrev seatList : List (String × DataW Unit) := Rows.topSquaresRow.laid
theorem laid_of_met {W : World} (h : laidMetH Tryz.prog seatList W) (hS : W.ShapedOpen Tryz.prog) : Laid Tryz.prog W := by
  have hh : laidMet Tryz.prog (seatList.filter fun x => x.2.handleName?.isNone) W ∧ handlesMet Tryz.prog (seatList.filter fun x => x.2.handleName?.isSome) W := h
  clear h
  obtain ⟨h, hhan⟩ := hh
  have h1 := h.tail
  have h2 := h1.tail
  have h3 := h2.tail
  have h4 := h3.tail
  have h5 := h4.tail
  have h6 := h5.tail
  refine ⟨?_, ?_, ?_, ?_⟩
  · intro t ht hne
    simp only [tabs, List.mem_cons, List.not_mem_nil, or_false] at ht
    rcases ht with rfl | rfl
    · exact Lib.tabIs_of_head (k := .u64) (zs := Lib.pow10Tab) gv2 (t := 361) (e := 24) (n := 20) (by kernel_rfl) (by kernel_rfl) (by kernel_rfl) (by kernel_rfl) (by kernel_rfl) h2
    · exact Lib.tabIs_of_head (k := .u8) (zs := Lib.deBruijn64tab.map Int.ofNat) gv1 (t := 435) (e := 5) (n := 64) (by kernel_rfl) (by kernel_rfl) (by kernel_rfl) (by kernel_rfl) (by kernel_rfl) h1
  · intro n hn hg
    simp only [errs, List.mem_cons, List.not_mem_nil, or_false] at hn
    rcases hn with rfl | rfl
    · obtain ⟨a, s, h5, _⟩ := laid_sentinel h5 gv5 (ti := 153) (te := 504) (ts := 9) (tp := 502) (by kernel_rfl) Tryz.underlying153 seatRow Tryz.underlying502 Tryz.underlying504 rfl rfl Tryz.underlying9 (by kernel_rfl) (by kernel_rfl)
      exact ⟨_, _, h5⟩
    · obtain ⟨a, s, h5, _⟩ := laid_sentinel h4 gv4 (ti := 153) (te := 504) (ts := 9) (tp := 502) (by kernel_rfl) Tryz.underlying153 seatRow Tryz.underlying502 Tryz.underlying504 rfl rfl Tryz.underlying9 (by kernel_rfl) (by kernel_rfl)
      exact ⟨_, _, h5⟩
  · intro g hg
    rw [(by kernel_rfl : Tryz.prog.globalNamed "internal/bytealg.MaxLen" = some 6)] at hg
    cases hg
    exact Go.Proofs.cell_of_shapedOpen_int (zero := #[.int .i64 0]) (t := 3) hS (of_decide_eq_true (by kernel_rfl)) (by kernel_rfl) rfl (by kernel_rfl) (by kernel_rfl) Tryz.underlying3
  · intro _
    obtain ⟨name, u, ty, e1, e2, e3, e4, e5⟩ := hhan ("errors.errorType", Rows.laid_errors_errorType) (List.mem_filter.2 ⟨by simp [seatList, Rows.topSquaresRow], rfl⟩)
    have en : name = [101, 114, 114, 111, 114] := (Option.some.inj e1).symm
    subst en
    exact ⟨u, ty, e2, e3, e4, e5⟩
noncomputable def seatLow : Nat := (World.holding Tryz.prog default ⟨#[], #[], []⟩).heap.size
noncomputable def laidWorld (os : Os) : World :=
  let w0 := World.holding Tryz.prog os ⟨#[.cells #[.string { data := #[118, 97, 108, 117, 101, 32, 111, 117, 116, 32, 111, 102, 32, 114, 97, 110, 103, 101] }] 504, .cells #[.string { data := #[105, 110, 118, 97, 108, 105, 100, 32, 115, 121, 110, 116, 97, 120] }] 504], #[], []⟩
  let put (h : Array Obj) (g : Nat) (cs : Array Value) : Array Obj := h.modify g fun
    | .cells _ t frozen => .cells cs t frozen
    | o => o
  let k1 := put w0.heap 4 #[.int .u8 0, .int .u8 1, .int .u8 28, .int .u8 2, .int .u8 29, .int .u8 14, .int .u8 24, .int .u8 3, .int .u8 30, .int .u8 22, .int .u8 20, .int .u8 15, .int .u8 25, .int .u8 17, .int .u8 4, .int .u8 8, .int .u8 31, .int .u8 27, .int .u8 13, .int .u8 23, .int .u8 21, .int .u8 19, .int .u8 16, .int .u8 7, .int .u8 26, .int .u8 12, .int .u8 18, .int .u8 6, .int .u8 11, .int .u8 5, .int .u8 10, .int .u8 9]
  let k2 := put k1 5 #[.int .u8 0, .int .u8 1, .int .u8 56, .int .u8 2, .int .u8 57, .int .u8 49, .int .u8 28, .int .u8 3, .int .u8 61, .int .u8 58, .int .u8 42, .int .u8 50, .int .u8 38, .int .u8 29, .int .u8 17, .int .u8 4, .int .u8 62, .int .u8 47, .int .u8 59, .int .u8 36, .int .u8 45, .int .u8 43, .int .u8 51, .int .u8 22, .int .u8 53, .int .u8 39, .int .u8 33, .int .u8 30, .int .u8 24, .int .u8 18, .int .u8 12, .int .u8 5, .int .u8 63, .int .u8 55, .int .u8 48, .int .u8 27, .int .u8 60, .int .u8 41, .int .u8 37, .int .u8 16, .int .u8 46, .int .u8 35, .int .u8 44, .int .u8 21, .int .u8 52, .int .u8 32, .int .u8 23, .int .u8 11, .int .u8 54, .int .u8 26, .int .u8 40, .int .u8 15, .int .u8 34, .int .u8 20, .int .u8 31, .int .u8 10, .int .u8 25, .int .u8 14, .int .u8 19, .int .u8 9, .int .u8 13, .int .u8 8, .int .u8 7, .int .u8 6]
  let k3 := put k2 3 (Lib.pow10Tab.map fun z => Value.int .u64 z).toArray
  let k4 := put k3 8 ((List.range 16).flatMap fun i => [Value.int .u8 (Lib.accLo i), Value.int .u8 (Lib.accHi i)]).toArray
  let k5 := put k4 10 #[.iface 502 (.pointer (some ⟨seatLow, 0, none⟩))]
  let k6 := put k5 9 #[.iface 502 (.pointer (some ⟨seatLow + 1, 0, none⟩))]
  let k7 := put k6 7 (Lib.firstTab.map fun z => Value.int .u8 z).toArray
  let kh := put k7 2 #[.iface 342 (.agg #[typeHandle Tryz.prog 153])]
  { w0 with heap := kh }
set_option maxRecDepth 100000 in
theorem laidWorld_met (os : Os) (args : Array Value) : laidMetH Tryz.prog seatList ((laidWorld os).forCall (fun _ _ => 0) ⟨#[], args, []⟩).memory := by
  exact laidMetH_of_parts (laidMet_of_run' 8 (by kernel_rfl) (by kernel_rfl)) (by kernel_rfl)
end Go.Proofs.YtkonpbcnekcjjaaGreatDoor
