/-
  The law of blanks.
-/
import Derived.Test.YtjcjlgiigjckeaaDoorYO
set_option linter.unusedVariables false
set_option linter.unusedSimpArgs false
namespace Go.Proofs.YtjcjlgiigjckeaaDoor
open Go Go.Xec

set_option maxRecDepth 10000
theorem bk_app {a b : List UInt8} (ha : Bk a) (hb : Bk b) (h0 : a ≠ []) : Bk (a ++ b) := by
  refine ⟨fun r i => ?_, fun c hc => ?_⟩
  · rw [List.append_assoc, ha.1, hb.1, List.length_append, Nat.add_assoc]
  · cases a with
    | nil => exact absurd rfl h0
    | cons d a => exact ha.2 c (by simpa using hc)
theorem bk_rem {m : List UInt8} (h : ∀ b ∈ m, ¬ (b.toNat : Int) = 10) : Bk (35 :: (m ++ [10])) := by
  refine ⟨fun r i => ?_, fun d hd => ?_⟩
  · have e : 35 :: (m ++ [10]) ++ r = (35 :: m) ++ (10 :: r) := by simp
    have ht : ((35 :: m) ++ (10 :: r)).takeWhile inB = 35 :: m := by
      refine tw_app (fun b hb => ?_) (fun b hb => ?_)
      · rcases List.mem_cons.1 hb with rfl | hb
        · rfl
        · exact decide_eq_true (h b hb)
      · simp at hb
        subst hb
        rfl
    have hb : blk ((35 :: m) ++ (10 :: r)) = m.length + 1 := by
      rw [List.cons_append] at ht ⊢
      rw [blk, if_neg (by decide), if_pos (by rfl), ht]
      rfl
    have hb2 : blk (10 :: r) = 1 := by rw [blk, if_pos (by decide)]
    have hd : ((35 :: m) ++ (10 :: r)).drop (m.length + 1) = 10 :: r := by
      rw [show m.length + 1 = (35 :: m).length by simp, List.drop_left]
    rw [e, scan_blk (by omega), hb, hd, scan_blk (by omega), hb2]
    simp
    congr 1
  · simp at hd
    subst hd
    decide
/-- The blank at a place. -/
def bl (B : List Int) (m : List UInt8) (i : Nat) : List UInt8 :=
  if B = [] then [32] else if B.getD (i % B.length) 0 % 5 = 0 then [9] else if B.getD (i % B.length) 0 % 5 = 1 then [10, 13, 32] else if B.getD (i % B.length) 0 % 5 = 2 then 35 :: (m ++ [10])
  else if B.getD (i % B.length) 0 % 5 = 3 then [32, 35, 32, 123, 59, 32, 10, 10] else [32, 32]
theorem bl_bk {B : List Int} {m : List UInt8} (i : Nat) (hm : m.length ≤ 10) (h : ∀ b ∈ m, ¬ (b.toNat : Int) = 10) : Bk (bl B m i) ∧ bl B m i ≠ [] ∧ (bl B m i).length ≤ 12 := by
  have h32 : Bk [32] := bk_one (by decide)
  have h10 : Bk [10] := bk_one (by decide)
  unfold bl
  split
  · exact ⟨h32, by simp, by simp⟩
  · split
    · exact ⟨bk_one (by decide), by simp, by simp⟩
    · split
      · exact ⟨bk_app h10 (bk_app (bk_one (c := 13) (by decide)) h32 (by simp)) (by simp), by simp, by simp⟩
      · split
        · exact ⟨bk_rem h, by simp, by simp; omega⟩
        · split
          · exact ⟨bk_app h32 (bk_app (bk_rem (m := [32, 123, 59, 32]) (by decide)) h10 (by simp)) (by simp), by simp, by simp⟩
          · exact ⟨bk_app h32 h32 (by simp), by simp, by simp⟩
/-- Tokens, each with the blank behind it. -/
def prb (B : List Int) (m : List UInt8) : List Tok → Nat → List (Tok × List UInt8)
  | [], _ => []
  | t :: l, i => (t, bl B m (i + 1)) :: prb B m l (i + 1)
theorem prb_fst (B : List Int) (m : List UInt8) : ∀ (l : List Tok) (i : Nat), (prb B m l i).map (·.1) = l
  | [], i => rfl
  | t :: l, i => by rw [prb, List.map_cons, prb_fst]
theorem prb_good {B : List Int} {m : List UInt8} (hm : m.length ≤ 10) (h : ∀ b ∈ m, ¬ (b.toNat : Int) = 10) : ∀ (l : List Tok) (i : Nat), allOk l → good (prb B m l i)
  | [], i, _ => trivial
  | t :: l, i, ho => ⟨ho t (by simp), (bl_bk (i + 1) hm h).1, fun e => absurd e (bl_bk (i + 1) hm h).2.1, prb_good hm h l (i + 1) fun x hx => ho x (by simp [hx])⟩
theorem prb_snoc (B : List Int) (m : List UInt8) (t : Tok) : ∀ (l : List Tok) (i : Nat), lay (prb B m (l ++ [t]) i) = lay (prb B m l i) ++ (txt t ++ bl B m (i + l.length + 1))
  | [], i => by simp [prb, lay]
  | u :: l, i => by
    rw [List.cons_append, prb, lay, prb_snoc B m t l (i + 1), prb, lay]
    simp only [List.append_assoc, List.length_cons]
    rw [show i + 1 + l.length + 1 = i + (l.length + 1) + 1 by omega]
theorem prb_len {B : List Int} {m : List UInt8} (hm : m.length ≤ 10) (h : ∀ b ∈ m, ¬ (b.toNat : Int) = 10) : ∀ (l : List Tok) (i : Nat), allOk l → (lay (prb B m l i)).length ≤ 33 * l.length
  | [], i, _ => by simp [prb, lay]
  | t :: l, i, ho => by
    have h1 := txt_len (ho t (by simp))
    have h2 := (bl_bk (B := B) (i + 1) hm h).2.2
    have h3 := prb_len (B := B) hm h l (i + 1) fun x hx => ho x (by simp [hx])
    rw [prb, lay]
    simp only [List.length_append, List.length_cons]
    omega
def laid6 (B : List Int) (m : List UInt8) (l : List Tok) : List UInt8 := bl B m 0 ++ lay (prb B m l 0)
theorem laid6_next {B : List Int} {m : List UInt8} {l : List Tok} {i : Nat} (hi : i < l.length) : laid6 B m (l.take (i + 1)) = laid6 B m (l.take i) ++ (txt l[i] ++ bl B m (i + 1)) := by
  unfold laid6
  rw [take_next hi, prb_snoc, List.length_take, show 0 + min i l.length + 1 = i + 1 by omega, List.append_assoc]
theorem laid6_zero {B : List Int} {m : List UInt8} : laid6 B m [] = bl B m 0 := by simp [laid6, prb, lay]
theorem laid6_len {B : List Int} {m : List UInt8} (hm : m.length ≤ 10) (h : ∀ b ∈ m, ¬ (b.toNat : Int) = 10) {l : List Tok} (ho : allOk l) : (laid6 B m l).length ≤ 12 + 33 * l.length := by
  have h1 := (bl_bk (B := B) 0 hm h).2.2
  have h2 := prb_len (B := B) hm h l 0 ho
  unfold laid6
  rw [List.length_append]
  omega
theorem laid6_scan {B : List Int} {m : List UInt8} (hm : m.length ≤ 10) (h : ∀ b ∈ m, ¬ (b.toNat : Int) = 10) {l : List Tok} (ho : allOk l) (h4 : (laid6 B m l).length ≤ 4000) : ∃ q, text (laid6 B m l) = .ok q ∧ q.map at0 = l.map at0 := by
  have hg := prb_good (B := B) hm h l 0 ho
  refine ⟨places (prb B m l 0) (0 + (bl B m 0).length), ?_, ?_⟩
  · unfold text
    rw [if_pos h4]
    unfold laid6
    rw [(bl_bk 0 hm h).1.1, scan_lay _ _ hg]
  · rw [places_at0, prb_fst]
end Go.Proofs.YtjcjlgiigjckeaaDoor
