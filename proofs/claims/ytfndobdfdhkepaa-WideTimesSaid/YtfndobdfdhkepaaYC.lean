/-
  What the document's functions of wide numbers answer.
-/
import Derived.Test.YtfndobdfdhkepaaYB
set_option linter.unusedVariables false
set_option linter.unusedSimpArgs false
namespace Go.Proofs.Ytfndobdfdhkepaa
open Go Go.Xec

set_option maxRecDepth 10000
abbrev u64s (l : List Int) : List AVal := l.map (AVal.int .u64)
/-- Pieces. -/
abbrev pcs (h l : Int) : List Int := [l % 65536, l / 65536 % 65536, l / 4294967296 % 65536, l / 281474976710656 % 65536, h % 65536, h / 65536 % 65536, h / 4294967296 % 65536, h / 281474976710656 % 65536]
def F19 : List AVal → Option AVal
  | [.agg [.int .u64 h, .int .u64 l]] => if U h ∧ U l then some (.slc 1 (u64s (pcs h l))) else none
  | _ => none
theorem F19_eq {h l : Int} (h1 : U h) (h2 : U l) : F19 [W h l] = some (.slc 1 (u64s (pcs h l))) := if_pos ⟨h1, h2⟩
theorem step19 {h l : Int} (h1 : U h) (h2 : U l) : pureF C2 1 19 [W h l] = some (.slc 1 (u64s (pcs h l))) := by
  refine pureF_of (x := x19) rfl rfl ?_
  rw [x19_eq.1, x19_eq.2.1]
  simp (disch := first | omega | simp only [go_sem, tm0, ↓reduceIte, Nat.reduceAdd, Nat.reduceMul, Nat.reduceSub, Nat.reduceLeDiff, Nat.reduceLT, Nat.reduceEqDiff, Int.reduceLT, Int.reduceLE, Int.reduceAdd, Int.reduceSub, Int.reduceMul, Int.reduceToNat, Int.reducePow, Int.reduceNe, Int.reduceMod, Int.reduceDiv, ne_eq, Int.reduceEq, not_false_eq_true, Nat.reducePow, List.length_append, List.length_replicate, List.replicate_succ, List.replicate_zero, Int.cast_ofNat_Int]) only [x19b, x19l3, x19l8, go_sem, tm0, ↓reduceIte, Nat.reduceAdd, Nat.reduceMul, Nat.reduceSub, Nat.reduceLeDiff, Nat.reduceLT, Nat.reduceEqDiff, Int.reduceLT, Int.reduceLE, Int.reduceAdd, Int.reduceSub, Int.reduceMul, Int.reduceToNat, Int.reducePow, Int.reduceNe, Int.reduceMod, Int.reduceDiv, ne_eq, Int.reduceEq, not_false_eq_true, Nat.reducePow, List.length_append, List.length_replicate, List.replicate_succ, List.replicate_zero, Int.cast_ofNat_Int, Int.tmod_eq_emod_of_nonneg, ↓Ev_loop, ↓EvN_step]
  simp only [Ends_eq, go_sem, tm0, ↓reduceIte, Nat.reduceAdd, Nat.reduceMul, Nat.reduceSub, Nat.reduceLeDiff, Nat.reduceLT, Nat.reduceEqDiff, Int.reduceLT, Int.reduceLE, Int.reduceAdd, Int.reduceSub, Int.reduceMul, Int.reduceToNat, Int.reducePow, Int.reduceNe, Int.reduceMod, Int.reduceDiv, ne_eq, Int.reduceEq, not_false_eq_true, Nat.reducePow, List.length_append, List.length_replicate, List.replicate_succ, List.replicate_zero, Int.cast_ofNat_Int, Int.ediv_one]
theorem sound19 : Sound Try.prog 19 F19 := sound_at ok2 0 fun xs r h => by
  unfold F19 at h
  split at h
  · split at h
    · rename_i hc
      cases h
      exact step19 hc.1 hc.2
    · cases h
  · cases h

/-- Carried. -/
def carr (c : Int) : List Int → List Int
  | [] => [c]
  | x :: xs => (x + c) % 65536 :: carr ((x + c) / 65536) xs
def ints (k : IntKind) : List AVal → Option (List Int)
  | [] => some []
  | .int k' n :: r => if k' = k then (ints k r).map (n :: ·) else none
  | _ => none
theorem ints_map (k : IntKind) : ∀ (l : List Int), ints k (l.map (AVal.int k)) = some l
  | [] => rfl
  | x :: l => by simp [ints, ints_map k l]
theorem ints_inv (k : IntKind) : ∀ {xs : List AVal} {l : List Int}, ints k xs = some l → xs = l.map (AVal.int k)
  | [], l, h => by simp [ints] at h; subst h; rfl
  | x :: xs, l, h => by
    cases x <;> simp only [ints] at h <;> try cases h
    split at h
    · rename_i e
      subst e
      cases h' : ints _ xs with
      | none => rw [h'] at h; cases h
      | some r =>
        rw [h'] at h
        simp at h
        subst h
        rw [ints_inv _ h']
        rfl
    · cases h
abbrev Small (l : List Int) : Prop := (∀ x ∈ l, 0 ≤ x ∧ x ≤ 9223372036854775808) ∧ l.length ≤ 1000
def F20 : List AVal → Option AVal
  | [.slc 1 xs] => match ints .u64 xs with
    | some l => open Classical in if Small l then some (.slc 1 (u64s (carr 0 l))) else none
    | none => none
  | _ => none
theorem F20_eq {l : List Int} (h : Small l) : F20 [.slc 1 (u64s l)] = some (.slc 1 (u64s (carr 0 l))) := by
  simp only [F20, ints_map]
  exact if_pos h

theorem step20 {l : List Int} (hl : Small l) : pureF C2 1 20 [.slc 1 (u64s l)] = some (.slc 1 (u64s (carr 0 l))) := by
  refine pureF_of (x := x20) rfl rfl ?_
  rw [x20_eq.1, x20_eq.2.1]
  simp (disch := first | omega | simp only [go_sem, tm0, ↓reduceIte, Nat.reduceAdd, Nat.reduceMul, Nat.reduceSub, Nat.reduceLeDiff, Nat.reduceLT, Nat.reduceEqDiff, Int.reduceLT, Int.reduceLE, Int.reduceAdd, Int.reduceSub, Int.reduceMul, Int.reduceToNat, Int.reducePow, Int.reduceNe, Int.reduceMod, Int.reduceDiv, ne_eq, Int.reduceEq, not_false_eq_true, Nat.reducePow, List.length_append, List.length_replicate, List.replicate_succ, List.replicate_zero, Int.cast_ofNat_Int]) only [x20b, go_sem, tm0, ↓reduceIte, Nat.reduceAdd, Nat.reduceMul, Nat.reduceSub, Nat.reduceLeDiff, Nat.reduceLT, Nat.reduceEqDiff, Int.reduceLT, Int.reduceLE, Int.reduceAdd, Int.reduceSub, Int.reduceMul, Int.reduceToNat, Int.reducePow, Int.reduceNe, Int.reduceMod, Int.reduceDiv, ne_eq, Int.reduceEq, not_false_eq_true, Nat.reducePow, List.length_append, List.length_replicate, List.replicate_succ, List.replicate_zero, Int.cast_ofNat_Int]
  refine Ev_loop_inv (I := fun n st => ∃ done rest c g tm hp nc, st = ⟨tm, hp, nc⟩ ∧ l = done ++ rest ∧ n = rest.length ∧ tm 8 = .slc 1 (u64s l) ∧ tm 9 = .int .i64 l.length ∧ tm 10 = .int .i64 done.length ∧
    (∃ out : List Int, out.length = done.length ∧ tm 3 = .sl (20001000, 1) g 1 0 done.length ∧ hp (20001000, 1) = some (.row g 1 (u64s out)) ∧ carr 0 l = out ++ carr c rest) ∧ tm 4 = .int .u64 c ∧ 0 ≤ c ∧ c ≤ 281474976710656) (n := l.length) ?_ ?_ ?_
  · exact ⟨[], l, 0, 0, _, _, _, rfl, rfl, rfl, rfl, by simp only [go_sem, tm0, ↓reduceIte, Nat.reduceAdd, Nat.reduceMul, Nat.reduceSub, Nat.reduceLeDiff, Nat.reduceLT, Nat.reduceEqDiff, Int.reduceLT, Int.reduceLE, Int.reduceAdd, Int.reduceSub, Int.reduceMul, Int.reduceToNat, Int.reducePow, Int.reduceNe, Int.reduceMod, Int.reduceDiv, ne_eq, Int.reduceEq, not_false_eq_true, Nat.reducePow, List.length_append, List.length_replicate, List.replicate_succ, List.replicate_zero, Int.cast_ofNat_Int, List.length_map], rfl, ⟨[], rfl, rfl, rfl, rfl⟩, rfl, by decide, by decide⟩
  · have := hl.2
    omega
  · rintro n st ⟨done, rest, c, g, tm, hp, nc, rfl, rfl, rfl, h8, h9, h10, ⟨out, ho, h3, hh, hc⟩, h4, hc0, hc1⟩
    cases rest with
    | nil =>
      simp only [List.append_nil] at *
      have hlen := hl.2
      simp (disch := first | omega | simp only [go_sem, tm0, ↓reduceIte, Nat.reduceAdd, Nat.reduceMul, Nat.reduceSub, Nat.reduceLeDiff, Nat.reduceLT, Nat.reduceEqDiff, Int.reduceLT, Int.reduceLE, Int.reduceAdd, Int.reduceSub, Int.reduceMul, Int.reduceToNat, Int.reducePow, Int.reduceNe, Int.reduceMod, Int.reduceDiv, ne_eq, Int.reduceEq, not_false_eq_true, Nat.reducePow, List.length_append, List.length_replicate, List.replicate_succ, List.replicate_zero, Int.cast_ofNat_Int]) only [x20l4, go_sem, tm0, ↓reduceIte, Nat.reduceAdd, Nat.reduceMul, Nat.reduceSub, Nat.reduceLeDiff, Nat.reduceLT, Nat.reduceEqDiff, Int.reduceLT, Int.reduceLE, Int.reduceAdd, Int.reduceSub, Int.reduceMul, Int.reduceToNat, Int.reducePow, Int.reduceNe, Int.reduceMod, Int.reduceDiv, ne_eq, Int.reduceEq, not_false_eq_true, Nat.reducePow, List.length_append, List.length_replicate, List.replicate_succ, List.replicate_zero, Int.cast_ofNat_Int, h8, h9, h10, h3, h4, hh, Int.lt_irrefl, List.length_map, ho]
      refine Ends_row (xs := u64s (out ++ [c])) ?_ ?_ (plainL_ints _ _ _) ?_
      · simp [upd_eq]
      · simp [ho]
      · rw [hc]; rfl
    | cons x rest =>
      have hlen := hl.2
      have hx := hl.1 x (by simp)
      have hd : decide ((done.length : Int) < ((done ++ x :: rest).length : Int)) = true := by simp; omega
      have hget : (u64s (done ++ x :: rest))[done.length]? = some (.int .u64 x) := by simp
      simp only [List.length_append, List.length_cons] at hd hlen
      simp (disch := first | omega | simp only [go_sem, tm0, ↓reduceIte, Nat.reduceAdd, Nat.reduceMul, Nat.reduceSub, Nat.reduceLeDiff, Nat.reduceLT, Nat.reduceEqDiff, Int.reduceLT, Int.reduceLE, Int.reduceAdd, Int.reduceSub, Int.reduceMul, Int.reduceToNat, Int.reducePow, Int.reduceNe, Int.reduceMod, Int.reduceDiv, ne_eq, Int.reduceEq, not_false_eq_true, Nat.reducePow, List.length_append, List.length_replicate, List.replicate_succ, List.replicate_zero, Int.cast_ofNat_Int]) only [x20l4, go_sem, tm0, ↓reduceIte, Nat.reduceAdd, Nat.reduceMul, Nat.reduceSub, Nat.reduceLeDiff, Nat.reduceLT, Nat.reduceEqDiff, Int.reduceLT, Int.reduceLE, Int.reduceAdd, Int.reduceSub, Int.reduceMul, Int.reduceToNat, Int.reducePow, Int.reduceNe, Int.reduceMod, Int.reduceDiv, ne_eq, Int.reduceEq, not_false_eq_true, Nat.reducePow, List.length_append, List.length_replicate, List.replicate_succ, List.replicate_zero, Int.cast_ofNat_Int, h8, h9, h10, h3, h4, hh, hd, hget, Int.toNat_natCast, List.length_map, ho, Int.emod_eq_of_lt, Int.tmod_eq_emod_of_nonneg, Int.tdiv_eq_ediv_of_nonneg]
      refine ⟨rest.length, by omega, done ++ [x], rest, (x + c) / 65536, g + 1, _, _, _, rfl, by simp, rfl, ?_⟩
      simp (disch := first | omega | simp only [go_sem, tm0, ↓reduceIte, Nat.reduceAdd, Nat.reduceMul, Nat.reduceSub, Nat.reduceLeDiff, Nat.reduceLT, Nat.reduceEqDiff, Int.reduceLT, Int.reduceLE, Int.reduceAdd, Int.reduceSub, Int.reduceMul, Int.reduceToNat, Int.reducePow, Int.reduceNe, Int.reduceMod, Int.reduceDiv, ne_eq, Int.reduceEq, not_false_eq_true, Nat.reducePow, List.length_append, List.length_replicate, List.replicate_succ, List.replicate_zero, Int.cast_ofNat_Int]) only [go_sem, tm0, ↓reduceIte, Nat.reduceAdd, Nat.reduceMul, Nat.reduceSub, Nat.reduceLeDiff, Nat.reduceLT, Nat.reduceEqDiff, Int.reduceLT, Int.reduceLE, Int.reduceAdd, Int.reduceSub, Int.reduceMul, Int.reduceToNat, Int.reducePow, Int.reduceNe, Int.reduceMod, Int.reduceDiv, ne_eq, Int.reduceEq, not_false_eq_true, Nat.reducePow, List.length_append, List.length_replicate, List.replicate_succ, List.replicate_zero, Int.cast_ofNat_Int, h8, h9, h10, h3, h4, hh]
      refine ⟨by simp, ⟨out ++ [(x + c) % 65536], by simp [ho], by simp, by rw [hc]; simp [carr]⟩, by omega, by omega⟩
theorem sound20 : Sound Try.prog 20 F20 := sound_at ok2 0 fun xs r h => by
  unfold F20 at h
  split at h
  · split at h
    · rename_i l hi
      split at h
      · rename_i hc
        cases h
        rw [ints_inv _ hi]
        exact step20 hc
      · cases h
    · cases h
  · cases h

/-- Whole. -/
abbrev P16 (n : Int) : Prop := 0 ≤ n ∧ n ≤ 65535
def F21 : List AVal → Option AVal
  | [.slc 1 xs] => match ints .u64 xs with
    | some (a :: b :: c :: d :: e :: f :: g :: h :: _) => if (P16 a ∧ P16 b ∧ P16 c ∧ P16 d) ∧ (P16 e ∧ P16 f ∧ P16 g ∧ P16 h) then
        some (W (e + f * 65536 + g * 4294967296 + h * 281474976710656) (a + b * 65536 + c * 4294967296 + d * 281474976710656)) else none
    | _ => none
  | _ => none
theorem F21_eq {a b c d e f g h : Int} {r : List Int} (h1 : P16 a ∧ P16 b ∧ P16 c ∧ P16 d) (h2 : P16 e ∧ P16 f ∧ P16 g ∧ P16 h) : F21 [.slc 1 (u64s (a :: b :: c :: d :: e :: f :: g :: h :: r))] =
    some (W (e + f * 65536 + g * 4294967296 + h * 281474976710656) (a + b * 65536 + c * 4294967296 + d * 281474976710656)) := by
  simp only [F21, ints_map]
  exact if_pos ⟨h1, h2⟩
theorem step21 {a b c d e f g h : Int} {r : List Int} (h1 : P16 a ∧ P16 b ∧ P16 c ∧ P16 d) (h2 : P16 e ∧ P16 f ∧ P16 g ∧ P16 h) : pureF C2 1 21 [.slc 1 (u64s (a :: b :: c :: d :: e :: f :: g :: h :: r))] =
    some (W (e + f * 65536 + g * 4294967296 + h * 281474976710656) (a + b * 65536 + c * 4294967296 + d * 281474976710656)) := by
  refine pureF_of (x := x21) rfl rfl ?_
  rw [x21_eq.1, x21_eq.2.1]
  obtain ⟨⟨a1, a2⟩, ⟨b1, b2⟩, ⟨c1, c2⟩, ⟨d1, d2⟩⟩ := h1
  obtain ⟨⟨e1, e2⟩, ⟨f1, f2⟩, ⟨g1, g2⟩, ⟨k1, k2⟩⟩ := h2
  simp (disch := first | omega | simp only [go_sem, tm0, ↓reduceIte, Nat.reduceAdd, Nat.reduceMul, Nat.reduceSub, Nat.reduceLeDiff, Nat.reduceLT, Nat.reduceEqDiff, Int.reduceLT, Int.reduceLE, Int.reduceAdd, Int.reduceSub, Int.reduceMul, Int.reduceToNat, Int.reducePow, Int.reduceNe, Int.reduceMod, Int.reduceDiv, ne_eq, Int.reduceEq, not_false_eq_true, Nat.reducePow, List.length_append, List.length_replicate, List.replicate_succ, List.replicate_zero, Int.cast_ofNat_Int]) only [x21b, x21l3, go_sem, tm0, ↓reduceIte, Nat.reduceAdd, Nat.reduceMul, Nat.reduceSub, Nat.reduceLeDiff, Nat.reduceLT, Nat.reduceEqDiff, Int.reduceLT, Int.reduceLE, Int.reduceAdd, Int.reduceSub, Int.reduceMul, Int.reduceToNat, Int.reducePow, Int.reduceNe, Int.reduceMod, Int.reduceDiv, ne_eq, Int.reduceEq, not_false_eq_true, Nat.reducePow, List.length_append, List.length_replicate, List.replicate_succ, List.replicate_zero, Int.cast_ofNat_Int, Int.emod_eq_of_lt, ↓Ev_loop, ↓EvN_step]
  refine Ends_plain rfl ?_
  simp only [Int.zero_add, Int.mul_one]
theorem sound21 : Sound Try.prog 21 F21 := sound_at ok2 0 fun xs r h => by
  unfold F21 at h
  split at h
  · split at h
    · rename_i hi
      split at h
      · rename_i hc
        cases h
        rw [ints_inv _ hi]
        exact step21 hc.1 hc.2
      · cases h
    · cases h
  · cases h

/-! ### numbers in pieces -/
/-- What pieces are worth. -/
def worth : List Int → Int
  | [] => 0
  | x :: xs => x + 65536 * worth xs
theorem carr_worth : ∀ (l : List Int) (c : Int), (∀ x ∈ l, 0 ≤ x) → 0 ≤ c → ∃ ds last, carr c l = ds ++ [last] ∧ ds.length = l.length ∧ (∀ d ∈ ds, P16 d) ∧ 0 ≤ last ∧ worth ds + 65536 ^ l.length * last = worth l + c
  | [], c, _, hc => ⟨[], c, rfl, rfl, by simp, hc, by simp [worth]⟩
  | x :: l, c, hl, hc => by
    have hx := hl x (by simp)
    obtain ⟨ds, last, h1, h2, h3, h4, h5⟩ := carr_worth l ((x + c) / 65536) (fun y hy => hl y (by simp [hy])) (by omega)
    refine ⟨(x + c) % 65536 :: ds, last, by simp [carr, h1], by simp [h2], ?_, h4, ?_⟩
    · intro d hd
      simp only [List.mem_cons] at hd
      rcases hd with rfl | hd
      · exact ⟨by omega, by omega⟩
      · exact h3 d hd
    · simp only [worth, List.length_cons, Int.pow_succ]
      have e : 65536 ^ l.length * 65536 * last = 65536 * (65536 ^ l.length * last) := by
        rw [Int.mul_comm (65536 ^ l.length) 65536, Int.mul_assoc]
      rw [e]
      omega
theorem list8 {α : Type} {l : List α} (h : l.length = 8) : ∃ a b c d e f g i, l = [a, b, c, d, e, f, g, i] := by
  match l, h with
  | [a, b, c, d, e, f, g, i], _ => exact ⟨a, b, c, d, e, f, g, i, rfl⟩
theorem F19_ex {h l : Int} (h1 : U h) (h2 : U l) : ∃ p0 p1 p2 p3 p4 p5 p6 p7, F19 [W h l] = some (.slc 1 [.int .u64 p0, .int .u64 p1, .int .u64 p2, .int .u64 p3, .int .u64 p4, .int .u64 p5, .int .u64 p6, .int .u64 p7]) ∧
    (P16 p0 ∧ P16 p1 ∧ P16 p2 ∧ P16 p3) ∧ (P16 p4 ∧ P16 p5 ∧ P16 p6 ∧ P16 p7) ∧ worth [p0, p1, p2, p3, p4, p5, p6, p7] = val h l := by
  refine ⟨_, _, _, _, _, _, _, _, F19_eq h1 h2, ?_, ?_, ?_⟩
  · simp only [P16]; omega
  · simp only [P16]; omega
  · simp only [worth, val]; omega
theorem F20_ex8 {a0 a1 a2 a3 a4 a5 a6 a7 : Int} (h : Small [a0, a1, a2, a3, a4, a5, a6, a7]) : ∃ p0 p1 p2 p3 p4 p5 p6 p7 p8,
    F20 [.slc 1 [.int .u64 a0, .int .u64 a1, .int .u64 a2, .int .u64 a3, .int .u64 a4, .int .u64 a5, .int .u64 a6, .int .u64 a7]] =
      some (.slc 1 [.int .u64 p0, .int .u64 p1, .int .u64 p2, .int .u64 p3, .int .u64 p4, .int .u64 p5, .int .u64 p6, .int .u64 p7, .int .u64 p8]) ∧
    (P16 p0 ∧ P16 p1 ∧ P16 p2 ∧ P16 p3) ∧ (P16 p4 ∧ P16 p5 ∧ P16 p6 ∧ P16 p7) ∧ 0 ≤ p8 ∧ worth [p0, p1, p2, p3, p4, p5, p6, p7] + big * p8 = worth [a0, a1, a2, a3, a4, a5, a6, a7] := by
  obtain ⟨ds, last, e1, e2, e3, e4, e5⟩ := carr_worth _ 0 (fun x hx => (h.1 x hx).1) (Int.le_refl 0)
  obtain ⟨p0, p1, p2, p3, p4, p5, p6, p7, rfl⟩ := list8 e2
  refine ⟨p0, p1, p2, p3, p4, p5, p6, p7, last, ?_, ⟨e3 _ (by simp), e3 _ (by simp), e3 _ (by simp), e3 _ (by simp)⟩, ⟨e3 _ (by simp), e3 _ (by simp), e3 _ (by simp), e3 _ (by simp)⟩, e4, ?_⟩
  · have := F20_eq h
    rw [e1] at this
    exact this
  · simp only [Int.add_zero, List.length_cons, List.length_nil, Nat.reduceAdd] at e5
    rw [show (65536 : Int) ^ 8 = big by decide] at e5
    exact e5

def C3 : Cfg := (((((((C2.add 19 F19).add 20 F20).add 21 F21).add 12 F12).add 13 F13).add 17 F16).add 7 F7).add 9 F9
theorem ok3 : CfgOk Try.prog C3 := (((((((ok2.add sound19).add sound20).add sound21).add sound12).add sound13).add sound17).add sound7).add sound9
theorem C3_19 : C3.Γ 19 = some F19 := rfl
theorem C3_20 : C3.Γ 20 = some F20 := rfl
theorem C3_21 : C3.Γ 21 = some F21 := rfl
theorem C3_12 : C3.Γ 12 = some F12 := rfl
theorem C3_13 : C3.Γ 13 = some F13 := rfl
theorem C3_17 : C3.Γ 17 = some F16 := rfl
theorem C3_16 : C3.Γ 16 = some F16 := rfl
theorem C3_11 : C3.Γ 11 = some F11 := rfl
theorem C3_7 : C3.Γ 7 = some F7 := rfl
theorem C3_9 : C3.Γ 9 = some F9 := rfl

theorem step14 {ah al bh bl : Int} (h1 : U ah) (h2 : U al) (h3 : U bh) (h4 : U bl) : pureF C3 1 14 [W ah al, W bh bl] = some (.tup [enc ((val ah al + val bh bl) % big), .bool (decide (big ≤ val ah al + val bh bl))]) := by
  obtain ⟨p0, p1, p2, p3, p4, p5, p6, p7, hp, hp1, hp2, hpw⟩ := F19_ex h1 h2
  obtain ⟨q0, q1, q2, q3, q4, q5, q6, q7, hq, hq1, hq2, hqw⟩ := F19_ex h3 h4
  obtain ⟨⟨_, _⟩, ⟨_, _⟩, ⟨_, _⟩, ⟨_, _⟩⟩ := hp1
  obtain ⟨⟨_, _⟩, ⟨_, _⟩, ⟨_, _⟩, ⟨_, _⟩⟩ := hp2
  obtain ⟨⟨_, _⟩, ⟨_, _⟩, ⟨_, _⟩, ⟨_, _⟩⟩ := hq1
  obtain ⟨⟨_, _⟩, ⟨_, _⟩, ⟨_, _⟩, ⟨_, _⟩⟩ := hq2
  have hs : Small [p0 + q0, p1 + q1, p2 + q2, p3 + q3, p4 + q4, p5 + q5, p6 + q6, p7 + q7] := by
    refine ⟨fun x hx => ?_, by simp⟩
    simp only [List.mem_cons, List.not_mem_nil, or_false] at hx
    omega
  obtain ⟨d0, d1, d2, d3, d4, d5, d6, d7, d8, hd, hd1, hd2, hd8, hdw⟩ := F20_ex8 hs
  have hw := F21_eq (r := [d8]) hd1 hd2
  simp only [List.map_cons, List.map_nil] at hw
  refine pureF_of (x := x14) rfl rfl ?_
  rw [x14_eq.1, x14_eq.2.1]
  simp (disch := first | omega | simp only [go_sem, tm0, ↓reduceIte, Nat.reduceAdd, Nat.reduceMul, Nat.reduceSub, Nat.reduceLeDiff, Nat.reduceLT, Nat.reduceEqDiff, Int.reduceLT, Int.reduceLE, Int.reduceAdd, Int.reduceSub, Int.reduceMul, Int.reduceToNat, Int.reducePow, Int.reduceNe, Int.reduceMod, Int.reduceDiv, ne_eq, Int.reduceEq, not_false_eq_true, Nat.reducePow, List.length_append, List.length_replicate, List.replicate_succ, List.replicate_zero, Int.cast_ofNat_Int]) only [x14b, x14l5, go_sem, tm0, ↓reduceIte, Nat.reduceAdd, Nat.reduceMul, Nat.reduceSub, Nat.reduceLeDiff, Nat.reduceLT, Nat.reduceEqDiff, Int.reduceLT, Int.reduceLE, Int.reduceAdd, Int.reduceSub, Int.reduceMul, Int.reduceToNat, Int.reducePow, Int.reduceNe, Int.reduceMod, Int.reduceDiv, ne_eq, Int.reduceEq, not_false_eq_true, Nat.reducePow, List.length_append, List.length_replicate, List.replicate_succ, List.replicate_zero, Int.cast_ofNat_Int, callX_names C3_19, callX_names C3_20, callX_names C3_21, ftC_names C3_21, hp, hq, hd, hw, Int.emod_eq_of_lt, ↓Ev_loop, ↓EvN_step]
  refine Ends_plain rfl ?_
  obtain ⟨⟨_, _⟩, ⟨_, _⟩, ⟨_, _⟩, ⟨_, _⟩⟩ := hd1
  obtain ⟨⟨_, _⟩, ⟨_, _⟩, ⟨_, _⟩, ⟨_, _⟩⟩ := hd2
  simp only [worth, big] at hpw hqw hdw
  rw [← hpw, ← hqw]
  clear hp hq hd hw hs hpw hqw h1 h2 h3 h4
  refine tWb ?_ ?_ (decide_eq_decide.2 ?_) <;> simp only [big] <;> omega
theorem sound14 : Sound Try.prog 14 F12 := sound_at ok3 0 fun xs r h => by
  unfold F12 at h
  split at h
  · split at h
    · rename_i hc
      cases h
      exact step14 hc.1 hc.2.1 hc.2.2.1 hc.2.2.2
    · cases h
  · cases h

theorem step15 {ah al bh bl : Int} (h1 : U ah) (h2 : U al) (h3 : U bh) (h4 : U bl) : pureF C3 1 15 [W ah al, W bh bl] = some (.tup [enc ((val ah al - val bh bl) % big), .bool (decide (val ah al < val bh bl))]) := by
  obtain ⟨p0, p1, p2, p3, p4, p5, p6, p7, hp, hp1, hp2, hpw⟩ := F19_ex h1 h2
  obtain ⟨q0, q1, q2, q3, q4, q5, q6, q7, hq, hq1, hq2, hqw⟩ := F19_ex h3 h4
  obtain ⟨⟨_, _⟩, ⟨_, _⟩, ⟨_, _⟩, ⟨_, _⟩⟩ := hp1
  obtain ⟨⟨_, _⟩, ⟨_, _⟩, ⟨_, _⟩, ⟨_, _⟩⟩ := hp2
  obtain ⟨⟨_, _⟩, ⟨_, _⟩, ⟨_, _⟩, ⟨_, _⟩⟩ := hq1
  obtain ⟨⟨_, _⟩, ⟨_, _⟩, ⟨_, _⟩, ⟨_, _⟩⟩ := hq2
  have hs : Small [p0 + 65535 - q0 + 1, p1 + 65535 - q1, p2 + 65535 - q2, p3 + 65535 - q3, p4 + 65535 - q4, p5 + 65535 - q5, p6 + 65535 - q6, p7 + 65535 - q7] := by
    refine ⟨fun x hx => ?_, by simp⟩
    simp only [List.mem_cons, List.not_mem_nil, or_false] at hx
    omega
  obtain ⟨d0, d1, d2, d3, d4, d5, d6, d7, d8, hd, hd1, hd2, hd8, hdw⟩ := F20_ex8 hs
  have hw := F21_eq (r := [d8]) hd1 hd2
  simp only [List.map_cons, List.map_nil] at hw
  have hl := F16_eq (ah := ah) (bh := bh) h2 h4
  refine pureF_of (x := x15) rfl rfl ?_
  rw [x15_eq.1, x15_eq.2.1]
  simp (disch := first | omega | simp only [go_sem, tm0, ↓reduceIte, Nat.reduceAdd, Nat.reduceMul, Nat.reduceSub, Nat.reduceLeDiff, Nat.reduceLT, Nat.reduceEqDiff, Int.reduceLT, Int.reduceLE, Int.reduceAdd, Int.reduceSub, Int.reduceMul, Int.reduceToNat, Int.reducePow, Int.reduceNe, Int.reduceMod, Int.reduceDiv, ne_eq, Int.reduceEq, not_false_eq_true, Nat.reducePow, List.length_append, List.length_replicate, List.replicate_succ, List.replicate_zero, Int.cast_ofNat_Int]) only [x15b, x15l5, go_sem, tm0, ↓reduceIte, Nat.reduceAdd, Nat.reduceMul, Nat.reduceSub, Nat.reduceLeDiff, Nat.reduceLT, Nat.reduceEqDiff, Int.reduceLT, Int.reduceLE, Int.reduceAdd, Int.reduceSub, Int.reduceMul, Int.reduceToNat, Int.reducePow, Int.reduceNe, Int.reduceMod, Int.reduceDiv, ne_eq, Int.reduceEq, not_false_eq_true, Nat.reducePow, List.length_append, List.length_replicate, List.replicate_succ, List.replicate_zero, Int.cast_ofNat_Int, callX_names C3_19, callX_names C3_20, callX_names C3_21, callX_known C3_17, ft_call C3_17, ftC_names C3_21, ftC_names C3_20, hp, hq, hd, hw, hl, Int.emod_eq_of_lt, ↓Ev_loop, ↓EvN_step]
  refine Ends_plain rfl ?_
  obtain ⟨⟨_, _⟩, ⟨_, _⟩, ⟨_, _⟩, ⟨_, _⟩⟩ := hd1
  obtain ⟨⟨_, _⟩, ⟨_, _⟩, ⟨_, _⟩, ⟨_, _⟩⟩ := hd2
  simp only [worth, big] at hpw hqw hdw
  rw [← hpw, ← hqw]
  clear hp hq hd hw hl hs hpw hqw h1 h2 h3 h4
  refine tWb ?_ ?_ rfl <;> simp only [big] <;> omega
theorem sound15 : Sound Try.prog 15 F13 := sound_at ok3 0 fun xs r h => by
  unfold F13 at h
  split at h
  · split at h
    · rename_i hc
      cases h
      exact step15 hc.1 hc.2.1 hc.2.2.1 hc.2.2.2
    · cases h
  · cases h

end Go.Proofs.Ytfndobdfdhkepaa
