/-
  RecipeParses: the law; that the parser is alive.
-/
import Derived.Test.YtppehejnnjlkfaaGreatDoorYX
import Derived.Test.YtppehejnnjlkfaaGreatDoorYCc
set_option linter.unusedVariables false
set_option linter.unusedSimpArgs false
namespace Go.Proofs.YtppehejnnjlkfaaGreatDoor
open Go Go.Xec
attribute [local go_sem] tm0 ne_eq not_false_eq_true List.length_append List.length_replicate List.replicate_succ List.replicate_zero Int.cast_ofNat_Int not_true_eq_false decide_true decide_false ite_self beq_self_eq_true Bool.true_beq Bool.false_beq Bool.not_true Bool.not_false
attribute [local go_sem_proc] Nat.reduceAdd Nat.reduceMul Nat.reduceSub Nat.reduceLeDiff Nat.reduceLT Nat.reduceEqDiff Int.reduceLT Int.reduceLE Int.reduceAdd Int.reduceSub Int.reduceMul Int.reduceToNat Int.reducePow Int.reduceNe Int.reduceMod Int.reduceDiv Int.reduceEq Nat.reducePow Int.reduceNeg

set_option maxRecDepth 10000
noncomputable def C14 : Cfg := ((C13.add 8 F8).add 9 F9).add 11 F11
theorem ok14 : CfgOk Tryz.prog C14 := ((ok13.add sound8).add sound9).add sound11
/-- A text that is parsed. -/
def aliveT : List UInt8 := [99, 104, 97, 110, 110, 101, 108, 32, 97, 32, 99, 32, 123, 32, 98, 97, 115, 101, 32, 53, 59, 32, 99, 97, 112, 32, 57, 59, 32, 125]
def c0 : Ch := ⟨[97], 4, 0, 0, 0, 5, 9, 0, 0, 0, 0, 0, 0, 0⟩
def aliveL : List Pr := [(wT chanW, [32]), (wT [97], [32]), (wT [99], [32]), (oT, [32]), (wT [98, 97, 115, 101], [32]), (nT 5, []), (eT, [32]), (wT [99, 97, 112], [32]), (nT 9, []), (eT, [32]), (cT, [])]
theorem alive_lay : T.lay aliveL = aliveT := by kernel_rfl
theorem stop_semi (r : List UInt8) : T.Stop (59 :: r) := by
  intro b hb
  simp at hb
  subst hb
  decide
theorem alive_good : good2 aliveL := by
  have b32 : T.Bk [32] := T.bk_one (by decide)
  refine ⟨.inl ⟨rfl, by decide, rfl⟩, b32, stop_sp 32 (by decide) _, .inl ⟨rfl, by decide, rfl⟩, b32, stop_sp 32 (by decide) _, .inl ⟨rfl, by decide, rfl⟩, b32, stop_sp 32 (by decide) _, .inr (.inr ⟨by decide, rfl, rfl⟩), b32, stop_sp 32 (by decide) _, ?_⟩
  refine ⟨.inl ⟨rfl, by decide, rfl⟩, b32, stop_sp 32 (by decide) _, .inr (.inl ⟨rfl, rfl, by decide⟩), T.bk_nil, stop_semi _, .inr (.inr ⟨by decide, rfl, rfl⟩), b32, stop_sp 32 (by decide) _, ?_⟩
  refine ⟨.inl ⟨rfl, by decide, rfl⟩, b32, stop_sp 32 (by decide) _, .inr (.inl ⟨rfl, rfl, by decide⟩), T.bk_nil, stop_semi _, .inr (.inr ⟨by decide, rfl, rfl⟩), b32, stop_sp 32 (by decide) _, ?_⟩
  exact ⟨.inr (.inr ⟨by decide, rfl, rfl⟩), T.bk_nil, fun b hb => by simp [T.lay] at hb, trivial⟩
theorem c0_ok : rOk [c0] := by
  refine ⟨?_, by decide, by decide, by decide⟩
  intro c hc
  rw [List.mem_singleton.1 hc]
  decide
theorem alive_parse : parse aliveT = .ok [c0] := by
  unfold parse T.text
  rw [if_pos (by decide), ← alive_lay, scan_lay2 _ _ alive_good]
  simp only
  rw [parse_toks (l := T.places aliveL 0) (r := [c0]) (by rw [T.places_at0]; decide) c0_ok]
noncomputable def F10 : List AVal → Option AVal := pureF C14 1 10
theorem F10_eq : F10 [] = some (.bool true) := by
  have e8 : F8 [sv aliveT] = some (.tup [.agg [.slc 14 [CK c0]], .int .i64 0, .int .i64 0]) := by
    rw [F8_eq (by decide), alive_parse]; rfl
  simp only [CK, c0, aliveT] at e8
  unfold F10
  refine pureF_of (x := x10) rfl rfl ?_
  rw [x10_eq.1, x10_eq.2.1]
  simp (disch := first | omega | simp only [go_sem, ↓reduceIte, dropK_eq]) only [x10b, go_sem, ↓reduceIte, dropK_eq, callX_known (C := C14) (g := 8) rfl, ft_call (C := C14) (g := 8) rfl, e8, lenVA_slc, List.length_cons, List.length_nil]
  exact Ends_plain rfl rfl
theorem sound10 : Sound Tryz.prog 10 F10 := sound_self ok14 1 10
noncomputable def C15 : Cfg := C14.add 10 F10
theorem ok15 : CfgOk Tryz.prog C15 := ok14.add sound10
theorem law3 (xs : List AVal) (h : WTL [.str] xs) : pureF C15 6 3 xs = some (.bool true) := by
  simp only [WTL, WT] at h
  obtain ⟨a, _, rfl, ⟨u, rfl, hu⟩, rfl⟩ := h
  obtain ⟨l, rfl⟩ : ∃ l, u = bs l := ⟨_, bs_of u⟩
  rw [bs_size] at hu
  have hm : mnxA false (.int .i64 (l.length : Int)) [.int .i64 4100] = some (.int .i64 ((min l.length 4100 : Nat) : Int)) := mnx_min2 l.length 4100
  have hsl := str_sliceTo (l := l) (hi := min l.length 4100) (Nat.min_le_left _ _)
  have hw : (l.take (min l.length 4100)).length ≤ 100000 := by simp; omega
  generalize l.take (min l.length 4100) = w at *
  have e8 := F8_eq hw
  have e9 := F9_eq hw
  have e10 := F10_eq
  refine pureF_of (x := x3) rfl rfl ?_
  rw [x3_eq.1, x3_eq.2.1]
  cases hp : parse w with
  | error x =>
    obtain ⟨i, e⟩ := x
    rw [hp] at e8 e9
    simp only [parV] at e8 e9
    have e11 := F11_eq (a := .nils) (b := .nils) (r := []) (q := []) Rg.nils Rg.nils (by decide) (by decide)
    rw [decide_eq_true rfl] at e11
    simp (disch := first | omega | simp only [go_sem, ↓reduceIte, dropK_eq]) only [x3b, go_sem, ↓reduceIte, dropK_eq, hm, hsl, callX_known (C := C15) (g := 8) rfl, ft_call (C := C15) (g := 8) rfl, callX_known (C := C15) (g := 9) rfl, ft_call (C := C15) (g := 9) rfl, callX_known (C := C15) (g := 10) rfl, ft_call (C := C15) (g := 10) rfl, callX_known (C := C15) (g := 11) rfl, ft_call (C := C15) (g := 11) rfl, e8, e9, e10, e11]
    exact Ends_plain rfl rfl
  | ok r =>
    rw [hp] at e8 e9
    simp only [parV] at e8 e9
    have hr := (parse_ok hp).2.2.2
    have e11 := F11_eq (a := .slc 14 (r.map CK)) (b := .slc 14 (r.map CK)) (r := r) (q := r) (Rg.slc _) (Rg.slc _) (by omega) (by omega)
    rw [decide_eq_true rfl] at e11
    have hp1 : ∀ d (m : List Ch), plainL (d + 1) (m.map CK) = true := fun d m => plainL_map _ (fun x => CK_plain d x) _
    generalize r.map CK = m1 at *
    simp (disch := first | omega | simp only [go_sem, ↓reduceIte, dropK_eq]) only [x3b, go_sem, ↓reduceIte, dropK_eq, hm, hsl, callX_known (C := C15) (g := 8) rfl, ft_call (C := C15) (g := 8) rfl, callX_known (C := C15) (g := 9) rfl, ft_call (C := C15) (g := 9) rfl, callX_known (C := C15) (g := 10) rfl, ft_call (C := C15) (g := 10) rfl, callX_known (C := C15) (g := 11) rfl, ft_call (C := C15) (g := 11) rfl, e8, e9, e10, e11, plain_slc, hp1]
    exact Ends_plain rfl rfl
end Go.Proofs.YtppehejnnjlkfaaGreatDoor
