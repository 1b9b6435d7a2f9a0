/-
  The program: what may be; one more; from state to state.
-/
import Derived.Test.YtkihpjehigmnpaaYJ
set_option linter.unusedVariables false
set_option linter.unusedSimpArgs false
namespace Go.Proofs.Ytkihpjehigmnpaa
open Go Go.Xec
attribute [local go_sem] tm0 ne_eq not_false_eq_true List.length_append List.length_replicate List.replicate_succ List.replicate_zero Int.cast_ofNat_Int not_true_eq_false decide_true decide_false ite_self beq_self_eq_true Bool.true_beq Bool.false_beq Bool.not_true Bool.not_false
open Nat renaming reduceAdd → Nra, reduceMul → Nrb, reduceSub → Nrc, reduceLeDiff → Nrd, reduceLT → Nre, reduceEqDiff → Nrf, reducePow → Nrr
open Int renaming reduceLT → Irg, reduceLE → Irh, reduceAdd → Iri, reduceSub → Irj, reduceMul → Irk, reduceToNat → Irl, reducePow → Irm, reduceNe → Irn, reduceMod → Iro, reduceDiv → Irp, reduceEq → Irq, reduceNeg → Irs

set_option maxRecDepth 10000
noncomputable def F10 : List AVal → Option AVal := pureF C4 2 10
theorem sound10 : Sound Try.prog 10 F10 := sound_self ok4 2 10
theorem F10_eq {a : AVal} {l : List Al} (ha : RA a l) (hl : l.length ≤ 100000) : F10 [a] = some (.bool (okB l)) := by
  unfold F10
  refine pureF_of (x := x10) rfl rfl ?_
  rw [x10_eq.1, x10_eq.2.1]
  simp (disch := first | omega | simp only [*, go_sem, ↓reduceIte, Nra, Nrb, Nrc, Nrd, Nre, Nrf, Irg, Irh, Iri, Irj, Irk, Irl, Irm, Irn, Iro, Irp, Irq, Nrr, Irs, dropK_eq]) only [x10b, go_sem, ↓reduceIte, Nra, Nrb, Nrc, Nrd, Nre, Nrf, Irg, Irh, Iri, Irj, Irk, Irl, Irm, Irn, Iro, Irp, Irq, Nrr, Irs, dropK_eq, call_inl (C := C4) (g := 21) rfl]
  refine open21 ha hl ?_ ?_
  · rintro hok ⟨k1, k2⟩ hp' nc' hk hm hfr
    rw [okB_true hok]
    simp (disch := first | omega | simp only [*, go_sem, ↓reduceIte, Nra, Nrb, Nrc, Nrd, Nre, Nrf, Irg, Irh, Iri, Irj, Irk, Irl, Irm, Irn, Iro, Irp, Irq, Nrr, Irs, dropK_eq]) only [go_sem, ↓reduceIte, Nra, Nrb, Nrc, Nrd, Nre, Nrf, Irg, Irh, Iri, Irj, Irk, Irl, Irm, Irn, Iro, Irp, Irq, Nrr, Irs, dropK_eq]
    exact Ends_plain rfl rfl
  · rintro hok hp' nc' hfr
    rw [okB_false hok]
    simp (disch := first | omega | simp only [*, go_sem, ↓reduceIte, Nra, Nrb, Nrc, Nrd, Nre, Nrf, Irg, Irh, Iri, Irj, Irk, Irl, Irm, Irn, Iro, Irp, Irq, Nrr, Irs, dropK_eq]) only [go_sem, ↓reduceIte, Nra, Nrb, Nrc, Nrd, Nre, Nrf, Irg, Irh, Iri, Irj, Irk, Irl, Irm, Irn, Iro, Irp, Irq, Nrr, Irs, dropK_eq]
    exact Ends_plain rfl rfl
noncomputable def C5 : Cfg := C4.add 10 F10
theorem ok5 : CfgOk Try.prog C5 := ok4.add sound10
open Classical in
/-- What comes of one more. -/
noncomputable def raiseA (a : AVal) (l : List Al) (c k : Int) : AVal :=
  if alOk l ∧ kOk c k then (if stL l c k = 0 then .tup [rowA (fullL (up (stL l) c k 1)), .bool true, .int .i64 0] else .tup [a, .bool false, .int .i64 0]) else .tup [.nils, .bool false, .int .i64 1]
theorem row_ne {l : List Al} (h : l ≠ []) : rowA l = .slc 3 (l.map AK) := by
  cases l with
  | nil => exact absurd rfl h
  | cons a l => rfl
theorem full_ne {f : Int → Int → Int} {c k : Int} (hk : kOk c k) (h : f c k ≠ 0) : fullL f ≠ [] := by
  intro e
  have := mem_full (f := f) (a := ⟨c, k, f c k⟩)
  rw [e] at this
  cases this.2 ⟨hk, rfl, h⟩
theorem AKs_plain (d : Nat) (l : List Al) : plainL (d + 1) (l.map AK) = true := plainL_map _ (fun x => AK_plain d x) _
theorem lend_row {k : Key} {hp : Heap} {X : List Al} {n d : Nat} (hk : hp k = some (.row 0 3 (X.map AK))) (hn : n = X.length) : lendV (d + 2) (.sl k 0 3 0 n) hp = some (.slc 3 (X.map AK)) := by
  subst hn
  have hq : 0 + X.length ≤ (X.map AK).length := by simp
  rw [lendV_sl, hk]
  simp only [Option.bind_some, els_row, if_pos hq, List.drop_zero]
  rw [List.take_of_length_le (by simp), lendVL_plain (AKs_plain d X)]
  rfl
theorem ends_al3 {k : Key} {hp : Heap} {X : List Al} {n : Nat} {b : Bool} {e : Int} {r : AVal} (hk : hp k = some (.row 0 3 (X.map AK))) (hn : n = X.length) (hr : r = .tup [.slc 3 (X.map AK), .bool b, .int .i64 e]) : Xec.Ends (.tup [.sl k 0 3 0 n, .bool b, .int .i64 e]) hp r := by
  subst hr
  have hi : ∀ (d : Nat) (n : Int), lendV d (.int .i64 n) hp = some (.int .i64 n) := fun d n => lendV_plain (by cases d <;> rfl)
  have hb : ∀ (d : Nat) (b : Bool), lendV d (.bool b) hp = some (.bool b) := fun d n => lendV_plain (by cases d <;> rfl)
  rw [Ends_eq]
  simp only [lendV_tup, lendVL_cons, lendVL_nil, Option.bind_some, Option.map_some, hi, hb, lend_row hk hn]
theorem ends_al2 {k : Key} {hp : Heap} {X : List Al} {n : Nat} {e : Int} {r : AVal} (hk : hp k = some (.row 0 3 (X.map AK))) (hn : n = X.length) (hr : r = .tup [.slc 3 (X.map AK), .int .i64 e]) : Xec.Ends (.tup [.sl k 0 3 0 n, .int .i64 e]) hp r := by
  subst hr
  have hi : ∀ (d : Nat) (n : Int), lendV d (.int .i64 n) hp = some (.int .i64 n) := fun d n => lendV_plain (by cases d <;> rfl)
  rw [Ends_eq]
  simp only [lendV_tup, lendVL_cons, lendVL_nil, Option.bind_some, Option.map_some, hi, lend_row hk hn]
/-- What follows the first two statements. -/
def x6q : XCode := match x6b with
  | .seq _ (.seq _ q) => q
  | c => c
theorem x6b_eq : x6b = .seq (.reg 0 x6r0 none) (.seq (.reg 1 x6r1 none) x6q) := rfl
noncomputable def F6 : List AVal → Option AVal := pureF C4 2 6
theorem sound6 : Sound Try.prog 6 F6 := sound_self ok4 2 6
set_option maxHeartbeats 1000000 in
theorem F6_eq {a : AVal} {l : List Al} {c k : Int} (ha : RA a l) (hl : l.length ≤ 100000) : F6 [a, .int .i64 c, .int .i64 k] = some (raiseA a l c k) := by
  have e22 := F22_eq (c := c) (k := k)
  have hp := ha.plain
  unfold F6 raiseA
  refine pureF_of (x := x6) rfl rfl ?_
  rw [x6_eq.1, x6_eq.2.1]
  rw [x6b_eq]
  simp (disch := first | omega | simp only [*, go_sem, ↓reduceIte, Nra, Nrb, Nrc, Nrd, Nre, Nrf, Irg, Irh, Iri, Irj, Irk, Irl, Irm, Irn, Iro, Irp, Irq, Nrr, Irs, dropK_eq]) only [go_sem, ↓reduceIte, Nra, Nrb, Nrc, Nrd, Nre, Nrf, Irg, Irh, Iri, Irj, Irk, Irl, Irm, Irn, Iro, Irp, Irq, Nrr, Irs, dropK_eq, call_inl (C := C4) (g := 21) rfl]
  refine open21 ha hl ?_ ?_
  · rintro hok ⟨k1, k2⟩ hp' nc' hk hm hfr
    obtain rfl : k1 = 21001000 := hk
    by_cases hkk : kOk c k
    · rw [if_pos ⟨hok, hkk⟩]
      rw [decide_eq_true hkk] at e22
      rcases findE_spec (l := l) (c := c) (k := k) (fun b hb => by have := (hok.1 b hb).2; omega) 0 0 with ⟨h0, h1⟩ | ⟨h0, j, hj, h1, h2, h3, h4, h5⟩
      · have hf := findA_ents c k l 0 0
        rw [h1] at hf
        rw [if_pos h0]
        have h23 := F23m_eq (ask_add hok hkk (s := 1) (by omega) h0)
        have hne := full_ne (f := up (stL l) c k 1) hkk (by unfold up; rw [if_pos ⟨rfl, rfl⟩]; omega)
        rw [if_neg hne] at h23
        rw [row_ne hne]
        have hnr := AK_noref (fullL (up (stL l) c k 1))
        simp (disch := first | omega | simp only [*, go_sem, ↓reduceIte, Nra, Nrb, Nrc, Nrd, Nre, Nrf, Irg, Irh, Iri, Irj, Irk, Irl, Irm, Irn, Iro, Irp, Irq, Nrr, Irs, dropK_eq]) only [x6q, x6b, go_sem, ↓reduceIte, Nra, Nrb, Nrc, Nrd, Nre, Nrf, Irg, Irh, Iri, Irj, Irk, Irl, Irm, Irn, Iro, Irp, Irq, Nrr, Irs, dropK_eq, callX_known (C := C4) (g := 22) rfl, ft_call (C := C4) (g := 22) rfl, e22, hm, hf, op_callM (C := C4) (g := 23) rfl, h23, hnr]
        exact ends_al3 (upd_same _ _ _) (by simp) rfl
      · have hf := findA_ents c k l 0 0
        rw [h4] at hf
        rw [if_neg h0]
        have d0 : decide (¬ stL l c k = 0) = true := decide_eq_true h0
        simp (disch := first | omega | simp only [*, go_sem, ↓reduceIte, Nra, Nrb, Nrc, Nrd, Nre, Nrf, Irg, Irh, Iri, Irj, Irk, Irl, Irm, Irn, Iro, Irp, Irq, Nrr, Irs, dropK_eq]) only [x6q, x6b, go_sem, ↓reduceIte, Nra, Nrb, Nrc, Nrd, Nre, Nrf, Irg, Irh, Iri, Irj, Irk, Irl, Irm, Irn, Iro, Irp, Irq, Nrr, Irs, dropK_eq, callX_known (C := C4) (g := 22) rfl, ft_call (C := C4) (g := 22) rfl, e22, hm, hf, d0]
        exact Ends_plain (by simp [plain, plainL, hp, Xec.freeze]) rfl
    · rw [if_neg (fun e => hkk e.2)]
      rw [decide_eq_false hkk] at e22
      simp (disch := first | omega | simp only [*, go_sem, ↓reduceIte, Nra, Nrb, Nrc, Nrd, Nre, Nrf, Irg, Irh, Iri, Irj, Irk, Irl, Irm, Irn, Iro, Irp, Irq, Nrr, Irs, dropK_eq]) only [x6q, x6b, go_sem, ↓reduceIte, Nra, Nrb, Nrc, Nrd, Nre, Nrf, Irg, Irh, Iri, Irj, Irk, Irl, Irm, Irn, Iro, Irp, Irq, Nrr, Irs, dropK_eq, callX_known (C := C4) (g := 22) rfl, ft_call (C := C4) (g := 22) rfl, e22]
      exact Ends_plain rfl rfl
  · rintro hok hp' nc' hfr
    rw [if_neg (fun e => hok e.1)]
    simp (disch := first | omega | simp only [go_sem, ↓reduceIte, Nra, Nrb, Nrc, Nrd, Nre, Nrf, Irg, Irh, Iri, Irj, Irk, Irl, Irm, Irn, Iro, Irp, Irq, Nrr, Irs, dropK_eq]) only [x6q, x6b, go_sem, ↓reduceIte, Nra, Nrb, Nrc, Nrd, Nre, Nrf, Irg, Irh, Iri, Irj, Irk, Irl, Irm, Irn, Iro, Irp, Irq, Nrr, Irs, dropK_eq]
    exact Ends_plain rfl rfl
open Classical in
/-- What comes of a step from state to state. -/
noncomputable def moveA (l : List Al) (c k f t : Int) : AVal :=
  if alOk l ∧ kOk c k then (if stL l c k = 0 then .tup [.nils, .int .i64 6] else if stL l c k = f then .tup [rowA (fullL (up (stL l) c k t)), .int .i64 0] else .tup [.nils, .int .i64 12]) else .tup [.nils, .int .i64 1]
def x24q : XCode := match x24b with
  | .seq _ (.seq _ q) => q
  | c => c
theorem x24b_eq : x24b = .seq (.reg 0 x24r0 none) (.seq (.reg 1 x24r1 none) x24q) := rfl
noncomputable def F24 : List AVal → Option AVal := pureF C4 2 24
theorem sound24 : Sound Try.prog 24 F24 := sound_self ok4 2 24
theorem F24_ack {a : AVal} {l : List Al} {c k : Int} (ha : RA a l) (hl : l.length ≤ 100000) : F24 [a, .agg [.int .i64 c, .int .i64 k], .int .i64 1, .int .i64 2] = some (moveA l c k 1 2) := by
  have e22 := F22_eq (c := c) (k := k)
  have hp := ha.plain
  unfold F24 moveA
  refine pureF_of (x := x24) rfl rfl ?_
  rw [x24_eq.1, x24_eq.2.1]
  rw [x24b_eq]
  simp (disch := first | omega | simp only [*, go_sem, ↓reduceIte, Nra, Nrb, Nrc, Nrd, Nre, Nrf, Irg, Irh, Iri, Irj, Irk, Irl, Irm, Irn, Iro, Irp, Irq, Nrr, Irs, dropK_eq]) only [go_sem, ↓reduceIte, Nra, Nrb, Nrc, Nrd, Nre, Nrf, Irg, Irh, Iri, Irj, Irk, Irl, Irm, Irn, Iro, Irp, Irq, Nrr, Irs, dropK_eq, call_inl (C := C4) (g := 21) rfl]
  refine open21 ha hl ?_ ?_
  · rintro hok ⟨k1, k2⟩ hp' nc' hk hm hfr
    obtain rfl : k1 = 21001000 := hk
    have hbx := hfr (24000000, 0) (by decide)
    simp only [go_sem, ↓reduceIte, Nra, Nrb, Nrc, Nrd, Nre, Nrf, Irg, Irh, Iri, Irj, Irk, Irl, Irm, Irn, Iro, Irp, Irq, Nrr, Irs, dropK_eq] at hbx
    by_cases hkk : kOk c k
    · rw [if_pos ⟨hok, hkk⟩]
      rw [decide_eq_true hkk] at e22
      rcases findE_spec (l := l) (c := c) (k := k) (fun b hb => by have := (hok.1 b hb).2; omega) 0 0 with ⟨h0, h1⟩ | ⟨h0, j, hj, h1, h2, h3, h4, h5⟩
      · have hf := findA_ents c k l 0 0
        rw [h1] at hf
        rw [if_pos h0]
        simp (disch := first | omega | simp only [*, go_sem, ↓reduceIte, Nra, Nrb, Nrc, Nrd, Nre, Nrf, Irg, Irh, Iri, Irj, Irk, Irl, Irm, Irn, Iro, Irp, Irq, Nrr, Irs, dropK_eq]) only [x24q, x24b, go_sem, ↓reduceIte, Nra, Nrb, Nrc, Nrd, Nre, Nrf, Irg, Irh, Iri, Irj, Irk, Irl, Irm, Irn, Iro, Irp, Irq, Nrr, Irs, dropK_eq, callX_known (C := C4) (g := 22) rfl, ft_call (C := C4) (g := 22) rfl, e22, hbx, hm, hf]
        exact Ends_plain rfl rfl
      · have hf := findA_ents c k l 0 0
        rw [h4, Nat.zero_add] at hf
        rw [if_neg h0]
        have d0 : decide (stL l c k = 0) = false := decide_eq_false h0
        by_cases h6 : stL l c k = 1
        · rw [if_pos h6]
          have d1 : decide (¬ stL l c k = 1) = false := decide_eq_false (fun e => e h6)
          have hset := ents_set l 0 j ⟨c, k, 2⟩
          rw [Nat.zero_add] at hset
          have h23 := F23m_eq (ask_set hok (s := 2) (by omega) hj h1 h2)
          have hne := full_ne (f := up (stL l) c k 2) hkk (by unfold up; rw [if_pos ⟨rfl, rfl⟩]; omega)
          rw [if_neg hne] at h23
          rw [row_ne hne]
          have hnr := AK_noref (fullL (up (stL l) c k 2))
          simp (disch := first | omega | simp only [*, go_sem, ↓reduceIte, Nra, Nrb, Nrc, Nrd, Nre, Nrf, Irg, Irh, Iri, Irj, Irk, Irl, Irm, Irn, Iro, Irp, Irq, Nrr, Irs, dropK_eq]) only [x24q, x24b, go_sem, ↓reduceIte, Nra, Nrb, Nrc, Nrd, Nre, Nrf, Irg, Irh, Iri, Irj, Irk, Irl, Irm, Irn, Iro, Irp, Irq, Nrr, Irs, dropK_eq, callX_known (C := C4) (g := 22) rfl, ft_call (C := C4) (g := 22) rfl, e22, hbx, hm, hf, d0, d1, hset, op_callM (C := C4) (g := 23) rfl, h23, hnr]
          exact ends_al2 (upd_same _ _ _) (by simp) rfl
        · rw [if_neg h6]
          have d1 : decide (¬ stL l c k = 1) = true := decide_eq_true h6
          simp (disch := first | omega | simp only [*, go_sem, ↓reduceIte, Nra, Nrb, Nrc, Nrd, Nre, Nrf, Irg, Irh, Iri, Irj, Irk, Irl, Irm, Irn, Iro, Irp, Irq, Nrr, Irs, dropK_eq]) only [x24q, x24b, go_sem, ↓reduceIte, Nra, Nrb, Nrc, Nrd, Nre, Nrf, Irg, Irh, Iri, Irj, Irk, Irl, Irm, Irn, Iro, Irp, Irq, Nrr, Irs, dropK_eq, callX_known (C := C4) (g := 22) rfl, ft_call (C := C4) (g := 22) rfl, e22, hbx, hm, hf, d0, d1]
          exact Ends_plain rfl rfl
    · rw [if_neg (fun e => hkk e.2)]
      rw [decide_eq_false hkk] at e22
      simp (disch := first | omega | simp only [*, go_sem, ↓reduceIte, Nra, Nrb, Nrc, Nrd, Nre, Nrf, Irg, Irh, Iri, Irj, Irk, Irl, Irm, Irn, Iro, Irp, Irq, Nrr, Irs, dropK_eq]) only [x24q, x24b, go_sem, ↓reduceIte, Nra, Nrb, Nrc, Nrd, Nre, Nrf, Irg, Irh, Iri, Irj, Irk, Irl, Irm, Irn, Iro, Irp, Irq, Nrr, Irs, dropK_eq, callX_known (C := C4) (g := 22) rfl, ft_call (C := C4) (g := 22) rfl, e22, hbx]
      exact Ends_plain rfl rfl
  · rintro hok hp' nc' hfr
    rw [if_neg (fun e => hok e.1)]
    simp (disch := first | omega | simp only [go_sem, ↓reduceIte, Nra, Nrb, Nrc, Nrd, Nre, Nrf, Irg, Irh, Iri, Irj, Irk, Irl, Irm, Irn, Iro, Irp, Irq, Nrr, Irs, dropK_eq]) only [x24q, x24b, go_sem, ↓reduceIte, Nra, Nrb, Nrc, Nrd, Nre, Nrf, Irg, Irh, Iri, Irj, Irk, Irl, Irm, Irn, Iro, Irp, Irq, Nrr, Irs, dropK_eq]
    exact Ends_plain rfl rfl
theorem F24_clear {a : AVal} {l : List Al} {c k : Int} (ha : RA a l) (hl : l.length ≤ 100000) : F24 [a, .agg [.int .i64 c, .int .i64 k], .int .i64 2, .int .i64 0] = some (moveA l c k 2 0) := by
  have e22 := F22_eq (c := c) (k := k)
  have hp := ha.plain
  unfold F24 moveA
  refine pureF_of (x := x24) rfl rfl ?_
  rw [x24_eq.1, x24_eq.2.1]
  rw [x24b_eq]
  simp (disch := first | omega | simp only [*, go_sem, ↓reduceIte, Nra, Nrb, Nrc, Nrd, Nre, Nrf, Irg, Irh, Iri, Irj, Irk, Irl, Irm, Irn, Iro, Irp, Irq, Nrr, Irs, dropK_eq]) only [go_sem, ↓reduceIte, Nra, Nrb, Nrc, Nrd, Nre, Nrf, Irg, Irh, Iri, Irj, Irk, Irl, Irm, Irn, Iro, Irp, Irq, Nrr, Irs, dropK_eq, call_inl (C := C4) (g := 21) rfl]
  refine open21 ha hl ?_ ?_
  · rintro hok ⟨k1, k2⟩ hp' nc' hk hm hfr
    obtain rfl : k1 = 21001000 := hk
    have hbx := hfr (24000000, 0) (by decide)
    simp only [go_sem, ↓reduceIte, Nra, Nrb, Nrc, Nrd, Nre, Nrf, Irg, Irh, Iri, Irj, Irk, Irl, Irm, Irn, Iro, Irp, Irq, Nrr, Irs, dropK_eq] at hbx
    by_cases hkk : kOk c k
    · rw [if_pos ⟨hok, hkk⟩]
      rw [decide_eq_true hkk] at e22
      rcases findE_spec (l := l) (c := c) (k := k) (fun b hb => by have := (hok.1 b hb).2; omega) 0 0 with ⟨h0, h1⟩ | ⟨h0, j, hj, h1, h2, h3, h4, h5⟩
      · have hf := findA_ents c k l 0 0
        rw [h1] at hf
        rw [if_pos h0]
        simp (disch := first | omega | simp only [*, go_sem, ↓reduceIte, Nra, Nrb, Nrc, Nrd, Nre, Nrf, Irg, Irh, Iri, Irj, Irk, Irl, Irm, Irn, Iro, Irp, Irq, Nrr, Irs, dropK_eq]) only [x24q, x24b, go_sem, ↓reduceIte, Nra, Nrb, Nrc, Nrd, Nre, Nrf, Irg, Irh, Iri, Irj, Irk, Irl, Irm, Irn, Iro, Irp, Irq, Nrr, Irs, dropK_eq, callX_known (C := C4) (g := 22) rfl, ft_call (C := C4) (g := 22) rfl, e22, hbx, hm, hf]
        exact Ends_plain rfl rfl
      · have hf := findA_ents c k l 0 0
        rw [h4, Nat.zero_add] at hf
        rw [if_neg h0]
        have d0 : decide (stL l c k = 0) = false := decide_eq_false h0
        by_cases h6 : stL l c k = 2
        · rw [if_pos h6]
          have d1 : decide (¬ stL l c k = 2) = false := decide_eq_false (fun e => e h6)
          have hset := ents_set l 0 j ⟨c, k, 0⟩
          rw [Nat.zero_add] at hset
          have h23 := F23m_eq (ask_erase hok (s := 0) hj h1 h2)
          have hf2 := findA_ents c k (l.set j ⟨c, k, 0⟩) 0 0
          rw [h5 0, Nat.zero_add] at hf2
          have hnr := AK_noref (fullL (up (stL l) c k 0))
          by_cases hne : fullL (up (stL l) c k 0) = []
          · rw [if_pos hne] at h23
            rw [hne]
            simp (disch := first | omega | simp only [*, go_sem, ↓reduceIte, Nra, Nrb, Nrc, Nrd, Nre, Nrf, Irg, Irh, Iri, Irj, Irk, Irl, Irm, Irn, Iro, Irp, Irq, Nrr, Irs, dropK_eq]) only [x24q, x24b, go_sem, ↓reduceIte, Nra, Nrb, Nrc, Nrd, Nre, Nrf, Irg, Irh, Iri, Irj, Irk, Irl, Irm, Irn, Iro, Irp, Irq, Nrr, Irs, dropK_eq, callX_known (C := C4) (g := 22) rfl, ft_call (C := C4) (g := 22) rfl, e22, hbx, hm, hf, d0, d1, hset, hf2, op_callM (C := C4) (g := 23) rfl, h23, hnr]
            exact Ends_plain rfl rfl
          · rw [if_neg hne] at h23
            rw [row_ne hne]
            simp (disch := first | omega | simp only [*, go_sem, ↓reduceIte, Nra, Nrb, Nrc, Nrd, Nre, Nrf, Irg, Irh, Iri, Irj, Irk, Irl, Irm, Irn, Iro, Irp, Irq, Nrr, Irs, dropK_eq]) only [x24q, x24b, go_sem, ↓reduceIte, Nra, Nrb, Nrc, Nrd, Nre, Nrf, Irg, Irh, Iri, Irj, Irk, Irl, Irm, Irn, Iro, Irp, Irq, Nrr, Irs, dropK_eq, callX_known (C := C4) (g := 22) rfl, ft_call (C := C4) (g := 22) rfl, e22, hbx, hm, hf, d0, d1, hset, hf2, op_callM (C := C4) (g := 23) rfl, h23, hnr]
            exact ends_al2 (upd_same _ _ _) (by simp) rfl
        · rw [if_neg h6]
          have d1 : decide (¬ stL l c k = 2) = true := decide_eq_true h6
          simp (disch := first | omega | simp only [*, go_sem, ↓reduceIte, Nra, Nrb, Nrc, Nrd, Nre, Nrf, Irg, Irh, Iri, Irj, Irk, Irl, Irm, Irn, Iro, Irp, Irq, Nrr, Irs, dropK_eq]) only [x24q, x24b, go_sem, ↓reduceIte, Nra, Nrb, Nrc, Nrd, Nre, Nrf, Irg, Irh, Iri, Irj, Irk, Irl, Irm, Irn, Iro, Irp, Irq, Nrr, Irs, dropK_eq, callX_known (C := C4) (g := 22) rfl, ft_call (C := C4) (g := 22) rfl, e22, hbx, hm, hf, d0, d1]
          exact Ends_plain rfl rfl
    · rw [if_neg (fun e => hkk e.2)]
      rw [decide_eq_false hkk] at e22
      simp (disch := first | omega | simp only [*, go_sem, ↓reduceIte, Nra, Nrb, Nrc, Nrd, Nre, Nrf, Irg, Irh, Iri, Irj, Irk, Irl, Irm, Irn, Iro, Irp, Irq, Nrr, Irs, dropK_eq]) only [x24q, x24b, go_sem, ↓reduceIte, Nra, Nrb, Nrc, Nrd, Nre, Nrf, Irg, Irh, Iri, Irj, Irk, Irl, Irm, Irn, Iro, Irp, Irq, Nrr, Irs, dropK_eq, callX_known (C := C4) (g := 22) rfl, ft_call (C := C4) (g := 22) rfl, e22, hbx]
      exact Ends_plain rfl rfl
  · rintro hok hp' nc' hfr
    rw [if_neg (fun e => hok e.1)]
    simp (disch := first | omega | simp only [go_sem, ↓reduceIte, Nra, Nrb, Nrc, Nrd, Nre, Nrf, Irg, Irh, Iri, Irj, Irk, Irl, Irm, Irn, Iro, Irp, Irq, Nrr, Irs, dropK_eq]) only [x24q, x24b, go_sem, ↓reduceIte, Nra, Nrb, Nrc, Nrd, Nre, Nrf, Irg, Irh, Iri, Irj, Irk, Irl, Irm, Irn, Iro, Irp, Irq, Nrr, Irs, dropK_eq]
    exact Ends_plain rfl rfl
end Go.Proofs.Ytkihpjehigmnpaa
