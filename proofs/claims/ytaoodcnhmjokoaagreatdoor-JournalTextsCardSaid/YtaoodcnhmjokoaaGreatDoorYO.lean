/-
  One more entry: the program's.
-/
import Derived.Test.YtaoodcnhmjokoaaGreatDoorYN
set_option linter.unusedVariables false
set_option linter.unusedSimpArgs false
namespace Go.Proofs.YtaoodcnhmjokoaaGreatDoor
open Go Go.Xec
attribute [local go_sem] tm0 ne_eq not_false_eq_true List.length_append List.length_replicate List.replicate_succ List.replicate_zero Int.cast_ofNat_Int not_true_eq_false decide_true decide_false ite_self beq_self_eq_true Bool.true_beq Bool.false_beq Bool.not_true Bool.not_false
open Nat renaming reduceAdd → Nra, reduceMul → Nrb, reduceSub → Nrc, reduceLeDiff → Nrd, reduceLT → Nre, reduceEqDiff → Nrf, reducePow → Nrr
open Int renaming reduceLT → Irg, reduceLE → Irh, reduceAdd → Iri, reduceSub → Irj, reduceMul → Irk, reduceToNat → Irl, reducePow → Irm, reduceNe → Irn, reduceMod → Iro, reduceDiv → Irp, reduceEq → Irq, reduceNeg → Irs

set_option maxRecDepth 10000
def isEK : AVal → Bool
  | .agg [.int .i64 _, .int .i64 _, .int .i64 _, .int .i64 _] => true
  | _ => false
theorem isEK_all (l : List En) : (l.map EK).all isEK = true := by rw [List.all_eq_true]; intro x hx; obtain ⟨e, _, rfl⟩ := List.mem_map.1 hx; rfl
theorem isEK_inv : ∀ (xs : List AVal), xs.all isEK = true → ∃ l : List En, xs = l.map EK
  | [], _ => ⟨[], rfl⟩
  | x :: xs, h => by
    simp only [List.all_cons, Bool.and_eq_true] at h
    obtain ⟨l, rfl⟩ := isEK_inv xs h.2
    have h1 := h.1
    unfold isEK at h1
    split at h1
    · exact ⟨⟨_, _, _, _⟩ :: l, rfl⟩
    · cases h1
/-- Clone. -/
def clN : List AVal → Option (Option (Nat × List AVal))
  | [.nils] => some none
  | [.emp] => some (some (4, []))
  | [.slc 4 xs] => if xs.all isEK = true ∧ xs.length ≤ 100000 then some (some (4, xs)) else none
  | _ => none
theorem clN_nil : clN [.nils] = some none := rfl
theorem clN_row {a : AVal} {l : List En} (ha : RE a l) (h0 : a ≠ .nils) (hl : l.length ≤ 100000) : clN [a] = some (some (4, l.map EK)) := by
  rcases ha with ⟨rfl, rfl⟩ | ⟨rfl, rfl⟩ | rfl
  · exact absurd rfl h0
  · rfl
  · simp only [clN]
    rw [if_pos ⟨isEK_all l, by simpa using hl⟩]
theorem clone22 {a : AVal} {l : List En} (ha : RE a l) (h0 : a ≠ .nils) (hl : l.length ≤ 100000) : Bd (inlD C4 1 22 [a] (fun _ => none) 0) fun q => ∃ k g, q.1 = .sl k g 4 0 (l.map EK).length ∧ q.2.1 k = some (.row g 4 (l.map EK)) := by
  refine inl_of (x := x22) rfl rfl ?_
  rw [x22_eq.1, x22_eq.2.1]
  have hn : nilA 0 a = some false := by
    rcases ha with ⟨rfl, rfl⟩ | ⟨rfl, rfl⟩ | rfl
    · exact absurd rfl h0
    · rfl
    · rfl
  have hel : ∀ hp, elemsA 4 a hp = some (l.map EK) := fun hp => ha.elems
  have hpl : ∀ d, plainL (d + 1) (l.map EK) = true := fun d => plainL_map _ (fun x => EK_plain d x) _
  have hsc := all_map EK_sc l
  have hlen : (l.map EK).length = l.length := List.length_map ..
  have ht : (0 + (l.map EK).length) * 32 ≤ 140737488355328 := by rw [hlen]; omega
  have hap : ∀ (key : Key) (hp : Heap) (k : Key), hp k = some (.row 0 4 []) → appA 4 32 key (.sl k 0 4 0 0) a hp = some (.sl k 1 4 0 (l.map EK).length, upd hp k (some (.row 1 4 (l.map EK)))) := by
    intro key hp k hk
    rw [appA_sl, hel, Option.bind_some, lendA_plain (hpl 63), Option.bind_some]
    rw [if_pos (by simp), hk, Option.bind_some, grown_row, if_pos ⟨by simp, ht, hsc⟩]
    simp only [List.map_nil, List.nil_append, applyW, List.drop_zero, Nat.zero_add]
  simp (disch := first | omega | simp only [go_sem, ↓reduceIte, Nra, Nrb, Nrc, Nrd, Nre, Nrf, Irg, Irh, Iri, Irj, Irk, Irl, Irm, Irn, Iro, Irp, Irq, Nrr, Irs, dropK_eq]) only [x22b, go_sem, ↓reduceIte, Nra, Nrb, Nrc, Nrd, Nre, Nrf, Irg, Irh, Iri, Irj, Irk, Irl, Irm, Irn, Iro, Irp, Irq, Nrr, Irs, dropK_eq, hn, hap]
  exact ⟨_, _, rfl, by simp only [go_sem, ↓reduceIte, Nra, Nrb, Nrc, Nrd, Nre, Nrf, Irg, Irh, Iri, Irj, Irk, Irl, Irm, Irn, Iro, Irp, Irq, Nrr, Irs, dropK_eq]⟩
theorem soundN22 : SoundN Tryz.prog 22 clN := by
  refine soundN_of ok4 1 ?_
  intro ys r hr
  have main : ∀ (a : AVal) (l : List En), RE a l → a ≠ .nils → l.length ≤ 100000 → ∃ v h nc, inlD C4 1 22 [a] (fun _ => none) 0 = some (v, h, nc) ∧ ∃ k g, v = .sl k g 4 0 (l.map EK).length ∧ h k = some (.row g 4 (l.map EK)) := by
    intro a l ha h0 hl
    have h := clone22 ha h0 hl
    unfold Bd at h
    obtain ⟨⟨v, hp, nc⟩, e, k, g, h1, h2⟩ := h
    exact ⟨v, hp, nc, e, k, g, h1, h2⟩
  unfold clN at hr
  split at hr
  · cases hr
    have : Bd (inlD C4 1 22 [.nils] (fun _ => none) 0) fun q => q.1 = .nils := by
      refine inl_of (x := x22) rfl rfl ?_
      rw [x22_eq.1, x22_eq.2.1]
      simp (disch := first | omega | simp only [go_sem, ↓reduceIte, Nra, Nrb, Nrc, Nrd, Nre, Nrf, Irg, Irh, Iri, Irj, Irk, Irl, Irm, Irn, Iro, Irp, Irq, Nrr, Irs, dropK_eq]) only [x22b, go_sem, ↓reduceIte, Nra, Nrb, Nrc, Nrd, Nre, Nrf, Irg, Irh, Iri, Irj, Irk, Irl, Irm, Irn, Iro, Irp, Irq, Nrr, Irs, dropK_eq]
    unfold Bd at this
    obtain ⟨⟨v, hp, nc⟩, e, rfl⟩ := this
    exact ⟨_, hp, nc, e, rfl⟩
  · cases hr
    exact main .emp [] (.inr (.inl ⟨rfl, rfl⟩)) (by intro h; cases h) (by simp)
  · split at hr
    · rename_i xs hc
      cases hr
      obtain ⟨l, rfl⟩ := isEK_inv xs hc.1
      exact main (.slc 4 (l.map EK)) l (Rg.slc l) (by intro h; cases h) (by simpa using hc.2)
    · cases hr
  · cases hr
def C5 : Cfg := C4.addN 22 clN
theorem ok5 : CfgOk Tryz.prog C5 := ok4.addN soundN22
/-- What comes of one more entry. -/
def appR' (cap first : Int) (l : List En) (e : En) : AVal :=
  if ¬ (jOk cap first l ∧ enOk e) then .tup [JV 0 0 .nils, .int .i64 1] else if first + (l.length : Int) = 1000000000 then .tup [JV 0 0 .nils, .int .i64 11]
  else if (l.length : Int) = cap then .tup [JV cap (first + 1) (.slc 4 ((l ++ [e]).drop 1 |>.map EK)), .int .i64 0] else .tup [JV cap first (.slc 4 ((l ++ [e]).map EK)), .int .i64 0]
theorem ends_j {cap first err : Int} {k : Key} {g off n : Nat} {hp : Heap} {X : List En} {r : AVal} (hk : hp k = some (.row g 4 (X.map EK))) (hn : off + n ≤ X.length) (hr : r = .tup [JV cap first (.slc 4 (((X.drop off).take n).map EK)), .int .i64 err]) :
    Xec.Ends (.tup [.agg [.int .i64 cap, .int .i64 first, .sl k g 4 off n], .int .i64 err]) hp r := by
  subst hr
  have hp1 : ∀ d, plainL (d + 1) (((X.drop off).take n).map EK) = true := fun d => plainL_map _ (fun x => EK_plain d x) _
  have hq : off + n ≤ (X.map EK).length := by simpa using hn
  rw [Ends_eq]
  have hi : ∀ (d : Nat) (n : Int), lendV d (.int .i64 n) hp = some (.int .i64 n) := fun d n => lendV_plain (by cases d <;> rfl)
  simp only [lendV_tup, lendVL_cons, lendV_agg, lendV_sl, lendVL_nil, hk, Option.bind_some, els_row, if_pos hq, Option.map_some, hi, ← List.map_drop, ← List.map_take, lendVL_plain (hp1 60)]
def F9 : List AVal → Option AVal := pureF C5 1 9
theorem sound9 : Sound Tryz.prog 9 F9 := sound_self ok5 1 9
theorem F9_eq {cap first : Int} {a : AVal} {l : List En} {e : En} (ha : RE a l) (hl : l.length ≤ 100000) : F9 [JV cap first a, EK e] = some (appR' cap first l e) := by
  have hsc := ha.sc
  have hcl := ha.cells
  have hlen := ha.len
  have hpl := ha.plain
  have e10 := F10_eq (cap := cap) (first := first) ha hl
  have e21 := F21_eq (e := e)
  unfold F9
  refine pureF_of (x := x9) rfl rfl ?_
  rw [x9_eq.1, x9_eq.2.1]
  unfold appR'
  by_cases hj : jOk cap first l
  · rw [decide_eq_true hj] at e10
    by_cases he : enOk e
    · rw [decide_eq_true he] at e21
      rw [if_neg (fun h => h ⟨hj, he⟩)]
      have hb1 := hj.2.1
      have hb2 := hj.2.2.1
      have hb3 := hj.2.2.2.1
      have hb4 := hj.2.2.2.2.1
      by_cases hf : first + (l.length : Int) = 1000000000
      · have d1 := decide_eq_true hf
        rw [if_pos hf]
        simp (disch := first | omega | simp only [*, go_sem, ↓reduceIte, Nra, Nrb, Nrc, Nrd, Nre, Nrf, Irg, Irh, Iri, Irj, Irk, Irl, Irm, Irn, Iro, Irp, Irq, Nrr, Irs, dropK_eq]) only [x9b, go_sem, ↓reduceIte, Nra, Nrb, Nrc, Nrd, Nre, Nrf, Irg, Irh, Iri, Irj, Irk, Irl, Irm, Irn, Iro, Irp, Irq, Nrr, Irs, dropK_eq, hsc, hcl, hlen, callX_known (C := C5) (g := 10) rfl, ft_call (C := C5) (g := 10) rfl, callX_known (C := C5) (g := 21) rfl, ft_call (C := C5) (g := 21) rfl, e10, e21, d1]
        exact Ends_plain rfl rfl
      · have d1 := decide_eq_false hf
        rw [if_neg hf]
        have hEp : ∀ d, plainL (d + 1) ((l ++ [e]).map EK) = true := fun d => plainL_map _ (fun x => EK_plain d x) _
        have hEp1 : ∀ d, plainL (d + 1) (((l ++ [e]).drop 1).map EK) = true := fun d => plainL_map _ (fun x => EK_plain d x) _
        have hm1 : (l ++ [e]).map EK = l.map EK ++ [.agg [.int .i64 e.k, .int .i64 e.c, .int .i64 e.s, .int .i64 e.v]] := by simp
        have hlm : (l.map EK).length = l.length := List.length_map ..
        have hll : ((l ++ [e]).map EK).length = l.length + 1 := by simp
        have hnr := EK_noref l
        have hscl := all_map EK_sc (l ++ [e])
        have hpe : plainL Xec.freeze [.agg [.int .i64 e.k, .int .i64 e.c, .int .i64 e.s, .int .i64 e.v]] = true := rfl
        -- what is appended, to none or to a row
        have ap0 : ∀ (c c' : Nat) (hp : Heap), hp (9005004, c') = some (.row 0 4 [.agg [.int .i64 e.k, .int .i64 e.c, .int .i64 e.s, .int .i64 e.v]]) → l = [] →
            appA 4 32 (9005005, c) .nils (.sl (9005004, c') 0 4 0 1) hp = some (.sl (9005005, c) 0 4 0 1, upd hp (9005005, c) (some (.row 0 4 ((l ++ [e]).map EK)))) := by
          intro c c' hp hk h0
          subst h0
          rw [appA_nils, elemsA_sl, hk]
          simp only [Option.bind_some, els_row]
          rw [if_pos (by simp)]
          simp only [List.drop_zero, List.take_succ_cons, List.take_zero, List.take_nil, Option.bind_some]
          rw [lendA_plain hpe, Option.bind_some, if_neg (by simp), if_pos (by simp)]
          simp only [List.map_nil, List.nil_append, applyW, List.length_cons, List.length_nil, Nat.zero_add, List.map_cons]
        have ap1 : ∀ (k key : Key) (c' : Nat) (hp : Heap), hp (9005004, c') = some (.row 0 4 [.agg [.int .i64 e.k, .int .i64 e.c, .int .i64 e.s, .int .i64 e.v]]) → hp k = some (.row 0 4 (l.map EK)) →
            appA 4 32 key (.sl k 0 4 0 l.length) (.sl (9005004, c') 0 4 0 1) hp = some (.sl k 1 4 0 (l.length + 1), upd hp k (some (.row 1 4 ((l ++ [e]).map EK)))) := by
          intro k key c' hp hk hk2
          rw [appA_sl, elemsA_sl, hk]
          simp only [Option.bind_some, els_row]
          rw [if_pos (by simp)]
          simp only [List.drop_zero, List.take_succ_cons, List.take_zero, List.take_nil, Option.bind_some]
          rw [lendA_plain hpe, Option.bind_some, if_pos (by simp), hk2, Option.bind_some, grown_row, if_pos ⟨by simp, by simp; omega, rfl⟩]
          simp only [List.map_nil, List.nil_append, applyW, List.length_cons, List.length_nil, Nat.zero_add, List.drop_zero, hm1]
        by_cases h0 : a = .nils
        · subst h0
          have hl0 : l = [] := by
            rcases ha with ⟨_, h⟩ | ⟨h, _⟩ | h
            · exact h
            · cases h
            · cases h
          have hc0 : ¬ (l.length : Int) = cap := by rw [hl0]; simp; omega
          have d2 : decide ((0 : Int) < 1 - cap) = false := decide_eq_false (by omega)
          rw [if_neg hc0]
          simp (disch := first | omega | simp only [*, go_sem, ↓reduceIte, Nra, Nrb, Nrc, Nrd, Nre, Nrf, Irg, Irh, Iri, Irj, Irk, Irl, Irm, Irn, Iro, Irp, Irq, Nrr, Irs, dropK_eq]) only [x9b, go_sem, ↓reduceIte, Nra, Nrb, Nrc, Nrd, Nre, Nrf, Irg, Irh, Iri, Irj, Irk, Irl, Irm, Irn, Iro, Irp, Irq, Nrr, Irs, dropK_eq, hsc, hcl, hlen, callX_known (C := C5) (g := 10) rfl, ft_call (C := C5) (g := 10) rfl, callX_known (C := C5) (g := 21) rfl, ft_call (C := C5) (g := 21) rfl, e10, e21, d1, op_callN (C := C5) (g := 22) rfl, ft_callN (C := C5) (g := 22) rfl, clN_nil, ap0 _ _ _ _ hl0, d2]
          exact ends_j (X := l ++ [e]) (by simp only [go_sem, ↓reduceIte, Nra, Nrb, Nrc, Nrd, Nre, Nrf, Irg, Irh, Iri, Irj, Irk, Irl, Irm, Irn, Iro, Irp, Irq, Nrr, Irs, dropK_eq]) (by simp) (by simp [hl0])
        · have ec := clN_row ha h0 hl
          by_cases hc0 : (l.length : Int) = cap
          · have d2 : ((l.length + 1 : Nat) : Int) - cap = 1 := by omega
            rw [if_pos hc0]
            have hsv : ∀ (k : Key) (g : Nat), slVA 4 (.sl k g 4 0 (l.length + 1)) (some (.int .i64 1)) none none = some (.sl k g 4 1 l.length) := by intro k g; simp [slVA, bnd]
            simp (disch := first | omega | simp only [*, go_sem, ↓reduceIte, Nra, Nrb, Nrc, Nrd, Nre, Nrf, Irg, Irh, Iri, Irj, Irk, Irl, Irm, Irn, Iro, Irp, Irq, Nrr, Irs, dropK_eq]) only [x9b, go_sem, ↓reduceIte, Nra, Nrb, Nrc, Nrd, Nre, Nrf, Irg, Irh, Iri, Irj, Irk, Irl, Irm, Irn, Iro, Irp, Irq, Nrr, Irs, dropK_eq, hsc, hcl, hlen, callX_known (C := C5) (g := 10) rfl, ft_call (C := C5) (g := 10) rfl, callX_known (C := C5) (g := 21) rfl, ft_call (C := C5) (g := 21) rfl, e10, e21, d1, op_callN (C := C5) (g := 22) rfl, ft_callN (C := C5) (g := 22) rfl, ec, hnr, hlm, ap1, d2, hsv]
            exact ends_j (X := l ++ [e]) (by simp only [go_sem, ↓reduceIte, Nra, Nrb, Nrc, Nrd, Nre, Nrf, Irg, Irh, Iri, Irj, Irk, Irl, Irm, Irn, Iro, Irp, Irq, Nrr, Irs, dropK_eq]) (by simp; omega) (by rw [List.take_of_length_le (by simp)])
          · have d2 : decide ((0 : Int) < ((l.length + 1 : Nat) : Int) - cap) = false := decide_eq_false (by omega)
            rw [if_neg hc0]
            simp (disch := first | omega | simp only [*, go_sem, ↓reduceIte, Nra, Nrb, Nrc, Nrd, Nre, Nrf, Irg, Irh, Iri, Irj, Irk, Irl, Irm, Irn, Iro, Irp, Irq, Nrr, Irs, dropK_eq]) only [x9b, go_sem, ↓reduceIte, Nra, Nrb, Nrc, Nrd, Nre, Nrf, Irg, Irh, Iri, Irj, Irk, Irl, Irm, Irn, Iro, Irp, Irq, Nrr, Irs, dropK_eq, hsc, hcl, hlen, callX_known (C := C5) (g := 10) rfl, ft_call (C := C5) (g := 10) rfl, callX_known (C := C5) (g := 21) rfl, ft_call (C := C5) (g := 21) rfl, e10, e21, d1, op_callN (C := C5) (g := 22) rfl, ft_callN (C := C5) (g := 22) rfl, ec, hnr, hlm, ap1, d2]
            exact ends_j (X := l ++ [e]) (by simp only [go_sem, ↓reduceIte, Nra, Nrb, Nrc, Nrd, Nre, Nrf, Irg, Irh, Iri, Irj, Irk, Irl, Irm, Irn, Iro, Irp, Irq, Nrr, Irs, dropK_eq]) (by simp) (by rw [List.drop_zero, List.take_of_length_le (by simp)])
    · rw [decide_eq_false he] at e21
      rw [if_pos (fun h => he h.2)]
      simp (disch := first | omega | simp only [*, go_sem, ↓reduceIte, Nra, Nrb, Nrc, Nrd, Nre, Nrf, Irg, Irh, Iri, Irj, Irk, Irl, Irm, Irn, Iro, Irp, Irq, Nrr, Irs, dropK_eq]) only [x9b, go_sem, ↓reduceIte, Nra, Nrb, Nrc, Nrd, Nre, Nrf, Irg, Irh, Iri, Irj, Irk, Irl, Irm, Irn, Iro, Irp, Irq, Nrr, Irs, dropK_eq, hsc, hcl, hlen, callX_known (C := C5) (g := 10) rfl, ft_call (C := C5) (g := 10) rfl, callX_known (C := C5) (g := 21) rfl, ft_call (C := C5) (g := 21) rfl, e10, e21]
      exact Ends_plain rfl rfl
  · rw [decide_eq_false hj] at e10
    rw [if_pos (fun h => hj h.1)]
    simp (disch := first | omega | simp only [*, go_sem, ↓reduceIte, Nra, Nrb, Nrc, Nrd, Nre, Nrf, Irg, Irh, Iri, Irj, Irk, Irl, Irm, Irn, Iro, Irp, Irq, Nrr, Irs, dropK_eq]) only [x9b, go_sem, ↓reduceIte, Nra, Nrb, Nrc, Nrd, Nre, Nrf, Irg, Irh, Iri, Irj, Irk, Irl, Irm, Irn, Iro, Irp, Irq, Nrr, Irs, dropK_eq, hsc, hcl, hlen, callX_known (C := C5) (g := 10) rfl, ft_call (C := C5) (g := 10) rfl, callX_known (C := C5) (g := 21) rfl, ft_call (C := C5) (g := 21) rfl, e10, e21]
    exact Ends_plain rfl rfl
end Go.Proofs.YtaoodcnhmjokoaaGreatDoor
