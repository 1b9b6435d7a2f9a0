/-
  The program: seen, cleared, a channel's forgotten; is it alive?
-/
import Derived.Test.YtkihpjehigmnpaaYK
set_option linter.unusedVariables false
set_option linter.unusedSimpArgs false
namespace Go.Proofs.Ytkihpjehigmnpaa
open Go Go.Xec
attribute [local go_sem] tm0 ne_eq not_false_eq_true List.length_append List.length_replicate List.replicate_succ List.replicate_zero Int.cast_ofNat_Int not_true_eq_false decide_true decide_false ite_self beq_self_eq_true Bool.true_beq Bool.false_beq Bool.not_true Bool.not_false
open Nat renaming reduceAdd → Nra, reduceMul → Nrb, reduceSub → Nrc, reduceLeDiff → Nrd, reduceLT → Nre, reduceEqDiff → Nrf, reducePow → Nrr
open Int renaming reduceLT → Irg, reduceLE → Irh, reduceAdd → Iri, reduceSub → Irj, reduceMul → Irk, reduceToNat → Irl, reducePow → Irm, reduceNe → Irn, reduceMod → Iro, reduceDiv → Irp, reduceEq → Irq, reduceNeg → Irs

set_option maxRecDepth 10000
noncomputable def C6 : Cfg := (C5.add 6 F6).add 24 F24
theorem ok6 : CfgOk Try.prog C6 := (ok5.add sound6).add sound24
theorem row_plain (l : List Al) (d : Nat) : plain d (rowA l) = true := (rowA_RA l).plain d
theorem moveA_tup (l : List Al) (c k f t : Int) : ∃ (x : AVal) (e : Int), moveA l c k f t = .tup [x, .int .i64 e] ∧ ∀ d, plain d x = true := by
  unfold moveA
  repeat' split
  · exact ⟨_, _, rfl, plain_nils⟩
  · exact ⟨_, _, rfl, row_plain _⟩
  · exact ⟨_, _, rfl, plain_nils⟩
  · exact ⟨_, _, rfl, plain_nils⟩
noncomputable def F7 : List AVal → Option AVal := pureF C6 1 7
theorem sound7 : Sound Try.prog 7 F7 := sound_self ok6 1 7
theorem F7_eq {a : AVal} {l : List Al} {c k : Int} (ha : RA a l) (hl : l.length ≤ 100000) : F7 [a, .int .i64 c, .int .i64 k] = some (moveA l c k 1 2) := by
  have hp := ha.plain
  have e24 := F24_ack (c := c) (k := k) ha hl
  obtain ⟨x, e, hx, hxp⟩ := moveA_tup l c k 1 2
  rw [hx] at e24 ⊢
  unfold F7
  refine pureF_of (x := x7) rfl rfl ?_
  rw [x7_eq.1, x7_eq.2.1]
  simp (disch := first | omega | simp only [*, go_sem, ↓reduceIte, Nra, Nrb, Nrc, Nrd, Nre, Nrf, Irg, Irh, Iri, Irj, Irk, Irl, Irm, Irn, Iro, Irp, Irq, Nrr, Irs, dropK_eq]) only [x7b, go_sem, ↓reduceIte, Nra, Nrb, Nrc, Nrd, Nre, Nrf, Irg, Irh, Iri, Irj, Irk, Irl, Irm, Irn, Iro, Irp, Irq, Nrr, Irs, dropK_eq, callX_known (C := C6) (g := 24) rfl, ft_call (C := C6) (g := 24) rfl, e24, hp]
  exact Ends_plain (by show plainL 63 _ = true; rw [plainL_cons, hxp 63]; rfl) rfl
noncomputable def F8 : List AVal → Option AVal := pureF C6 1 8
theorem sound8 : Sound Try.prog 8 F8 := sound_self ok6 1 8
theorem F8_eq {a : AVal} {l : List Al} {c k : Int} (ha : RA a l) (hl : l.length ≤ 100000) : F8 [a, .int .i64 c, .int .i64 k] = some (moveA l c k 2 0) := by
  have hp := ha.plain
  have e24 := F24_clear (c := c) (k := k) ha hl
  obtain ⟨x, e, hx, hxp⟩ := moveA_tup l c k 2 0
  rw [hx] at e24 ⊢
  unfold F8
  refine pureF_of (x := x8) rfl rfl ?_
  rw [x8_eq.1, x8_eq.2.1]
  simp (disch := first | omega | simp only [*, go_sem, ↓reduceIte, Nra, Nrb, Nrc, Nrd, Nre, Nrf, Irg, Irh, Iri, Irj, Irk, Irl, Irm, Irn, Iro, Irp, Irq, Nrr, Irs, dropK_eq]) only [x8b, go_sem, ↓reduceIte, Nra, Nrb, Nrc, Nrd, Nre, Nrf, Irg, Irh, Iri, Irj, Irk, Irl, Irm, Irn, Iro, Irp, Irq, Nrr, Irs, dropK_eq, callX_known (C := C6) (g := 24) rfl, ft_call (C := C6) (g := 24) rfl, e24, hp]
  exact Ends_plain (by show plainL 63 _ = true; rw [plainL_cons, hxp 63]; rfl) rfl
theorem full_alive : fullL (up (stL []) 2 5 1) = [⟨2, 5, 1⟩] := by kernel_rfl
theorem raise_alive : raiseA .nils [] 2 5 = .tup [.slc 3 [AK ⟨2, 5, 1⟩], .bool true, .int .i64 0] := by
  unfold raiseA
  rw [if_pos ⟨alOk_nil, by decide⟩, if_pos (show stL [] 2 5 = 0 from rfl), full_alive]
  rfl
noncomputable def F11 : List AVal → Option AVal := pureF C6 1 11
theorem sound11 : Sound Try.prog 11 F11 := sound_self ok6 1 11
theorem F11_eq : F11 [] = some (.bool true) := by
  have e6 := F6_eq (c := 2) (k := 5) (Rg.nils : RA .nils []) (by simp)
  rw [raise_alive] at e6
  have hl := (Rg.slc (es := 3) (enc := AK) [⟨2, 5, 1⟩]).len
  have h0 : iaSA 3 (.slc 3 [AK ⟨2, 5, 1⟩]) (.int .i64 0) = some (.pvo (cellsOf (AK ⟨2, 5, 1⟩)) 0) := rfl
  simp only [List.map_cons, List.map_nil, List.length_cons, List.length_nil] at hl
  unfold F11
  refine pureF_of (x := x11) rfl rfl ?_
  rw [x11_eq.1, x11_eq.2.1]
  simp (disch := first | omega | simp only [go_sem, ↓reduceIte, Nra, Nrb, Nrc, Nrd, Nre, Nrf, Irg, Irh, Iri, Irj, Irk, Irl, Irm, Irn, Iro, Irp, Irq, Nrr, Irs, dropK_eq]) only [x11b, go_sem, ↓reduceIte, Nra, Nrb, Nrc, Nrd, Nre, Nrf, Irg, Irh, Iri, Irj, Irk, Irl, Irm, Irn, Iro, Irp, Irq, Nrr, Irs, dropK_eq, callX_known (C := C6) (g := 6) rfl, ft_call (C := C6) (g := 6) rfl, e6, hl, h0]
  exact Ends_plain rfl rfl
theorem filt_next {l : List Al} {i : Nat} (h : i < l.length) (c : Int) : (l.take (i + 1)).filter (fun a => decide (a.c ≠ c)) = (l.take i).filter (fun a => decide (a.c ≠ c)) ++ (if l[i].c = c then [] else [l[i]]) := by
  rw [take_next h, List.filter_append, List.filter_cons]
  by_cases e : l[i].c = c
  · rw [if_pos e, if_neg (by simp [e])]
    rfl
  · rw [if_neg e, if_pos (by simp [e])]
    rfl
open Classical in
/-- What comes of a channel's being forgotten. -/
noncomputable def dropA (l : List Al) (c : Int) : AVal :=
  if alOk l ∧ kOk c 0 then .tup [rowA (l.filter (fun a => decide (a.c ≠ c))), .int .i64 0] else .tup [.nils, .int .i64 1]
noncomputable def F13 : List AVal → Option AVal := pureF C6 1 13
theorem sound13 : Sound Try.prog 13 F13 := sound_self ok6 1 13
theorem F13_eq {a : AVal} {l : List Al} {c : Int} (ha : RA a l) (hl : l.length ≤ 100000) : F13 [a, .int .i64 c] = some (dropA l c) := by
  have hp := ha.plain
  have e10 := F10_eq ha hl
  have e22 := F22_eq (c := c) (k := 0)
  unfold F13 dropA
  refine pureF_of (x := x13) rfl rfl ?_
  rw [x13_eq.1, x13_eq.2.1]
  by_cases hok : alOk l
  · rw [okB_true hok] at e10
    by_cases hk : kOk c 0
    · rw [if_pos ⟨hok, hk⟩]
      rw [decide_eq_true hk] at e22
      simp (disch := first | omega | simp only [*, go_sem, ↓reduceIte, Nra, Nrb, Nrc, Nrd, Nre, Nrf, Irg, Irh, Iri, Irj, Irk, Irl, Irm, Irn, Iro, Irp, Irq, Nrr, Irs, dropK_eq]) only [x13b, go_sem, ↓reduceIte, Nra, Nrb, Nrc, Nrd, Nre, Nrf, Irg, Irh, Iri, Irj, Irk, Irl, Irm, Irn, Iro, Irp, Irq, Nrr, Irs, dropK_eq, callX_known (C := C6) (g := 10) rfl, ft_call (C := C6) (g := 10) rfl, callX_known (C := C6) (g := 22) rfl, ft_call (C := C6) (g := 22) rfl, e10, e22, hp, ha.len]
      refine Ev_range (ti := 22) (len := l.length) (J := fun i tm hp nc => Own [13009003] 3 hp (tm 7) (((l.take i).filter (fun a => decide (a.c ≠ c))).map AK) ∧ ((l.take i).filter (fun a => decide (a.c ≠ c)) = [] → tm 7 = .nils)) (by omega) (by simp only [go_sem, ↓reduceIte, Nra, Nrb, Nrc, Nrd, Nre, Nrf, Irg, Irh, Iri, Irj, Irk, Irl, Irm, Irn, Iro, Irp, Irq, Nrr, Irs, dropK_eq]) ?_ ?_
      · simp only [go_sem, ↓reduceIte, Nra, Nrb, Nrc, Nrd, Nre, Nrf, Irg, Irh, Iri, Irj, Irk, Irl, Irm, Irn, Iro, Irp, Irq, Nrr, Irs, dropK_eq]
        exact ⟨Own.nils _ _ _, fun _ => trivial⟩
      · rintro i tm hp' nc hi hc k22 ⟨ho, h0⟩
        have k1 := hc 1 rfl; have k4 := hc 4 rfl; have k5 := hc 5 rfl; have k6 := hc 6 rfl; have k20 := hc 20 rfl; have k21 := hc 21 rfl; simp only [go_sem, ↓reduceIte, Nra, Nrb, Nrc, Nrd, Nre, Nrf, Irg, Irh, Iri, Irj, Irk, Irl, Irm, Irn, Iro, Irp, Irq, Nrr, Irs, dropK_eq] at k1 k4 k5 k6 k20 k21
        rcases Nat.lt_or_ge i l.length with hlt | hge
        · have d1 : decide ((i : Int) < (l.length : Int)) = true := decide_eq_true (by omega)
          have ia := ha.ia hlt
          have hnx := filt_next hlt c
          have hle := List.length_filter_le (fun a : Al => decide (a.c ≠ c)) (l.take i)
          rw [List.length_take] at hle
          by_cases e : l[i].c = c
          · have d2 : decide (¬ l[i].c = c) = false := decide_eq_false (fun h => h e)
            rw [if_pos e, List.append_nil] at hnx
            simp (disch := first | omega | simp only [*, go_sem, ↓reduceIte, Nra, Nrb, Nrc, Nrd, Nre, Nrf, Irg, Irh, Iri, Irj, Irk, Irl, Irm, Irn, Iro, Irp, Irq, Nrr, Irs, dropK_eq]) only [x13l6, go_sem, ↓reduceIte, Nra, Nrb, Nrc, Nrd, Nre, Nrf, Irg, Irh, Iri, Irj, Irk, Irl, Irm, Irn, Iro, Irp, Irq, Nrr, Irs, dropK_eq, k1, k20, k21, k22, d1, ia, d2]
            refine ⟨hlt, by simp, ?_, ?_⟩
            · rw [hnx]
              exact ho.keep (fun k hk' => by repeat rw [upd_ne _ _ (by rintro rfl; simp at hk')])
            · rw [hnx]
              exact h0
          · have d2 : decide (¬ l[i].c = c) = true := decide_eq_true e
            rw [if_neg e] at hnx
            have ho' := ho.keep (hp' := upd (upd hp' (13007002, nc + 1) (some (.var [.int .i64 0, .int .i64 0, .int .i64 0]))) (13007002, nc + 1) (some (.var [.int .i64 l[i].c, .int .i64 l[i].k, .int .i64 l[i].s]))) (fun k hk' => by repeat rw [upd_ne _ _ (by rintro rfl; simp at hk')])
            obtain ⟨V, H, hA, hH⟩ := ho'.push (s0 := 13009003) (s1 := 13009002) (z := AK l[i]) (bytes := 24) (by simp) (by simp) (AK_plain _ _) (AK_sc _) (by rw [List.length_map]; omega)
            simp (disch := first | omega | simp only [*, go_sem, ↓reduceIte, Nra, Nrb, Nrc, Nrd, Nre, Nrf, Irg, Irh, Iri, Irj, Irk, Irl, Irm, Irn, Iro, Irp, Irq, Nrr, Irs, dropK_eq]) only [x13l6, go_sem, ↓reduceIte, Nra, Nrb, Nrc, Nrd, Nre, Nrf, Irg, Irh, Iri, Irj, Irk, Irl, Irm, Irn, Iro, Irp, Irq, Nrr, Irs, dropK_eq, k1, k20, k21, k22, d1, ia, d2, hA]
            refine ⟨hlt, by simp, ?_, ?_⟩
            · have h8 := (hH (nc + 1 + 1 + 1) (nc + 1 + 1 + 1)).1
              simp only [ne_eq] at hnx
              rw [hnx, List.map_append]
              exact h8
            · simp only [ne_eq] at hnx
              rw [hnx]
              intro h
              simp at h
        · obtain rfl : i = l.length := by omega
          have d1 : decide ((l.length : Int) < (l.length : Int)) = false := decide_eq_false (by omega)
          rw [List.take_length] at ho h0
          simp (disch := first | omega | simp only [*, go_sem, ↓reduceIte, Nra, Nrb, Nrc, Nrd, Nre, Nrf, Irg, Irh, Iri, Irj, Irk, Irl, Irm, Irn, Iro, Irp, Irq, Nrr, Irs, dropK_eq]) only [x13l6, go_sem, ↓reduceIte, Nra, Nrb, Nrc, Nrd, Nre, Nrf, Irg, Irh, Iri, Irj, Irk, Irl, Irm, Irn, Iro, Irp, Irq, Nrr, Irs, dropK_eq, k1, k20, k21, k22, d1]
          have h9 := ho.lendN (fun e => h0 (List.map_eq_nil_iff.1 e)) 62 (AKs_plain 61 _) (hp' := hp') (fun _ _ => rfl)
          have hi : ∀ (d : Nat) (n : Int) (h : Heap), lendV d (.int .i64 n) h = some (.int .i64 n) := fun d n h => lendV_plain (by cases d <;> rfl)
          rw [Ends_eq]
          simp only [lendV_tup, lendVL_cons, lendV_agg, lendVL_nil, Option.bind_some, Option.map_some, hi, h9]
    · rw [if_neg (fun e => hk e.2)]
      rw [decide_eq_false hk] at e22
      simp (disch := first | omega | simp only [*, go_sem, ↓reduceIte, Nra, Nrb, Nrc, Nrd, Nre, Nrf, Irg, Irh, Iri, Irj, Irk, Irl, Irm, Irn, Iro, Irp, Irq, Nrr, Irs, dropK_eq]) only [x13b, go_sem, ↓reduceIte, Nra, Nrb, Nrc, Nrd, Nre, Nrf, Irg, Irh, Iri, Irj, Irk, Irl, Irm, Irn, Iro, Irp, Irq, Nrr, Irs, dropK_eq, callX_known (C := C6) (g := 10) rfl, ft_call (C := C6) (g := 10) rfl, callX_known (C := C6) (g := 22) rfl, ft_call (C := C6) (g := 22) rfl, e10, e22, hp]
      exact Ends_plain rfl rfl
  · rw [okB_false hok] at e10
    rw [if_neg (fun e => hok e.1)]
    simp (disch := first | omega | simp only [*, go_sem, ↓reduceIte, Nra, Nrb, Nrc, Nrd, Nre, Nrf, Irg, Irh, Iri, Irj, Irk, Irl, Irm, Irn, Iro, Irp, Irq, Nrr, Irs, dropK_eq]) only [x13b, go_sem, ↓reduceIte, Nra, Nrb, Nrc, Nrd, Nre, Nrf, Irg, Irh, Iri, Irj, Irk, Irl, Irm, Irn, Iro, Irp, Irq, Nrr, Irs, dropK_eq, callX_known (C := C6) (g := 10) rfl, ft_call (C := C6) (g := 10) rfl, e10, hp]
    exact Ends_plain rfl rfl
end Go.Proofs.Ytkihpjehigmnpaa
