/-
  Import: the program's.
-/
import Derived.Test.YtaoodcnhmjokoaaGreatDoorYD
import Derived.Test.YtaoodcnhmjokoaaGreatDoorYZ
set_option linter.unusedVariables false
set_option linter.unusedSimpArgs false
namespace Go.Proofs.YtaoodcnhmjokoaaGreatDoor
open Go Go.Xec
attribute [local go_sem] tm0 ne_eq not_false_eq_true List.length_append List.length_replicate List.replicate_succ List.replicate_zero Int.cast_ofNat_Int not_true_eq_false decide_true decide_false ite_self beq_self_eq_true Bool.true_beq Bool.false_beq Bool.not_true Bool.not_false
open Nat renaming reduceAdd → Nra, reduceMul → Nrb, reduceSub → Nrc, reduceLeDiff → Nrd, reduceLT → Nre, reduceEqDiff → Nrf, reducePow → Nrr
open Int renaming reduceLT → Irg, reduceLE → Irh, reduceAdd → Iri, reduceSub → Irj, reduceMul → Irk, reduceToNat → Irl, reducePow → Irm, reduceNe → Irn, reduceMod → Iro, reduceDiv → Irp, reduceEq → Irq, reduceNeg → Irs

set_option maxRecDepth 10000
theorem parts_count {c : UInt8} : ∀ (l : List UInt8), (parts c l).length ≤ l.length + 1
  | [] => Nat.le_refl _
  | b :: l => by
    have := parts_count (c := c) l
    unfold parts
    split
    · simp; omega
    · split
      · rename_i q qs hq
        rw [hq] at this
        simp at this ⊢
        omega
      · simp
noncomputable def rdL : Bool → JS → List (List UInt8) → Except Int JS
  | _, j, [] => .ok j
  | b, j, l :: r => match rdS b j l with
    | .ok j' => rdL false j' r
    | .error e => .error e
theorem rdL_app : ∀ (l : List (List UInt8)) (b : Bool) (j : JS) (m : List (List UInt8)), rdL b j (l ++ m) = match rdL b j l with
    | .ok j' => rdL (b && decide (l = [])) j' m
    | .error e => .error e
  | [], b, j, m => by simp [rdL]
  | x :: l, b, j, m => by
    rw [List.cons_append, rdL, rdL]
    cases rdS b j x with
    | error e => rfl
    | ok j' =>
      simp only
      rw [rdL_app l false j' m]
      cases rdL false j' l <;> simp
theorem rdL_next {ls : List (List UInt8)} {i : Nat} (hi : i < ls.length) {j : JS} (h : rdL true (0, 0, []) (ls.take i) = .ok j) : rdL true (0, 0, []) (ls.take (i + 1)) = rdS (decide ((i : Int) = 0)) j ls[i] := by
  have e : decide ((i : Int) = 0) = (true && decide (ls.take i = [])) := by
    rw [Bool.true_and]
    apply decide_eq_decide.2
    rw [List.take_eq_nil_iff]
    constructor
    · intro h; exact .inl (by omega)
    · rintro (h | h)
      · omega
      · rw [h] at hi; simp at hi
  rw [take_next hi, rdL_app, h, e]
  simp only [rdL]
  cases rdS (true && decide (ls.take i = [])) j ls[i] <;> rfl
theorem rdL_bad {ls : List (List UInt8)} {i : Nat} {e : Int} (h : rdL true (0, 0, []) (ls.take i) = .error e) : rdL true (0, 0, []) ls = .error e := by
  have h1 := rdL_app (ls.take i) true (0, 0, []) (ls.drop i)
  rw [List.take_append_drop, h] at h1
  exact h1
theorem rdS_ok {b : Bool} {c f c' f' : Int} {es es' : List En} {l : List UInt8} (h : rdS b (c, f, es) l = .ok (c', f', es')) (hf : numOk f) : numOk f' ∧ es'.length ≤ es.length + 1 := by
  unfold rdS at h
  split at h
  · cases h
  · split at h
    · split at h
      · split at h
        · rename_i hc
          cases h
          exact ⟨cntN_ok hc _ (by simp), Nat.le_succ _⟩
        · cases h
      · cases h
    · split at h
      · split at h
        · cases h
          exact ⟨hf, by simp⟩
        · cases h
      · cases h
theorem rdS_err {b : Bool} {j : JS} {e : Int} {l : List UInt8} (h : rdS b j l = .error e) : ¬ e = 0 := by
  unfold rdS at h
  split at h
  · cases h; assumption
  · split at h
    · split at h
      · split at h
        · cases h
        · cases h; decide
      · cases h; decide
    · split at h
      · split at h
        · cases h
        · cases h; decide
      · cases h; decide
/-- What a text is imported as. -/
noncomputable def impS (s : List UInt8) : Except Int JS := if Lib.hasSuffix s [10] = true then match rdL true (0, 0, []) (parts 10 (Lib.trimSuffix s [10])) with
    | .ok (c, f, es) => if jOk c f es then .ok (c, f, es) else .error 1
    | .error e => .error e
  else .error 14
def impV : Except Int JS → AVal
  | .ok (c, f, es) => .tup [JV c f (rowN 4 (es.map EK)), .int .i64 0]
  | .error e => .tup [JV 0 0 .nils, .int .i64 e]
theorem trimS_len (l p : List UInt8) : (Lib.trimSuffix l p).length ≤ l.length := by
  unfold Lib.trimSuffix
  split
  · simp
  · exact Nat.le_refl _
noncomputable def F18 : List AVal → Option AVal := pureF C12 2 18
theorem sound18 : Sound Tryz.prog 18 F18 := sound_self ok12 2 18
theorem rowE (l : List En) : RE (rowN 4 (l.map EK)) l := rowN_rg l
theorem F18_eq {s : List UInt8} (hs : s.length ≤ 90000) : F18 [sv s] = some (impV (impS s)) := by
  have e31 := F_cuts_eq (l := s) (p := [10]) (by omega)
  have htl := trimS_len s [10]
  unfold F18
  refine pureF_of (x := x18) rfl rfl ?_
  rw [x18_eq.1, x18_eq.2.1]
  unfold impS
  by_cases h1 : Lib.hasSuffix s [10] = true
  · rw [if_pos h1]
    simp only [h1] at e31
    have e32 := F_split_eq (c := 10) (l := Lib.trimSuffix s [10]) (by omega)
    have hpc := parts_count (c := 10) (Lib.trimSuffix s [10])
    have hlen : ∀ p ∈ parts 10 (Lib.trimSuffix s [10]), p.length ≤ 100000 := fun p hp => Nat.le_trans (parts_len _ p hp) (by omega)
    simp (disch := first | omega | simp only [*, go_sem, ↓reduceIte, Nra, Nrb, Nrc, Nrd, Nre, Nrf, Irg, Irh, Iri, Irj, Irk, Irl, Irm, Irn, Iro, Irp, Irq, Nrr, Irs, dropK_eq]) only [x18b, go_sem, ↓reduceIte, Nra, Nrb, Nrc, Nrd, Nre, Nrf, Irg, Irh, Iri, Irj, Irk, Irl, Irm, Irn, Iro, Irp, Irq, Nrr, Irs, dropK_eq, callX_known (C := C12) (g := 31) rfl, ft_call (C := C12) (g := 31) rfl, callX_known (C := C12) (g := 32) rfl, ft_call (C := C12) (g := 32) rfl, e31, e32, lenVA_slc, List.length_map]
    generalize parts 10 (Lib.trimSuffix s [10]) = ls at *
    have ha : RS (.slc 1 (ls.map sv)) ls := Rg.slc _
    refine Ev_range (ti := 21) (len := ls.length) (J := fun i tm hp nc => ∃ (c f : Int) (es : List En) (a : AVal), rdL true (0, 0, []) (ls.take i) = .ok (c, f, es) ∧ hp (18004000, 3) = some (.var [.int .i64 c, .int .i64 f, a]) ∧ hp (18000000, 0) = some (.var [.int .i64 0, .int .i64 0, .nils]) ∧ Own [33014015] 4 hp a (es.map EK) ∧ (es = [] → a = .nils) ∧ numOk f ∧ es.length ≤ i) (by omega) ?_ ?_ ?_
    · simp only [go_sem, ↓reduceIte, Nra, Nrb, Nrc, Nrd, Nre, Nrf, Irg, Irh, Iri, Irj, Irk, Irl, Irm, Irn, Iro, Irp, Irq, Nrr, Irs, dropK_eq]
    · refine ⟨0, 0, [], .nils, rfl, ?_, ?_, .inl ⟨rfl, rfl⟩, fun _ => rfl, ⟨by decide, by decide⟩, Nat.le_refl _⟩
      · simp only [go_sem, ↓reduceIte, Nra, Nrb, Nrc, Nrd, Nre, Nrf, Irg, Irh, Iri, Irj, Irk, Irl, Irm, Irn, Iro, Irp, Irq, Nrr, Irs, dropK_eq]
      · simp only [go_sem, ↓reduceIte, Nra, Nrb, Nrc, Nrd, Nre, Nrf, Irg, Irh, Iri, Irj, Irk, Irl, Irm, Irn, Iro, Irp, Irq, Nrr, Irs, dropK_eq]
    · rintro i tm hp nc hi hc k21 ⟨c, f, es, a, hr, h6, h2, ho, h0, hf, hel⟩
      have k2 := hc 2 rfl; have k6 := hc 6 rfl; have k19 := hc 19 rfl; have k20 := hc 20 rfl; simp only [go_sem, ↓reduceIte, Nra, Nrb, Nrc, Nrd, Nre, Nrf, Irg, Irh, Iri, Irj, Irk, Irl, Irm, Irn, Iro, Irp, Irq, Nrr, Irs, dropK_eq] at k2 k6 k19 k20
      rcases Nat.lt_or_ge i ls.length with hlt | hge
      · have d1 : decide ((i : Int) < (ls.length : Int)) = true := decide_eq_true (by omega)
        have ia := ha.ia hlt
        have hnx := rdL_next hlt hr
        simp (disch := first | omega | simp only [*, go_sem, ↓reduceIte, Nra, Nrb, Nrc, Nrd, Nre, Nrf, Irg, Irh, Iri, Irj, Irk, Irl, Irm, Irn, Iro, Irp, Irq, Nrr, Irs, dropK_eq]) only [x18l6, go_sem, ↓reduceIte, Nra, Nrb, Nrc, Nrd, Nre, Nrf, Irg, Irh, Iri, Irj, Irk, Irl, Irm, Irn, Iro, Irp, Irq, Nrr, Irs, dropK_eq, k2, k6, k19, k20, k21, d1, ia, call_inl (C := C12) (g := 33) rfl]
        rw [show AVal.str (bs ls[i]) = sv ls[i] from rfl]
        refine read33 (hlen _ (List.getElem_mem hlt)) rfl h6 ho h0 hf (by omega) ?_ ?_
        · intro e hp' nc' he gk
          rw [he] at hnx
          rw [rdL_bad hnx]
          have d2 : decide (¬ e = 0) = true := decide_eq_true (rdS_err he)
          have g2 : hp' (18000000, 0) = some (.var [.int .i64 0, .int .i64 0, .nils]) := (gk _ (by simp)).trans h2
          simp (disch := first | omega | simp only [*, go_sem, ↓reduceIte, Nra, Nrb, Nrc, Nrd, Nre, Nrf, Irg, Irh, Iri, Irj, Irk, Irl, Irm, Irn, Iro, Irp, Irq, Nrr, Irs, dropK_eq]) only [go_sem, ↓reduceIte, Nra, Nrb, Nrc, Nrd, Nre, Nrf, Irg, Irh, Iri, Irj, Irk, Irl, Irm, Irn, Iro, Irp, Irq, Nrr, Irs, dropK_eq, k2, k21, d2, g2]
          exact Ends_plain rfl rfl
        · intro c' f' es' a' hp' nc' he g6 go g0 gk
          rw [he] at hnx
          have hok := rdS_ok he hf
          simp (disch := first | omega | simp only [*, go_sem, ↓reduceIte, Nra, Nrb, Nrc, Nrd, Nre, Nrf, Irg, Irh, Iri, Irj, Irk, Irl, Irm, Irn, Iro, Irp, Irq, Nrr, Irs, dropK_eq]) only [go_sem, ↓reduceIte, Nra, Nrb, Nrc, Nrd, Nre, Nrf, Irg, Irh, Iri, Irj, Irk, Irl, Irm, Irn, Iro, Irp, Irq, Nrr, Irs, dropK_eq, k21]
          refine ⟨hlt, by simp, c', f', es', a', hnx, g6, ?_, go, g0, hok.1, by omega⟩
          rw [gk _ (by simp) (by simp)]
          exact h2
      · obtain rfl : i = ls.length := by omega
        have d1 : decide ((ls.length : Int) < (ls.length : Int)) = false := decide_eq_false (by omega)
        rw [List.take_length] at hr
        rw [hr]
        have hRE := rowE es
        have e10 := F10_eq (cap := c) (first := f) hRE (by omega)
        have hsc := ho.sc
        have hcl := ho.cells
        obtain ⟨ks, hks, hlx⟩ := ho.lendXs (fun e => h0 (List.map_eq_nil_iff.1 e)) 62 (plainL_map 62 (fun x => EK_plain 61 x) es)
        by_cases hj : jOk c f es
        · rw [decide_eq_true hj] at e10
          simp only [if_pos hj]
          simp (disch := first | omega | simp only [*, go_sem, ↓reduceIte, Nra, Nrb, Nrc, Nrd, Nre, Nrf, Irg, Irh, Iri, Irj, Irk, Irl, Irm, Irn, Iro, Irp, Irq, Nrr, Irs, dropK_eq]) only [x18l6, go_sem, ↓reduceIte, Nra, Nrb, Nrc, Nrd, Nre, Nrf, Irg, Irh, Iri, Irj, Irk, Irl, Irm, Irn, Iro, Irp, Irq, Nrr, Irs, dropK_eq, k2, k6, k19, k20, k21, d1, h6, h2, hsc, hcl, callX_names (C := C12) (g := 10) rfl, ftC_names (C := C12) (g := 10) rfl]
          rw [hlx _ (fun k hk => rfl)]
          simp (disch := first | omega | simp only [*, go_sem, ↓reduceIte, Nra, Nrb, Nrc, Nrd, Nre, Nrf, Irg, Irh, Iri, Irj, Irk, Irl, Irm, Irn, Iro, Irp, Irq, Nrr, Irs, dropK_eq]) only [go_sem, ↓reduceIte, Nra, Nrb, Nrc, Nrd, Nre, Nrf, Irg, Irh, Iri, Irj, Irk, Irl, Irm, Irn, Iro, Irp, Irq, Nrr, Irs, dropK_eq, e10, hasRef, k2, k6, h6, h2, hsc, hcl]
          have h9 := ho.lendN (fun e => h0 (List.map_eq_nil_iff.1 e)) 61 (plainL_map 61 (fun x => EK_plain 60 x) es) (hp' := upd hp (18000000, 0) (some (.var [.int .i64 c, .int .i64 f, a]))) (fun k hk' => by repeat rw [upd_ne _ _ (by rintro rfl; simp at hk')])
          have hi : ∀ (d : Nat) (n : Int) (h : Heap), lendV d (.int .i64 n) h = some (.int .i64 n) := fun d n h => lendV_plain (by cases d <;> rfl)
          rw [Ends_eq, if_pos hj]
          simp only [lendV_tup, lendVL_cons, lendV_agg, lendVL_nil, Option.bind_some, Option.map_some, hi, h9, impV]
        · rw [decide_eq_false hj] at e10
          simp only [if_neg hj]
          simp (disch := first | omega | simp only [*, go_sem, ↓reduceIte, Nra, Nrb, Nrc, Nrd, Nre, Nrf, Irg, Irh, Iri, Irj, Irk, Irl, Irm, Irn, Iro, Irp, Irq, Nrr, Irs, dropK_eq]) only [x18l6, go_sem, ↓reduceIte, Nra, Nrb, Nrc, Nrd, Nre, Nrf, Irg, Irh, Iri, Irj, Irk, Irl, Irm, Irn, Iro, Irp, Irq, Nrr, Irs, dropK_eq, k2, k6, k19, k20, k21, d1, h6, h2, hsc, hcl, callX_names (C := C12) (g := 10) rfl, ftC_names (C := C12) (g := 10) rfl]
          rw [hlx _ (fun k hk => rfl)]
          simp (disch := first | omega | simp only [*, go_sem, ↓reduceIte, Nra, Nrb, Nrc, Nrd, Nre, Nrf, Irg, Irh, Iri, Irj, Irk, Irl, Irm, Irn, Iro, Irp, Irq, Nrr, Irs, dropK_eq]) only [go_sem, ↓reduceIte, Nra, Nrb, Nrc, Nrd, Nre, Nrf, Irg, Irh, Iri, Irj, Irk, Irl, Irm, Irn, Iro, Irp, Irq, Nrr, Irs, dropK_eq, e10, hasRef, k2, k6, h6, h2, hsc, hcl]
          rw [if_neg hj]
          exact Ends_plain rfl rfl
  · rw [if_neg h1]
    have h2 : Lib.hasSuffix s [10] = false := by simpa using h1
    simp only [h2] at e31
    simp (disch := first | omega | simp only [*, go_sem, ↓reduceIte, Nra, Nrb, Nrc, Nrd, Nre, Nrf, Irg, Irh, Iri, Irj, Irk, Irl, Irm, Irn, Iro, Irp, Irq, Nrr, Irs, dropK_eq]) only [x18b, go_sem, ↓reduceIte, Nra, Nrb, Nrc, Nrd, Nre, Nrf, Irg, Irh, Iri, Irj, Irk, Irl, Irm, Irn, Iro, Irp, Irq, Nrr, Irs, dropK_eq, callX_known (C := C12) (g := 31) rfl, ft_call (C := C12) (g := 31) rfl, e31]
    exact Ends_plain rfl rfl
end Go.Proofs.YtaoodcnhmjokoaaGreatDoor
