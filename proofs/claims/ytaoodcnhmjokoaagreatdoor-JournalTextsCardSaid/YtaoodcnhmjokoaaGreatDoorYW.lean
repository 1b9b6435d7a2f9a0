/-
  What a journal's text is: the document's; a row, as the program writes it.
-/
import Derived.Test.YtaoodcnhmjokoaaGreatDoorYV
set_option linter.unusedVariables false
set_option linter.unusedSimpArgs false
namespace Go.Proofs.YtaoodcnhmjokoaaGreatDoor
open Go Go.Xec
attribute [local go_sem] tm0 ne_eq not_false_eq_true List.length_append List.length_replicate List.replicate_succ List.replicate_zero Int.cast_ofNat_Int not_true_eq_false decide_true decide_false ite_self beq_self_eq_true Bool.true_beq Bool.false_beq Bool.not_true Bool.not_false
open Nat renaming reduceAdd → Nra, reduceMul → Nrb, reduceSub → Nrc, reduceLeDiff → Nrd, reduceLT → Nre, reduceEqDiff → Nrf, reducePow → Nrr
open Int renaming reduceLT → Irg, reduceLE → Irh, reduceAdd → Iri, reduceSub → Irj, reduceMul → Irk, reduceToNat → Irl, reducePow → Irm, reduceNe → Irn, reduceMod → Iro, reduceDiv → Irp, reduceEq → Irq, reduceNeg → Irs

set_option maxRecDepth 10000
/-- Numbers in a row. -/
def rowT (ns : List Int) : List UInt8 := Lib.join (ns.map fun n => its n) [32]
theorem rowT_one (n : Int) : rowT [n] = its n := Lib.join_one _ _
theorem rowT_cons (n m : Int) (r : List Int) : rowT (n :: m :: r) = its n ++ 32 :: rowT (m :: r) := by
  simp only [rowT, List.map_cons]
  rw [Lib.join_cons, Lib.join_cons]
  simp [Lib.joinTail]
theorem rowT_snoc : ∀ (ns : List Int) (n : Int), rowT (ns ++ [n]) = if ns = [] then its n else rowT ns ++ (32 :: its n)
  | [], n => rowT_one n
  | [m], n => by
    rw [if_neg (by simp), List.singleton_append, rowT_cons, rowT_one, rowT_one]
  | m :: k :: r, n => by
    have h := rowT_snoc (k :: r) n
    rw [if_neg (by simp)] at h
    rw [if_neg (by simp), rowT_cons, List.cons_append, List.cons_append, rowT_cons]
    rw [List.cons_append] at h
    rw [h]
    simp
abbrev i64Ok (ns : List Int) : Prop := ∀ n ∈ ns, -9223372036854775808 ≤ n ∧ n ≤ 9223372036854775807
theorem rowT_len : ∀ {ns : List Int}, i64Ok ns → (rowT ns).length ≤ 22 * ns.length
  | [], _ => Nat.zero_le _
  | [n], h => by
    have : (its n).length ≤ 21 := T.its_len (h n (by simp))
    rw [rowT_one]
    simp
    omega
  | n :: m :: r, h => by
    have h1 : (its n).length ≤ 21 := T.its_len (h n (by simp))
    have h2 := rowT_len (ns := m :: r) (fun k hk => h k (by simp at hk ⊢; exact .inr hk))
    rw [rowT_cons]
    simp only [List.length_append, List.length_cons] at h2 ⊢
    omega
abbrev RI (a : AVal) (l : List Int) : Prop := Rg 1 (AVal.int .i64) a l
noncomputable def F35 : List AVal → Option AVal := pureF C7 1 35
theorem sound35 : Sound Tryz.prog 35 F35 := sound_self ok7 1 35
theorem F35_eq {a : AVal} {l : List Int} (ha : RI a l) (hl : l.length ≤ 1000) (h : i64Ok l) : F35 [a] = some (sv (rowT l)) := by
  unfold F35
  refine pureF_of (x := x35) rfl rfl ?_
  rw [x35_eq.1, x35_eq.2.1]
  simp (disch := first | omega | simp only [go_sem, ↓reduceIte, Nra, Nrb, Nrc, Nrd, Nre, Nrf, Irg, Irh, Iri, Irj, Irk, Irl, Irm, Irn, Iro, Irp, Irq, Nrr, Irs, dropK_eq]) only [x35b, go_sem, ↓reduceIte, Nra, Nrb, Nrc, Nrd, Nre, Nrf, Irg, Irh, Iri, Irj, Irk, Irl, Irm, Irn, Iro, Irp, Irq, Nrr, Irs, dropK_eq, ha.len]
  refine Ev_range (ti := 8) (len := l.length) (J := fun i tm hp nc => tm 3 = sv (rowT (l.take i))) (by omega) (by simp only [go_sem, ↓reduceIte, Nra, Nrb, Nrc, Nrd, Nre, Nrf, Irg, Irh, Iri, Irj, Irk, Irl, Irm, Irn, Iro, Irp, Irq, Nrr, Irs, dropK_eq]) (by simp only [go_sem, ↓reduceIte, Nra, Nrb, Nrc, Nrd, Nre, Nrf, Irg, Irh, Iri, Irj, Irk, Irl, Irm, Irn, Iro, Irp, Irq, Nrr, Irs, dropK_eq]; rfl) ?_
  intro i tm hp nc hi hc k8 k3
  have k6 := hc 6 rfl; have k7 := hc 7 rfl; simp only [go_sem, ↓reduceIte, Nra, Nrb, Nrc, Nrd, Nre, Nrf, Irg, Irh, Iri, Irj, Irk, Irl, Irm, Irn, Iro, Irp, Irq, Nrr, Irs, dropK_eq] at k6 k7
  rcases Nat.lt_or_ge i l.length with hlt | hge
  · have d1 : decide ((i : Int) < (l.length : Int)) = true := decide_eq_true (by omega)
    have ia := ha.ia hlt
    have hm : l[i] ∈ l := List.getElem_mem _
    have e51 := T.F51_eq (h _ hm)
    have hst := rowT_snoc (l.take i) l[i]
    rw [← take_next hlt] at hst
    have hpl := rowT_len (ns := l.take i) (fun n hn => h n (List.mem_of_mem_take hn))
    rw [List.length_take] at hpl
    have htl : (its l[i]).length ≤ 21 := T.its_len (h _ hm)
    by_cases h0 : i = 0
    · have d2 : decide ((0 : Int) < (i : Int)) = false := decide_eq_false (by omega)
      have l3 : (rowT (l.take i)).length + (its l[i]).length < 9223372036854775808 := by omega
      simp (disch := first | omega | simp only [go_sem, ↓reduceIte, Nra, Nrb, Nrc, Nrd, Nre, Nrf, Irg, Irh, Iri, Irj, Irk, Irl, Irm, Irn, Iro, Irp, Irq, Nrr, Irs, dropK_eq]) only [x35l3, go_sem, ↓reduceIte, Nra, Nrb, Nrc, Nrd, Nre, Nrf, Irg, Irh, Iri, Irj, Irk, Irl, Irm, Irn, Iro, Irp, Irq, Nrr, Irs, dropK_eq, k3, k6, k7, k8, d1, ia, d2, callX_known (C := C7) (g := 51) rfl, ft_call (C := C7) (g := 51) rfl, e51, if_pos l3]
      refine ⟨hlt, by simp, ?_⟩
      rw [hst, if_pos (by simp [h0])]
      have : rowT (l.take i) = [] := by rw [h0]; rfl
      rw [this, List.nil_append]
    · have d2 : decide ((0 : Int) < (i : Int)) = true := decide_eq_true (by omega)
      have l3 : (rowT (l.take i)).length + 1 < 9223372036854775808 := by omega
      have l4 : (rowT (l.take i)).length + 1 + (its l[i]).length < 9223372036854775808 := by omega
      simp (disch := first | omega | simp only [go_sem, ↓reduceIte, Nra, Nrb, Nrc, Nrd, Nre, Nrf, Irg, Irh, Iri, Irj, Irk, Irl, Irm, Irn, Iro, Irp, Irq, Nrr, Irs, dropK_eq]) only [x35l3, go_sem, ↓reduceIte, Nra, Nrb, Nrc, Nrd, Nre, Nrf, Irg, Irh, Iri, Irj, Irk, Irl, Irm, Irn, Iro, Irp, Irq, Nrr, Irs, dropK_eq, k3, k6, k7, k8, d1, ia, d2, callX_known (C := C7) (g := 51) rfl, ft_call (C := C7) (g := 51) rfl, e51, if_pos l3, if_pos l4]
      refine ⟨hlt, by simp, ?_⟩
      rw [hst, if_neg (by rw [List.take_eq_nil_iff, not_or]; exact ⟨h0, fun e => by rw [e] at hlt; simp at hlt⟩)]
      simp
  · obtain rfl : i = l.length := by omega
    have d1 : decide ((l.length : Int) < (l.length : Int)) = false := decide_eq_false (by omega)
    rw [List.take_length] at k3
    simp (disch := first | omega | simp only [go_sem, ↓reduceIte, Nra, Nrb, Nrc, Nrd, Nre, Nrf, Irg, Irh, Iri, Irj, Irk, Irl, Irm, Irn, Iro, Irp, Irq, Nrr, Irs, dropK_eq]) only [x35l3, go_sem, ↓reduceIte, Nra, Nrb, Nrc, Nrd, Nre, Nrf, Irg, Irh, Iri, Irj, Irk, Irl, Irm, Irn, Iro, Irp, Irq, Nrr, Irs, dropK_eq, k3, k6, k7, k8, d1]
    exact Ends_plain rfl rfl
noncomputable def C8 : Cfg := C7.add 50 L.F50
theorem ok8 : CfgOk Tryz.prog C8 := ok7.add L.sound50
/-- A line. -/
def lineT (s : List UInt8) : List UInt8 := L.sealV s ++ [10]
theorem lineT_len (s : List UInt8) : (lineT s).length = s.length + 10 := by simp [lineT, L.sealV_len]
noncomputable def F34 : List AVal → Option AVal := pureF C8 1 34
theorem sound34 : Sound Tryz.prog 34 F34 := sound_self ok8 1 34
theorem F34_eq {l : List UInt8} (hl : l.length ≤ 100000) : F34 [sv l] = some (sv (lineT l)) := by
  have e50 := L.F50_eq hl
  have hsl := L.sealV_len l
  have l3 : (L.sealV l).length + 1 < 9223372036854775808 := by omega
  unfold F34
  refine pureF_of (x := x34) rfl rfl ?_
  rw [x34_eq.1, x34_eq.2.1]
  simp (disch := first | omega | simp only [go_sem, ↓reduceIte, Nra, Nrb, Nrc, Nrd, Nre, Nrf, Irg, Irh, Iri, Irj, Irk, Irl, Irm, Irn, Iro, Irp, Irq, Nrr, Irs, dropK_eq]) only [x34b, go_sem, ↓reduceIte, Nra, Nrb, Nrc, Nrd, Nre, Nrf, Irg, Irh, Iri, Irj, Irk, Irl, Irm, Irn, Iro, Irp, Irq, Nrr, Irs, dropK_eq, callX_known (C := C8) (g := 50) rfl, ft_call (C := C8) (g := 50) rfl, e50, if_pos l3]
  exact Ends_plain rfl rfl
noncomputable def C9 : Cfg := (C8.add 35 F35).add 34 F34
theorem ok9 : CfgOk Tryz.prog C9 := (ok8.add sound35).add sound34
def headT (cap first : Int) : List UInt8 := [108, 111, 103, 32] ++ rowT [cap, first]
def entT (f : Int) (e : En) : List UInt8 := rowT [f, e.k, e.c, e.s, e.v]
def rowsT (f : Int) : List En → List UInt8
  | [] => []
  | e :: r => lineT (entT f e) ++ rowsT (f + 1) r
def expT (cap first : Int) (l : List En) : List UInt8 := lineT (headT cap first) ++ rowsT first l
theorem rowsT_snoc : ∀ (l : List En) (f : Int) (e : En), rowsT f (l ++ [e]) = rowsT f l ++ lineT (entT (f + l.length) e)
  | [], f, e => by simp [rowsT]
  | x :: l, f, e => by
    rw [List.cons_append, rowsT, rowsT_snoc l, rowsT]
    simp only [List.length_cons, List.append_assoc]
    congr 4
    omega
theorem entT_len {f : Int} {e : En} (h : i64Ok [f, e.k, e.c, e.s, e.v]) : (entT f e).length ≤ 110 := rowT_len h
theorem rowsT_len : ∀ {l : List En} {f : Int}, 0 ≤ f → f + l.length ≤ 1000000000 → (∀ e ∈ l, enOk e) → (rowsT f l).length ≤ 120 * l.length
  | [], _, _, _, _ => Nat.le_refl _
  | e :: l, f, h0, h1, h => by
    have h2 := rowsT_len (l := l) (f := f + 1) (by omega) (by simp at h1; omega) (fun x hx => h x (by simp [hx]))
    have h3 := h e (by simp)
    have h4 : (entT f e).length ≤ 110 := entT_len (by
      simp at h1
      intro n hn
      simp only [List.mem_cons, List.not_mem_nil, or_false] at hn
      rcases hn with rfl | rfl | rfl | rfl | rfl <;> omega)
    rw [rowsT]
    simp only [List.length_append, lineT_len, List.length_cons]
    omega
theorem i64Ok_ent {f : Int} {e : En} (h0 : 0 ≤ f) (h1 : f ≤ 1000000000) (h : enOk e) : i64Ok [f, e.k, e.c, e.s, e.v] := by
  intro n hn
  simp only [List.mem_cons, List.not_mem_nil, or_false] at hn
  rcases hn with rfl | rfl | rfl | rfl | rfl <;> omega
noncomputable def F19 : List AVal → Option AVal := pureF C9 1 19
theorem sound19 : Sound Tryz.prog 19 F19 := sound_self ok9 1 19
theorem F19_eq {cap first : Int} {a : AVal} {l : List En} (ha : RE a l) (hj : jOk cap first l) : F19 [JV cap first a] = some (sv (expT cap first l)) := by
  obtain ⟨hc1, hc2, hlc, hf0, hf1, _, hen⟩ := hj
  have hsc := ha.sc
  have hcl := ha.cells
  have hlen := ha.len
  have hh : i64Ok [cap, first] := by
    intro n hn
    simp only [List.mem_cons, List.not_mem_nil, or_false] at hn
    rcases hn with rfl | rfl <;> omega
  have hhl : (rowT [cap, first]).length ≤ 44 := rowT_len hh
  have e35 : F35 [.slc 1 [.int .i64 cap, .int .i64 first]] = some (sv (rowT [cap, first])) := F35_eq (Rg.slc [cap, first]) (by simp) hh
  have l1 : 4 + (rowT [cap, first]).length < 9223372036854775808 := by omega
  have e34 : F34 [sv (108 :: 111 :: 103 :: 32 :: rowT [cap, first])] = some (sv (lineT (headT cap first))) := F34_eq (l := headT cap first) (by simp [headT]; omega)
  unfold F19
  refine pureF_of (x := x19) rfl rfl ?_
  rw [x19_eq.1, x19_eq.2.1]
  simp (disch := first | omega | simp only [*, go_sem, ↓reduceIte, Nra, Nrb, Nrc, Nrd, Nre, Nrf, Irg, Irh, Iri, Irj, Irk, Irl, Irm, Irn, Iro, Irp, Irq, Nrr, Irs, dropK_eq]) only [x19b, go_sem, ↓reduceIte, Nra, Nrb, Nrc, Nrd, Nre, Nrf, Irg, Irh, Iri, Irj, Irk, Irl, Irm, Irn, Iro, Irp, Irq, Nrr, Irs, dropK_eq, hsc, hcl, hlen, callX_names (C := C9) (g := 35) rfl, ftC_names (C := C9) (g := 35) rfl, callX_known (C := C9) (g := 34) rfl, ft_call (C := C9) (g := 34) rfl, e35, if_pos l1, e34, hasRef, hasRefL]
  refine Ev_range (ti := 17) (len := l.length) (J := fun i tm hp nc => tm 3 = sv (lineT (headT cap first) ++ rowsT first (l.take i)) ∧ hp (19000000, 0) = some (.var [.int .i64 cap, .int .i64 first, a])) (by omega) ?_ ?_ ?_
  · simp only [go_sem, ↓reduceIte, Nra, Nrb, Nrc, Nrd, Nre, Nrf, Irg, Irh, Iri, Irj, Irk, Irl, Irm, Irn, Iro, Irp, Irq, Nrr, Irs, dropK_eq]
  · refine ⟨?_, ?_⟩
    · simp only [go_sem, ↓reduceIte, Nra, Nrb, Nrc, Nrd, Nre, Nrf, Irg, Irh, Iri, Irj, Irk, Irl, Irm, Irn, Iro, Irp, Irq, Nrr, Irs, dropK_eq]
      simp [rowsT]
    · simp only [go_sem, ↓reduceIte, Nra, Nrb, Nrc, Nrd, Nre, Nrf, Irg, Irh, Iri, Irj, Irk, Irl, Irm, Irn, Iro, Irp, Irq, Nrr, Irs, dropK_eq]
  · rintro i tm hp nc hi hc k17 ⟨k3, h0⟩
    have k1 := hc 1 rfl; have k15 := hc 15 rfl; have k16 := hc 16 rfl; simp only [go_sem, ↓reduceIte, Nra, Nrb, Nrc, Nrd, Nre, Nrf, Irg, Irh, Iri, Irj, Irk, Irl, Irm, Irn, Iro, Irp, Irq, Nrr, Irs, dropK_eq] at k1 k15 k16
    rcases Nat.lt_or_ge i l.length with hlt | hge
    · have d1 : decide ((i : Int) < (l.length : Int)) = true := decide_eq_true (by omega)
      have ia := ha.ia hlt
      have hm : l[i] ∈ l := List.getElem_mem _
      have hok := hen _ hm
      have hst := rowsT_snoc (l.take i) first l[i]
      rw [← take_next hlt, List.length_take, Nat.min_eq_left hi] at hst
      have h64 := i64Ok_ent (f := first + i) (e := l[i]) (by omega) (by omega) hok
      have hel := entT_len h64
      have w1 : -9223372036854775808 ≤ first + i ∧ first + i ≤ 9223372036854775807 := by omega
      have e35 : F35 [.slc 1 [.int .i64 (first + i), .int .i64 l[i].k, .int .i64 l[i].c, .int .i64 l[i].s, .int .i64 l[i].v]] = some (sv (entT (first + i) l[i])) := F35_eq (Rg.slc [first + (i : Int), l[i].k, l[i].c, l[i].s, l[i].v]) (by simp) h64
      have e34 := F34_eq (l := entT (first + i) l[i]) (by omega)
      have hrl := rowsT_len (l := l.take i) (f := first) (by omega) (by rw [List.length_take]; omega) (fun e he => hen e (List.mem_of_mem_take he))
      rw [List.length_take] at hrl
      have l3 : (lineT (headT cap first)).length + (rowsT first (l.take i)).length + (lineT (entT (first + i) l[i])).length < 9223372036854775808 := by
        simp only [List.length_append, lineT_len, headT, List.length_cons, List.length_nil]
        omega
      simp (disch := first | omega | simp only [*, go_sem, ↓reduceIte, Nra, Nrb, Nrc, Nrd, Nre, Nrf, Irg, Irh, Iri, Irj, Irk, Irl, Irm, Irn, Iro, Irp, Irq, Nrr, Irs, dropK_eq]) only [x19l3, go_sem, ↓reduceIte, Nra, Nrb, Nrc, Nrd, Nre, Nrf, Irg, Irh, Iri, Irj, Irk, Irl, Irm, Irn, Iro, Irp, Irq, Nrr, Irs, dropK_eq, k1, k3, k15, k16, k17, h0, d1, ia, callX_names (C := C9) (g := 35) rfl, ftC_names (C := C9) (g := 35) rfl, callX_known (C := C9) (g := 34) rfl, ft_call (C := C9) (g := 34) rfl, e35, e34, if_pos l3, hasRef, hasRefL]
      refine ⟨hlt, by simp, ?_⟩
      rw [hst, List.append_assoc]
    · obtain rfl : i = l.length := by omega
      have d1 : decide ((l.length : Int) < (l.length : Int)) = false := decide_eq_false (by omega)
      rw [List.take_length] at k3
      simp (disch := first | omega | simp only [go_sem, ↓reduceIte, Nra, Nrb, Nrc, Nrd, Nre, Nrf, Irg, Irh, Iri, Irj, Irk, Irl, Irm, Irn, Iro, Irp, Irq, Nrr, Irs, dropK_eq]) only [x19l3, go_sem, ↓reduceIte, Nra, Nrb, Nrc, Nrd, Nre, Nrf, Irg, Irh, Iri, Irj, Irk, Irl, Irm, Irn, Iro, Irp, Irq, Nrr, Irs, dropK_eq, k3, k15, k16, k17, d1]
      exact Ends_plain rfl rfl
end Go.Proofs.YtaoodcnhmjokoaaGreatDoor
