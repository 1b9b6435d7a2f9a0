/-
  The law of what is kept.
-/
import Derived.Test.YtaoodcnhmjokoaaGreatDoorYKb
set_option linter.unusedVariables false
set_option linter.unusedSimpArgs false
namespace Go.Proofs.YtaoodcnhmjokoaaGreatDoor
open Go Go.Xec
attribute [local go_sem] tm0 ne_eq not_false_eq_true List.length_append List.length_replicate List.replicate_succ List.replicate_zero Int.cast_ofNat_Int not_true_eq_false decide_true decide_false ite_self beq_self_eq_true Bool.true_beq Bool.false_beq Bool.not_true Bool.not_false
open Nat renaming reduceAdd → Nra, reduceMul → Nrb, reduceSub → Nrc, reduceLeDiff → Nrd, reduceLT → Nre, reduceEqDiff → Nrf, reducePow → Nrr
open Int renaming reduceLT → Irg, reduceLE → Irh, reduceAdd → Iri, reduceSub → Irj, reduceMul → Irk, reduceToNat → Irl, reducePow → Irm, reduceNe → Irn, reduceMod → Iro, reduceDiv → Irp, reduceEq → Irq, reduceNeg → Irs

set_option maxRecDepth 10000
theorem Hk_intro {b : Bool} {Q : Unit → Prop} (hb : b = true) (h : Q ()) : Hk b Q := by
  subst hb
  rw [Hk_true]
  exact h
theorem app_writes {ss : List Nat} {es bytes : Nat} {key : Key} {hp : Heap} {v y : AVal} {xs ys : List AVal} (h : Own ss es hp v xs) (hk : key.1 ∈ ss) (he : elemsA es y hp = some ys) (hl : plainL Xec.freeze ys = true) {p : AVal × Wr} (hr : (appR es bytes key v y).run hp = some p) : ∀ k ∈ p.2.map (·.1), k.1 ∈ ss := by
  unfold elemsA at he
  unfold appR at hr
  rw [Rd.run_bind, he, Option.bind_some, lendL_plain_eq _ _ hl] at hr
  simp only [Rd.bind, List.map_nil, List.nil_append] at hr
  rcases h with ⟨rfl, rfl⟩ | ⟨s, c, g, hs, rfl, h2⟩
  · simp only at hr
    split at hr
    · simp only [Rd.run, Option.some.injEq] at hr
      subst hr
      simp
    · split at hr
      · simp only [Rd.run, Option.some.injEq] at hr
        subst hr
        simpa using hk
      · cases hr
  · simp only at hr
    split at hr
    · simp only [Rd.run, h2] at hr
      split at hr
      · simp only [Rd.run, Option.some.injEq] at hr
        subst hr
        simpa using hs
      · cases hr
    · cases hr
theorem Own_apart {C : Cfg} {tm : Nat → AVal} {x y : XArg} {ss : List Nat} {es bytes : Nat} {key r : Key} {hp : Heap} {v w : AVal} {xs ys : List AVal} (h : Own ss es hp v xs) (hx : arg tm x = v) (hy : arg tm y = w) (hk : key.1 ∈ ss) (he : elemsA es w hp = some ys) (hl : plainL Xec.freeze ys = true) (hr : r.1 ∉ ss) :
    apartF (some [r], []) (ftV C key (.app es bytes x y) tm hp) = true := by
  subst hx hy
  have e : ftV C key (.app es bytes x y) tm hp = (some ((appR es bytes key (arg tm x) (arg tm y)).reads hp), match (appR es bytes key (arg tm x) (arg tm y)).run hp with | some r => r.2.map (·.1) | none => []) := rfl
  rw [e]
  simp only [apartF, disj, List.all_nil, Bool.true_and, List.all_eq_true]
  intro k hk'
  cases hrun : (appR es bytes key (arg tm x) (arg tm y)).run hp with
  | none => rw [hrun] at hk'; simp at hk'
  | some p =>
    rw [hrun] at hk'
    have := app_writes h hk he hl hrun k hk'
    simp only [List.contains_cons, List.contains_nil, Bool.or_false, Bool.not_eq_true', beq_eq_false_iff_ne, ne_eq]
    rintro rfl
    exact hr this
theorem app_kept {M : Nat} {K : List En} {a : AVal} {e : En} (hM1 : 1 ≤ M) (hM2 : M ≤ 16) (hK : ∀ x ∈ K, enOk x) (hKl : K.length ≤ 60) (ha : RE a (K.drop (K.length - M))) (he : enOk e) :
    F9 [JV M ((K.length - M : Nat) : Int) a, EK e] = some (.tup [JV M (((K ++ [e]).length - M : Nat) : Int) (.slc 4 (((K ++ [e]).drop ((K ++ [e]).length - M)).map EK)), .int .i64 0]) := by
  have hl : (K.drop (K.length - M)).length = K.length - (K.length - M) := List.length_drop
  rw [F9_eq ha (by omega)]
  unfold appR'
  have hj : jOk M ((K.length - M : Nat) : Int) (K.drop (K.length - M)) := ⟨by omega, by omega, by omega, by omega, by omega, by omega, fun x hx => hK x (List.mem_of_mem_drop hx)⟩
  rw [if_neg (fun h => h ⟨hj, he⟩), if_neg (by omega)]
  simp only [List.length_append, List.length_cons, List.length_nil]
  by_cases h : ((K.drop (K.length - M)).length : Int) = M
  · rw [if_pos h]
    have h1 : K.length + (0 + 1) - M = K.length - M + 1 := by omega
    rw [h1, Int.natCast_add, Int.natCast_one]
    have hd : ((K.drop (K.length - M)) ++ [e]).drop 1 = (K ++ [e]).drop (K.length - M + 1) := by
      rw [← List.drop_append_of_le_length (by omega), List.drop_drop]
    rw [hd]
  · rw [if_neg h]
    have h1 : K.length + (0 + 1) - M = 0 := by omega
    have h2 : K.length - M = 0 := by omega
    rw [h1, h2, List.drop_zero, List.drop_zero]
theorem app_bad {M : Nat} {K : List En} {a : AVal} {e : En} (hKl : K.length ≤ 60) (ha : RE a (K.drop (K.length - M))) (he : ¬ enOk e) :
    F9 [JV M ((K.length - M : Nat) : Int) a, EK e] = some (.tup [JV 0 0 .nils, .int .i64 1]) := by
  have hl : (K.drop (K.length - M)).length = K.length - (K.length - M) := List.length_drop
  rw [F9_eq ha (by omega)]
  unfold appR'
  rw [if_pos (fun h => he h.2)]
theorem law6 (xs : List AVal) (h : WTL [.int .i64, tEns] xs) : pureF C15 1 6 xs = some (.bool true) := by
  simp only [WTL] at h
  obtain ⟨a, _, rfl, ha, b, _, rfl, hb, rfl⟩ := h
  rw [WT] at ha
  obtain ⟨n, rfl, hn1, hn2⟩ := ha
  obtain ⟨l0, hb, hl0⟩ := wt_ens hb
  have bp := hb.plain
  have e12 := F12_eq
  have hmn : mnxA false (.int .i64 (l0.length : Int)) [.int .i64 60] = some (.int .i64 ((min l0.length 60 : Nat) : Int)) := mnx_min2 l0.length 60
  have hsl := hb.sliceTo (n := min l0.length 60) (Nat.min_le_left _ _)
  have hr := hb.cut 60
  have hblen := hb.len
  have hL : (l0.take 60).length ≤ 60 := by rw [List.length_take]; omega
  generalize rwTake (min l0.length 60) b = R at *
  generalize l0.take 60 = L at *
  obtain ⟨m, hm, hm1, hm2, hm3⟩ := turn_k n 15
  have hm1' : -16 < n.tmod 16 := hm1
  have hm2' : n.tmod 16 < 16 := hm2
  have hm3' : (n.tmod 16 + 16).tmod 16 = (m : Int) := by
    have := hm3
    rwa [Int.add_assoc] at this
  have e8 := F8_eq (n := 1 + (m : Int))
  rw [if_pos (by omega)] at e8
  have hrl := hr.len
  refine pureF_of (x := x6) rfl rfl ?_
  rw [x6_eq.1, x6_eq.2.1]
  simp (disch := first | omega | simp only [*, go_sem, ↓reduceIte, Nra, Nrb, Nrc, Nrd, Nre, Nrf, Irg, Irh, Iri, Irj, Irk, Irl, Irm, Irn, Iro, Irp, Irq, Nrr, Irs, dropK_eq]) only [x6b, go_sem, ↓reduceIte, Nra, Nrb, Nrc, Nrd, Nre, Nrf, Irg, Irh, Iri, Irj, Irk, Irl, Irm, Irn, Iro, Irp, Irq, Nrr, Irs, dropK_eq, callX_known (C := C15) (g := 8) rfl, ft_call (C := C15) (g := 8) rfl, callX_known (C := C15) (g := 12) rfl, ft_call (C := C15) (g := 12) rfl, hblen, hmn, hsl, e12, hm3', e8, hrl]
  refine Ev_range (ti := 37) (len := L.length) (J := fun i tm hp nc => ∃ (K : List En) (a : AVal), (∀ x ∈ K, enOk x) ∧ K.length ≤ i ∧ RE a (K.drop (K.length - (m + 1))) ∧ hp (6002005, 2) = some (.var [.int .i64 (1 + (m : Int)), .int .i64 ((K.length - (m + 1) : Nat) : Int), a]) ∧ (K = [] → tm 7 = .nils) ∧ Own [6013004] 4 hp (tm 7) (K.map EK)) (by omega) ?_ ?_ ?_
  · simp only [go_sem, ↓reduceIte, Nra, Nrb, Nrc, Nrd, Nre, Nrf, Irg, Irh, Iri, Irj, Irk, Irl, Irm, Irn, Iro, Irp, Irq, Nrr, Irs, dropK_eq]
  · refine ⟨[], .nils, by simp, Nat.le_refl _, by rw [List.drop_nil]; exact Rg.nils, ?_, fun _ => ?_, .inl ⟨?_, rfl⟩⟩
    · simp only [go_sem, ↓reduceIte, Nra, Nrb, Nrc, Nrd, Nre, Nrf, Irg, Irh, Iri, Irj, Irk, Irl, Irm, Irn, Iro, Irp, Irq, Nrr, Irs, dropK_eq]
      rw [Nat.zero_sub]
      rfl
    · simp only [go_sem, ↓reduceIte, Nra, Nrb, Nrc, Nrd, Nre, Nrf, Irg, Irh, Iri, Irj, Irk, Irl, Irm, Irn, Iro, Irp, Irq, Nrr, Irs, dropK_eq]
    · simp only [go_sem, ↓reduceIte, Nra, Nrb, Nrc, Nrd, Nre, Nrf, Irg, Irh, Iri, Irj, Irk, Irl, Irm, Irn, Iro, Irp, Irq, Nrr, Irs, dropK_eq]
  · rintro i tm hp nc hi hc k37 ⟨K, a, hK, hKi, ha, h5, h70, ho⟩
    have k0 := hc 0 rfl; have k5 := hc 5 rfl; have k35 := hc 35 rfl; have k36 := hc 36 rfl; simp only [go_sem, ↓reduceIte, Nra, Nrb, Nrc, Nrd, Nre, Nrf, Irg, Irh, Iri, Irj, Irk, Irl, Irm, Irn, Iro, Irp, Irq, Nrr, Irs, dropK_eq] at k0 k5 k35 k36
    rcases Nat.lt_or_ge i L.length with hlt | hge
    · have d1 : decide ((i : Int) < (L.length : Int)) = true := decide_eq_true (by omega)
      have ia := hr.ia hlt
      have ap := ha.plain
      have asc := ha.sc
      have acl := ha.cells
      by_cases he : enOk L[i]
      · have e9 := app_kept (M := m + 1) (K := K) (e := L[i]) (by omega) (by omega) hK (by omega) ha he
        rw [show (((m + 1 : Nat) : Int)) = 1 + (m : Int) by omega] at e9
        simp only [EK] at e9
        obtain ⟨K', hK'⟩ : ∃ K', K' = K ++ [L[i]] := ⟨_, rfl⟩
        have hKl : K'.length = K.length + 1 := by rw [hK']; simp
        have hKo : ∀ x ∈ K', enOk x := by
          intro x hx
          rw [hK'] at hx
          rcases List.mem_append.1 hx with hx | hx
          · exact hK x hx
          · rw [List.mem_singleton.1 hx]; exact he
        rw [← hK'] at e9
        obtain ⟨g, hg⟩ : ∃ g, g = K'.length - (m + 1) := ⟨_, rfl⟩
        rw [← hg] at e9
        obtain ⟨J', hJ'⟩ : ∃ J', J' = K'.drop g := ⟨_, rfl⟩
        have hJl : J'.length = K'.length - g := by rw [hJ', List.length_drop]
        rw [← hJ'] at e9
        have hmx : mnxA true (.int .i64 0) [.int .i64 ((K'.length : Int) - (1 + (m : Int)))] = some (.int .i64 (g : Int)) := by
          rw [mnx_max]
          congr 2
          omega
        have hp1 : ∀ d (l : List En), plainL (d + 1) (l.map EK) = true := fun d l => plainL_map _ (fun x => EK_plain d x) _
        have d2 : decide (¬ (J'.length : Int) = (K'.length : Int) - (g : Int)) = false := decide_eq_false (fun h => h (by omega))
        have hko : Own [6013004] 4 (upd (upd (upd (upd hp (6008002, nc + 1) (some (.var [.int .i64 0, .int .i64 0, .int .i64 0, .int .i64 0]))) (6008002, nc + 1) (some (.var [.int .i64 L[i].k, .int .i64 L[i].c, .int .i64 L[i].s, .int .i64 L[i].v]))) (6009006, nc + 1 + 1) (some (.var [.int .i64 0, .int .i64 0, .nils]))) (6009006, nc + 1 + 1) (some (.var [.int .i64 (1 + (m : Int)), .int .i64 (g : Int), .slc 4 (J'.map EK)]))) (tm 7) (K.map EK) := ho.keep (fun k hk' => by repeat rw [upd_ne _ _ (by rintro rfl; simp at hk')])
        obtain ⟨V, H, hA, hH⟩ := hko.push (s0 := 6013004) (s1 := 6013003) (z := .agg [.int .i64 L[i].k, .int .i64 L[i].c, .int .i64 L[i].s, .int .i64 L[i].v]) (bytes := 32) (by simp) (by simp) rfl rfl (by rw [List.length_map]; omega)
        have hOK : ∀ q q', Own [6013004] 4 (H q q') (V q q') (K'.map EK) := fun q q' => by
          rw [hK', List.map_append]
          exact (hH q q').1
        have hHk : ∀ q q', H q q' (6002005, 2) = some (.var [.int .i64 (1 + (m : Int)), .int .i64 ((K.length - (m + 1) : Nat) : Int), a]) := fun q q' => by
          rw [(hH q q').2 _ (by simp) (by simp)]
          simp only [go_sem, ↓reduceIte, Nra, Nrb, Nrc, Nrd, Nre, Nrf, Irg, Irh, Iri, Irj, Irk, Irl, Irm, Irn, Iro, Irp, Irq, Nrr, Irs, dropK_eq]
          exact h5
        have hVl : ∀ q q', lenVA (V q q') = some (.int .i64 (K'.length : Int)) := fun q q' => by
          have := (hOK q q').len
          rwa [List.length_map] at this
        have hVs := fun q q' => (hOK q q').sc
        have hVc := fun q q' => (hOK q q').cells
        have w1 : -9223372036854775808 ≤ (K'.length : Int) - (1 + (m : Int)) ∧ (K'.length : Int) - (1 + (m : Int)) ≤ 9223372036854775807 := by omega
        simp (disch := first | omega | simp only [*, go_sem, ↓reduceIte, Nra, Nrb, Nrc, Nrd, Nre, Nrf, Irg, Irh, Iri, Irj, Irk, Irl, Irm, Irn, Iro, Irp, Irq, Nrr, Irs, dropK_eq]) only [x6l7, go_sem, ↓reduceIte, Nra, Nrb, Nrc, Nrd, Nre, Nrf, Irg, Irh, Iri, Irj, Irk, Irl, Irm, Irn, Iro, Irp, Irq, Nrr, Irs, dropK_eq, k0, k5, k35, k36, k37, d1, ia, h5, asc, acl, ap, callX_known (C := C15) (g := 9) rfl, ft_call (C := C15) (g := 9) rfl, e9, hA, hHk, hVl, hVs, hVc, hmx, d2, lenVA_slc, List.length_map]
        refine Hk_intro (Own_apart (ss := [6013004]) (ys := [.agg [.int .i64 L[i].k, .int .i64 L[i].c, .int .i64 L[i].s, .int .i64 L[i].v]]) (hko.keep (hp' := upd _ (6013003, nc + 1 + 1 + 1 + 1) (some (.row 0 4 [.agg [.int .i64 L[i].k, .int .i64 L[i].c, .int .i64 L[i].s, .int .i64 L[i].v]]))) (fun k hk' => upd_ne _ _ (by rintro rfl; simp at hk'))) (by simp only [go_sem, ↓reduceIte, Nra, Nrb, Nrc, Nrd, Nre, Nrf, Irg, Irh, Iri, Irj, Irk, Irl, Irm, Irn, Iro, Irp, Irq, Nrr, Irs, dropK_eq]) (by simp only [go_sem, ↓reduceIte, Nra, Nrb, Nrc, Nrd, Nre, Nrf, Irg, Irh, Iri, Irj, Irk, Irl, Irm, Irn, Iro, Irp, Irq, Nrr, Irs, dropK_eq]; rfl) (by simp) (by rw [elemsA_sl, upd_same]; simp [els_row]) rfl (by simp)) ?_
        simp (disch := first | omega | simp only [*, go_sem, ↓reduceIte, Nra, Nrb, Nrc, Nrd, Nre, Nrf, Irg, Irh, Iri, Irj, Irk, Irl, Irm, Irn, Iro, Irp, Irq, Nrr, Irs, dropK_eq]) only [go_sem, ↓reduceIte, Nra, Nrb, Nrc, Nrd, Nre, Nrf, Irg, Irh, Iri, Irj, Irk, Irl, Irm, Irn, Iro, Irp, Irq, Nrr, Irs, dropK_eq, k0, k5, hHk, hVl, hmx, d2, lenVA_slc, List.length_map]
        refine Ev_range (ti := 90) (len := J'.length) (J := fun j tm hp nc => ∃ v, tm 7 = v ∧ Own [6013004] 4 hp v (K'.map EK) ∧ hp (6002005, 2) = some (.var [.int .i64 (1 + (m : Int)), .int .i64 (g : Int), .slc 4 (J'.map EK)])) (by omega) ?_ ?_ ?_
        · simp only [go_sem, ↓reduceIte, Nra, Nrb, Nrc, Nrd, Nre, Nrf, Irg, Irh, Iri, Irj, Irk, Irl, Irm, Irn, Iro, Irp, Irq, Nrr, Irs, dropK_eq]
        · refine ⟨_, rfl, ?_, ?_⟩
          · simp only [go_sem, ↓reduceIte, Nra, Nrb, Nrc, Nrd, Nre, Nrf, Irg, Irh, Iri, Irj, Irk, Irl, Irm, Irn, Iro, Irp, Irq, Nrr, Irs, dropK_eq]
            exact (hOK _ _).keep (fun k hk' => by repeat rw [upd_ne _ _ (by rintro rfl; simp at hk')])
          · simp only [go_sem, ↓reduceIte, Nra, Nrb, Nrc, Nrd, Nre, Nrf, Irg, Irh, Iri, Irj, Irk, Irl, Irm, Irn, Iro, Irp, Irq, Nrr, Irs, dropK_eq]
        · rintro j tm' hp' nc' hj hc ti90 ⟨v, q7, hov, g5⟩
          have q0 := hc 0 rfl; have q5 := hc 5 rfl; have q12 := hc 12 rfl; have q35 := hc 35 rfl; have q36 := hc 36 rfl; have q37 := hc 37 rfl; have q88 := hc 88 rfl; have q89 := hc 89 rfl; simp only [go_sem, ↓reduceIte, Nra, Nrb, Nrc, Nrd, Nre, Nrf, Irg, Irh, Iri, Irj, Irk, Irl, Irm, Irn, Iro, Irp, Irq, Nrr, Irs, dropK_eq] at q0 q5 q12 q35 q36 q37 q88 q89
          rcases Nat.lt_or_ge j J'.length with hjlt | hjge
          · have c1 : decide ((j : Int) < (J'.length : Int)) = true := decide_eq_true (by omega)
            have ja := (Rg.slc (es := 4) (enc := EK) J').ia hjlt
            have hgj : g + j < K'.length := by omega
            have hget : J'[j] = K'[g + j] := by
              simp only [hJ', List.getElem_drop]
            rcases hov with ⟨hv, hn⟩ | ⟨s', c', g', hs', hv, hrow⟩
            · exfalso
              have : K'.length = 0 := by rw [← List.length_map (f := EK), hn]; rfl
              omega
            · have w2 : -9223372036854775808 ≤ (g : Int) + (j : Int) ∧ (g : Int) + (j : Int) ≤ 9223372036854775807 := by omega
              subst hv
              obtain rfl : s' = 6013004 := by simpa using hs'
              have hidx : 0 + ((g : Int) + (j : Int)).toNat = g + j := by omega
              have hel : (K'.map EK)[g + j]? = some (.agg [.int .i64 K'[g + j].k, .int .i64 K'[g + j].c, .int .i64 K'[g + j].s, .int .i64 K'[g + j].v]) := by
                rw [List.getElem?_map, List.getElem?_eq_getElem hgj]
                rfl
              simp (disch := first | omega | simp only [*, go_sem, ↓reduceIte, Nra, Nrb, Nrc, Nrd, Nre, Nrf, Irg, Irh, Iri, Irj, Irk, Irl, Irm, Irn, Iro, Irp, Irq, Nrr, Irs, dropK_eq]) only [x6l18, go_sem, ↓reduceIte, Nra, Nrb, Nrc, Nrd, Nre, Nrf, Irg, Irh, Iri, Irj, Irk, Irl, Irm, Irn, Iro, Irp, Irq, Nrr, Irs, dropK_eq, q0, q5, q7, q12, q88, q89, ti90, c1, ja, hget, g5, hrow, iaSA_sl, List.length_map, cs_row, hidx, hel]
              exact ⟨hjlt, by simp, _, rfl, (Own.sl (ss := [6013004]) (by simp) (by rw [List.length_map]) hrow).keep (fun k hk' => by repeat rw [upd_ne _ _ (by rintro rfl; simp at hk')])⟩
          · obtain rfl : j = J'.length := by omega
            have c1 : decide ((J'.length : Int) < (J'.length : Int)) = false := decide_eq_false (by omega)
            simp (disch := first | omega | simp only [*, go_sem, ↓reduceIte, Nra, Nrb, Nrc, Nrd, Nre, Nrf, Irg, Irh, Iri, Irj, Irk, Irl, Irm, Irn, Iro, Irp, Irq, Nrr, Irs, dropK_eq]) only [x6l18, go_sem, ↓reduceIte, Nra, Nrb, Nrc, Nrd, Nre, Nrf, Irg, Irh, Iri, Irj, Irk, Irl, Irm, Irn, Iro, Irp, Irq, Nrr, Irs, dropK_eq, q0, q5, q7, q12, q37, k37, q88, q89, ti90, c1]
            refine ⟨hlt, by simp, K', .slc 4 (J'.map EK), hKo, by omega, ?_, ?_, fun h => ?_, hov⟩
            · rw [← hg, ← hJ']
              exact Rg.slc J'
            · rw [← hg]
              exact g5
            · rw [h] at hKl
              simp at hKl
      · have e9 := app_bad (M := m + 1) (K := K) (e := L[i]) (by omega) ha he
        rw [show (((m + 1 : Nat) : Int)) = 1 + (m : Int) by omega] at e9
        simp only [EK] at e9
        simp (disch := first | omega | simp only [*, go_sem, ↓reduceIte, Nra, Nrb, Nrc, Nrd, Nre, Nrf, Irg, Irh, Iri, Irj, Irk, Irl, Irm, Irn, Iro, Irp, Irq, Nrr, Irs, dropK_eq]) only [x6l7, go_sem, ↓reduceIte, Nra, Nrb, Nrc, Nrd, Nre, Nrf, Irg, Irh, Iri, Irj, Irk, Irl, Irm, Irn, Iro, Irp, Irq, Nrr, Irs, dropK_eq, k0, k5, k35, k36, k37, d1, ia, h5, asc, acl, ap, callX_known (C := C15) (g := 9) rfl, ft_call (C := C15) (g := 9) rfl, e9]
        refine ⟨hlt, by simp, K, a, hK, by omega, ha, ?_, h70, ho.keep (fun k hk' => by repeat rw [upd_ne _ _ (by rintro rfl; simp at hk')])⟩
        simp only [go_sem, ↓reduceIte, Nra, Nrb, Nrc, Nrd, Nre, Nrf, Irg, Irh, Iri, Irj, Irk, Irl, Irm, Irn, Iro, Irp, Irq, Nrr, Irs, dropK_eq]
    · obtain rfl : i = L.length := by omega
      have d1 : decide ((L.length : Int) < (L.length : Int)) = false := decide_eq_false (by omega)
      simp (disch := first | omega | simp only [*, go_sem, ↓reduceIte, Nra, Nrb, Nrc, Nrd, Nre, Nrf, Irg, Irh, Iri, Irj, Irk, Irl, Irm, Irn, Iro, Irp, Irq, Nrr, Irs, dropK_eq]) only [x6l7, go_sem, ↓reduceIte, Nra, Nrb, Nrc, Nrd, Nre, Nrf, Irg, Irh, Iri, Irj, Irk, Irl, Irm, Irn, Iro, Irp, Irq, Nrr, Irs, dropK_eq, k0, k5, k35, k36, k37, d1]
      exact Ends_plain rfl rfl
end Go.Proofs.YtaoodcnhmjokoaaGreatDoor
