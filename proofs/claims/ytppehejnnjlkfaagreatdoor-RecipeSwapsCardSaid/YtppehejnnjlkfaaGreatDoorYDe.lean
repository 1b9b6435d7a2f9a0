/-
  The law of two channels, swapped.
-/
import Derived.Test.YtppehejnnjlkfaaGreatDoorYDc
set_option linter.unusedVariables false
set_option linter.unusedSimpArgs false
namespace Go.Proofs.YtppehejnnjlkfaaGreatDoor
open Go Go.Xec
attribute [local go_sem] tm0 ne_eq not_false_eq_true List.length_append List.length_replicate List.replicate_succ List.replicate_zero Int.cast_ofNat_Int not_true_eq_false decide_true decide_false ite_self beq_self_eq_true Bool.true_beq Bool.false_beq Bool.not_true Bool.not_false
attribute [local go_sem_proc] Nat.reduceAdd Nat.reduceMul Nat.reduceSub Nat.reduceLeDiff Nat.reduceLT Nat.reduceEqDiff Int.reduceLT Int.reduceLE Int.reduceAdd Int.reduceSub Int.reduceMul Int.reduceToNat Int.reducePow Int.reduceNe Int.reduceMod Int.reduceDiv Int.reduceEq Nat.reducePow Int.reduceNeg

set_option maxRecDepth 10000
theorem chL_len (c : Ch) : (chL c).length = (chT c).length := by
  rw [← chL_fst, List.length_map]
theorem places_length : ∀ (ps : List Pr) (i : Nat), (T.places ps i).length = ps.length
  | [], _ => rfl
  | (t, b) :: ps, i => by simp only [T.places, List.length_cons, places_length ps]
/-- Two channels of one name: the second name is wrong. -/
theorem parse_two {a b : Ch} (ha : chOk a) (hb : chOk b) (hn : a.n = b.n) : parse (prtR [b, a]) = .error (((prtR [b]).length : Int) + 8, 9) := by
  have hok : ∀ c ∈ [b, a], chOk c := by
    intro c hc
    simp only [List.mem_cons, List.not_mem_nil, or_false] at hc
    rcases hc with rfl | rfl
    · exact hb
    · exact ha
  have ht := text_prt hok (by simp)
  have hk := toks_prt [b, a]
  have hpl : T.places ([b, a].flatMap chL) 0 = T.places (chL b) 0 ++ T.places (chL a) (prtR [b]).length := by
    rw [show [b, a].flatMap chL = chL b ++ chL a by simp, places_app, ← rL_lay]
    simp
  generalize hL : T.places ([b, a].flatMap chL) 0 = l at *
  have hlen : l.length = (chT b).length + (chT a).length := by rw [hpl, List.length_append, places_length, places_length, chL_len, chL_len]
  have hka : [b, a].flatMap chT = chT b ++ (chT a ++ []) := by simp
  rw [hka] at hk
  have hp : parseS l 0 [] = .error ((chT b).length + 1, 9) := by
    rw [← parse_at0 l l.length 0 [] (by omega), hk]
    obtain ⟨e1, e2⟩ := chan_run (l := chT b ++ (chT a ++ [])) (k := 0) (out := []) (r := chT a ++ []) (t := b.t.toNat) hb (by have := hb.2.1; omega) (by have := hb.2.1; omega) rfl (by simp) (by simp)
    rw [parseS_ok (.inr rfl) (by rw [e1]), e1]
    simp only [Nat.zero_add, List.nil_append] at e2 ⊢
    have g0 : gt (chT b ++ (chT a ++ [])) (chT b).length = wT chanW := by have := gt_drop (chT b ++ (chT a ++ [])) (chT b).length 0; rw [e2] at this; exact this
    have g1 : gt (chT b ++ (chT a ++ [])) ((chT b).length + 1) = wT a.n := by have := gt_drop (chT b ++ (chT a ++ [])) (chT b).length 1; rw [e2] at this; exact this
    have hc : chanS (chT b ++ (chT a ++ [])) (chT b).length [b] = (Ch.new a.n 0, (chT b).length + 1, 9) := by
      unfold chanS
      rw [g0, g1, show wordT (wT chanW) = chanW from rfl, if_neg (fun h => h rfl), if_neg (by simp), if_neg (fun h => h rfl), if_pos (show (wT a.n).s ∈ [b].map (·.n) by simp [wT, hn])]
      rfl
    rw [parseS_err (.inl (by have := chT_ne a; simp; omega)) (by rw [hc]; simp), hc]
  unfold parse
  rw [ht]
  simp only
  rw [hp]
  simp only
  have h2 : 2 ≤ (chT a).length := by simp [chT]
  have hlt : (chT b).length + 1 < l.length := by omega
  have hq : l[(chT b).length + 1].at' = ((prtR [b]).length : Int) + 8 := by
    have : l[(chT b).length + 1]? = (T.places (chL a) (prtR [b]).length)[1]? := by
      rw [hpl, List.getElem?_append_right (by rw [places_length, chL_len]; omega), places_length, chL_len]
      congr 1
      omega
    rw [List.getElem?_eq_getElem hlt] at this
    simp only [chL, T.places, List.getElem?_cons_succ, List.getElem?_cons_zero, Option.some.injEq] at this
    rw [this]
    simp [T.txt, wT, chanW]
    omega
  rw [place_at hlt, hq]
theorem law7 (xs : List AVal) (h : WTL [tCh, tCh] xs) : pureF C16 6 7 xs = some (.bool true) := by
  simp only [WTL] at h
  obtain ⟨a, _, rfl, ha, b, _, rfl, hb, rfl⟩ := h
  obtain ⟨a, rfl, hal⟩ := wt_ch ha
  obtain ⟨b, rfl, hbl⟩ := wt_ch hb
  clear ha hb
  have e12a : F12 [.agg [.slc 14 [CK a]]] = some (.agg [.slc 14 [CK (cutC a)]]) := F12_eq (l := [a]) (Rg.slc [a]) (by simp)
  have e12b : F12 [.agg [.slc 14 [CK b]]] = some (.agg [.slc 14 [CK (cutC b)]]) := F12_eq (l := [b]) (Rg.slc [b]) (by simp)
  have hca : (cutC a).n.length ≤ 20 := by simp [cutC]; omega
  have hcb : (cutC b).n.length ≤ 20 := by simp [cutC]; omega
  have ia := (show RC (.slc 14 [CK (cutC a)]) [cutC a] from Rg.slc [cutC a]).ia (i := 0) (by simp)
  have ib := (show RC (.slc 14 [CK (cutC b)]) [cutC b] from Rg.slc [cutC b]).ia (i := 0) (by simp)
  simp only [List.getElem_cons_zero] at ia ib
  generalize cutC a = p at *
  generalize cutC b = q at *
  have e13p := F13_eq (l := [p]) (Rg.slc [p]) (by simp) (by simp; omega)
  have e13q := F13_eq (l := [q]) (Rg.slc [q]) (by simp) (by simp; omega)
  simp only [List.map_cons, List.map_nil] at e13p e13q
  have e10 := F10_eq
  refine pureF_of (x := x7) rfl rfl ?_
  rw [x7_eq.1, x7_eq.2.1]
  simp only [CK] at e12a e12b
  have okp : rOk [p] ↔ chOk p := ⟨fun h => h.1 p (by simp), fun h => ⟨by simpa using h, by simp, by simp, by simp⟩⟩
  have okq : rOk [q] ↔ chOk q := ⟨fun h => h.1 q (by simp), fun h => ⟨by simpa using h, by simp, by simp, by simp⟩⟩
  unfold prtV at e13p e13q
  by_cases hp : chOk p
  · rw [if_pos (okp.2 hp)] at e13p
    by_cases hq : chOk q
    · rw [if_pos (okq.2 hq)] at e13q
      have lp : (prtR [p]).length ≤ 400 := by have := prtR_len (okp.2 hp).1; simpa using this
      have lq : (prtR [q]).length ≤ 400 := by have := prtR_len (okq.2 hq).1; simpa using this
      have happ : prtR [q] ++ prtR [p] = prtR [q, p] := by simp [prtR]
      have e8 := F8_eq (s := prtR [q] ++ prtR [p]) (by simp only [List.length_append]; omega)
      rw [happ] at e8
      by_cases hn : p.n = q.n
      · rw [parse_two hp hq hn] at e8
        simp only [parV] at e8
        rw [← happ] at e8
        have d1 : decide (p.n = q.n) = true := decide_eq_true hn
        generalize prtR [p] = tp at *
        generalize prtR [q] = tq at *
        simp (disch := first | omega | simp only [*, go_sem, ↓reduceIte, dropK_eq]) only [x7b, go_sem, ↓reduceIte, dropK_eq, callX_names (C := C16) (g := 12) rfl, ftC_names (C := C16) (g := 12) rfl, callX_known (C := C16) (g := 8) rfl, ft_call (C := C16) (g := 8) rfl, callX_known (C := C16) (g := 10) rfl, ft_call (C := C16) (g := 10) rfl, callX_known (C := C16) (g := 11) rfl, ft_call (C := C16) (g := 11) rfl, callX_known (C := C16) (g := 13) rfl, ft_call (C := C16) (g := 13) rfl, e8, e10, e12a, e12b, e13p, e13q, ia, ib, d1]
        exact Ends_plain rfl rfl
      · have hr2 : rOk [q, p] := by
          refine ⟨?_, ?_, by simp, by simp⟩
          · intro c hc
            simp only [List.mem_cons, List.not_mem_nil, or_false] at hc
            rcases hc with rfl | rfl
            · exact hq
            · exact hp
          · simp only [List.map_cons, List.map_nil, List.nodup_cons, List.mem_singleton, List.not_mem_nil, not_false_eq_true, List.nodup_nil, and_true]
            exact fun h => hn h.symm
        rw [parse_prt hr2] at e8
        simp only [parV] at e8
        rw [← happ] at e8
        have e11 := F11_eq (a := .slc 14 ([q, p].map CK)) (b := .slc 14 ([q, p].map CK)) (r := [q, p]) (q := [q, p]) (Rg.slc _) (Rg.slc _) (by simp) (by simp)
        rw [decide_eq_true rfl] at e11
        simp only [List.map_cons, List.map_nil, CK] at e11 e8
        have d1 : decide (p.n = q.n) = false := decide_eq_false hn
        generalize prtR [p] = tp at *
        generalize prtR [q] = tq at *
        simp (disch := first | omega | simp only [*, go_sem, ↓reduceIte, dropK_eq]) only [x7b, go_sem, ↓reduceIte, dropK_eq, callX_names (C := C16) (g := 12) rfl, ftC_names (C := C16) (g := 12) rfl, callX_names (C := C16) (g := 11) rfl, ftC_names (C := C16) (g := 11) rfl, callX_known (C := C16) (g := 8) rfl, ft_call (C := C16) (g := 8) rfl, callX_known (C := C16) (g := 10) rfl, ft_call (C := C16) (g := 10) rfl, callX_known (C := C16) (g := 13) rfl, ft_call (C := C16) (g := 13) rfl, e8, e10, e11, e12a, e12b, e13p, e13q, ia, ib, d1]
        exact Ends_plain rfl rfl
    · rw [if_neg (fun h => hq (okq.1 h))] at e13q
      simp (disch := first | omega | simp only [*, go_sem, ↓reduceIte, dropK_eq]) only [x7b, go_sem, ↓reduceIte, dropK_eq, callX_names (C := C16) (g := 12) rfl, ftC_names (C := C16) (g := 12) rfl, callX_known (C := C16) (g := 8) rfl, ft_call (C := C16) (g := 8) rfl, callX_known (C := C16) (g := 10) rfl, ft_call (C := C16) (g := 10) rfl, callX_known (C := C16) (g := 11) rfl, ft_call (C := C16) (g := 11) rfl, callX_known (C := C16) (g := 13) rfl, ft_call (C := C16) (g := 13) rfl, e10, e12a, e12b, e13p, e13q, ia, ib]
      exact Ends_plain rfl rfl
  · rw [if_neg (fun h => hp (okp.1 h))] at e13p
    by_cases hq : chOk q
    · rw [if_pos (okq.2 hq)] at e13q
      simp (disch := first | omega | simp only [*, go_sem, ↓reduceIte, dropK_eq]) only [x7b, go_sem, ↓reduceIte, dropK_eq, callX_names (C := C16) (g := 12) rfl, ftC_names (C := C16) (g := 12) rfl, callX_known (C := C16) (g := 8) rfl, ft_call (C := C16) (g := 8) rfl, callX_known (C := C16) (g := 10) rfl, ft_call (C := C16) (g := 10) rfl, callX_known (C := C16) (g := 11) rfl, ft_call (C := C16) (g := 11) rfl, callX_known (C := C16) (g := 13) rfl, ft_call (C := C16) (g := 13) rfl, e10, e12a, e12b, e13p, e13q, ia, ib]
      exact Ends_plain rfl rfl
    · rw [if_neg (fun h => hq (okq.1 h))] at e13q
      simp (disch := first | omega | simp only [*, go_sem, ↓reduceIte, dropK_eq]) only [x7b, go_sem, ↓reduceIte, dropK_eq, callX_names (C := C16) (g := 12) rfl, ftC_names (C := C16) (g := 12) rfl, callX_known (C := C16) (g := 8) rfl, ft_call (C := C16) (g := 8) rfl, callX_known (C := C16) (g := 10) rfl, ft_call (C := C16) (g := 10) rfl, callX_known (C := C16) (g := 11) rfl, ft_call (C := C16) (g := 11) rfl, callX_known (C := C16) (g := 13) rfl, ft_call (C := C16) (g := 13) rfl, e10, e12a, e12b, e13p, e13q, ia, ib]
      exact Ends_plain rfl rfl
end Go.Proofs.YtppehejnnjlkfaaGreatDoor
