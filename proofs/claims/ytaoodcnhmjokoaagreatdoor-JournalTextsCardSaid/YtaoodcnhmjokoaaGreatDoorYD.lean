/-
  One more line, as the program reads it.
-/
import Derived.Test.YtaoodcnhmjokoaaGreatDoorYC
set_option linter.unusedVariables false
set_option linter.unusedSimpArgs false
namespace Go.Proofs.YtaoodcnhmjokoaaGreatDoor
open Go Go.Xec
attribute [local go_sem] tm0 ne_eq not_false_eq_true List.length_append List.length_replicate List.replicate_succ List.replicate_zero Int.cast_ofNat_Int not_true_eq_false decide_true decide_false ite_self beq_self_eq_true Bool.true_beq Bool.false_beq Bool.not_true Bool.not_false
open Nat renaming reduceAdd → Nra, reduceMul → Nrb, reduceSub → Nrc, reduceLeDiff → Nrd, reduceLT → Nre, reduceEqDiff → Nrf, reducePow → Nrr
open Int renaming reduceLT → Irg, reduceLE → Irh, reduceAdd → Iri, reduceSub → Irj, reduceMul → Irk, reduceToNat → Irl, reducePow → Irm, reduceNe → Irn, reduceMod → Iro, reduceDiv → Irp, reduceEq → Irq, reduceNeg → Irs

set_option maxRecDepth 10000
/-- What a line opens to. -/
noncomputable def opT (s : List UInt8) : List UInt8 := (L.openV_tup s).choose
noncomputable def opE (s : List UInt8) : Int := (L.openV_tup s).choose_spec.choose
theorem openV_op (s : List UInt8) : L.openV s = .tup [sv (opT s), .int .i64 (opE s)] := (L.openV_tup s).choose_spec.choose_spec.1
theorem op_or (s : List UInt8) : (opE s = 0 ∧ L.lineOk (opT s) ∧ L.sealV (opT s) = s) ∨ (¬ opE s = 0 ∧ opT s = []) := (L.openV_tup s).choose_spec.choose_spec.2
theorem op_seal {l : List UInt8} (h : L.lineOk l) : opE (L.sealV l) = 0 ∧ opT (L.sealV l) = l := by
  have h1 := openV_op (L.sealV l)
  rw [L.open_back h] at h1
  simp only [AVal.tup.injEq, List.cons.injEq, AVal.str.injEq, AVal.int.injEq, true_and, and_true, bs_inj] at h1
  exact ⟨h1.2.symm, h1.1.symm⟩
theorem opT_len (s : List UInt8) : (opT s).length ≤ s.length := by
  rcases op_or s with ⟨_, _, h⟩ | ⟨_, h⟩
  · have := L.sealV_len (opT s)
    rw [h] at this
    omega
  · rw [h]; exact Nat.zero_le _
/-- The numbers of a row of at most five. -/
noncomputable def cntN (s : List UInt8) : Option (List Int) := if (parts 32 s).length ≤ 5 ∧ (goodN (parts 32 s)).length = (parts 32 s).length then some (goodN (parts 32 s)) else none
noncomputable def manyN (s : List UInt8) : Int := match cntN s with
  | some ns => ns.length
  | none => -1
noncomputable def arrN (s : List UInt8) : List Int := if (parts 32 s).length ≤ 5 then goodN (parts 32 s) else []
theorem F49_all {s : List UInt8} (hs : s.length ≤ 100000) : F49 [sv s] = some (.tup [.agg (padA (arrN s)), .int .i64 (manyN s)]) := by
  unfold arrN manyN cntN
  by_cases h5 : (parts 32 s).length ≤ 5
  · rw [F49_eq hs h5, if_pos h5]
    by_cases h : (goodN (parts 32 s)).length = (parts 32 s).length
    · rw [if_pos h, if_pos ⟨h5, h⟩]
      simp only [h]
    · rw [if_neg h, if_neg (fun h' => h h'.2)]
  · rw [F49_long hs (by omega), if_neg h5, if_neg (fun h' => h5 h'.1)]
theorem arrN_cnt {s : List UInt8} {ns : List Int} (h : cntN s = some ns) : arrN s = ns ∧ manyN s = ns.length := by
  unfold manyN
  rw [h]
  refine ⟨?_, rfl⟩
  unfold cntN at h
  unfold arrN
  split at h
  · rename_i h1
    rw [if_pos h1.1]
    simpa using h
  · cases h
theorem goodN_ok : ∀ ls, ∀ n ∈ goodN ls, numOk n
  | [], n, h => by simp [goodN] at h
  | s :: r, n, h => by
    rw [goodN] at h
    cases hn : numOf s with
    | none => rw [hn] at h; simp at h
    | some m =>
      rw [hn] at h
      rcases List.mem_cons.1 h with rfl | h
      · exact (numOf_some hn).1
      · exact goodN_ok r n h
theorem cntN_ok {s : List UInt8} {ns : List Int} (h : cntN s = some ns) : ∀ n ∈ ns, numOk n := by
  unfold cntN at h
  split at h
  · cases h
    exact goodN_ok _
  · cases h
abbrev JS := Int × Int × List En
/-- One more line. -/
noncomputable def rdS (first : Bool) (j : JS) (line : List UInt8) : Except Int JS :=
  if opE line ≠ 0 then .error (opE line)
  else if first = true then
    if Lib.hasPrefix (opT line) [108, 111, 103, 32] = true then match cntN (Lib.trimPrefix (opT line) [108, 111, 103, 32]) with
      | some [c, f] => .ok (c, f, j.2.2)
      | _ => .error 14
    else .error 14
  else match cntN (opT line) with
    | some [n, k, c, s, v] => if n = j.2.1 + j.2.2.length then .ok (j.1, j.2.1, j.2.2 ++ [⟨k, c, s, v⟩]) else .error 14
    | _ => .error 14
noncomputable def C12 : Cfg := (((C11.add 49 F49).add 47 L.F47).add 48 F_cutp).add 31 F_cuts
theorem ok12 : CfgOk Tryz.prog C12 := (((ok11.add sound49).add L.sound47).add sound48).add sound31
theorem trimP_len (l p : List UInt8) : (Lib.trimPrefix l p).length ≤ l.length := by
  unfold Lib.trimPrefix
  split
  · simp
  · exact Nat.le_refl _
theorem many_ne {s : List UInt8} {m : Nat} (h : ∀ ns, cntN s = some ns → ns.length ≠ m) : ¬ manyN s = (m : Int) := by
  unfold manyN
  cases hc : cntN s with
  | none => simp only; omega
  | some ns =>
    have := h ns hc
    simp only
    omega
set_option maxHeartbeats 1000000 in
theorem read33 {d : Nat} {κ : Key} {hp : Heap} {nc : Nat} {K : AVal × Heap × Nat → Prop} {first : Bool} {line : List UInt8} {cap fst : Int} {a : AVal} {es : List En}
    (hl : line.length ≤ 100000) (hκ : κ = (18004000, 3)) (hk : hp κ = some (.var [.int .i64 cap, .int .i64 fst, a])) (ho : Own [33014015] 4 hp a (es.map EK)) (h0 : es = [] → a = .nils) (hf : numOk fst) (hes : es.length ≤ 100000)
    (hE : ∀ e hp' nc', rdS first (cap, fst, es) line = .error e → (∀ k, k.1 < 33000000 → hp' k = hp k) → K (.int .i64 e, hp', nc'))
    (hO : ∀ c f l a' hp' nc', rdS first (cap, fst, es) line = .ok (c, f, l) → hp' κ = some (.var [.int .i64 c, .int .i64 f, a']) → Own [33014015] 4 hp' a' (l.map EK) → (l = [] → a' = .nils) → (∀ k, k.1 < 33000000 → k ≠ κ → hp' k = hp k) → K (.int .i64 0, hp', nc')) :
    Bd (inlD C12 (d + 1) 33 [.ptr κ 0 0 0 0, .bool first, sv line] hp nc) K := by
  have e47 := L.F47_eq hl
  rw [openV_op] at e47
  have hol := opT_len line
  refine inl_of (x := x33) rfl rfl ?_
  rw [x33_eq.1, x33_eq.2.1]
  unfold rdS at hE hO
  by_cases h1 : opE line = 0
  · have d1 : decide (¬ opE line = 0) = false := decide_eq_false (fun h => h h1)
    rw [if_neg (fun h => h h1)] at hE hO
    cases first with
    | true =>
      rw [if_pos rfl] at hE hO
      have e48 := F_cutp_eq (opT line) [108, 111, 103, 32]
      have htl := trimP_len (opT line) [108, 111, 103, 32]
      have e49 := F49_all (s := Lib.trimPrefix (opT line) [108, 111, 103, 32]) (by omega)
      by_cases h2 : Lib.hasPrefix (opT line) [108, 111, 103, 32] = true
      · rw [if_pos h2] at hE hO
        simp only [h2] at e48
        by_cases h3 : ∃ c f, cntN (Lib.trimPrefix (opT line) [108, 111, 103, 32]) = some [c, f]
        · obtain ⟨c, f, h3⟩ := h3
          obtain ⟨ea, em⟩ := arrN_cnt h3
          rw [ea, em] at e49
          simp only [h3] at hE hO
          rw [show padA [c, f] = [.int .i64 c, .int .i64 f, .int .i64 0, .int .i64 0, .int .i64 0] from rfl] at e49
          subst hκ
          simp (disch := first | omega | simp only [*, go_sem, ↓reduceIte, Nra, Nrb, Nrc, Nrd, Nre, Nrf, Irg, Irh, Iri, Irj, Irk, Irl, Irm, Irn, Iro, Irp, Irq, Nrr, Irs, dropK_eq]) only [x33b, go_sem, ↓reduceIte, Nra, Nrb, Nrc, Nrd, Nre, Nrf, Irg, Irh, Iri, Irj, Irk, Irl, Irm, Irn, Iro, Irp, Irq, Nrr, Irs, dropK_eq, callX_known (C := C12) (g := 47) rfl, ft_call (C := C12) (g := 47) rfl, callX_known (C := C12) (g := 48) rfl, ft_call (C := C12) (g := 48) rfl, callX_known (C := C12) (g := 49) rfl, ft_call (C := C12) (g := 49) rfl, e47, e48, e49, d1, List.length_cons, List.length_nil, hk]
          refine hO _ _ _ _ _ _ rfl (by simp only [go_sem, ↓reduceIte, Nra, Nrb, Nrc, Nrd, Nre, Nrf, Irg, Irh, Iri, Irj, Irk, Irl, Irm, Irn, Iro, Irp, Irq, Nrr, Irs, dropK_eq]) (ho.keep (fun k hk' => by repeat rw [upd_ne _ _ (by rintro rfl; simp at hk')])) h0 (fun k hk' hne => by repeat rw [upd_ne _ _ (by rintro rfl; first | exact hne rfl | simp at hk')])
        · have hm : ¬ manyN (Lib.trimPrefix (opT line) [108, 111, 103, 32]) = ((2 : Nat) : Int) := many_ne fun ns hns h2 => by
            match ns, h2, hns with
            | [c, f], _, hns => exact h3 ⟨c, f, hns⟩
          have d2 : decide (¬ manyN (Lib.trimPrefix (opT line) [108, 111, 103, 32]) = 2) = true := decide_eq_true (by simpa using hm)
          have hE := fun hp' nc' => hE 14 hp' nc' (by
            split
            · rename_i c f h
              exact absurd ⟨c, f, h⟩ h3
            · rfl)
          simp only [padA] at e49
          simp (disch := first | omega | simp only [*, go_sem, ↓reduceIte, Nra, Nrb, Nrc, Nrd, Nre, Nrf, Irg, Irh, Iri, Irj, Irk, Irl, Irm, Irn, Iro, Irp, Irq, Nrr, Irs, dropK_eq]) only [x33b, go_sem, ↓reduceIte, Nra, Nrb, Nrc, Nrd, Nre, Nrf, Irg, Irh, Iri, Irj, Irk, Irl, Irm, Irn, Iro, Irp, Irq, Nrr, Irs, dropK_eq, callX_known (C := C12) (g := 47) rfl, ft_call (C := C12) (g := 47) rfl, callX_known (C := C12) (g := 48) rfl, ft_call (C := C12) (g := 48) rfl, callX_known (C := C12) (g := 49) rfl, ft_call (C := C12) (g := 49) rfl, e47, e48, e49, d1, d2, hk]
          exact hE _ _ (fun k hk' => by first | rfl | (repeat rw [upd_ne _ _ (by rintro rfl; simp at hk')]))
      · have h2' : Lib.hasPrefix (opT line) [108, 111, 103, 32] = false := by simpa using h2
        rw [if_neg h2] at hE
        simp only [h2'] at e48
        have hE := fun hp' nc' => hE 14 hp' nc' rfl
        simp only [padA] at e49
        simp (disch := first | omega | simp only [*, go_sem, ↓reduceIte, Nra, Nrb, Nrc, Nrd, Nre, Nrf, Irg, Irh, Iri, Irj, Irk, Irl, Irm, Irn, Iro, Irp, Irq, Nrr, Irs, dropK_eq]) only [x33b, go_sem, ↓reduceIte, Nra, Nrb, Nrc, Nrd, Nre, Nrf, Irg, Irh, Iri, Irj, Irk, Irl, Irm, Irn, Iro, Irp, Irq, Nrr, Irs, dropK_eq, callX_known (C := C12) (g := 47) rfl, ft_call (C := C12) (g := 47) rfl, callX_known (C := C12) (g := 48) rfl, ft_call (C := C12) (g := 48) rfl, callX_known (C := C12) (g := 49) rfl, ft_call (C := C12) (g := 49) rfl, e47, e48, e49, d1, hk]
        exact hE _ _ (fun k hk' => by first | rfl | (repeat rw [upd_ne _ _ (by rintro rfl; simp at hk')]))
    | false =>
      rw [if_neg (by simp)] at hE hO
      have e49 := F49_all (s := opT line) (by omega)
      have hlv := ho.len
      have hscl := ho.sc
      have hcel := ho.cells
      by_cases h3 : ∃ n k c s v, cntN (opT line) = some [n, k, c, s, v]
      · obtain ⟨n, k, c, s, v, h3⟩ := h3
        obtain ⟨ea, em⟩ := arrN_cnt h3
        have hn := cntN_ok h3 n (by simp)
        rw [ea, em] at e49
        simp only [h3] at hE hO
        rw [show padA [n, k, c, s, v] = [.int .i64 n, .int .i64 k, .int .i64 c, .int .i64 s, .int .i64 v] from rfl] at e49
        subst hκ
        have hf : -1000000000 ≤ fst ∧ fst ≤ 1000000000 := hf
        have hn : -1000000000 ≤ n ∧ n ≤ 1000000000 := hn
        rw [List.length_map] at hlv
        by_cases h4 : n = fst + (es.length : Int)
        · have d4 : decide (¬ n = fst + (es.length : Int)) = false := decide_eq_false (fun h => h h4)
          simp only [if_pos h4] at hO
          have hko : Own [33014015] 4 (upd (upd hp (33011005, nc + 1 + 1 + 1 + 1) (some (.var [.int .i64 0, .int .i64 0, .int .i64 0, .int .i64 0, .int .i64 0]))) (33011005, nc + 1 + 1 + 1 + 1) (some (.var [.int .i64 n, .int .i64 k, .int .i64 c, .int .i64 s, .int .i64 v]))) a (es.map EK) := ho.keep (fun k hk' => by repeat rw [upd_ne _ _ (by rintro rfl; simp at hk')])
          obtain ⟨V, H, hA, hH⟩ := hko.push (s0 := 33014015) (s1 := 33014014) (z := .agg [.int .i64 k, .int .i64 c, .int .i64 s, .int .i64 v]) (bytes := 32) (by simp) (by simp) rfl rfl (by rw [List.length_map]; omega)
          have hHk : ∀ q q', H q q' (18004000, 3) = some (.var [.int .i64 cap, .int .i64 fst, a]) := fun q q' => by
            rw [(hH q q').2 _ (by simp) (by simp)]
            simp only [go_sem, ↓reduceIte, Nra, Nrb, Nrc, Nrd, Nre, Nrf, Irg, Irh, Iri, Irj, Irk, Irl, Irm, Irn, Iro, Irp, Irq, Nrr, Irs, dropK_eq]
            exact hk
          have hVs := fun q q' => (hH q q').1.sc
          have hVc := fun q q' => (hH q q').1.cells
          simp (disch := first | omega | simp only [*, go_sem, ↓reduceIte, Nra, Nrb, Nrc, Nrd, Nre, Nrf, Irg, Irh, Iri, Irj, Irk, Irl, Irm, Irn, Iro, Irp, Irq, Nrr, Irs, dropK_eq]) only [x33b, go_sem, ↓reduceIte, Nra, Nrb, Nrc, Nrd, Nre, Nrf, Irg, Irh, Iri, Irj, Irk, Irl, Irm, Irn, Iro, Irp, Irq, Nrr, Irs, dropK_eq, callX_known (C := C12) (g := 47) rfl, ft_call (C := C12) (g := 47) rfl, callX_known (C := C12) (g := 49) rfl, ft_call (C := C12) (g := 49) rfl, e47, e49, d1, hk, hlv, hscl, hcel, d4, List.length_cons, List.length_nil, hA, hHk, hVs, hVc]
          refine hO _ _ _ _ _ _ rfl (by simp only [go_sem, ↓reduceIte, Nra, Nrb, Nrc, Nrd, Nre, Nrf, Irg, Irh, Iri, Irj, Irk, Irl, Irm, Irn, Iro, Irp, Irq, Nrr, Irs, dropK_eq]; rfl) ?_ (by simp) ?_
          · rw [List.map_append]
            exact (hH _ _).1.keep (fun k hk' => by repeat rw [upd_ne _ _ (by rintro rfl; simp at hk')])
          · intro k hk' hne
            rw [upd_ne _ _ hne, (hH _ _).2 _ (by simp; omega) (by omega)]
            repeat rw [upd_ne _ _ (by rintro rfl; simp at hk')]
        · have d4 : decide (¬ n = fst + (es.length : Int)) = true := decide_eq_true h4
          simp only [if_neg h4] at hE
          have hE := fun hp' nc' => hE 14 hp' nc' rfl
          simp (disch := first | omega | simp only [*, go_sem, ↓reduceIte, Nra, Nrb, Nrc, Nrd, Nre, Nrf, Irg, Irh, Iri, Irj, Irk, Irl, Irm, Irn, Iro, Irp, Irq, Nrr, Irs, dropK_eq]) only [x33b, go_sem, ↓reduceIte, Nra, Nrb, Nrc, Nrd, Nre, Nrf, Irg, Irh, Iri, Irj, Irk, Irl, Irm, Irn, Iro, Irp, Irq, Nrr, Irs, dropK_eq, callX_known (C := C12) (g := 47) rfl, ft_call (C := C12) (g := 47) rfl, callX_known (C := C12) (g := 49) rfl, ft_call (C := C12) (g := 49) rfl, e47, e49, d1, hk, hlv, hscl, hcel, d4, List.length_cons, List.length_nil]
          exact hE _ _ (fun k hk' => by first | rfl | (repeat rw [upd_ne _ _ (by rintro rfl; simp at hk')]))
      · have hm : ¬ manyN (opT line) = ((5 : Nat) : Int) := many_ne fun ns hns h2 => by
          match ns, h2, hns with
          | [n, k, c, s, v], _, hns => exact h3 ⟨n, k, c, s, v, hns⟩
        have d2 : decide (¬ manyN (opT line) = 5) = true := decide_eq_true (by simpa using hm)
        have hE := fun hp' nc' => hE 14 hp' nc' (by
          split
          · rename_i n k c s v h
            exact absurd ⟨n, k, c, s, v, h⟩ h3
          · rfl)
        simp only [padA] at e49
        simp (disch := first | omega | simp only [*, go_sem, ↓reduceIte, Nra, Nrb, Nrc, Nrd, Nre, Nrf, Irg, Irh, Iri, Irj, Irk, Irl, Irm, Irn, Iro, Irp, Irq, Nrr, Irs, dropK_eq]) only [x33b, go_sem, ↓reduceIte, Nra, Nrb, Nrc, Nrd, Nre, Nrf, Irg, Irh, Iri, Irj, Irk, Irl, Irm, Irn, Iro, Irp, Irq, Nrr, Irs, dropK_eq, callX_known (C := C12) (g := 47) rfl, ft_call (C := C12) (g := 47) rfl, callX_known (C := C12) (g := 48) rfl, ft_call (C := C12) (g := 48) rfl, callX_known (C := C12) (g := 49) rfl, ft_call (C := C12) (g := 49) rfl, e47, e49, d1, d2, hk]
        exact hE _ _ (fun k hk' => by first | rfl | (repeat rw [upd_ne _ _ (by rintro rfl; simp at hk')]))
  · have d1 : decide (¬ opE line = 0) = true := decide_eq_true h1
    rw [if_pos h1] at hE
    have hE := fun hp' nc' => hE _ hp' nc' rfl
    simp (disch := first | omega | simp only [*, go_sem, ↓reduceIte, Nra, Nrb, Nrc, Nrd, Nre, Nrf, Irg, Irh, Iri, Irj, Irk, Irl, Irm, Irn, Iro, Irp, Irq, Nrr, Irs, dropK_eq]) only [x33b, go_sem, ↓reduceIte, Nra, Nrb, Nrc, Nrd, Nre, Nrf, Irg, Irh, Iri, Irj, Irk, Irl, Irm, Irn, Iro, Irp, Irq, Nrr, Irs, dropK_eq, callX_known (C := C12) (g := 47) rfl, ft_call (C := C12) (g := 47) rfl, e47, d1, hk]
    exact hE _ _ (fun k hk' => by first | rfl | (repeat rw [upd_ne _ _ (by rintro rfl; simp at hk')]))
end Go.Proofs.YtaoodcnhmjokoaaGreatDoor
