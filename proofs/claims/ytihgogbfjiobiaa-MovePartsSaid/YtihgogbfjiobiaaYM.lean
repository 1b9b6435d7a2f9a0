/-
  Run: what the walk found is the document's; its contract.
-/
import Derived.Test.YtihgogbfjiobiaaYK
set_option linter.unusedVariables false
namespace Go.Proofs.Ytihgogbfjiobiaa
open Go Go.RowKit Go.Shelf

theorem wrap_in {x : Int} (h : -9223372036854775808 ≤ x ∧ x ≤ 9223372036854775807) : wrap64 x = x := by
  unfold wrap64
  omega
theorem stepW_eq {a b : Int} (ha : xOk a) (hb : xOk b) : stepW (a, b) = stepD a b := by
  simp only [xOk] at ha hb
  unfold stepW sub64 stepD
  rw [wrap_in (x := a - b) (by omega), wrap_in (x := b - a) (by omega)]
  split <;> split <;> omega
theorem fold_eq : ∀ (zs : List Int) (m : Mv) (acc : List Int), mvOk m → 0 < m.n → allX zs → m.n + zs.length ≤ 1000000000 →
    zs.foldl stepM (m, acc) = (mvW m (pairsOf m.l zs), acc ++ (pairsOf m.l zs).map stepW)
  | [], m, acc, _, _, _, _ => by simp [pairsOf, mvW]
  | x :: r, m, acc, hm, h0, hx, hn => by
    have hxx := hx x (by simp)
    have hl : xOk m.l := by
      obtain ⟨n, l, s⟩ := m
      simp only [mvOk, mOk, xOk] at hm h0 ⊢
      omega
    have hd := dOf_le hm hxx
    have ed : dOf m x = stepD m.l x := if_pos h0
    have es := stepW_eq hl hxx
    have hk : mvOk (nextM m x) := next_ok hm hxx (by rw [List.length_cons] at hn; omega)
    have hq : (⟨wrap64 (m.n + 1), x, wrap64 (m.s + stepW (m.l, x))⟩ : Mv) = nextM m x := by
      rw [es, ← ed]
      have : 0 ≤ m.s ∧ m.s ≤ 2000000 * 1000000000 ∧ m.n ≤ 1000000000 := by
        obtain ⟨n, l, s⟩ := m
        simp only [mvOk, mOk] at hm h0 ⊢
        omega
      rw [wrap_in (x := m.n + 1) (by omega), wrap_in (x := m.s + dOf m x) (by omega)]
      rfl
    rw [List.foldl_cons]
    have e1 : stepM (m, acc) x = (nextM m x, acc ++ [dOf m x]) := by simp only [stepM, if_pos h0]
    rw [e1, fold_eq r (nextM m x) _ hk (by show 0 < m.n + 1; omega) (fun y hy => hx y (by simp [hy])) (by show m.n + 1 + _ ≤ _; rw [List.length_cons] at hn; omega)]
    show (mvW (nextM m x) (pairsOf x r), _) = _
    rw [pairsOf, List.map_cons, es, ← ed]
    show _ = (mvW ⟨wrap64 (m.n + 1), x, wrap64 (m.s + stepW (m.l, x))⟩ (pairsOf x r), _)
    rw [hq]
    simp
    rfl
theorem runW_eq {m : Mv} {zs : List Int} (hm : mvOk m) (hx : allX zs) (hn : m.n + zs.length ≤ 1000000000) : runW m zs = (runM m zs).1 ∧ stepsW m zs = (runM m zs).2 := by
  by_cases h0 : m.n = 0
  · have e0 : m = ⟨0, 0, 0⟩ := by
      obtain ⟨n, l, s⟩ := m
      simp only [mvOk, mOk] at hm
      simp only at h0
      subst h0
      simp only [Mv.mk.injEq, true_and]
      omega
    subst e0
    cases zs with
    | nil => exact ⟨by simp [runW, firstM, restM, pairsOf, mvW, runM], by simp [stepsW, firstM, restM, pairsOf, runM]⟩
    | cons x r =>
      have hxx := hx x (by simp)
      have e1 : runM ⟨0, 0, 0⟩ (x :: r) = r.foldl stepM (⟨1, x, 0⟩, []) := by
        rw [runM, List.foldl_cons]
        rfl
      rw [List.length_cons] at hn
      simp only at hn
      rw [e1, fold_eq r ⟨1, x, 0⟩ [] (by simp only [mvOk, mOk, xOk] at hxx ⊢; omega) (by simp) (fun y hy => hx y (by simp [hy])) (by simp only; omega)]
      exact ⟨rfl, by simp [stepsW, firstM, restM]⟩
  · have hp : 0 < m.n := by
      obtain ⟨n, l, s⟩ := m
      simp only [mvOk, mOk] at hm h0 ⊢
      omega
    rw [runM, fold_eq zs m [] hm hp hx hn]
    exact ⟨by simp [runW, firstM, restM, h0], by simp [stepsW, firstM, restM, h0]⟩
theorem run_calls {m : Mv} {zs : List Int} {a : Go.Xec.AVal} {ao : Option Addr} {cp : Nat} (w : World) (hL : Go.Xec.Laid Try.prog w) (hm : mvOk m) (hx : allX zs) (hlen : zs.length ≤ 100000) (hn : m.n + zs.length ≤ 1000000000)
    (hcap : zs.length ≤ cp) (ha : RI a zs) (hv : Go.Xec.V (Go.Xec.ctx0 w fun b => b < w.heap.size) a (.slice ao zs.length cp)) (hcs : IntsAt w.heap.size w ao zs) :
    Calls Try.prog 7 #[.agg #[.int .i64 m.n, .int .i64 m.l, .int .i64 m.s], .slice ao zs.length cp] w fun e w' => ∃ v, e = .returned (.tuple #[.agg #[.int .i64 (runM m zs).1.n, .int .i64 (runM m zs).1.l, .int .i64 (runM m zs).1.s], v, .int .i64 0]) ∧
      w'.ownsRow w.heap.size 3 1 v (runM m zs).2.length ((runM m zs).2.map (Value.int .i64)) ∧ (v = .slice none 0 0 ↔ (runM m zs).2 = []) ∧ Below w.heap.size w w' := by
  obtain ⟨e1, e2⟩ := runW_eq hm hx hn
  rw [← e1, ← e2]
  by_cases h0 : m.n = 0
  · by_cases hz : zs = []
    · exact run_B w hL hm hx hlen hn hcap ha hv hcs ⟨h0, hz⟩
    · obtain ⟨x, r, hz⟩ := List.exists_cons_of_ne_nil hz
      exact run_C w hL hm hx hlen hn hcap ha hv hcs ⟨h0, hz⟩
  · exact run_A w hL hm hx hlen hn hcap ha hv hcs h0
theorem vr_get1 {x : Go.Xec.Ctx} {b : Nat} : ∀ (l : List Int) (o : Nat), Go.Xec.VR x 1 (l.map (Go.Xec.AVal.int .i64)) b o → ∀ i (hi : i < l.length), x.w.cell? ⟨b, o + i, none⟩ = some (.int .i64 l[i])
  | [], _, _, i, hi => by simp at hi
  | n :: l, o, h, i, hi => by
    simp only [List.map_cons, Go.Xec.VR, Go.Xec.VE, Go.Xec.V] at h
    obtain ⟨⟨_, v, hv, rfl⟩, h2⟩ := h
    cases i with
    | zero => exact hv
    | succ i =>
      have := vr_get1 l (o + 1) h2 i (by simpa using hi)
      rw [show o + 1 + i = o + (i + 1) by omega] at this
      simpa using this
theorem vr_ints {x : Go.Xec.Ctx} {b : Nat} : ∀ (ns : List Int) (o : Nat), (∀ i (h : i < ns.length), x.w.cell? ⟨b, o + i, none⟩ = some (.int .i64 ns[i])) → Go.Xec.VR x 1 (ns.map (Go.Xec.AVal.int .i64)) b o
  | [], _, _ => by simp only [List.map_nil, Go.Xec.VR]
  | n :: ns, o, h => by
    simp only [List.map_cons, Go.Xec.VR, Go.Xec.VE, Go.Xec.V]
    refine ⟨⟨trivial, _, h 0 (by simp), rfl⟩, vr_ints ns (o + 1) fun i hi => ?_⟩
    have := h (i + 1) (by simp; omega)
    rw [show o + 1 + i = o + (i + 1) by omega, this]
    rfl
theorem ri_val {w : World} {a : Go.Xec.AVal} {l : List Int} {v : Value} (ha : RI a l) (h : Go.Xec.V (Go.Xec.ctx0 w fun b => b < w.heap.size) a v) :
    ∃ ao cp, v = .slice ao l.length cp ∧ l.length ≤ cp ∧ IntsAt w.heap.size w ao l := by
  rcases ha with ⟨rfl, rfl⟩ | ⟨rfl, rfl⟩ | rfl
  · simp only [Go.Xec.V] at h
    subst h
    exact ⟨_, _, rfl, Nat.le_refl _, fun i hi => absurd hi (by simp)⟩
  · simp only [Go.Xec.V] at h
    obtain ⟨q, rfl⟩ := h
    exact ⟨_, _, rfl, Nat.le_refl _, fun i hi => absurd hi (by simp)⟩
  · simp only [Go.Xec.V] at h
    obtain ⟨b, o, cp, rfl, hc, hS, hr⟩ := h
    refine ⟨some ⟨b, o, none⟩, cp, by simp, by simpa using hc, fun i hi => ⟨b, o, rfl, ?_, vr_get1 l o hr i hi⟩⟩
    rcases hS with h0 | h0
    · rw [List.map_eq_nil_iff] at h0
      rw [h0] at hi
      simp at hi
    · exact h0
theorem sound7 : Go.Xec.Sound Try.prog 7 F7 := by
  refine Go.Xec.sound_calls Try.func7 (by kernel_rfl) (by kernel_rfl) ?_
  intro ys r hr w S vs hS hL hl
  unfold F7 at hr
  split at hr
  · rename_i n l s a
    split at hr
    · rename_i h
      obtain ⟨hn0, h⟩ := h
      obtain ⟨h1, h2⟩ := h.choose_spec
      generalize h.choose = zs at hr h1 h2
      cases hr
      have hg : Go.Xec.Grow (Go.Xec.ctx0 w S) (Go.Xec.ctx0 w fun b => b < w.heap.size) := ⟨fun b hb => hS b hb, fun _ _ => rfl, fun _ _ _ h => h, fun _ => Nat.le_refl _⟩
      simp only [Go.Xec.VL, Go.Xec.V] at hl
      obtain ⟨_, _, rfl, ⟨cs, rfl, _, _, rfl, rfl, _, _, rfl, rfl, _, _, rfl, rfl, rfl⟩, u, _, rfl, hu, rfl⟩ := hl
      have hu := Go.Xec.V_grow hg _ _ hu
      obtain ⟨ao, cp, rfl, hcap, hcs⟩ := ri_val h1 hu
      have no : ∀ k, Calls Try.prog 7 #[.agg #[.int .i64 n, .int .i64 l, .int .i64 s], .slice ao zs.length cp] w (NoPost w k) → runV ⟨n, l, s⟩ zs = .tup [MV 0 0 0, .nils, .int .i64 k] →
          Calls Try.prog 7 #[.agg #[.int .i64 n, .int .i64 l, .int .i64 s], .slice ao zs.length cp] w fun e w' => ∃ v, e = .returned v ∧ w.heap.size ≤ w'.heap.size ∧ (∀ b, b < w.heap.size → w'.heap[b]? = w.heap[b]?) ∧ Go.Xec.SameEnv w w' ∧ Go.Xec.V (Go.Xec.ctx0 w' fun b => S b ∨ (w.heap.size ≤ b ∧ b < w'.heap.size)) (runV ⟨n, l, s⟩ zs) v := by
        intro k hk e
        rw [e]
        refine hk.mono ?_
        rintro e w' ⟨rfl, hb⟩
        obtain ⟨e1, e2, e3⟩ := Go.Xec.env_below hb
        refine ⟨_, rfl, e1, e2, e3, ?_⟩
        simp only [Go.Xec.V, Go.Xec.VL]
        exact ⟨_, rfl, _, _, rfl, ⟨_, rfl, _, _, rfl, rfl, _, _, rfl, rfl, _, _, rfl, rfl, rfl⟩, _, _, rfl, rfl, _, _, rfl, rfl, rfl⟩
      by_cases hm : mvOk ⟨n, l, s⟩
      · by_cases hx : allX zs
        · by_cases hf : 1000000000 - n < (zs.length : Int)
          · exact no 11 (no11 (m := ⟨n, l, s⟩) w hL hn0 hm hx h2 hf h1 hu) (by unfold runV; rw [if_neg (fun h => h hm), if_neg (fun h => h hx), if_pos hf])
          · have er : runV ⟨n, l, s⟩ zs = .tup [MA (runM ⟨n, l, s⟩ zs).1, Go.Xec.rowN 1 ((runM ⟨n, l, s⟩ zs).2.map (Go.Xec.AVal.int .i64)), .int .i64 0] := by unfold runV; rw [if_neg (fun h => h hm), if_neg (fun h => h hx), if_neg hf]
            rw [er]
            refine (run_calls (m := ⟨n, l, s⟩) w hL hm hx h2 (by simp only; omega) hcap h1 hu hcs).mono ?_
            rintro e w' ⟨v, rfl, ho, hnil, hb⟩
            generalize runM ⟨n, l, s⟩ zs = q at *
            obtain ⟨e1, e2, e3⟩ := Go.Xec.env_below hb
            refine ⟨_, rfl, e1, e2, e3, ?_⟩
            simp only [Go.Xec.V, Go.Xec.VL]
            refine ⟨_, rfl, _, _, rfl, ⟨_, rfl, _, _, rfl, rfl, _, _, rfl, rfl, _, _, rfl, rfl, rfl⟩, _, _, rfl, ?_, _, _, rfl, rfl, rfl⟩
            by_cases hq : q.2 = []
            · rw [hq, hnil.2 hq]
              simp only [List.map_nil, Go.Xec.rowN, Go.Xec.V]
            · have hr : Go.Xec.rowN 1 (q.2.map (Go.Xec.AVal.int .i64)) = .slc 1 (q.2.map (Go.Xec.AVal.int .i64)) := by
                cases hq2 : q.2 with
                | nil => exact absurd hq2 hq
                | cons y ys => rfl
              rw [hr]
              rcases ho.2 with ⟨h3, _⟩ | ⟨g, cap, cur, rfl, hg1, hg2, hg3, hg4, hg5, hg6⟩
              · exact absurd (hnil.1 h3) hq
              · simp only [Go.Xec.V]
                refine ⟨g, 0, cap, by simp, by simpa using hg3, .inr (.inr ⟨hg1, (Array.getElem?_eq_some_iff.1 hg2).1⟩), vr_ints _ _ fun i hi => ?_⟩
                show w'.cell? ⟨g, 0 + i, none⟩ = _
                refine cell_at hg2 ?_
                have h6 := congrArg (fun l => l[i]?) hg6
                simp only [List.getElem?_take, Nat.mul_one, List.getElem?_map] at h6
                rw [if_pos hi, List.getElem?_eq_getElem hi] at h6
                rw [Nat.zero_add]
                simpa using h6
        · exact no 3 (no3 (m := ⟨n, l, s⟩) w hL hn0 hm hx h2 h1 hu) (by unfold runV; rw [if_neg (fun h => h hm), if_pos hx])
      · exact no 1 (no1 (m := ⟨n, l, s⟩) w hL hn0 hm) (by unfold runV; rw [if_pos hm])
    · cases hr
  · cases hr
end Go.Proofs.Ytihgogbfjiobiaa
