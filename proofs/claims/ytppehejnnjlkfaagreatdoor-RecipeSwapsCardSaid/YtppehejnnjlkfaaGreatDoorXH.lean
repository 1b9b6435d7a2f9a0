/-
  Stores; rows that are made, cut and copied.
-/
import Derived.Test.YtppehejnnjlkfaaGreatDoorXG
set_option linter.unusedVariables false
set_option linter.unusedSimpArgs false
namespace Go.Xec
open Go

section
variable {P : Program} {B : Nat} {S0 : Base} {ρc : Operand → Value} {o : Oper} {x : Ctx} {h : Heap} {nc : Nat} {key : Key} {e : XArg → AVal}

theorem setRow_heap' {w : World} {b : Nat} {c : Array Value} {el : TypeId} {fr : Nat × Nat} (hb : w.heap[b]? = some (.cells c el fr)) (c' : Array Value) : (w.setRow b c').heap = w.heap.setIfInBounds b (.cells c' el fr) := by
  have hlt := heap_lt hb
  apply Array.ext_getElem?
  intro i
  simp only [World.setRow]
  by_cases hi : i = b
  · subst hi
    rw [Array.getElem?_modify, if_pos rfl, hb]
    simp [hlt]
  · rw [Array.getElem?_modify, if_neg (Ne.symm hi), Array.getElem?_setIfInBounds_ne (Ne.symm hi)]

/-- What lies in a block, as a list. -/
theorem VL_of_block {b oo : Nat} {c : Array Value} {el : TypeId} {fr : Nat × Nat} {as : List AVal} (hb : x.w.heap[b]? = some (.cells c el fr)) (hc : VC x as b oo) : VL x as ((c.toList.drop oo).take as.length) := by
  obtain ⟨us, h1, h2⟩ := VL_of_VC hc
  have : us = (c.toList.drop oo).take as.length := by
    have hl := h1.length
    apply List.ext_getElem?
    intro i
    by_cases hi : i < us.length
    · have h3 := h2 i _ (List.getElem?_eq_getElem hi)
      rw [cell_new hb] at h3
      rw [List.getElem?_take, if_pos (by omega), List.getElem?_drop]
      exact (List.getElem?_eq_getElem hi).trans (h3.symm.trans (by simp))
    · rw [List.getElem?_eq_none (by omega), List.getElem?_eq_none (by simp; omega)]
  rw [← this]
  exact h1

theorem VC_of_block {y : Ctx} {b oo : Nat} {c : Array Value} {el : TypeId} {fr : Nat × Nat} {as : List AVal} (hb : y.w.heap[b]? = some (.cells c el fr)) (hl : VL y as ((c.toList.drop oo).take as.length)) : VC y as b oo := by
  refine VC_of_VL hl (fun i u hi => ?_)
  rw [cell_new hb]
  rw [List.getElem?_take] at hi
  split at hi
  · rw [List.getElem?_drop, Array.getElem?_toList] at hi; exact hi
  · cases hi

theorem spliceV_length {cs new : List Value} {off : Nat} (h : off + new.length ≤ cs.length) : (spliceV cs off new).length = cs.length := by
  simp [spliceV]; omega

theorem spliceV_window {l us : List Value} {o q L : Nat} (h1 : q + us.length ≤ L) (h2 : o + L ≤ l.length) : ((spliceV l (o + q) us).drop o).take L = spliceV ((l.drop o).take L) q us := by
  apply List.ext_getElem?
  intro i
  simp only [spliceV, List.getElem?_take, List.getElem?_drop, List.getElem?_append, List.length_take, List.length_drop, List.length_append]
  by_cases hi : i < L
  · simp only [hi, if_true]
    by_cases h3 : i < q
    · have a1 : o + i < min (o + q) l.length := by omega
      have a2 : o + i < o + q := by omega
      have a3 : i < min q (min L (l.length - o)) := by omega
      simp only [a1, a2, a3, h3, if_true]
    · have a1 : ¬ (o + i < min (o + q) l.length) := by omega
      have a3 : ¬ (i < min q (min L (l.length - o))) := by omega
      have a4 : o + i - min (o + q) l.length = i - q := by omega
      have a5 : i - min q (min L (l.length - o)) = i - q := by omega
      simp only [a1, a3, if_false, a4, a5]
      by_cases h4 : i - q < us.length
      · simp only [h4, if_true]
      · simp only [h4, if_false]
        have a6 : q + us.length + (i - q - us.length) = i := by omega
        have a7 : o + q + us.length + (i - q - us.length) = o + i := by omega
        rw [a6, a7]
        simp only [hi, if_true]
  · simp only [hi, if_false]
    have a3 : ¬ (i < min q (min L (l.length - o))) := by omega
    have a5 : i - min q (min L (l.length - o)) = i - q := by omega
    have a4 : ¬ (i - q < us.length) := by omega
    have a6 : q + us.length + (i - q - us.length) = i := by omega
    simp only [a3, a5, a4, a6, hi, if_false]

/-- A write into a name's own block: where, what. -/
theorem writeOk (hs : Sim B S0 h nc x) {k : Key} {blk0 : Blk} {b oo : Nat} (hk : h k = some blk0) (hρ : x.ρ k blk0.gen = some (b, oo)) {c : Array Value} {el : TypeId} (hb : x.w.heap[b]? = some (.cells c el (0, 0))) {us : List Value} {q : Nat} (hq : oo + q + us.length ≤ c.size)
    {blk : Blk} (hg : blk.gen = blk0.gen) (hsc : ∀ u ∈ us, u.oneCell' = true)
    (hblk : ∀ y : Ctx, Grow x y → y.w.heap[b]? = some (.cells (spliceV c.toList (oo + q) us).toArray el (0, 0)) → BlkOk y b oo blk) :
    ∃ y, (storeCells ⟨b, oo + q, none⟩ us).run P x.w = .ok () y.w ∧ Sim B S0 (upd h k (some blk)) nc y ∧ Step B x y ∧ (∀ k' g p, y.ρ k' g = some p → ∃ g' p', x.ρ k' g' = some p') := by
  have hrun := run_storeCells_at (P := P) b (oo + q) el us 0 c x.w hb (by simpa using hq) hsc
  simp only [Nat.add_zero] at hrun
  have e1 : c.toList.take (oo + q) ++ us ++ c.toList.drop (oo + q + us.length) = spliceV c.toList (oo + q) us := by simp [spliceV]
  rw [e1] at hrun
  obtain ⟨y, h1, h2, h3, h4, h5, h6, h7⟩ := hs.write k blk0 b oo hk hρ blk0.gen oo blk (x.w.setRow b (spliceV c.toList (oo + q) us).toArray) c (spliceV c.toList (oo + q) us).toArray el hb
    (by simp only [List.size_toArray]; rw [spliceV_length (by simpa using hq)]; simp) hg (.inl ⟨rfl, rfl⟩) (setRow_heap' hb _) ⟨rfl, rfl, rfl⟩
  refine ⟨y, by rw [h1]; exact hrun, h7 (hblk y h5.grow h6), h5, ?_⟩
  intro k' g p hp
  rcases h4 k' g p hp with h8 | rfl
  · exact ⟨g, p, h8⟩
  · exact ⟨_, _, hρ⟩

theorem splice_in {cs seg new : List AVal} {p es off : Nat} (hseg : seg = (cs.drop p).take es) (hl : p + es ≤ cs.length) (ho : off + new.length ≤ es) : splice cs p (splice seg off new) = splice cs (p + off) new := by
  have hsl : seg.length = es := by rw [hseg]; simp; omega
  have hs' := splice_length (cs := seg) (new := new) (off := off) (by omega)
  have e0 : seg.take off = (cs.drop p).take off := by rw [hseg, List.take_take, Nat.min_eq_left (by omega)]
  have e1 : seg.drop (off + new.length) = (cs.drop (p + off + new.length)).take (es - (off + new.length)) := by
    rw [hseg, List.drop_take, List.drop_drop, Nat.add_assoc]
  have e2 : (cs.drop (p + off + new.length)).take (es - (off + new.length)) ++ cs.drop (p + es) = cs.drop (p + off + new.length) := by
    have : p + es = p + off + new.length + (es - (off + new.length)) := by omega
    have h5 := List.take_append_drop (es - (off + new.length)) (cs.drop (p + off + new.length))
    rw [List.drop_drop] at h5
    rw [this]
    exact h5
  have e3 : cs.take (p + off) = cs.take p ++ (cs.drop p).take off := by rw [List.take_add]
  show cs.take p ++ (splice seg off new ++ cs.drop (p + (splice seg off new).length)) = cs.take (p + off) ++ (new ++ cs.drop (p + off + new.length))
  rw [hs', hsl]
  unfold splice
  rw [e0, e1, e3]
  simp only [List.append_assoc]
  rw [e2]

theorem flat_seg {es : Nat} : ∀ {xs : List AVal} {i : Nat} {a : AVal}, (∀ b ∈ xs, (cellsOf b).length = es) → xs[i]? = some a → cellsOf a = ((xs.flatMap cellsOf).drop (i * es)).take es
  | [], i, a, _, hi => by simp at hi
  | b :: bs, 0, a, hl, hi => by
    simp at hi; subst hi
    have hb := hl b (by simp)
    simp only [List.flatMap_cons, Nat.zero_mul, List.drop_zero]
    rw [← hb, List.take_left]
  | b :: bs, i + 1, a, hl, hi => by
    simp at hi
    have hb := hl b (by simp)
    rw [flat_seg (fun c hc => hl c (List.mem_cons_of_mem _ hc)) hi]
    simp only [List.flatMap_cons]
    have e1 : (i + 1) * es = (cellsOf b).length + i * es := by rw [hb, Nat.succ_mul]; omega
    rw [e1, ← List.drop_drop, List.drop_left]

theorem cellsOf_sc {z : AVal} (h : isSc z = true) : cellsOf z = [z] := by
  cases z <;> simp_all [isSc, cellsOf]
theorem cellsOf_remake {a : AVal} {off : Nat} {new : List AVal} (ho : off + new.length ≤ (cellsOf a).length) (hsc : new.all isSc = true) : cellsOf (remake a (splice (cellsOf a) off new)) = splice (cellsOf a) off new := by
  by_cases ha : ∃ ys, a = .agg ys
  · obtain ⟨ys, rfl⟩ := ha; rfl
  · have hc : cellsOf a = [a] := by
      cases a <;> first | rfl | exact absurd ⟨_, rfl⟩ ha
    have hr : ∀ cs, remake a cs = cs.headD .undef := by
      intro cs
      cases a <;> first | rfl | exact absurd ⟨_, rfl⟩ ha
    rw [hc] at ho ⊢
    simp only [List.length_singleton] at ho
    match new, hsc, ho with
    | [], _, ho =>
      have : splice [a] off [] = [a] := by simp [splice]
      rw [this, hr]
      exact hc
    | [z], hsc, ho =>
      have h0 : off = 0 := by simp at ho; exact ho
      subst h0
      have : splice [a] 0 [z] = [z] := by simp [splice]
      rw [this, hr]
      simp only [List.all_cons, List.all_nil, Bool.and_true] at hsc
      exact cellsOf_sc hsc
    | _ :: _ :: _, _, ho => simp only [List.length_cons] at ho; omega

theorem VR_lens {x : Ctx} {es : Nat} : ∀ {as : List AVal} {b o : Nat}, VR x es as b o → ∀ a ∈ as, (cellsOf a).length = es
  | [], _, _, _, a, ha => by cases ha
  | c :: cs, b, o, hv, a, ha => by
    simp only [VR] at hv
    rcases List.mem_cons.1 ha with rfl | ha
    · exact (VE_cells hv.1).1
    · exact VR_lens hv.2 a ha

theorem ok_store (hs : Sim B S0 h nc x) {t : TypeId} {n : Nat} {a b : Operand} {va vb v : AVal} {ws : Wr} (hop : o.op = .store t a b) (ha : V x va (ρc a)) (hb : V x vb (ρc b)) (hn : szOf P t = some n) (hv : (storeR n va vb).run h = some (v, ws)) :
    OpOk P B S0 ρc o x (applyW h ws) nc key v := by
  have run : ∀ bb oo (y : World), ρc a = .pointer (some ⟨bb, oo, none⟩) → (ρc b).cells.size = n → (storeCells ⟨bb, oo, none⟩ (ρc b).cells.toList).run P x.w = .ok () y → (execOp ρc o).run P x.w = .ok .skip y := by
    intro bb oo y hp hl hr
    simp only [execOp, hop, hp, Instr.storeAt, Instr.sureAddr, Sem.run_bind, Sem.run_pure, Result.andThen_ok, storeVar, szOf_run hn]
    rw [if_neg (by omega)]
    simp only [Sem.run_bind, Sem.run_pure, Result.andThen_ok, hr]
  unfold storeR at hv
  split at hv
  · rename_i k g i es off
    split at hv
    · rename_i hc
      obtain ⟨hc1, hc2⟩ := hc
      simp only [V] at ha
      obtain ⟨bb, oo, hρ, ha⟩ := ha
      have hcl := V_cells_sc hb hc2
      have hsz : (ρc b).cells.size = n := by rw [← Array.length_toList, hcl.length, hc1]
      have hsc := VL_sc hcl hc2
      rw [Rd.run_get] at hv
      cases hk : h k with
      | none => rw [hk] at hv; cases hv
      | some blk =>
        rw [hk] at hv
        obtain ⟨b', o', h1, h2, h3, h4⟩ := hs.live k blk hk
        cases blk with
        | var cells =>
          simp only at hv
          split at hv
          · rename_i hg
            obtain ⟨rfl, hle⟩ := hg
            simp only [Rd.run_ret, Option.some.injEq, Prod.mk.injEq] at hv
            obtain ⟨rfl, rfl⟩ := hv
            simp only [Blk.gen] at h1
            rw [hρ] at h1
            cases h1
            obtain ⟨rfl, c, el, hheap, hcsz, hvc⟩ := h4
            have hlen : (ρc b).cells.toList.length = n := by simpa using hsz
            obtain ⟨y, e1, e2, e3, e4⟩ := writeOk (P := P) hs hk (by simpa [Blk.gen] using hρ) hheap (us := (ρc b).cells.toList) (q := i * es + off) (blk := .var (splice cells (i * es + off) (cellsOf vb))) (by omega) rfl hsc (by
              intro y g hb'
              have hnew := VL_splice (i * es + off) (VL_grow g _ _ (VL_of_block hheap hvc)) (VL_grow g _ _ hcl)
              refine ⟨rfl, _, el, hb', ?_, ?_⟩
              · simp only [List.size_toArray]
                rw [spliceV_length (by simp; omega), splice_length (by omega)]
                simpa using hcsz
              · refine VC_new hb' ?_
                simp only [List.drop_zero] at hnew
                rw [List.take_of_length_le (by simp; omega)] at hnew
                simpa using hnew)
            refine ⟨undef, y, .inr ⟨run _ _ _ (by simpa [Nat.add_assoc] using ha) hsz (by simpa [Nat.add_assoc] using e1), rfl⟩, by simp only [V], e2, e3, fun k' g p hp => .inl (e4 k' g p hp)⟩
          · cases hv
        | row g' es' elems =>
          simp only at hv
          split at hv
          · rename_i hg
            obtain ⟨rfl, rfl⟩ := hg
            cases hel : elems[i]? with
            | none => rw [hel] at hv; cases hv
            | some ee =>
              rw [hel] at hv
              simp only at hv
              split at hv
              · rename_i hle
                simp only [Rd.run_ret, Option.some.injEq, Prod.mk.injEq] at hv
                obtain ⟨rfl, rfl⟩ := hv
                simp only [Blk.gen] at h1
                rw [hρ] at h1
                cases h1
                obtain ⟨c, el, hheap, hcsz, hvr⟩ := h4
                have hlens := VR_lens hvr
                have hes : (cellsOf ee).length = es := hlens ee (List.mem_of_getElem? hel)
                have hi : i < elems.length := by
                  rcases Nat.lt_or_ge i elems.length with h5 | h5
                  · exact h5
                  · rw [List.getElem?_eq_none h5] at hel; cases hel
                have hie : i * es + es ≤ elems.length * es := by
                  have := Nat.mul_le_mul_right es (Nat.succ_le_of_lt hi)
                  rw [Nat.succ_mul] at this
                  exact this
                obtain ⟨hfl, hfll⟩ := VR_flat hvr
                have hlen : (ρc b).cells.toList.length = n := by simpa using hsz
                have hrem := cellsOf_remake (a := ee) (off := off) (new := cellsOf vb) (by omega) hc2
                have hremlen : (cellsOf (remake ee (splice (cellsOf ee) off (cellsOf vb)))).length = es := by rw [hrem, splice_length (by omega), hes]
                have hflat : (elems.set i (remake ee (splice (cellsOf ee) off (cellsOf vb)))).flatMap cellsOf = splice (elems.flatMap cellsOf) (i * es + off) (cellsOf vb) := by
                  rw [flat_set hlens hi hremlen, hrem]
                  exact splice_in (flat_seg hlens hel) (by omega) (by omega)
                obtain ⟨y, e1, e2, e3, e4⟩ := writeOk (P := P) hs hk (by simpa [Blk.gen] using hρ) hheap (us := (ρc b).cells.toList) (q := i * es + off) (blk := .row g es (elems.set i (remake ee (splice (cellsOf ee) off (cellsOf vb))))) (by omega) rfl hsc (by
                  intro y gr hb'
                  have hnew := VL_splice (i * es + off) (VL_grow gr _ _ (VL_of_block hheap hfl)) (VL_grow gr _ _ hcl)
                  refine ⟨_, el, hb', ?_, ?_⟩
                  · simp only [List.size_toArray]
                    rw [spliceV_length (by simp; omega)]
                    simpa using hcsz
                  · refine VR_of_flat (all_set hlens hremlen) ?_
                    rw [hflat]
                    refine VC_of_block hb' ?_
                    rw [splice_length (by omega), hfll, List.toList_toArray, spliceV_window (by omega) (by simpa using hcsz), ← hfll]
                    exact hnew)
                refine ⟨undef, y, .inr ⟨run _ _ _ (by simpa [Nat.add_assoc] using ha) hsz (by simpa [Nat.add_assoc] using e1), rfl⟩, by simp only [V], e2, e3, fun k' g p hp => .inl (e4 k' g p hp)⟩
              · cases hv
          · cases hv
        | obj a => cases hv
    · cases hv
  · cases hv

theorem wrap_i64 {n : Int} (h1 : -9223372036854775808 ≤ n) (h2 : n < 9223372036854775808) : IntKind.i64.wrap n = n := by
  have e1 : ((2 : Int) ^ IntKind.i64.bits) = 18446744073709551616 := by decide
  have e2 : ((2 : Int) ^ (IntKind.i64.bits - 1)) = 9223372036854775808 := by decide
  have e3 : IntKind.i64.signed = true := rfl
  unfold IntKind.wrap
  rw [e1, e2, e3]
  simp only [Bool.true_and, decide_eq_true_eq, ge_iff_le]
  split <;> omega

theorem ok_mkS (hs : Sim B S0 h nc x) (hk : key.2 < nc) (hfresh : ∀ g, x.ρ key g = none) {t et : TypeId} {es bytes : Nat} {a b : Operand} {ka kb : IntKind} {l c : Int} {z : Value} {zero : AVal} (hop : o.op = .makeSlice t a b) (ha : V x (.int ka l) (ρc a)) (hb : V x (.int kb c) (ρc b))
    (ht : P.underlying t = some (.slice et)) (hsz : szOf P et = some es) (hby : byOf P et = some bytes) (hb1 : 1 ≤ bytes) (hz : zeroOf P et = some z) (hzc : chkSL z.cells.toList (cellsOf zero) = true) (hzl : (cellsOf zero).length = es) (hes : 1 ≤ es)
    (hr : 0 ≤ l ∧ l ≤ c ∧ (bytes : Int) * c ≤ 281474976710656) :
    OpOk P B S0 ρc o x (applyW h [(key, some (.row 0 es (List.replicate l.toNat zero)))]) nc key (.sl key 0 es 0 l.toNat) := by
  have ha := V_int ha
  have hb := V_int hb
  obtain ⟨i, hi, hib⟩ := info_run (P := P) hby x.w
  have hzl' : VL x (cellsOf zero) z.cells.toList := chkSL_ok hzc
  have hzsz : z.cells.size = es := by rw [← Array.length_toList, hzl'.length, hzl]
  have hc : 0 ≤ c ∧ c ≤ 281474976710656 := by
    refine ⟨by omega, ?_⟩
    have h1 : (1 : Int) ≤ bytes := by omega
    have h2 := Int.mul_le_mul_of_nonneg_right h1 (by omega : (0 : Int) ≤ c)
    omega
  have w1 : IntKind.i64.wrap l = l := wrap_i64 (by omega) (by omega)
  have w2 : IntKind.i64.wrap c = c := wrap_i64 (by omega) (by omega)
  have hinit : ∃ zc : Array Value, ((c.toNat * es = 0 ∧ zc = #[]) ∨ (¬ c.toNat * es = 0 ∧ zc = z.cells)) ∧ ((Array.range (c.toNat * es)).map fun i => zc[i % zc.size]!).toList = (List.replicate c.toNat z.cells.toList).flatten := by
    by_cases h0 : c.toNat * es = 0
    · refine ⟨#[], .inl ⟨h0, rfl⟩, ?_⟩
      have : c.toNat = 0 := by
        rcases Nat.mul_eq_zero.1 h0 with h1 | h1
        · exact h1
        · omega
      rw [this]
      simp
    · refine ⟨z.cells, .inr ⟨h0, rfl⟩, ?_⟩
      have := zeros_eq z.cells c.toNat (by omega)
      rw [hzsz] at this
      rw [hzsz]
      exact this
  obtain ⟨zc, e1, e2⟩ := hinit
  have hbig := VL_flatten_replicate hzl' c.toNat
  have hlen : ((Array.range (c.toNat * es)).map fun i => zc[i % zc.size]!).size = c.toNat * es := by simp
  refine freshOk hs hk hfresh (u := .slice (some ⟨x.w.heap.size, 0, none⟩) l.toNat c.toNat) (w' := { x.w with heap := x.w.heap.push (.cells ((Array.range (c.toNat * es)).map fun i => zc[i % zc.size]!) et (0, 0)) })
    (c := (Array.range (c.toNat * es)).map fun i => zc[i % zc.size]!) (el := et) ?_ rfl ⟨rfl, rfl, rfl⟩ rfl ?_ ?_
  · simp only [execOp, hop, ha, hb, Instr.makeSlice, Sem.run_bind, run_underlying ht, Result.andThen_ok, asInt, asIntOf, Sem.run_pure, hi, hib, w1, w2]
    rw [if_neg (by
      simp only [Bool.or_eq_true, decide_eq_true_eq, Bool.decide_or, Bool.decide_eq_true]
      omega)]
    simp only [Sem.run_bind, run_askRoom, Result.andThen_ok, szOf_run hsz]
    rcases e1 with ⟨h0, rfl⟩ | ⟨h0, rfl⟩
    · simp only [h0, if_true, Sem.run_bind, Sem.run_pure, Result.andThen_ok, newRow, run_newObj]
    · simp only [h0, if_false, Sem.run_bind, Sem.run_pure, zero_run hz, Result.andThen_ok, newRow, run_newObj]
  · intro y g hb'
    have hall : ∀ b ∈ List.replicate c.toNat zero, (cellsOf b).length = es := by
      intro b hb; rw [List.eq_of_mem_replicate hb]; exact hzl
    have hv : VR y es (List.replicate c.toNat zero) x.w.heap.size 0 := by
      refine VR_of_flat hall (VC_new hb' ?_)
      rw [e2, flat_replicate]
      exact VL_grow g _ _ hbig
    have hv' := hv.take l.toNat
    rw [List.take_replicate, Nat.min_eq_left (by omega)] at hv'
    refine ⟨_, et, hb', ?_, hv'⟩
    rw [hlen]
    simp only [List.length_replicate, Nat.zero_add]
    exact Nat.mul_le_mul_right es (by omega)
  · intro y g hb' hρ
    exact V_sl0 hρ (by omega) (by rw [bsz_of hb', hlen]; exact Nat.le_refl _)

end
end Go.Xec
