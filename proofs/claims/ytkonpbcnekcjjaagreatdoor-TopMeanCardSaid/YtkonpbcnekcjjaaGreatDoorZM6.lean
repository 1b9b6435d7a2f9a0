/-
  Laid together: part 6.
-/
import Derived.Test.YtkonpbcnekcjjaaGreatDoorZM5
set_option linter.unusedVariables false
set_option linter.unusedSimpArgs false
namespace Go.Proofs.YtkonpbcnekcjjaaGreatDoor
open Go Go.Xec Go.RowKit
theorem itoa_calls (n : Int) (h : -9223372036854775808 ≤ n ∧ n ≤ 9223372036854775807) (w : World) (hL : Laid Tryz.prog w) : Calls Tryz.prog 75 #[.int .i64 n] w fun e w' => e = .returned (.string (bs (Lib.itoa n))) ∧ Below w.heap.size w w' := by
  have hF : F_itoa [.int .i64 n] = some (sv (Lib.itoa n)) := by
    unfold F_itoa
    simp only
    rw [if_pos h]
  refine (calls_sound Tryz.func75 (by kernel_rfl) (by kernel_rfl) sound75 hF w hL (vs := [.int .i64 n]) (by simp only [VL, V]; exact ⟨_, _, rfl, rfl, rfl⟩)).mono ?_
  rintro e w' ⟨v, rfl, hb, hv⟩
  simp only [V] at hv
  subst hv
  exact ⟨rfl, hb⟩
theorem need_calls {t k : Nat} (ht : t < 8) (hk : k < 12) (w : World) (hL : Laid Tryz.prog w) :
    Calls Tryz.prog 74 #[.agg #[.string (bs (fd k).w), .int .i64 (fd k).lo, .int .i64 (fd k).hi, .int .i64 (fd k).nd], .int .i64 (t : Int)] w fun e w' => e = .returned (.bool (needB (fd k) (t : Nat))) ∧ Below w.heap.size w w' := by
  refine (calls_sound Tryz.func74 (by kernel_rfl) (by kernel_rfl) sound74 (E26 ht hk rfl) w hL (vs := [.agg #[.string (bs (fd k).w), .int .i64 (fd k).lo, .int .i64 (fd k).hi, .int .i64 (fd k).nd], .int .i64 (t : Int)]) ?_).mono ?_
  · simp only [VL, V]
    exact ⟨_, _, rfl, ⟨_, rfl, _, _, rfl, rfl, _, _, rfl, rfl, _, _, rfl, rfl, _, _, rfl, rfl, rfl⟩, _, _, rfl, rfl, rfl⟩
  rintro e w' ⟨v, rfl, hb, hv⟩
  simp only [V] at hv
  subst hv
  exact ⟨rfl, hb⟩
theorem ch_at (c : Ch) (u v : Value) {j : Nat} (hj : j < 12) : (#[u, v, .int .i64 c.f0, .int .i64 c.f1, .int .i64 c.f2, .int .i64 c.f3, .int .i64 c.f4, .int .i64 c.f5, .int .i64 c.f6, .int .i64 c.f7, .int .i64 c.f8, .int .i64 c.f9, .int .i64 c.f10, .int .i64 c.f11] : Array Value)[j + 2]? = some (.int .i64 (vl c j)) :=
  match j, hj with
  | 0, _ => rfl
  | 1, _ => rfl
  | 2, _ => rfl
  | 3, _ => rfl
  | 4, _ => rfl
  | 5, _ => rfl
  | 6, _ => rfl
  | 7, _ => rfl
  | 8, _ => rfl
  | 9, _ => rfl
  | 10, _ => rfl
  | 11, _ => rfl
theorem ptr_at (b : Nat) {j : Nat} (hj : j < 12) : (ptrs b).toArray[j]? = some (.pointer (some ⟨b, j + 2, none⟩)) := by
  simp [ptrs, hj]
set_option maxHeartbeats 16000000 in
set_option maxRecDepth 100000 in
theorem prt_calls {a : AVal} {r : List Ch} {v : Value} (w : World) (hL : Laid Tryz.prog w) (ha : RC a r) (hr : rOk r) (hF14 : F69 [.agg [a]] = some (.bool true)) (hv : V (ctx0 w fun b => b < w.heap.size) (.agg [a]) v) :
    Calls Tryz.prog 50 #[v] w fun e w' => e = .returned (.tuple #[.string (bs (prtR r)), .int .i64 0]) ∧ Below w.heap.size w w' := by
  have hl4 := hr.2.2.2
  obtain ⟨ao, cp, rfl, hcell⟩ := rec_val ha hv
  have hnn : ∀ c ∈ r, c.n.length ≤ 1000000 := fun c hc => by have := (hr.1 c hc).1.2.2; omega
  go_enter Tryz.func50, Tryz.ntmps50
  go_wp2_with (go_at_call 69; refine (calls_sound Tryz.func69 (by kernel_rfl) (by kernel_rfl) sound69 hF14 _ ?hL14 (vs := [.agg #[.slice ao r.length cp]]) ?hV14).mono ?_)
  case hL14 => exact below_laid hL ((Below.refl _ w).alloc (Nat.le_refl _) _)
  case hV14 =>
    simp only [VL]
    exact ⟨_, _, rfl, V_grow (ctx_grow ((Below.refl _ w).alloc (Nat.le_refl _) _)) _ _ hv, rfl⟩
  rintro e w2 ⟨v, rfl, hb2, hv2⟩
  simp only [V] at hv2
  subst hv2
  have hbw2 : Below w.heap.size w w2 := ((Below.refl _ w).alloc (Nat.le_refl _) _).trans (hb2.mono (by simp))
  have hJ2 : w2.heap[w.heap.size]? = some (.cells #[.slice ao r.length cp] 112 (0, 0)) := by
    rw [hb2.block _ (by simp)]
    exact heap_alloc_new _ _
  have hlt2 : w.heap.size < w2.heap.size := by have := hb2.size; simp at this; omega
  have hJ3 : (w2.alloc (.cells #[.pointer none, .slice none 0 0] 151)).heap[w.heap.size]? = some (.cells #[.slice ao r.length cp] 112 (0, 0)) := by
    rw [Lib.alloc_old _ _ _ hlt2]
    exact hJ2
  have c0 : (w2.alloc (.cells #[.pointer none, .slice none 0 0] 151)).cell? ⟨w.heap.size, 0, none⟩ = some (.slice ao r.length cp) := by rw [Lib.cell_of_heap hJ3]; rfl
  have hO : Stg w w2.heap.size [] (w2.alloc (.cells #[.pointer none, .slice none 0 0] 151)) :=
    ⟨Lib.IsBuilderF.of (Lib.fresh_isBuilder 151 5 w2), hbw2.alloc (by omega) _, by omega, by simp⟩
  generalize hB : w2.heap.size = B at *
  go_wp2_with fail
  generalize w2.alloc (.cells #[.pointer none, .slice none 0 0] 151) = w3 at *
  go_loopw [16] (fun i wr => ∃ k : Nat, k ≤ r.length ∧ i = .int .i64 k ∧ Stg w B (prtR (r.take k)) wr)
    (fun i _ => r.length - (intOf i).toNat)
  case atStart =>
    exact ⟨0, Nat.zero_le _, rfl, by simpa [prtR] using hO⟩
  case round =>
    obtain ⟨k, hk, rfl, hW⟩ := hrel
    by_cases hkl : k < r.length
    · obtain ⟨b, o, rfl, hbl, hc⟩ := hcell k hkl
      have hco := hr.1 _ (List.getElem_mem hkl)
      have hnx : prtR (r.take (k + 1)) = prtR (r.take k) ++ chP r[k] := by
        unfold prtR
        rw [take_next hkl, List.flatMap_append]
        simp
      have hpl := prtR_len (r := r.take k) fun c hc => hr.1 c (List.mem_of_mem_take hc)
      rw [List.length_take] at hpl
      generalize prtR (r.take k) = p at *
      generalize hrk : r[k] = c at *
      obtain ⟨t, hct⟩ : ∃ t : Nat, c.t = t := ⟨c.t.toNat, by have := hco.2.1; omega⟩
      have ht : t < 8 := by have := hco.2.1; omega
      have ce : ∀ q, wr.cell? ⟨b, q, none⟩ = w.cell? ⟨b, q, none⟩ := fun q => cell_of_heap (hW.2.1.block b hbl)
      have d0 : wr.cell? ⟨b, o + k * 14, none⟩ = some (.string (bs c.n)) := (ce _).trans (hc 0 _ rfl)
      have d1 : wr.cell? ⟨b, o + k * 14 + 1, none⟩ = some (.int .i64 (t : Int)) := (ce _).trans ((hc 1 _ rfl).trans (by rw [hct]))
      have d2 : wr.cell? ⟨b, o + k * 14 + 2, none⟩ = some (.int .i64 c.f0) := (ce _).trans (hc 2 _ rfl)
      have d3 : wr.cell? ⟨b, o + k * 14 + 3, none⟩ = some (.int .i64 c.f1) := (ce _).trans (hc 3 _ rfl)
      have d4 : wr.cell? ⟨b, o + k * 14 + 4, none⟩ = some (.int .i64 c.f2) := (ce _).trans (hc 4 _ rfl)
      have d5 : wr.cell? ⟨b, o + k * 14 + 5, none⟩ = some (.int .i64 c.f3) := (ce _).trans (hc 5 _ rfl)
      have d6 : wr.cell? ⟨b, o + k * 14 + 6, none⟩ = some (.int .i64 c.f4) := (ce _).trans (hc 6 _ rfl)
      have d7 : wr.cell? ⟨b, o + k * 14 + 7, none⟩ = some (.int .i64 c.f5) := (ce _).trans (hc 7 _ rfl)
      have d8 : wr.cell? ⟨b, o + k * 14 + 8, none⟩ = some (.int .i64 c.f6) := (ce _).trans (hc 8 _ rfl)
      have d9 : wr.cell? ⟨b, o + k * 14 + 9, none⟩ = some (.int .i64 c.f7) := (ce _).trans (hc 9 _ rfl)
      have d10 : wr.cell? ⟨b, o + k * 14 + 10, none⟩ = some (.int .i64 c.f8) := (ce _).trans (hc 10 _ rfl)
      have d11 : wr.cell? ⟨b, o + k * 14 + 11, none⟩ = some (.int .i64 c.f9) := (ce _).trans (hc 11 _ rfl)
      have d12 : wr.cell? ⟨b, o + k * 14 + 12, none⟩ = some (.int .i64 c.f10) := (ce _).trans (hc 12 _ rfl)
      have d13 : wr.cell? ⟨b, o + k * 14 + 13, none⟩ = some (.int .i64 c.f11) := (ce _).trans (hc 13 _ rfl)
      have hkl2 : (k : Int) < (r.length : Int) := by omega
      clear ce hc hcell hv hb2 hJ2 hJ3 c0
      have hX := heap_alloc_new wr (.cells #[.string (bs c.n), .int .i64 (t : Int), .int .i64 c.f0, .int .i64 c.f1, .int .i64 c.f2, .int .i64 c.f3, .int .i64 c.f4, .int .i64 c.f5, .int .i64 c.f6, .int .i64 c.f7, .int .i64 c.f8, .int .i64 c.f9, .int .i64 c.f10, .int .i64 c.f11] 71)
      have hW4 := hW.alloc (.cells #[.string (bs c.n), .int .i64 (t : Int), .int .i64 c.f0, .int .i64 c.f1, .int .i64 c.f2, .int .i64 c.f3, .int .i64 c.f4, .int .i64 c.f5, .int .i64 c.f6, .int .i64 c.f7, .int .i64 c.f8, .int .i64 c.f9, .int .i64 c.f10, .int .i64 c.f11] 71)
      have hnB : wr.heap.size ≠ B := Nat.ne_of_gt hW.2.2.2
      have hs4 : wr.heap.size < (wr.alloc (.cells #[.string (bs c.n), .int .i64 (t : Int), .int .i64 c.f0, .int .i64 c.f1, .int .i64 c.f2, .int .i64 c.f3, .int .i64 c.f4, .int .i64 c.f5, .int .i64 c.f6, .int .i64 c.f7, .int .i64 c.f8, .int .i64 c.f9, .int .i64 c.f10, .int .i64 c.f11] 71)).heap.size := by simp
      go_wp2_with fail
      generalize wr.alloc (.cells #[.string (bs c.n), .int .i64 (t : Int), .int .i64 c.f0, .int .i64 c.f1, .int .i64 c.f2, .int .i64 c.f3, .int .i64 c.f4, .int .i64 c.f5, .int .i64 c.f6, .int .i64 c.f7, .int .i64 c.f8, .int .i64 c.f9, .int .i64 c.f10, .int .i64 c.f11] 71) = w4 at *
      generalize wr.heap.size = n6 at *
      have e0 : w4.cell? ⟨n6, 0, none⟩ = some (.string (bs c.n)) := by rw [Lib.cell_of_heap hX]; rfl
      have e1 : w4.cell? ⟨n6, 1, none⟩ = some (.int .i64 (t : Int)) := by rw [Lib.cell_of_heap hX]; rfl
      clear d0 d1 d2 d3 d4 d5 d6 d7 d8 d9 d10 d11 d12 d13 hO hW
      have hn2 := hco.1.2.2
      have h6 : ∀ t < 8, (chW.getD t []).length ≤ 6 := by decide
      have h6 := h6 t ht
      obtain ⟨wd, hwd⟩ : ∃ wd, chW.getD t [] = wd := ⟨_, rfl⟩
      have hidx : ∀ W, (Instr.index 156 (.agg wsA) (.int .i64 (t : Int))).run Tryz.prog W = .ok (.string (bs wd)) W := by rw [← hwd]; exact fun W => idx_words ht W
      rw [hwd] at h6
      have hhd : (hdP c).length ≤ 100 := by simp only [hdP, List.length_append, List.length_cons, List.length_nil, chanW, hct, Int.toNat_natCast, hwd]; omega
      have hpp : p.length + 100 ≤ 1000000 := by omega
      have htI : (t : Int) < 8 := by omega
      have hz1 : ¬ 9223372036854775807 < 8 + c.n.length := by omega
      have hz2 : ¬ 9223372036854775807 < 8 + c.n.length + 1 := by omega
      have hz3 : ¬ 9223372036854775807 < 8 + c.n.length + 1 + wd.length := by omega
      have hz4 : ¬ 9223372036854775807 < 8 + c.n.length + 1 + wd.length + 3 := by omega
      go_region_held3 (fun w' => w'.cell? ⟨n6, 0, none⟩ = some (.string (bs c.n)) ∧ w'.cell? ⟨n6, 1, none⟩ = some (.int .i64 (t : Int))) (first | exact ⟨e0, e1⟩ | exact ⟨f0, f1⟩ | exact ⟨g0, g1⟩)
        (first
          | (go_at_call 71
             refine (words_calls _ (hW4.drew.laid hL)).mono ?_
             rintro e w5 ⟨rfl, hb5⟩
             have hW5 := hW4.drew.below hb5
             have hX5 := (hb5.block _ hs4).trans hX
             have hs5 := Nat.lt_of_lt_of_le hs4 hb5.size
             have f0 : w5.cell? ⟨n6, 0, none⟩ = some (.string (bs c.n)) := (by rw [Lib.cell_of_heap hX5]; rfl)
             have f1 : w5.cell? ⟨n6, 1, none⟩ = some (.int .i64 (t : Int)) := (by rw [Lib.cell_of_heap hX5]; rfl))
          | (go_at_call 70
             refine (stg_write hW5 (hdP c) (by simp only [bs_append]; unfold hdP; rw [hct, Int.toNat_natCast, hwd]; simp [chanW]) (by omega)).mono ?_
             rintro e w6 ⟨rfl, hW6, hs6, hk6⟩
             have hX6 := hk6 _ _ _ hX5 hnB (by decide)
             have hs6' := Nat.lt_of_lt_of_le hs5 hs6
             have g0 : w6.cell? ⟨n6, 0, none⟩ = some (.string (bs c.n)) := (by rw [Lib.cell_of_heap hX6]; rfl)
             have g1 : w6.cell? ⟨n6, 1, none⟩ = some (.int .i64 (t : Int)) := (by rw [Lib.cell_of_heap hX6]; rfl)))
      clear hW4 hX hz1 hz2 hz3 hz4 e0 e1 hs4
      have hBn6 : B < w6.heap.size := hW6.2.2.2
      have hqq : (p ++ hdP c).length ≤ 1800 := by simp; omega
      go_wp2_with fail
      refine (fields_calls n6 _).mono ?_
      rintro e w7 ⟨BA, rfl, hBA, hP7, hb7⟩
      have hW7 := hW6.below hb7
      have hX7 := (hb7.block _ hs6').trans hX6
      have hs7 := Nat.lt_of_lt_of_le hs6' hb7.size
      have hA7 : BA < w7.heap.size := (Array.getElem?_eq_some_iff.1 hP7).1
      go_wp2_with fail
      refine (bounds_calls _).mono ?_
      rintro e w8 ⟨BB, rfl, hBB, ⟨cs, hC8, hcs⟩, hb8⟩
      have hW8 := hW7.below hb8
      have hX8 := (hb8.block _ hs7).trans hX7
      have hP8 := (hb8.block _ hA7).trans hP7
      have hAB : BA ≠ B := by omega
      have hBB2 : BB ≠ B := by have := hb7.size; omega
      have hnx2 : prtR (r.take (k + 1)) = (p ++ hdP c) ++ ((fl c).flatMap (fP c) ++ [125, 10]) := by rw [hnx, chP_eq]; simp
      clear hX5 hW5 f0 f1 g0 g1 hX6 hW6 hX7 hW7 hP7 hb7 hb8 hb5 hk6 hidx hnx
      generalize hq : p ++ hdP c = q at *
      go_wp2_with fail
      go_loopw [34] (fun i wr => ∃ j : Nat, j ≤ 12 ∧ i = .int .i64 j ∧ Stg w B (q ++ ((List.range j).filter (flB c)).flatMap (fP c)) wr ∧ wr.heap[n6]? = some (.cells #[.string (bs c.n), .int .i64 (t : Int), .int .i64 c.f0, .int .i64 c.f1, .int .i64 c.f2, .int .i64 c.f3, .int .i64 c.f4, .int .i64 c.f5, .int .i64 c.f6, .int .i64 c.f7, .int .i64 c.f8, .int .i64 c.f9, .int .i64 c.f10, .int .i64 c.f11] 71) ∧ wr.heap[BA]? = some (.cells (ptrs n6).toArray 166 (0, 0)) ∧ wr.heap[BB]? = some (.cells cs 164 (0, 0)))
        (fun i _ => 12 - (intOf i).toNat)
      case atStart =>
        exact ⟨0, Nat.zero_le _, rfl, by simpa using hW8, hX8, hP8, hC8⟩
      case round =>
        obtain ⟨j, hj, rfl, hWt, hXt, hPt, hCt⟩ := hrel
        by_cases hj12 : j < 12
        · have d12 : (j : Int) < 12 := by omega
          obtain ⟨q0, q1, q2, q3⟩ := hcs j hj12
          have u0 : wr.cell? ⟨BB, j * 4, none⟩ = some (.string (bs (fd j).w)) := by rw [Lib.cell_of_heap hCt]; exact q0
          have u1 : wr.cell? ⟨BB, j * 4 + 1, none⟩ = some (.int .i64 (fd j).lo) := by rw [Lib.cell_of_heap hCt]; exact q1
          have u2 : wr.cell? ⟨BB, j * 4 + 2, none⟩ = some (.int .i64 (fd j).hi) := by rw [Lib.cell_of_heap hCt]; exact q2
          have u3 : wr.cell? ⟨BB, j * 4 + 3, none⟩ = some (.int .i64 (fd j).nd) := by rw [Lib.cell_of_heap hCt]; exact q3
          have hBt : B < wr.heap.size := hWt.2.2.2
          have hn6t : n6 < wr.heap.size := (Array.getElem?_eq_some_iff.1 hXt).1
          have hAt : BA < wr.heap.size := (Array.getElem?_eq_some_iff.1 hPt).1
          have hCtl : BB < wr.heap.size := (Array.getElem?_eq_some_iff.1 hCt).1
          have hX9 : (wr.alloc (.cells #[.string (bs (fd j).w), .int .i64 (fd j).lo, .int .i64 (fd j).hi, .int .i64 (fd j).nd] 164)).heap[n6]? = some (.cells #[.string (bs c.n), .int .i64 (t : Int), .int .i64 c.f0, .int .i64 c.f1, .int .i64 c.f2, .int .i64 c.f3, .int .i64 c.f4, .int .i64 c.f5, .int .i64 c.f6, .int .i64 c.f7, .int .i64 c.f8, .int .i64 c.f9, .int .i64 c.f10, .int .i64 c.f11] 71) := by rw [Lib.alloc_old _ _ _ hn6t]; exact hXt
          have hP9 : (wr.alloc (.cells #[.string (bs (fd j).w), .int .i64 (fd j).lo, .int .i64 (fd j).hi, .int .i64 (fd j).nd] 164)).heap[BA]? = some (.cells (ptrs n6).toArray 166 (0, 0)) := by rw [Lib.alloc_old _ _ _ hAt]; exact hPt
          have hC9 : (wr.alloc (.cells #[.string (bs (fd j).w), .int .i64 (fd j).lo, .int .i64 (fd j).hi, .int .i64 (fd j).nd] 164)).heap[BB]? = some (.cells cs 164 (0, 0)) := by rw [Lib.alloc_old _ _ _ hCtl]; exact hCt
          have hF9 := heap_alloc_new wr (.cells #[.string (bs (fd j).w), .int .i64 (fd j).lo, .int .i64 (fd j).hi, .int .i64 (fd j).nd] 164)
          have hW9 := hWt.alloc (.cells #[.string (bs (fd j).w), .int .i64 (fd j).lo, .int .i64 (fd j).hi, .int .i64 (fd j).nd] 164)
          have x1 : (wr.alloc (.cells #[.string (bs (fd j).w), .int .i64 (fd j).lo, .int .i64 (fd j).hi, .int .i64 (fd j).nd] 164)).cell? ⟨n6, 1, none⟩ = some (.int .i64 (t : Int)) := by rw [Lib.cell_of_heap hX9]; rfl
          have hs9 : (wr.alloc (.cells #[.string (bs (fd j).w), .int .i64 (fd j).lo, .int .i64 (fd j).hi, .int .i64 (fd j).nd] 164)).heap.size = wr.heap.size + 1 := by simp
          go_wp2_with fail
          generalize wr.alloc (.cells #[.string (bs (fd j).w), .int .i64 (fd j).lo, .int .i64 (fd j).hi, .int .i64 (fd j).nd] 164) = w9 at *
          generalize wr.heap.size = n9 at *
          refine (need_calls ht hj12 _ (hW9.laid hL)).mono ?_
          rintro e w10 ⟨rfl, hb10⟩
          have hW10 := hW9.below hb10
          have hX10 := (hb10.block _ (by omega)).trans hX9
          have hP10 := (hb10.block _ (by omega)).trans hP9
          have hC10 := (hb10.block _ (by omega)).trans hC9
          have hF10 := (hb10.block _ (by omega)).trans hF9
          have y12 : w10.cell? ⟨n6, 12, none⟩ = some (.int .i64 c.f10) := by rw [Lib.cell_of_heap hX10]; rfl
          have y13 : w10.cell? ⟨n6, 13, none⟩ = some (.int .i64 c.f11) := by rw [Lib.cell_of_heap hX10]; rfl
          have hs10 : n9 < w10.heap.size := Nat.lt_of_lt_of_le (by omega) hb10.size
          have hn6s : n6 < w10.heap.size := by omega
          have hAs : BA < w10.heap.size := by omega
          have hCs : BB < w10.heap.size := by omega
          have hn9B : n9 ≠ B := by omega
          have hst := range_next (flB c) (fP c) j
          have hfl := fls_len hco (i := j) (by omega)
          have hfb : flB c j = (needB (fd j) (t : Nat) || (decide (10 ≤ j) && !decide (c.f10 = c.f11))) := by unfold flB; rw [hct]
          clear hXt hPt hCt hWt hX9 hP9 hC9 hF9 hW9 x1 u0 u1 u2 u3 q0 q1 q2 q3 hb10
          cases hnd : needB (fd j) (t : Nat) with
          | true =>
            rw [hnd] at hfb
            have hb : flB c j = true := hfb
            clear hfb
            rw [hb, if_pos rfl] at hst
            have hnum := vl_num hco hj12 hb
            have hrg : -9223372036854775808 ≤ vl c j ∧ vl c j ≤ 9223372036854775807 := ⟨by have := hnum.1; omega, by have := hnum.2; omega⟩
            have hil : (Lib.itoa (vl c j)).length ≤ 21 := (hco.2.2.1 j hj12).2
            have h6w : ∀ f < 12, (fd f).w.length ≤ 6 := by decide
            have h6w := h6w j hj12
            have hz1 : ¬ 9223372036854775807 < (fd j).w.length + 1 := by omega
            have hz2 : ¬ 9223372036854775807 < (fd j).w.length + 1 + (Lib.itoa (vl c j)).length := by omega
            have hz3 : ¬ 9223372036854775807 < (fd j).w.length + 1 + (Lib.itoa (vl c j)).length + 2 := by omega
            have hle : (q ++ ((List.range j).filter (flB c)).flatMap (fP c)).length + (fP c j).length ≤ 1000000 := by
              have hil2 : (itz (vl c j)).length ≤ 21 := hil
              simp only [fP, List.length_append, List.length_cons, List.length_nil] at hqq hfl ⊢
              omega
            go_wp2_with fail
            have a0 : w10.cell? ⟨n9, 0, none⟩ = some (.string (bs (fd j).w)) := by rw [Lib.cell_of_heap hF10]; rfl
            have a1 : w10.cell? ⟨BA, j, none⟩ = some (.pointer (some ⟨n6, j + 2, none⟩)) := by rw [Lib.cell_of_heap hP10]; exact ptr_at n6 hj12
            have a2 : w10.cell? ⟨n6, j + 2, none⟩ = some (.int .i64 (vl c j)) := by rw [Lib.cell_of_heap hX10]; exact ch_at c _ _ hj12
            go_region_held3 (fun w' => w'.cell? ⟨n9, 0, none⟩ = some (.string (bs (fd j).w)) ∧ w'.cell? ⟨BA, j, none⟩ = some (.pointer (some ⟨n6, j + 2, none⟩)) ∧ w'.cell? ⟨n6, j + 2, none⟩ = some (.int .i64 (vl c j))) (first | exact ⟨a0, a1, a2⟩ | exact ⟨b0, b1, b2⟩ | exact ⟨e0, e1, e2⟩)
              (first
                | (go_at_call 75
                   refine (itoa_calls _ hrg _ (hW10.drew.laid hL)).mono ?_
                   rintro e w11 ⟨rfl, hb11⟩
                   have hW11 := hW10.drew.below hb11
                   have hX11 := (hb11.block _ hn6s).trans hX10
                   have hP11 := (hb11.block _ hAs).trans hP10
                   have hC11 := (hb11.block _ hCs).trans hC10
                   have hF11 := (hb11.block _ hs10).trans hF10
                   have b0 : w11.cell? ⟨n9, 0, none⟩ = some (.string (bs (fd j).w)) := (by rw [Lib.cell_of_heap hF11]; rfl)
                   have b1 : w11.cell? ⟨BA, j, none⟩ = some (.pointer (some ⟨n6, j + 2, none⟩)) := (by rw [Lib.cell_of_heap hP11]; exact ptr_at n6 hj12)
                   have b2 : w11.cell? ⟨n6, j + 2, none⟩ = some (.int .i64 (vl c j)) := (by rw [Lib.cell_of_heap hX11]; exact ch_at c _ _ hj12))
                | (go_at_call 70
                   refine (stg_write hW11 (fP c j) (by simp only [bs_append]; unfold fP; simp) hle).mono ?_
                   rintro e w12 ⟨rfl, hW12, hs12, hk12⟩
                   have hX12 := hk12 _ _ _ hX11 hnB (by decide)
                   have hP12 := hk12 _ _ _ hP11 hAB (by decide)
                   have hC12 := hk12 _ _ _ hC11 hBB2 (by decide)
                   have hF12 := hk12 _ _ _ hF11 hn9B (by decide)
                   have e0 : w12.cell? ⟨n9, 0, none⟩ = some (.string (bs (fd j).w)) := (by rw [Lib.cell_of_heap hF12]; rfl)
                   have e1 : w12.cell? ⟨BA, j, none⟩ = some (.pointer (some ⟨n6, j + 2, none⟩)) := (by rw [Lib.cell_of_heap hP12]; exact ptr_at n6 hj12)
                   have e2 : w12.cell? ⟨n6, j + 2, none⟩ = some (.int .i64 (vl c j)) := (by rw [Lib.cell_of_heap hX12]; exact ch_at c _ _ hj12)))
            clear hz1 hz2 hz3
            go_wp2_with fail
            go_roundw
            case rel => exact ⟨j + 1, by omega, by simp, by rw [hst, ← List.append_assoc]; exact hW12, hX12, hP12, hC12⟩
            case measure => simp [intOf]; omega
          | false =>
            rw [hnd] at hfb
            by_cases h10 : 10 ≤ j
            · have h10' : (10 : Int) ≤ (j : Int) := by omega
              by_cases hff : c.f10 = c.f11
              · have hb : flB c j = false := by rw [hfb, decide_eq_true hff]; simp
                have hff' : (c.f10 != c.f11) = false := by simpa using hff
                clear hfb hff
                rw [hb, if_neg (by decide), List.append_nil] at hst
                go_wp2_with fail
                go_roundw
                case rel => exact ⟨j + 1, by omega, by simp, by rw [hst]; exact hW10, hX10, hP10, hC10⟩
                case measure => simp [intOf]; omega
              · have hb : flB c j = true := by rw [hfb, decide_eq_true h10, decide_eq_false hff]; rfl
                have hff' : (c.f10 != c.f11) = true := by simpa using hff
                clear hfb
                rw [hb, if_pos rfl] at hst
                have hnum := vl_num hco hj12 hb
                have hrg : -9223372036854775808 ≤ vl c j ∧ vl c j ≤ 9223372036854775807 := ⟨by have := hnum.1; omega, by have := hnum.2; omega⟩
                have hil : (Lib.itoa (vl c j)).length ≤ 21 := (hco.2.2.1 j hj12).2
                have h6w : ∀ f < 12, (fd f).w.length ≤ 6 := by decide
                have h6w := h6w j hj12
                have hz1 : ¬ 9223372036854775807 < (fd j).w.length + 1 := by omega
                have hz2 : ¬ 9223372036854775807 < (fd j).w.length + 1 + (Lib.itoa (vl c j)).length := by omega
                have hz3 : ¬ 9223372036854775807 < (fd j).w.length + 1 + (Lib.itoa (vl c j)).length + 2 := by omega
                have hle : (q ++ ((List.range j).filter (flB c)).flatMap (fP c)).length + (fP c j).length ≤ 1000000 := by
                  have hil2 : (itz (vl c j)).length ≤ 21 := hil
                  simp only [fP, List.length_append, List.length_cons, List.length_nil] at hqq hfl ⊢
                  omega
                go_wp2_with fail
                have a0 : w10.cell? ⟨n9, 0, none⟩ = some (.string (bs (fd j).w)) := by rw [Lib.cell_of_heap hF10]; rfl
                have a1 : w10.cell? ⟨BA, j, none⟩ = some (.pointer (some ⟨n6, j + 2, none⟩)) := by rw [Lib.cell_of_heap hP10]; exact ptr_at n6 hj12
                have a2 : w10.cell? ⟨n6, j + 2, none⟩ = some (.int .i64 (vl c j)) := by rw [Lib.cell_of_heap hX10]; exact ch_at c _ _ hj12
                go_region_held3 (fun w' => w'.cell? ⟨n9, 0, none⟩ = some (.string (bs (fd j).w)) ∧ w'.cell? ⟨BA, j, none⟩ = some (.pointer (some ⟨n6, j + 2, none⟩)) ∧ w'.cell? ⟨n6, j + 2, none⟩ = some (.int .i64 (vl c j))) (first | exact ⟨a0, a1, a2⟩ | exact ⟨b0, b1, b2⟩ | exact ⟨e0, e1, e2⟩)
                  (first
                    | (go_at_call 75
                       refine (itoa_calls _ hrg _ (hW10.drew.laid hL)).mono ?_
                       rintro e w11 ⟨rfl, hb11⟩
                       have hW11 := hW10.drew.below hb11
                       have hX11 := (hb11.block _ hn6s).trans hX10
                       have hP11 := (hb11.block _ hAs).trans hP10
                       have hC11 := (hb11.block _ hCs).trans hC10
                       have hF11 := (hb11.block _ hs10).trans hF10
                       have b0 : w11.cell? ⟨n9, 0, none⟩ = some (.string (bs (fd j).w)) := (by rw [Lib.cell_of_heap hF11]; rfl)
                       have b1 : w11.cell? ⟨BA, j, none⟩ = some (.pointer (some ⟨n6, j + 2, none⟩)) := (by rw [Lib.cell_of_heap hP11]; exact ptr_at n6 hj12)
                       have b2 : w11.cell? ⟨n6, j + 2, none⟩ = some (.int .i64 (vl c j)) := (by rw [Lib.cell_of_heap hX11]; exact ch_at c _ _ hj12))
                    | (go_at_call 70
                       refine (stg_write hW11 (fP c j) (by simp only [bs_append]; unfold fP; simp) hle).mono ?_
                       rintro e w12 ⟨rfl, hW12, hs12, hk12⟩
                       have hX12 := hk12 _ _ _ hX11 hnB (by decide)
                       have hP12 := hk12 _ _ _ hP11 hAB (by decide)
                       have hC12 := hk12 _ _ _ hC11 hBB2 (by decide)
                       have hF12 := hk12 _ _ _ hF11 hn9B (by decide)
                       have e0 : w12.cell? ⟨n9, 0, none⟩ = some (.string (bs (fd j).w)) := (by rw [Lib.cell_of_heap hF12]; rfl)
                       have e1 : w12.cell? ⟨BA, j, none⟩ = some (.pointer (some ⟨n6, j + 2, none⟩)) := (by rw [Lib.cell_of_heap hP12]; exact ptr_at n6 hj12)
                       have e2 : w12.cell? ⟨n6, j + 2, none⟩ = some (.int .i64 (vl c j)) := (by rw [Lib.cell_of_heap hX12]; exact ch_at c _ _ hj12)))
                clear hz1 hz2 hz3
                go_wp2_with fail
                go_roundw
                case rel => exact ⟨j + 1, by omega, by simp, by rw [hst, ← List.append_assoc]; exact hW12, hX12, hP12, hC12⟩
                case measure => simp [intOf]; omega
            · have h10' : ¬ (10 : Int) ≤ (j : Int) := by omega
              have hb : flB c j = false := by rw [hfb, decide_eq_false h10]; rfl
              clear hfb
              rw [hb, if_neg (by decide), List.append_nil] at hst
              go_wp2_with fail
              go_roundw
              case rel => exact ⟨j + 1, by omega, by simp, by rw [hst]; exact hW10, hX10, hP10, hC10⟩
              case measure => simp [intOf]; omega
        · obtain rfl : j = 12 := by omega
          have hflc : ((List.range 12).filter (flB c)).flatMap (fP c) = (fl c).flatMap (fP c) := rfl
          have hfl := fls_len hco (i := 12) (by omega)
          rw [hflc] at hWt hfl
          go_wp2_with fail
          refine (stg_write hWt [125, 10] rfl (by simp only [List.length_append, List.length_cons, List.length_nil] at hqq ⊢; omega)).mono ?_
          rintro e w11 ⟨rfl, hW11, hs11, hk11⟩
          go_wp2_with fail
          go_roundw
          case rel => exact ⟨k + 1, by omega, by simp, by rw [hnx2, ← List.append_assoc]; exact hW11⟩
          case measure => simp [intOf]; omega
    · obtain rfl : k = r.length := by omega
      rw [List.take_length] at hW
      go_wp2_with fail
      refine (stg_string hW).mono ?_
      rintro e w6 ⟨rfl, hb6⟩
      go_wp2
      go_ret2
      exact ⟨rfl, hb6⟩
end Go.Proofs.YtkonpbcnekcjjaaGreatDoor
namespace Go.Proofs.YtkonpbcnekcjjaaGreatDoor
open Go Go.Xec
attribute [local go_sem] tm0 ne_eq not_false_eq_true List.length_append List.length_replicate List.replicate_succ List.replicate_zero Int.cast_ofNat_Int not_true_eq_false decide_true decide_false ite_self beq_self_eq_true Bool.true_beq Bool.false_beq Bool.not_true Bool.not_false
attribute [local go_sem_proc] Nat.reduceAdd Nat.reduceMul Nat.reduceSub Nat.reduceLeDiff Nat.reduceLT Nat.reduceEqDiff Int.reduceLT Int.reduceLE Int.reduceAdd Int.reduceSub Int.reduceMul Int.reduceToNat Int.reducePow Int.reduceNe Int.reduceMod Int.reduceDiv Int.reduceEq Nat.reducePow Int.reduceNeg
set_option maxRecDepth 10000
structure En where
  k : Int
  c : Int
  s : Int
  v : Int
abbrev EK (e : En) : AVal := .agg [.int .i64 e.k, .int .i64 e.c, .int .i64 e.s, .int .i64 e.v]
abbrev RE (a : AVal) (l : List En) : Prop := Rg 4 EK a l
theorem EK_plain (d : Nat) (e : En) : plain (d + 1) (EK e) = true := rfl
theorem EK_sc (e : En) : (cellsOf (EK e)).all isSc = true := rfl
def isEK : AVal → Bool
  | .agg [.int .i64 _, .int .i64 _, .int .i64 _, .int .i64 _] => true
  | _ => false
theorem isEK_inv : ∀ (xs : List AVal), xs.all isEK = true → ∃ l : List En, xs = l.map EK
  | [], _ => ⟨[], rfl⟩
  | x :: xs, h => by
    simp only [List.all_cons, Bool.and_eq_true] at h
    obtain ⟨l, rfl⟩ := isEK_inv xs h.2
    have h1 := h.1
    unfold isEK at h1
    split at h1
    · exact ⟨⟨_, _, _, _⟩ :: l, rfl⟩
    · cases h1
def clN : List AVal → Option (Option (Nat × List AVal))
  | [.nils] => some none
  | [.emp] => some (some (4, []))
  | [.slc 4 xs] => if xs.all isEK = true ∧ xs.length ≤ 100000 then some (some (4, xs)) else none
  | _ => none
theorem clone188 {a : AVal} {l : List En} (ha : RE a l) (h0 : a ≠ .nils) (hl : l.length ≤ 100000) : Bd (inlD C2 1 188 [a] (fun _ => none) 0) fun q => ∃ k g, q.1 = .sl k g 4 0 (l.map EK).length ∧ q.2.1 k = some (.row g 4 (l.map EK)) := by
  refine inl_of (x := x188) rfl rfl ?_
  rw [x188_eq.1, x188_eq.2.1]
  have hn : nilA 0 a = some false := by
    rcases ha with ⟨rfl, rfl⟩ | ⟨rfl, rfl⟩ | rfl
    · exact absurd rfl h0
    · rfl
    · rfl
  have hel : ∀ hp, elemsA 4 a hp = some (l.map EK) := fun hp => ha.elems
  have hpl : ∀ d, plainL (d + 1) (l.map EK) = true := fun d => plainL_map _ (fun x => EK_plain d x) _
  have hsc := all_map EK_sc l
  have hlen : (l.map EK).length = l.length := List.length_map ..
  have ht : (0 + (l.map EK).length) * 32 ≤ 140737488355328 := by rw [hlen]; omega
  have hap : ∀ (key : Key) (hp : Heap) (k : Key), hp k = some (.row 0 4 []) → appA 4 32 key (.sl k 0 4 0 0) a hp = some (.sl k 1 4 0 (l.map EK).length, upd hp k (some (.row 1 4 (l.map EK)))) := by
    intro key hp k hk
    rw [appA_sl, hel, Option.bind_some, lendA_plain (hpl 63), Option.bind_some]
    rw [if_pos (by simp), hk, Option.bind_some, grown_row, if_pos ⟨by simp, ht, hsc⟩]
    simp only [List.map_nil, List.nil_append, applyW, List.drop_zero, Nat.zero_add]
  simp (disch := first | omega | simp only [go_sem, ↓reduceIte, dropK_eq]) only [x188b, go_sem, ↓reduceIte, dropK_eq, hn, hap]
  exact ⟨_, _, rfl, by simp only [go_sem, ↓reduceIte, dropK_eq]⟩
theorem soundN188 : SoundN Tryz.prog 188 clN := by
  refine soundN_of ok2 1 ?_
  intro ys r hr
  have main : ∀ (a : AVal) (l : List En), RE a l → a ≠ .nils → l.length ≤ 100000 → ∃ v h nc, inlD C2 1 188 [a] (fun _ => none) 0 = some (v, h, nc) ∧ ∃ k g, v = .sl k g 4 0 (l.map EK).length ∧ h k = some (.row g 4 (l.map EK)) := by
    intro a l ha h0 hl
    have h := clone188 ha h0 hl
    unfold Bd at h
    obtain ⟨⟨v, hp, nc⟩, e, k, g, h1, h2⟩ := h
    exact ⟨v, hp, nc, e, k, g, h1, h2⟩
  unfold clN at hr
  split at hr
  · cases hr
    have : Bd (inlD C2 1 188 [.nils] (fun _ => none) 0) fun q => q.1 = .nils := by
      refine inl_of (x := x188) rfl rfl ?_
      rw [x188_eq.1, x188_eq.2.1]
      simp (disch := first | omega | simp only [go_sem, ↓reduceIte, dropK_eq]) only [x188b, go_sem, ↓reduceIte, dropK_eq]
    unfold Bd at this
    obtain ⟨⟨v, hp, nc⟩, e, rfl⟩ := this
    exact ⟨_, hp, nc, e, rfl⟩
  · cases hr
    exact main .emp [] (.inr (.inl ⟨rfl, rfl⟩)) (by intro h; cases h) (by simp)
  · split at hr
    · rename_i xs hc
      cases hr
      obtain ⟨l, rfl⟩ := isEK_inv xs hc.1
      exact main (.slc 4 (l.map EK)) l (Rg.slc l) (by intro h; cases h) (by simpa using hc.2)
    · cases hr
  · cases hr
def clQ : List AVal → Option (Option (Nat × List AVal))
  | [.nils] => some none
  | _ => none
theorem soundN419 : SoundN Tryz.prog 419 clQ := by
  refine soundN_of ok2 1 ?_
  intro ys r hr
  unfold clQ at hr
  split at hr
  · cases hr
    have : Bd (inlD C2 1 419 [.nils] (fun _ => none) 0) fun q => q.1 = .nils := by
      refine inl_of (x := x419) rfl rfl ?_
      rw [x419_eq.1, x419_eq.2.1]
      simp (disch := first | omega | simp only [go_sem, ↓reduceIte, dropK_eq]) only [x419b, go_sem, ↓reduceIte, dropK_eq]
    unfold Bd at this
    obtain ⟨⟨v, hp, nc⟩, e, rfl⟩ := this
    exact ⟨_, hp, nc, e, rfl⟩
  · cases hr
end Go.Proofs.YtkonpbcnekcjjaaGreatDoor
namespace Go.Proofs.YtkonpbcnekcjjaaGreatDoor
open Go Go.Xec
set_option maxRecDepth 10000
structure Al where
  c : Int
  k : Int
  s : Int
  deriving DecidableEq
abbrev AK (a : Al) : AVal := .agg [.int .i64 a.c, .int .i64 a.k, .int .i64 a.s]
abbrev KV (c k : Int) : AVal := .agg [.int .i64 c, .int .i64 k]
abbrev kOk (c k : Int) : Prop := 0 ≤ c ∧ c ≤ 3 ∧ 0 ≤ k ∧ k ≤ 15
def num (a : Al) : Int := 16 * a.c + a.k
def cmpI (a b : Int) : Int := if a < b then -1 else if b < a then 1 else 0
def ordA (a b : Al) : Int := if cmpI a.c b.c = 0 then cmpI a.k b.k else cmpI a.c b.c
theorem ordA_num {a b : Al} (ha : kOk a.c a.k) (hb : kOk b.c b.k) : ordA a b < 0 ↔ num a < num b := by
  simp only [kOk] at ha hb
  unfold ordA cmpI num
  repeat' split
  all_goals omega
end Go.Proofs.YtkonpbcnekcjjaaGreatDoor
namespace Go.Proofs.YtkonpbcnekcjjaaGreatDoor
open Go Go.RowKit Go.Shelf Go.Sort
set_option maxHeartbeats 1000000 in
theorem or_calls (a b r : Int) (hr1 : a ≠ 0 → r = a) (hr0 : a = 0 → r = b) (B : Nat) (w : World) (h0 : w.cell? ⟨B, 0, none⟩ = some (.int .i64 a)) (h1 : w.cell? ⟨B, 1, none⟩ = some (.int .i64 b)) :
    Calls Tryz.prog 206 #[.slice (some ⟨B, 0, none⟩) 2 2] w fun e w' => e = .returned (.int .i64 r) ∧ w' = w := by
  go_enter Tryz.func206, Tryz.ntmps206
  go_wp2_with fail
  go_loopw [8] (fun i wr => wr = w ∧ ∃ k : Nat, k ≤ 2 ∧ i = .int .i64 k ∧ (1 ≤ k → a = 0) ∧ (2 ≤ k → b = 0)) (fun i _ => 2 - (intOf i).toNat)
  case atStart => exact ⟨rfl, 0, by omega, rfl, by omega, by omega⟩
  case round =>
    obtain ⟨rfl, k, hk, rfl, ha, hb⟩ := hrel
    match k, hk, ha, hb with
    | 0, _, _, _ =>
      go_wp2_with fail
      · have hne : (a != 0) = true := by assumption
        go_ret
        exact ⟨by rw [hr1 (by simpa using hne)]; rfl, rfl⟩
      · have hne : (a != 0) = false := by assumption
        go_roundw
        case rel => exact ⟨trivial, 1, by omega, by simp, fun _ => by simpa using hne, by omega⟩
        case measure => simp [intOf]
    | 1, _, ha, _ =>
      go_wp2_with fail
      · have hne : (b != 0) = true := by assumption
        go_ret
        exact ⟨by rw [hr0 (ha (by omega))]; rfl, rfl⟩
      · have hne : (b != 0) = false := by assumption
        go_roundw
        case rel => exact ⟨trivial, 2, by omega, by simp, fun _ => ha (by omega), fun _ => by simpa using hne⟩
        case measure => simp [intOf]
    | 2, _, ha, hb =>
      go_wp2_with fail
      go_ret
      exact ⟨by rw [hr0 (ha (by omega)), hb (by omega)]; rfl, rfl⟩
theorem cmp_lib (a b : Int) : Lib.compareInt a b = cmpI a b := by
  unfold Lib.compareInt cmpI
  rfl
theorem cmp_calls (a b : Int) (w : World) : Calls Tryz.prog 207 #[.int .i64 a, .int .i64 b] w fun e w' => e = .returned (.int .i64 (cmpI a b)) ∧ w' = w := by
  have h := AnyG.cmp_Compare_int Tryz.cmpIA a b w
  rw [cmp_lib] at h
  exact h
def encAl (a : Al) : List Value := [.int .i64 a.c, .int .i64 a.k, .int .i64 a.s]
theorem region_still (n : Nat) {P : Program} {l : List Oper} {id : Nat} {Q : Exit → Act → World → Prop} {a : Act} {w : World} (hm : P.follows .mixedOrders = true)
    (hB : Region.lexTailB .any l.toArray n = true) (W : World) (hW : W = w.drew) (h : wpStill P l.toArray W (fun a' => wpList P l.toArray Q (l.drop n) a' W) (l.take n) a) : (Code.region id l.toArray true).wp P Q a w := by
  subst hW
  exact wp_region_still_tail n hm hB h
theorem cellE {w : World} {b i : Nat} {cs : Array Value} {T : TypeId} {fr : Nat × Nat} {v : Value} (h : w.heap[b]? = some (.cells cs T fr)) (hi : cs[i]? = some v) : w.cell? ⟨b, i, none⟩ = some v := by
  simp only [World.cell?, h, hi]
  rfl
set_option maxRecDepth 100000 in
set_option maxHeartbeats 1000000 in
theorem order_calls (x y : Al) (w : World) : Calls Tryz.prog 172 #[.agg #[.int .i64 x.c, .int .i64 x.k, .int .i64 x.s], .agg #[.int .i64 y.c, .int .i64 y.k, .int .i64 y.s]] w fun e w' => e = .returned (.int .i64 (ordA x y)) ∧ ∃ q os', w' = grow (w.drewN q) os' := by
  have h1 := fun W => cmp_calls x.c y.c W
  have h2 := fun W => cmp_calls x.k y.k W
  have h3 := or_calls (cmpI x.c y.c) (cmpI x.k y.k) (ordA x y) (fun h => if_neg h) (fun h => if_pos h)
  generalize ordA x y = r at h3 ⊢
  generalize cmpI x.c y.c = p at h1 h3
  generalize cmpI x.k y.k = q at h2 h3
  go_enter Tryz.func172, Tryz.ntmps172
  go_wp2_with fail
  have a1 := Go.heap_alloc_new w (.cells #[Value.int .i64 x.c, Value.int .i64 x.k, Value.int .i64 x.s] 221)
  have a2 := Go.heap_alloc_new (w.alloc (.cells #[Value.int .i64 x.c, Value.int .i64 x.k, Value.int .i64 x.s] 221)) (.cells #[Value.int .i64 y.c, Value.int .i64 y.k, Value.int .i64 y.s] 221)
  rw [show (w.alloc (.cells #[Value.int .i64 x.c, Value.int .i64 x.k, Value.int .i64 x.s] 221)).heap.size = w.heap.size + 1 by simp] at a2
  have hx : ((w.alloc (.cells #[Value.int .i64 x.c, Value.int .i64 x.k, Value.int .i64 x.s] 221)).alloc (.cells #[Value.int .i64 y.c, Value.int .i64 y.k, Value.int .i64 y.s] 221)).drew.heap[w.heap.size]? = some (.cells #[Value.int .i64 x.c, Value.int .i64 x.k, Value.int .i64 x.s] 221) := (Below.heap_alloc _ _ _ (by simp)).trans a1
  have hy : ((w.alloc (.cells #[Value.int .i64 x.c, Value.int .i64 x.k, Value.int .i64 x.s] 221)).alloc (.cells #[Value.int .i64 y.c, Value.int .i64 y.k, Value.int .i64 y.s] 221)).drew.heap[w.heap.size + 1]? = some (.cells #[Value.int .i64 y.c, Value.int .i64 y.k, Value.int .i64 y.s] 221) := a2
  have hg : ((w.alloc (.cells #[Value.int .i64 x.c, Value.int .i64 x.k, Value.int .i64 x.s] 221)).alloc (.cells #[Value.int .i64 y.c, Value.int .i64 y.k, Value.int .i64 y.s] 221)).drew = grow (w.drewN 1) #[.cells #[Value.int .i64 x.c, Value.int .i64 x.k, Value.int .i64 x.s] 221, .cells #[Value.int .i64 y.c, Value.int .i64 y.k, Value.int .i64 y.s] 221] := rfl
  generalize ((w.alloc (.cells #[Value.int .i64 x.c, Value.int .i64 x.k, Value.int .i64 x.s] 221)).alloc (.cells #[Value.int .i64 y.c, Value.int .i64 y.k, Value.int .i64 y.s] 221)) = W1 at hx hy hg ⊢
  refine region_still 10 (by kernel_rfl) (by kernel_rfl) _ rfl ?_
  generalize W1.drew = W at hx hy hg ⊢
  have x0 : W.cell? ⟨w.heap.size, 0, none⟩ = some (.int .i64 x.c) := cellE hx rfl
  have x1 : W.cell? ⟨w.heap.size, 1, none⟩ = some (.int .i64 x.k) := cellE hx rfl
  have y0 : W.cell? ⟨w.heap.size + 1, 0, none⟩ = some (.int .i64 y.c) := cellE hy rfl
  have y1 : W.cell? ⟨w.heap.size + 1, 1, none⟩ = some (.int .i64 y.k) := cellE hy rfl
  simp only [List.take_succ_cons, List.take_zero, List.drop_succ_cons, List.drop_zero]
  have HG : Hid _ := hg
  have H3 : Hid _ := h3
  clear a1 a2 hx hy hg h3
  repeat still_step
  still_call (h1 W)
  repeat still_step
  still_call (h2 W)
  refine wpStill_nil ?_
  go_wp2_with (go_at_call 206; refine (H3.out _ _ ?_ ?_).mono ?_; exact cellE (Go.heap_alloc_new _ _) rfl; exact cellE (Go.heap_alloc_new _ _) rfl; rintro e w' ⟨rfl, hw⟩; rw [hw])
  go_ret
  exact ⟨rfl, 1, _, by rw [HG.out, alloc_eq_grow, grow_grow]⟩
instance : Inhabited Al := ⟨⟨0, 0, 0⟩⟩
theorem order_lays (blk off size : Nat) (w : World) : CmpLays Tryz.prog 172 #[] encAl 3 ordA blk off size w :=
  fun _ _ _ _ x y => order_calls x y _
theorem cmpI_lt (a b : Int) : (cmpI a b < 0 ↔ a < b) ∧ (cmpI a b = 0 ↔ a = b) := by
  unfold cmpI
  constructor
  all_goals repeat' split
  all_goals omega
theorem ordA_lt (a b : Al) : ordA a b < 0 ↔ a.c < b.c ∨ (a.c = b.c ∧ a.k < b.k) := by
  have h1 := cmpI_lt a.c b.c
  have h2 := cmpI_lt a.k b.k
  unfold ordA
  split <;> omega
theorem ordA_swo : SWO (ltOf ordA) where
  irrefl x := by rw [ltOf, decide_eq_false_iff_not, ordA_lt]; omega
  trans x y z h1 h2 := by
    rw [ltOf, decide_eq_true_eq, ordA_lt] at *
    omega
  ntrans x y z h1 h2 := by
    rw [ltOf, decide_eq_false_iff_not, ordA_lt] at *
    omega
def ME (p : Al × Nat) : MapEntry := { key := .agg #[.int .i64 p.1.c, .int .i64 p.1.k], val := .int .i64 p.1.s, born := p.2 }
def entM (m : List (Al × Nat)) : List (Go.Xec.AVal × Go.Xec.AVal × Nat) := m.map fun p => (KV p.1.c p.1.k, .int .i64 p.1.s, p.2)
theorem EL_ent {x : Go.Xec.Ctx} : ∀ {m : List (Al × Nat)} {es : List MapEntry}, Go.Xec.EL x (entM m) es → es = m.map ME
  | [], _, h => h
  | p :: m, _, ⟨e, r, rfl, h1, h2, h3, h4⟩ => by
    rw [List.map_cons, ← EL_ent h4]
    simp only [Go.Xec.V, Go.Xec.VL] at h1 h2
    obtain ⟨cs, hk, a, q, rfl, ha, b, s, rfl, hb, rfl⟩ := h1
    obtain ⟨k, v, n⟩ := e
    simp only at hk h2 h3
    subst hk ha hb h2 h3
    rfl
def leftL (m : List (Al × Nat)) (seen : Array Nat) : List (Al × Nat) := m.filter fun p => !seen.contains p.2
theorem leftL_nil (m : List (Al × Nat)) : leftL m #[] = m := by simp [leftL]
theorem leftOf_ME (m : List (Al × Nat)) (seen : Array Nat) : (leftOf (m.map ME).toArray seen).toList = (leftL m seen).map ME := by
  unfold leftOf leftL
  rw [Array.toList_filter, List.filter_map]
  rfl
theorem strike {p : Al × Nat} : ∀ {L : List (Al × Nat)}, (L.map (·.2)).Nodup → p ∈ L → L.Perm (p :: L.filter fun q => q.2 != p.2)
  | x :: r, hn, hp => by
    rw [List.map_cons, List.nodup_cons] at hn
    rcases List.mem_cons.1 hp with rfl | hp
    · have h : (p :: r).filter (fun q => q.2 != p.2) = r := by
        rw [List.filter_cons, if_neg (by simp)]
        refine List.filter_eq_self.2 fun q hq => ?_
        have : q.2 ≠ p.2 := fun e => hn.1 (List.mem_map.2 ⟨q, hq, e⟩)
        simp [this]
      rw [h]
    · have hx : x.2 ≠ p.2 := fun e => hn.1 (List.mem_map.2 ⟨p, hp, e.symm⟩)
      rw [List.filter_cons, if_pos (by simp [hx])]
      exact ((strike hn.2 hp).cons x).trans (List.Perm.swap _ _ _)
theorem leftL_push (m : List (Al × Nat)) (seen : Array Nat) (n : Nat) : leftL m (seen.push n) = (leftL m seen).filter fun q => q.2 != n := by
  unfold leftL
  rw [List.filter_filter]
  congr 1
  funext q
  rw [Array.contains_push]
  cases seen.contains q.2 <;> simp [bne]
theorem leftL_nodup {m : List (Al × Nat)} (hn : (m.map (·.2)).Nodup) (seen : Array Nat) : ((leftL m seen).map (·.2)).Nodup := hn.sublist (List.filter_sublist.map _)
theorem vis_step {m ms : List (Al × Nat)} {seen : Array Nat} (hn : (m.map (·.2)).Nodup) (h : (ms ++ leftL m seen).Perm m) {p : Al × Nat} (hp : p ∈ leftL m seen) : ((ms ++ [p]) ++ leftL m (seen.push p.2)).Perm m ∧ (leftL m (seen.push p.2)).length < (leftL m seen).length := by
  rw [leftL_push]
  have hs := strike (leftL_nodup hn seen) hp
  constructor
  · rw [List.append_assoc]
    exact (List.Perm.append_left ms hs.symm).trans h
  · rw [hs.length_eq, List.length_cons]
    omega
section
variable {P : Program} (w : World) {ops : Array Oper} {rest : List Oper} {o : Oper} {a : Act} {Q : Exit → Act → World → Prop}
theorem wpList_range_m (hg : o.guard = none) (m : Operand) (t : TypeId) (hop : o.op = Op.range t m) (k e : TypeId) (ht : P.underlying t = some (.map k e)) (b : Nat) (es : Array MapEntry) (cl : Nat)
    (hm : a.eval m = .map (some b)) (hb : w.heap[b]? = some (.map es cl))
    (hK : wpList P ops Q rest (a.put o.dst (.pointer (some ⟨w.heap.size, 0, none⟩))) (w.alloc (.mapIter (some b) cl #[] cl))) :
    wpList P ops Q (o :: rest) a w := by
  refine wpList_plain hg fun K' hK' => ?_
  unfold Oper.wp
  simp [execOp, hop, hm, run_range_map w t k e b es cl ht hb, Result.andThen]
  exact hK' _ _ hK
theorem wpList_next_m (hg : o.guard = none) (it : Operand) (hop : o.op = Op.next it false) (r b cl : Nat) (seen : Array Nat) (m : List (Al × Nat))
    (hit : a.eval it = .pointer (some ⟨r, 0, none⟩)) (hr : w.heap[r]? = some (.mapIter (some b) cl seen cl)) (hrb : r ≠ b) (hb : w.heap[b]? = some (.map (m.map ME).toArray cl)) (hold : ∀ p ∈ m, p.2 < cl) (hn : (m.map (·.2)).Nodup)
    (hDone : leftL m seen = [] → wpList P ops Q rest (a.put o.dst (.tuple #[.bool false])) w)
    (hMore : ∀ p ∈ leftL m seen, ∀ w' : World, w.grownBy w' (some r) → w'.heap.size = w.heap.size → w'.heap[r]? = some (.mapIter (some b) cl (seen.push p.2) cl) → (Instr.entry (.pointer (some ⟨r, 0, none⟩))).run P w' = .ok (.tuple #[.agg #[.int .i64 p.1.c, .int .i64 p.1.k], .int .i64 p.1.s]) w' →
      wpList P ops Q rest (a.put o.dst (.tuple #[.bool true, .agg #[.int .i64 p.1.c, .int .i64 p.1.k], .int .i64 p.1.s])) w') :
    wpList P ops Q (o :: rest) a w := by
  refine wpList_plain hg fun K' hK' => ?_
  have hold' : ∀ x ∈ (m.map ME).toArray.toList, x.born < cl := by
    intro x hx
    obtain ⟨p, hp, rfl⟩ := List.mem_map.1 hx
    exact hold p hp
  have hn' : ((m.map ME).toArray.toList.map (·.born)).Nodup := by
    rw [List.map_map]
    exact hn
  unfold Oper.wp
  rcases run_next_at (P := P) w o.type r b cl cl seen _ cl hr hb hold' (Nat.le_refl _) with ⟨h0, hrun⟩ | ⟨e, he, w1, hw1, hrun⟩
  · simp [execOp, hop, hit, hrun, Result.andThen]
    refine hK' _ _ (hDone ?_)
    have : (leftOf (m.map ME).toArray seen).toList.length = 0 := by simpa using h0
    rw [leftOf_ME, List.length_map] at this
    exact List.eq_nil_of_length_eq_zero this
  · rw [leftOf_ME] at he
    obtain ⟨p, hp, rfl⟩ := List.mem_map.1 he
    simp [execOp, hop, hit, hrun, Result.andThen]
    have hlt := (Array.getElem?_eq_some_iff.1 hr).1
    have hs : w1.heap = w.heap := by rcases hw1 with rfl | rfl <;> rfl
    have hr1 : w1.heap[r]? = some (.mapIter (some b) cl seen cl) := by rw [hs]; exact hr
    refine hK' _ _ (hMore p hp _ ?_ ?_ ?_ ?_)
    · refine ⟨by rcases hw1 with rfl | rfl <;> rfl, by rcases hw1 with rfl | rfl <;> rfl, by rcases hw1 with rfl | rfl <;> rfl, ?_, ?_⟩
      · simp [ChangeMaps.setBlock, hs]
      · intro k hk hne
        have : r ≠ k := fun e => hne (by rw [e])
        simp [ChangeMaps.setBlock, hs, Array.getElem?_setIfInBounds, this]
    · simp [ChangeMaps.setBlock, hs]
    · simp [ChangeMaps.setBlock, hs, hlt]
      rfl
    · refine run_entry_at (P := P) _ r b cl seen _ cl (ME p) ?_ ?_ ?_ hn'
      · simp [ChangeMaps.setBlock, hs, hlt]
      · simp [ChangeMaps.setBlock, hs, Array.getElem?_setIfInBounds, hrb, hb]
      · exact List.mem_map.2 ⟨p, (List.mem_filter.1 hp).1, rfl⟩
end
theorem iterSeen_of {w : World} {r : Nat} {a : Option Nat} {b c : Nat} {s : Array Nat} (h : w.heap[r]? = some (.mapIter a b s c)) : w.iterSeen r = s := by
  unfold World.iterSeen
  rw [h]
theorem infoA : (Tryz.prog.info? 221).map (fun i => (i.zero, i.size, i.bytes)) = some (some (.agg #[.int .i64 0, .int .i64 0, .int .i64 0]), 3, 24) := by kernel_rfl
theorem cells3_new (w : World) (x y z : Value) (t : TypeId) : ∀ j u, [x, y, z][j]? = some u → (w.alloc (.cells #[x, y, z] t)).cell? ((⟨w.heap.size, 0, none⟩ : Addr).add j) = some u := by
  intro j u hj
  have h := Go.heap_alloc_new w (.cells #[x, y, z] t)
  match j, hj with
  | 0, hj | 1, hj | 2, hj =>
    exact cellE h (by simpa [Addr.add] using hj)
  | j + 3, hj => simp at hj
theorem rowOff {W : World} {b : Nat} {e : TypeId} {size : Nat} {v : Value} {n : Nat} {xs : List Value} (h : W.ownsRow b e size v n xs) {k : Nat} (hk : k < b) : v.ownBlock ≠ some k := by
  intro e'
  have := (h.lt k e').1
  omega
theorem rowSucc {w : World} {b : Nat} {e : TypeId} {size n : Nat} {v : Value} {xs : List Value} (h : w.ownsRow b e size v (n + 1) xs) : ∃ g cap, v = .slice (some ⟨g, 0, none⟩) (n + 1) cap := by
  rcases h.2 with ⟨_, h⟩ | ⟨g, cap, _, h, _⟩
  · cases h
  · exact ⟨g, cap, h⟩
def Listed (al : List Al) (B : Nat) (w' : World) (v : Value) : Prop := ∃ ds : List Al, ds.Perm al ∧ (ds.Pairwise fun x y => ¬ ordA y x < 0) ∧
  ((ds = [] ∧ v = .slice none 0 0) ∨ (ds ≠ [] ∧ ∃ g cap cur, v = .slice (some ⟨g, 0, none⟩) ds.length cap ∧ B ≤ g ∧ w'.heap[g]? = some (.cells cur 221 (0, 0)) ∧ ds.length ≤ cap ∧ cur.size = cap * 3 ∧ HoldsK encAl 3 w' g 0 ds.toArray))
theorem heapK {w : World} {g n : Nat} {os : Array Obj} {cur : Array Value} {e : TypeId} {fr : Nat × Nat} (d : Array Al) (hb : w.heap[g]? = some (.cells cur e fr)) :
    (sortWorldK encAl 3 w g 0 n d os).heap[g]? = some (.cells (putCells id 0 (flatK encAl 3 d) cur) e fr) := by
  have hg : g < w.heap.size := (Array.getElem?_eq_some_iff.1 hb).1
  unfold sortWorldK
  rw [heap_grow_old _ _ (by simpa [putRowK] using hg)]
  simp [putRowK, putRow, mapBlock, Sort.ahead, Array.getElem?_modify, hb, onCells]
theorem grownByK {w : World} {g n : Nat} {os : Array Obj} (d : Array Al) : w.grownBy (sortWorldK encAl 3 w g 0 n d os) (some g) := by
  unfold sortWorldK
  refine ⟨rfl, rfl, rfl, by simp [putRowK], fun k hk hne => ?_⟩
  rw [heap_grow_old _ _ (by simpa [putRowK] using hk)]
  have : g ≠ k := fun e => hne (by rw [e])
  simp [putRowK, putRow, mapBlock, Sort.ahead, Array.getElem?_modify, this]
theorem flat_get : ∀ (l : List Al) (j r : Nat) (h : j < l.length), r < 3 → (l.flatMap encAl)[3 * j + r]? = (encAl l[j])[r]?
  | a :: l, 0, r, _, hr => by
    rw [List.flatMap_cons, List.getElem?_append_left (by simp [encAl]; omega)]
    simp
  | a :: l, j + 1, r, h, hr => by
    rw [List.flatMap_cons, List.getElem?_append_right (by simp [encAl]; omega)]
    rw [show 3 * (j + 1) + r - (encAl a).length = 3 * j + r by simp [encAl]; omega, flat_get l j r (by simpa using h) hr]
    rfl
theorem holds_flat {w : World} {g : Nat} {cur : Array Value} {e : TypeId} {l : List Al} (hb : w.heap[g]? = some (.cells cur e (0, 0))) (ht : cur.toList.take (l.length * 3) = l.flatMap encAl) : HoldsK encAl 3 w g 0 l.toArray := by
  intro t hj
  have ht' : t < l.length * 3 := by simpa using hj
  refine ⟨?_, by simp [World.frozen?, hb]⟩
  have h1 : (cur.toList.take (l.length * 3))[t]? = (l.flatMap encAl)[t]? := by rw [ht]
  rw [List.getElem?_take_of_lt ht'] at h1
  have hq : t / 3 < l.length := by omega
  have h2 := flat_get l (t / 3) (t % 3) hq (by omega)
  rw [show 3 * (t / 3) + t % 3 = t by omega] at h2
  refine cellE (i := 0 + t) hb ?_
  rw [Nat.zero_add, ← Array.getElem?_toList, h1, h2, id, get_flatK _ _ _ _ (by simpa using ht'), getElem!_pos l.toArray (t / 3) (by simpa using hq), List.getElem_toArray, getElem!_pos (encAl l[t / 3]) (t % 3) (by simp [encAl]; omega)]
  exact List.getElem?_eq_getElem _
theorem flatMap_fst (ms : List (Al × Nat)) : (ms.flatMap fun p => encAl p.1) = (ms.map (·.1)).flatMap encAl := by rw [List.flatMap_map]
theorem listed_sorted {al : List Al} {ms : List (Al × Nat)} {B g cap n : Nat} {os : Array Obj} {cur : Array Value} {w wr : World} {d' : Array Al} (hA : (ms.map (·.1)).Perm al) (hbw : RowKit.Below w.heap.size w wr) (hBg : w.heap.size ≤ g)
    (hg : wr.heap[g]? = some (.cells cur 221 (0, 0))) (h1 : ms.length ≤ cap) (h3 : cur.size = cap * 3) (hne : ms ≠ []) (hH : HoldsK encAl 3 wr g 0 (ms.map (·.1)).toArray)
    (hp : PermIn 0 ms.length (ms.map (·.1)).toArray d') (hs : SortedIn (ltOf ordA) 0 ms.length d') :
    RowKit.Below w.heap.size w (sortWorldK encAl 3 wr g 0 n d' os) ∧ Listed al w.heap.size (sortWorldK encAl 3 wr g 0 n d' os) (.slice (some ⟨g, 0, none⟩) ms.length cap) := by
  have hgl := (Array.getElem?_eq_some_iff.1 hg).1
  have hsz : d'.size = ms.length := by rw [hp.1]; simp
  have hperm : d'.toList.Perm (ms.map (·.1)) := by
    have := hp.2.2
    rw [show d'.extract 0 ms.length = d' by rw [← hsz]; simp, show (ms.map (·.1)).toArray.extract 0 ms.length = (ms.map (·.1)).toArray by simp; rw [List.take_of_length_le (by simp)]] at this
    exact this
  have hlen : d'.toList.length = ms.length := by simpa using hsz
  refine ⟨hbw.grown (grownByK d') hbw.size (fun k e => by cases e; exact hBg), d'.toList, hperm.trans hA, ?_, .inr ⟨?_, g, cap, _, by rw [hlen], hBg, heapK d' hg, by omega, by simp [putCells, h3], ?_⟩⟩
  · rw [List.pairwise_iff_getElem]
    intro i j hi hj hij
    have h := hs i j (Nat.zero_le _) hij (by omega)
    rw [ltOf, decide_eq_false_iff_not, getElem!_pos d' i (by simpa using hi), getElem!_pos d' j (by simpa using hj)] at h
    simpa using h
  · intro e
    rw [e] at hlen
    exact hne (List.eq_nil_of_length_eq_zero hlen.symm)
  · rw [Array.toArray_toList]
    exact holdsK_sortWorldK_c encAl 3 wr g 0 _ d' n os hH hgl (by rw [hsz]; simp)
set_option maxHeartbeats 4000000 in
set_option maxRecDepth 100000 in
theorem list_calls (m : List (Al × Nat)) (cl b : Nat) (w : World) (hn : (m.map (·.2)).Nodup) (hold : ∀ p ∈ m, p.2 < cl) (hl : m.length ≤ 200000) (hb : w.heap[b]? = some (.map (m.map ME).toArray cl)) :
    Calls Tryz.prog 177 #[.map (some b)] w fun e w' => ∃ v, e = .returned v ∧ Below w.heap.size w w' ∧ Listed (m.map (·.1)) w.heap.size w' v := by
  obtain ⟨i0, hi, hz0, hz1, hz2⟩ := info_parts infoA
  have hblt := (Array.getElem?_eq_some_iff.1 hb).1
  have HM : Hid (∀ ms : List (Al × Nat), ms.Perm m → (ms.map (·.1)).Perm (m.map (·.1))) := fun ms h => h.map _
  generalize m.map (·.1) = al at HM ⊢
  have HN : Hid _ := hn
  have HO : Hid _ := hold
  have HL : Hid _ := hl
  have HB : Hid _ := hb
  clear hn hold hl
  go_enter Tryz.func177, Tryz.ntmps177
  go_wp2_with (first
    | (at_range; refine wpList_range_m _ rfl _ 255 rfl 313 3 Tryz.underlying255 b _ cl rfl HB.out ?_)
    | go_in)
  go_frame
  go_loopw [3] (fun v wr => ∃ (ms : List (Al × Nat)) (seen : Array Nat), wr.heap[w.heap.size]? = some (.mapIter (some b) cl seen cl) ∧ wr.ownsRow (w.heap.size + 1) 221 3 v ms.length (ms.flatMap fun p => encAl p.1) ∧ Hid (v = .slice none 0 0 ↔ ms = []) ∧ Hid ((ms ++ leftL m seen).Perm m) ∧ Below w.heap.size w wr ∧ w.heap.size < wr.heap.size)
    (fun _ wr => (leftL m (wr.iterSeen w.heap.size)).length)
  case atStart =>
    refine ⟨[], #[], Go.heap_alloc_new _ _, World.ownsRow_nil _ _ _ _, by constructor <;> simp, ?_, (Below.refl _ w).alloc (Nat.le_refl _) _, by simp⟩
    show List.Perm _ _
    rw [leftL_nil]
    exact List.Perm.refl _
  case round =>
    obtain ⟨ms, seen, hit, hrow, HV, HP, hbw, hsz⟩ := hrel
    have HI : Hid _ := hit
    have hbr : wr.heap[b]? = some (.map (m.map ME).toArray cl) := (hbw.block b hblt).trans HB.out
    have HBr : Hid _ := hbr
    clear hit hbr
    go_wp2_with (first
      | (at_next; refine wpList_next_m _ rfl _ rfl w.heap.size b cl seen m rfl HI.out (by omega) HBr.out HO.out HN.out ?_ ?_)
      | go_in)
    · intro h0
      have hP : ms.Perm m := by have := HP.out; rwa [h0, List.append_nil] at this
      have hA := HM.out ms hP
      have hml : ms.length ≤ 200000 := by rw [hP.length_eq]; exact HL.out
      have HA : Hid _ := hA
      clear hP hA h0
      rcases hrow.2 with ⟨hnil, hk0⟩ | ⟨g, cap, cur, hv, hbase, hg, h1, h2, h3, h4⟩
      · subst hnil
        obtain rfl : ms = [] := List.eq_nil_of_length_eq_zero hk0
        have hcon := fun W => AnyF.slices_SortFunc_none Tryz.sortA none 0 (.func (.func 172) #[] #[]) W
        change ∀ W, Calls Tryz.prog 219 _ _ _ at hcon
        go_wp2_with (go_at_call 219; refine (hcon _).mono ?_; rintro e w' ⟨rfl, rfl⟩)
        go_ret
        exact ⟨_, rfl, hbw, [], HA.out, List.Pairwise.nil, .inl ⟨rfl, rfl⟩⟩
      · subst hv
        have hgl := (Array.getElem?_eq_some_iff.1 hg).1
        have hne : ms ≠ [] := fun e => by have := HV.out.2 e; cases this
        rw [flatMap_fst] at h4
        have hH : HoldsK encAl 3 wr g 0 (ms.map (·.1)).toArray := holds_flat hg (by rw [List.length_map]; exact h4)
        have eg : ∀ args w, (callFunc 172 args).run Tryz.prog w = .ok (.enter 172 args) w := enters_of Tryz.func172 (by kernel_rfl) rfl
        have hcon := AnyQ.slices_SortFunc Tryz.sortA 3 Tryz.isAgg221 Tryz.sizeOf221 encAl (fun _ => rfl) (fun x v hv => by simp [encAl] at hv; rcases hv with rfl | rfl | rfl <;> rfl) ordA ordA_swo 172 #[] g 0 cap (ms.map (·.1)).toArray wr eg (order_lays _ _ _ _) hH hgl (by simp; omega)
        rw [show (ms.map (·.1)).toArray.size = ms.length by simp] at hcon
        change Calls Tryz.prog 219 _ _ _ at hcon
        have K := fun n os d' hp hs => @listed_sorted al ms 0 g cap n os cur w wr d' HA.out hbw (by omega) hg h1 h3 hne hH hp hs
        have HK : Hid _ := K
        clear K hrow hH hg h1 h2 h3 h4 hne eg
        go_wp2_with (go_at_call 219; refine hcon.mono ?_; rintro e w' ⟨rfl, d', n, os, hp, hs, rfl⟩)
        go_ret
        obtain ⟨k1, k2⟩ := HK.out n os d' hp hs
        exact ⟨_, rfl, k1, k2⟩
    · intro pa pn hp w1 hg1 hs1 hr1 hen
      obtain ⟨st1, st2⟩ := vis_step HN.out HP.out hp
      have hml : ms.length + 1 ≤ 200000 := by
        have h1 := st1.length_eq
        have h2 := HL.out
        simp only [List.length_append, List.length_cons, List.length_nil] at h1
        omega
      have hl1 : ms.length + 1 ≤ maxLen := by simp only [maxLen]; omega
      have hl2 : (ms.length + 1) * 24 ≤ 140737488355328 := by omega
      have hrow1 := hrow.kept hg1 (.inr (rowOff hrow (by omega)))
      have hbw1 := hbw.grown hg1 hbw.size (fun k e => by cases e; exact Nat.le_refl _)
      have hnews : ∀ j u, [Value.int .i64 pa.c, .int .i64 pa.k, .int .i64 pa.s][j]? = some u → ((w1.alloc (.cells #[Value.int .i64 pa.c, .int .i64 pa.k] 313)).alloc (.cells #[Value.int .i64 pa.c, .int .i64 pa.k, .int .i64 pa.s] 221)).cell? ((⟨w1.heap.size + 1, 0, none⟩ : Addr).add j) = some u := by
        have := cells3_new (w1.alloc (.cells #[Value.int .i64 pa.c, .int .i64 pa.k] 313)) (.int .i64 pa.c) (.int .i64 pa.k) (.int .i64 pa.s) 221
        rw [show (w1.alloc (.cells #[Value.int .i64 pa.c, .int .i64 pa.k] 313)).heap.size = w1.heap.size + 1 by simp] at this
        exact this
      have HNW : Hid _ := hnews
      have hwl : w.heap.size < w1.heap.size := by omega
      have HR1 : Hid _ := hr1
      have HS1 : Hid _ := And.intro st1 st2
      clear hr1 st1 st2 hp hrow hg1 hnews hs1 hsz
      go_wp2_with (at_builtin; refine wpList_append_own_at _ rfl _ _ 61 rfl (w.heap.size + 1) 221 i0 _ 3 24 Tryz.underlying61 hi hz0 hz1 hz2 rfl (by decide) _ _ _ rfl ((hrow1.alloc _).alloc _) ⟨w1.heap.size + 1, 0, none⟩ 1 1 [.int .i64 pa.c, .int .i64 pa.k, .int .i64 pa.s] rfl rfl HNW.out (by simp [Value.oneCell']) hl1 hl2 (by simp; omega) ?_; intro v' w2 hown' hgrow hnil hat)
      have hl2w : w1.heap.size + 2 ≤ w2.heap.size := by simpa using hgrow.size
      have hoff := rowOff hrow1 (k := w.heap.size) (by omega)
      go_roundw
      case rel =>
        refine ⟨ms ++ [(pa, pn)], seen.push pn, ?_, ?_, ?_, HS1.out.1, ?_, by omega⟩
        · rw [hgrow.block _ (by simp; omega) (fun e => hoff e.symm), Below.heap_alloc _ _ _ (by simp; omega), Below.heap_alloc _ _ _ hwl]
          exact HR1.out
        · rw [List.length_append, List.flatMap_append]
          exact hown'
        · obtain ⟨g, cap, rfl⟩ := rowSucc hown'
          show _ ↔ _
          constructor <;> simp
        · exact ((hbw1.alloc (by omega) _).alloc (by simp; omega) _).grown hgrow (by simp; omega) (fun k e => by have := (hrow1.lt k e).1; omega)
      case measure =>
        rw [iterSeen_of (w := wr) HI.out, iterSeen_of (w := w2) (s := seen.push pn) (a := some b) (b := cl) (c := cl)]
        · exact HS1.out.2
        · rw [hgrow.block _ (by simp; omega) (fun e => hoff e.symm), Below.heap_alloc _ _ _ (by simp; omega), Below.heap_alloc _ _ _ hwl]
          exact HR1.out
end Go.Proofs.YtkonpbcnekcjjaaGreatDoor
namespace Go.Proofs.YtkonpbcnekcjjaaGreatDoor
open Go Go.Shelf Go.Sort
theorem VR_al {y : Go.Xec.Ctx} {b : Nat} : ∀ {l : List Al} {o : Nat}, (∀ j (h : j < l.length), y.w.cell? ⟨b, o + j * 3, none⟩ = some (.int .i64 l[j].c) ∧ y.w.cell? ⟨b, o + j * 3 + 1, none⟩ = some (.int .i64 l[j].k) ∧ y.w.cell? ⟨b, o + j * 3 + 2, none⟩ = some (.int .i64 l[j].s)) →
    Go.Xec.VR y 3 (l.map AK) b o
  | [], _, _ => by simp only [List.map_nil, Go.Xec.VR]
  | a :: l, o, h => by
    rw [List.map_cons]
    have h0 := h 0 (by simp)
    simp only [Nat.zero_mul, Nat.add_zero, List.getElem_cons_zero] at h0
    simp only [Go.Xec.VR, Go.Xec.VE, Go.Xec.VC, Go.Xec.V, List.length_cons, List.length_nil]
    refine ⟨⟨trivial, ⟨_, h0.1, rfl⟩, ⟨_, h0.2.1, rfl⟩, ⟨_, h0.2.2, rfl⟩, trivial⟩, VR_al fun j hj => ?_⟩
    have h1 := h (j + 1) (by simp; omega)
    rw [show o + (j + 1) * 3 = o + 3 + j * 3 by omega] at h1
    simpa using h1
theorem ord_num {l : List Al} (hk : ∀ a ∈ l, kOk a.c a.k) (h : l.Pairwise fun x y => ¬ ordA y x < 0) : l.Pairwise fun x y => num x ≤ num y := by
  rw [List.pairwise_iff_getElem] at *
  intro i j hi hj hij
  have h1 := h i j hi hj hij
  rw [ordA_num (hk _ (List.getElem_mem hj)) (hk _ (List.getElem_mem hi))] at h1
  omega
theorem sorted_one {l ds : List Al} (hk : ∀ a ∈ l, kOk a.c a.k) (hl : l.Pairwise fun x y => num x < num y) (hp : ds.Perm l) (h : ds.Pairwise fun x y => ¬ ordA y x < 0) : ds = l := by
  have hn := ord_num (fun a ha => hk a (hp.mem_iff.1 ha)) h
  refine List.Perm.eq_of_pairwise (le := fun x y => num x ≤ num y) ?_ hn (hl.imp fun h => by omega) hp
  intro a b ha hb h1 h2
  obtain ⟨i, hi, rfl⟩ := List.mem_iff_getElem.1 (hp.mem_iff.1 ha)
  obtain ⟨j, hj, rfl⟩ := List.mem_iff_getElem.1 hb
  rw [List.pairwise_iff_getElem] at hl
  rcases Nat.lt_trichotomy i j with h3 | h3 | h3
  · have := hl i j hi hj h3; omega
  · subst h3; rfl
  · have := hl j i hj hi h3; omega
def ListAsk (es : List (Go.Xec.AVal × Go.Xec.AVal × Nat)) (cl : Nat) (l : List Al) : Prop :=
  (∀ a ∈ l, kOk a.c a.k) ∧ (l.Pairwise fun x y => num x < num y) ∧ ∃ m : List (Al × Nat), es = entM m ∧ (m.map (·.1)).Perm l ∧ (m.map (·.2)).Nodup ∧ (∀ p ∈ m, p.2 < cl) ∧ m.length ≤ 200000
open Classical in
noncomputable def F23m (es : List (Go.Xec.AVal × Go.Xec.AVal × Nat)) (cl : Nat) : Option (Option (Nat × List Go.Xec.AVal)) :=
  if h : ∃ l, ListAsk es cl l then some (if h.choose = [] then none else some (3, h.choose.map AK)) else none
theorem ME_inj : ∀ {m m' : List (Al × Nat)}, entM m = entM m' → m = m'
  | [], [], _ => rfl
  | [], _ :: _, h => by cases h
  | _ :: _, [], h => by cases h
  | p :: m, q :: m', h => by
    simp only [entM, List.map_cons, List.cons.injEq, Prod.mk.injEq, Go.Xec.AVal.agg.injEq, Go.Xec.AVal.int.injEq, true_and, and_true] at h
    obtain ⟨⟨⟨h1, h2⟩, h3, h4⟩, h5⟩ := h
    rw [ME_inj h5]
    obtain ⟨⟨a, b, c⟩, n⟩ := p
    obtain ⟨⟨a', b', c'⟩, n'⟩ := q
    simp only at h1 h2 h3 h4
    subst h1 h2 h3 h4
    rfl
theorem ask_one {es : List (Go.Xec.AVal × Go.Xec.AVal × Nat)} {cl : Nat} {l l' : List Al} (h : ListAsk es cl l) (h' : ListAsk es cl l') : l = l' := by
  obtain ⟨a1, a2, m, rfl, a3, a4, a5, a6⟩ := h
  obtain ⟨b1, b2, m', e, b3, b4, b5, b6⟩ := h'
  obtain rfl := ME_inj e
  refine (sorted_one b1 b2 (a3.symm.trans b3) ?_)
  rw [List.pairwise_iff_getElem] at *
  intro i j hi hj hij
  rw [ordA_num (a1 _ (List.getElem_mem hj)) (a1 _ (List.getElem_mem hi))]
  have := a2 i j hi hj hij
  omega
theorem F23m_eq {es : List (Go.Xec.AVal × Go.Xec.AVal × Nat)} {cl : Nat} {l : List Al} (h : ListAsk es cl l) : F23m es cl = some (if l = [] then none else some (3, l.map AK)) := by
  have he : ∃ l, ListAsk es cl l := ⟨l, h⟩
  unfold F23m
  rw [dif_pos he, ask_one he.choose_spec h]
theorem sound23 : Go.Xec.SoundM Tryz.prog 177 F23m := by
  intro es cl r hF x b arr hL hb hEL
  by_cases hx : ∃ l, ListAsk es cl l
  · obtain ⟨l, hl⟩ := hx
    rw [F23m_eq hl] at hF
    obtain rfl := Option.some.inj hF
    obtain ⟨a1, a2, m, rfl, a3, a4, a5, a6⟩ := hl
    have harr : arr = (m.map ME).toArray := by
      apply Array.toList_inj.1
      rw [EL_ent hEL]
    subst harr
    refine .inl ⟨enters_of Tryz.func177 (by kernel_rfl) rfl _ _, (list_calls m cl b x.w a4 a5 a6 hb).mono ?_⟩
    rintro e w' ⟨v, rfl, hbw, ds, hp, hs, hv⟩
    obtain rfl := sorted_one a1 a2 (hp.trans a3) hs
    refine ⟨v, rfl, hbw.size, fun b hb => hbw.block b hb, ⟨hbw.os, hbw.tape, hbw.output⟩, ?_⟩
    rcases hv with ⟨rfl, rfl⟩ | ⟨hne, g, cap, cur, rfl, hg, hc, h1, h3, hH⟩
    · rw [if_pos rfl]
    · rw [if_neg hne]
      have hgl := (Array.getElem?_eq_some_iff.1 hc).1
      refine ⟨g, 0, ⟨g, 0, none⟩, cap, cur, 221, by rw [List.length_map], .inr rfl, rfl, hg, hgl, hc, by rw [List.length_map]; exact h1, by omega, fun _ y hy => ?_⟩
      refine VR_al fun j hj => ?_
      rw [hy]
      have h0 := (hH.cell (i := j) (c := 0) (by simpa using hj) (by omega)).1
      have h1 := (hH.cell (i := j) (c := 1) (by simpa using hj) (by omega)).1
      have h2 := (hH.cell (i := j) (c := 2) (by simpa using hj) (by omega)).1
      rw [getElem!_pos ds.toArray j (by simpa using hj), List.getElem_toArray] at h0 h1 h2
      exact ⟨h0, h1, h2⟩
  · unfold F23m at hF
    rw [dif_neg hx] at hF
    cases hF
end Go.Proofs.YtkonpbcnekcjjaaGreatDoor
namespace Go.Proofs.YtkonpbcnekcjjaaGreatDoor
open Go Go.Xec Go.RowKit
def F_prt (xs : List AVal) : Option AVal := if avEqL xs [.agg [.slc 14 [CK c0]]] = true then some (.tup [sv txtL, .int .i64 0]) else none
theorem sound50 : Sound Tryz.prog 50 F_prt := by
  refine sound_calls Tryz.func50 (by kernel_rfl) (by kernel_rfl) ?_
  intro ys r hr w S vs hS hL hl
  unfold F_prt at hr
  split at hr
  · rename_i h
    cases hr
    obtain rfl := avEqL_ok _ _ h
    obtain ⟨v, rfl, hv⟩ := VL_1 hl
    have hg : Grow (ctx0 w S) (ctx0 w fun b => b < w.heap.size) := ⟨fun b hb => hS b hb, fun _ _ => rfl, fun _ _ _ h => h, fun _ => Nat.le_refl _⟩
    have hv := V_grow hg _ _ hv
    have hc : rOk [c0] := ⟨fun c hc => by simp at hc; subst hc; exact c0_ok, trivial, trivial, by decide⟩
    refine (prt_calls w hL (Rg.slc [c0]) hc right0 hv).mono ?_
    rintro e w' ⟨rfl, hb⟩
    obtain ⟨e1, e2, e3⟩ := env_below hb
    refine ⟨_, rfl, e1, e2, e3, ?_⟩
    rw [txt_eq]
    simp only [V, VL]
    exact ⟨_, rfl, _, _, rfl, rfl, _, _, rfl, rfl, rfl⟩
  · cases hr
def decE : AVal × AVal × Nat → Option (Al × Nat)
  | (.agg [.int .i64 c, .int .i64 k], .int .i64 s, n) => some (⟨c, k, s⟩, n)
  | _ => none
theorem decE_eq {e : AVal × AVal × Nat} {p : Al × Nat} (h : decE e = some p) : e = (KV p.1.c p.1.k, .int .i64 p.1.s, p.2) := by
  unfold decE at h
  split at h
  · cases h; rfl
  · cases h
theorem decL_eq : ∀ {es : List (AVal × AVal × Nat)} {m : List (Al × Nat)}, mapO decE es = some m → es = entM m
  | [], m, h => by
    simp only [mapO, Option.some.injEq] at h
    subst h
    rfl
  | e :: es, m, h => by
    rw [mapO] at h
    cases h1 : decE e with
    | none => rw [h1] at h; cases h
    | some p =>
      rw [h1] at h
      cases h2 : mapO decE es with
      | none => rw [h2] at h; cases h
      | some ps =>
        rw [h2] at h
        simp only [Option.some.injEq] at h
        subst h
        rw [decE_eq h1, decL_eq h2]
        rfl
def lsK (es : List (AVal × AVal × Nat)) (cl : Nat) : Option (Option (Nat × List AVal)) :=
  match mapO decE es with
  | some m => if (∀ p ∈ m, kOk p.1.c p.1.k ∧ p.2 < cl) ∧ (m.Pairwise fun x y => num x.1 < num y.1 ∧ x.2 < y.2) ∧ m.length ≤ 200000 then some (if (m.map (·.1)) = [] then none else some (3, (m.map (·.1)).map AK)) else none
  | none => none
theorem soundM177 : SoundM Tryz.prog 177 lsK := by
  intro es cl r hF
  refine sound23 es cl r ?_
  unfold lsK at hF
  cases hm : mapO decE es with
  | none => rw [hm] at hF; cases hF
  | some m =>
    rw [hm] at hF
    simp only at hF
    split at hF
    · rename_i hc
      obtain ⟨h1, h2, h3⟩ := hc
      rw [← Option.some.inj hF]
      refine F23m_eq ⟨fun a ha => ?_, ?_, m, decL_eq hm, List.Perm.refl _, ?_, fun p hp => (h1 p hp).2, h3⟩
      · obtain ⟨p, hp, rfl⟩ := List.mem_map.1 ha
        exact (h1 p hp).1
      · rw [List.pairwise_map]
        exact h2.imp fun h => h.1
      · show List.Pairwise _ _
        rw [List.pairwise_map]
        exact h2.imp fun h => by have := h.2; omega
    · cases hF
def Cfg.addμ (C : Cfg) (t : TypeId) (m : String) (g : FuncId) : Cfg := ⟨C.Γ, C.xf, C.Γn, C.Γm, C.Γa, fun t' m' => if t' = t ∧ m' = m then some g else C.μ t' m'⟩
theorem addμ_ok {P : Program} {C : Cfg} (ok : CfgOk P C) {t : TypeId} {m : String} {g : FuncId} (h : ∀ v w, (Go.method (P.types.size + Made.depth) t v m).run P w = .ok (g, v) w) : CfgOk P (Cfg.addμ C t m g) := by
  refine ⟨ok.Γ, ok.xf, ok.mixed, ok.Γn, ok.Γm, ok.Γa, fun t' m' g' hg => ?_⟩
  simp only [Cfg.addμ] at hg
  split at hg
  · rename_i e
    obtain ⟨rfl, rfl⟩ := e
    cases hg
    exact h
  · exact ok.μ t' m' g' hg
noncomputable def CA0 : Cfg := ((((((CP.add 52 F52).add 24 F24).add 26 F26).add 55 F55).add 10 F10).add 80 F80).add 9 F9
theorem okA0 : CfgOk Tryz.prog CA0 := ((((((okP.add sound52).add sound24).add sound26).add sound55).add sound10).add sound80).add sound9
noncomputable def CA1 : Cfg := ((((((((CA0.add 25 F_add64).add 114 F_sub64).add 233 F_tz).add 66 F_fac).add 67 F_md).add 50 F_prt).add 253 F_index).add 272 (F_atoi 483)).add 75 F_itoa
theorem okA1 : CfgOk Tryz.prog CA1 := ((((((((okA0.add sound25).add sound114).add sound233).add sound66).add sound67).add sound50).add sound253).add sound272).add sound75
noncomputable def CA2 : Cfg := ((CA1.addN 188 clN).addN 419 clQ).addM 177 lsK
theorem okA2 : CfgOk Tryz.prog CA2 := ((okA1.addN soundN188).addN soundN419).addM soundM177
noncomputable def CA : Cfg := Cfg.addμ (Cfg.addμ (Cfg.addμ (Cfg.addμ (Cfg.addμ (Cfg.addμ CA2 299 "datum/channel.right" 424) 299 "datum/channel.step" 425) 141 "datum/base.ranges" 385) 141 "datum/base.reach" 386) 141 "datum/base.scale" 387) 141 "datum/base.steps" 388
theorem okA : CfgOk Tryz.prog CA := addμ_ok (addμ_ok (addμ_ok (addμ_ok (addμ_ok (addμ_ok okA2 (fun v w => by kernel_rfl)) (fun v w => by kernel_rfl)) (fun v w => by kernel_rfl)) (fun v w => by kernel_rfl)) (fun v w => by kernel_rfl)) (fun v w => by kernel_rfl)
noncomputable def F8 : List AVal → Option AVal := pureF CA 20 8
theorem sound8 : Sound Tryz.prog 8 F8 := sound_self okA 20 8
theorem F8_eq : F8 [] = some (.bool true) := pureK_is (by kernel_rfl)
end Go.Proofs.YtkonpbcnekcjjaaGreatDoor
namespace Go.Proofs.YtkonpbcnekcjjaaGreatDoor.DV
open Go Go.Xec
noncomputable def CX5 : Cfg := C5m F8
theorem okX5 : CfgOk Tryz.prog CX5 := ((((((((((okJ.add sound6).add sound7).add sound8).add sound11).add sound12).add sound13).add BS.sound15).add BS.sound16).add BS.sound17).add sound18).add sound19
theorem law5f (xs : List AVal) (h : WTL [.slice 1 8 (.int .i64), .int .i64, .int .i64] xs) : pureF CX5 1 5 xs = some (.bool true) := law5w F8_eq xs h
end Go.Proofs.YtkonpbcnekcjjaaGreatDoor.DV
namespace Go.Proofs.YtkonpbcnekcjjaaGreatDoor
open Go Go.Xec Go.ChangeShapes Go.WideShapes Go.ChangeAt Go.RowKit
theorem seatOwn : ownKnob Tryz.prog.godebug = none := by kernel_rfl
theorem seatLaidOut : laidOutB Tryz.prog = true := by kernel_rfl
theorem gv0 : Tryz.prog.globalNamed "math/bits.deBruijn32tab" = some 4 := by kernel_rfl
theorem gv1 : Tryz.prog.globalNamed "math/bits.deBruijn64tab" = some 5 := by kernel_rfl
theorem gv2 : Tryz.prog.globalNamed "internal/strconv.uint64pow10" = some 3 := by kernel_rfl
theorem gv3 : Tryz.prog.globalNamed "unicode/utf8.acceptRanges" = some 8 := by kernel_rfl
theorem gv4 : Tryz.prog.globalNamed "strconv.ErrRange" = some 10 := by kernel_rfl
theorem gv5 : Tryz.prog.globalNamed "strconv.ErrSyntax" = some 9 := by kernel_rfl
theorem gv6 : Tryz.prog.globalNamed "unicode/utf8.first" = some 7 := by kernel_rfl
theorem seatStar : "*" ++ "errors.errorString" = "*errors.errorString" := by decide
theorem seatRow (u : TypeId) (h : Tryz.prog.typeName? 3 u = some "*errors.errorString") : u = 502 :=
  typeName_ptr_named (nm := "errors.errorString") (by rw [seatStar]; kernel_rfl) (by kernel_rfl) (by decide) u (by rw [seatStar]; exact h)
theorem seatEt : Tryz.prog.globalNamed "errors.errorType" = some 2 := by kernel_rfl
abbrev seatList : List (String × DataW Unit) := Rows.topSquaresRow.laid
theorem laid_of_met {W : World} (h : laidMetH Tryz.prog seatList W) (hS : W.ShapedOpen Tryz.prog) : Laid Tryz.prog W := by
  have hh : laidMet Tryz.prog (seatList.filter fun x => x.2.handleName?.isNone) W ∧ handlesMet Tryz.prog (seatList.filter fun x => x.2.handleName?.isSome) W := h
  clear h
  obtain ⟨h, hhan⟩ := hh
  have h1 := h.tail
  have h2 := h1.tail
  have h3 := h2.tail
  have h4 := h3.tail
  have h5 := h4.tail
  have h6 := h5.tail
  refine ⟨?_, ?_, ?_, ?_⟩
  · intro t ht hne
    simp only [tabs, List.mem_cons, List.not_mem_nil, or_false] at ht
    rcases ht with rfl | rfl
    · exact Lib.tabIs_of_head (k := .u64) (zs := Lib.pow10Tab) gv2 (t := 361) (e := 24) (n := 20) (by kernel_rfl) (by kernel_rfl) (by kernel_rfl) (by kernel_rfl) (by kernel_rfl) h2
    · exact Lib.tabIs_of_head (k := .u8) (zs := Lib.deBruijn64tab.map Int.ofNat) gv1 (t := 435) (e := 5) (n := 64) (by kernel_rfl) (by kernel_rfl) (by kernel_rfl) (by kernel_rfl) (by kernel_rfl) h1
  · intro n hn hg
    simp only [errs, List.mem_cons, List.not_mem_nil, or_false] at hn
    rcases hn with rfl | rfl
    · obtain ⟨a, s, h5, _⟩ := laid_sentinel h5 gv5 (ti := 153) (te := 504) (ts := 9) (tp := 502) (by kernel_rfl) Tryz.underlying153 seatRow Tryz.underlying502 Tryz.underlying504 rfl rfl Tryz.underlying9 (by kernel_rfl) (by kernel_rfl)
      exact ⟨_, _, h5⟩
    · obtain ⟨a, s, h5, _⟩ := laid_sentinel h4 gv4 (ti := 153) (te := 504) (ts := 9) (tp := 502) (by kernel_rfl) Tryz.underlying153 seatRow Tryz.underlying502 Tryz.underlying504 rfl rfl Tryz.underlying9 (by kernel_rfl) (by kernel_rfl)
      exact ⟨_, _, h5⟩
  · intro g hg
    rw [(by kernel_rfl : Tryz.prog.globalNamed "internal/bytealg.MaxLen" = some 6)] at hg
    cases hg
    exact Go.Proofs.cell_of_shapedOpen_int (zero := #[.int .i64 0]) (t := 3) hS (of_decide_eq_true (by kernel_rfl)) (by kernel_rfl) rfl (by kernel_rfl) (by kernel_rfl) Tryz.underlying3
  · intro _
    obtain ⟨name, u, ty, e1, e2, e3, e4, e5⟩ := hhan ("errors.errorType", Rows.laid_errors_errorType) (List.mem_filter.2 ⟨by simp [seatList, Rows.topSquaresRow], rfl⟩)
    have en : name = [101, 114, 114, 111, 114] := (Option.some.inj e1).symm
    subst en
    exact ⟨u, ty, e2, e3, e4, e5⟩
noncomputable def seatLow : Nat := (World.holding Tryz.prog default ⟨#[], #[], []⟩).heap.size
noncomputable def laidWorld (os : Os) : World :=
  let w0 := World.holding Tryz.prog os ⟨#[.cells #[.string { data := #[118, 97, 108, 117, 101, 32, 111, 117, 116, 32, 111, 102, 32, 114, 97, 110, 103, 101] }] 504, .cells #[.string { data := #[105, 110, 118, 97, 108, 105, 100, 32, 115, 121, 110, 116, 97, 120] }] 504], #[], []⟩
  let put (h : Array Obj) (g : Nat) (cs : Array Value) : Array Obj := h.modify g fun
    | .cells _ t frozen => .cells cs t frozen
    | o => o
  let k1 := put w0.heap 4 #[.int .u8 0, .int .u8 1, .int .u8 28, .int .u8 2, .int .u8 29, .int .u8 14, .int .u8 24, .int .u8 3, .int .u8 30, .int .u8 22, .int .u8 20, .int .u8 15, .int .u8 25, .int .u8 17, .int .u8 4, .int .u8 8, .int .u8 31, .int .u8 27, .int .u8 13, .int .u8 23, .int .u8 21, .int .u8 19, .int .u8 16, .int .u8 7, .int .u8 26, .int .u8 12, .int .u8 18, .int .u8 6, .int .u8 11, .int .u8 5, .int .u8 10, .int .u8 9]
  let k2 := put k1 5 #[.int .u8 0, .int .u8 1, .int .u8 56, .int .u8 2, .int .u8 57, .int .u8 49, .int .u8 28, .int .u8 3, .int .u8 61, .int .u8 58, .int .u8 42, .int .u8 50, .int .u8 38, .int .u8 29, .int .u8 17, .int .u8 4, .int .u8 62, .int .u8 47, .int .u8 59, .int .u8 36, .int .u8 45, .int .u8 43, .int .u8 51, .int .u8 22, .int .u8 53, .int .u8 39, .int .u8 33, .int .u8 30, .int .u8 24, .int .u8 18, .int .u8 12, .int .u8 5, .int .u8 63, .int .u8 55, .int .u8 48, .int .u8 27, .int .u8 60, .int .u8 41, .int .u8 37, .int .u8 16, .int .u8 46, .int .u8 35, .int .u8 44, .int .u8 21, .int .u8 52, .int .u8 32, .int .u8 23, .int .u8 11, .int .u8 54, .int .u8 26, .int .u8 40, .int .u8 15, .int .u8 34, .int .u8 20, .int .u8 31, .int .u8 10, .int .u8 25, .int .u8 14, .int .u8 19, .int .u8 9, .int .u8 13, .int .u8 8, .int .u8 7, .int .u8 6]
  let k3 := put k2 3 (Lib.pow10Tab.map fun z => Value.int .u64 z).toArray
  let k4 := put k3 8 ((List.range 16).flatMap fun i => [Value.int .u8 (Lib.accLo i), Value.int .u8 (Lib.accHi i)]).toArray
  let k5 := put k4 10 #[.iface 502 (.pointer (some ⟨seatLow, 0, none⟩))]
  let k6 := put k5 9 #[.iface 502 (.pointer (some ⟨seatLow + 1, 0, none⟩))]
  let k7 := put k6 7 (Lib.firstTab.map fun z => Value.int .u8 z).toArray
  let kh := put k7 2 #[.iface 342 (.agg #[typeHandle Tryz.prog 153])]
  { w0 with heap := kh }
set_option maxRecDepth 100000 in
theorem laidWorld_met (os : Os) (args : Array Value) : laidMetH Tryz.prog seatList ((laidWorld os).forCall (fun _ _ => 0) ⟨#[], args, []⟩).memory := by
  exact laidMetH_of_parts (laidMet_of_run' 8 (by kernel_rfl) (by kernel_rfl)) (by kernel_rfl)
end Go.Proofs.YtkonpbcnekcjjaaGreatDoor
