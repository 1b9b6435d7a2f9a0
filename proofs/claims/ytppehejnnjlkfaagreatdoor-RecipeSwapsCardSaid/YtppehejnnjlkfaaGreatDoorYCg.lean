/-
  The program's Print, walked where the recipe may be.
-/
import Derived.Test.YtppehejnnjlkfaaGreatDoorYCf
import Derived.Deep.RegionHeld3
set_option linter.unusedVariables false
set_option linter.unusedSimpArgs false
namespace Go.Proofs.YtppehejnnjlkfaaGreatDoor
open Go Go.Xec Go.RowKit

theorem itoa_calls (n : Int) (h : -9223372036854775808 ≤ n ∧ n ≤ 9223372036854775807) (w : World) (hL : Laid Tryz.prog w) : Calls Tryz.prog 27 #[.int .i64 n] w fun e w' => e = .returned (.string (bs (Lib.itoa n))) ∧ Below w.heap.size w w' := by
  have hF : F_itoa [.int .i64 n] = some (sv (Lib.itoa n)) := by
    unfold F_itoa
    simp only
    rw [if_pos h]
  refine (calls_sound Tryz.func27 (by kernel_rfl) (by kernel_rfl) sound27 hF w hL (vs := [.int .i64 n]) (by simp only [VL, V]; exact ⟨_, _, rfl, rfl, rfl⟩)).mono ?_
  rintro e w' ⟨v, rfl, hb, hv⟩
  simp only [V] at hv
  subst hv
  exact ⟨rfl, hb⟩
theorem need_calls {t k : Nat} (ht : t < 8) (hk : k < 12) (w : World) (hL : Laid Tryz.prog w) :
    Calls Tryz.prog 26 #[.agg #[.string (bs (fd k).w), .int .i64 (fd k).lo, .int .i64 (fd k).hi, .int .i64 (fd k).nd], .int .i64 (t : Int)] w fun e w' => e = .returned (.bool (needB (fd k) (t : Nat))) ∧ Below w.heap.size w w' := by
  refine (calls_sound Tryz.func26 (by kernel_rfl) (by kernel_rfl) sound26 (E26 ht hk rfl) w hL (vs := [.agg #[.string (bs (fd k).w), .int .i64 (fd k).lo, .int .i64 (fd k).hi, .int .i64 (fd k).nd], .int .i64 (t : Int)]) ?_).mono ?_
  · simp only [VL, V]
    exact ⟨_, _, rfl, ⟨_, rfl, _, _, rfl, rfl, _, _, rfl, rfl, _, _, rfl, rfl, _, _, rfl, rfl, rfl⟩, _, _, rfl, rfl, rfl⟩
  rintro e w' ⟨v, rfl, hb, hv⟩
  simp only [V] at hv
  subst hv
  exact ⟨rfl, hb⟩
theorem ch_at (c : Ch) (u v : Value) {j : Nat} (hj : j < 12) : (#[u, v, .int .i64 c.f0, .int .i64 c.f1, .int .i64 c.f2, .int .i64 c.f3, .int .i64 c.f4, .int .i64 c.f5, .int .i64 c.f6, .int .i64 c.f7, .int .i64 c.f8, .int .i64 c.f9, .int .i64 c.f10, .int .i64 c.f11] : Array Value)[j + 2]? = some (.int .i64 (vl c j)) :=
  match j, hj with
  | 0, _ => rfl
  | 1, _ => rfl
  | 2, _ => rfl
  | 3, _ => rfl
  | 4, _ => rfl
  | 5, _ => rfl
  | 6, _ => rfl
  | 7, _ => rfl
  | 8, _ => rfl
  | 9, _ => rfl
  | 10, _ => rfl
  | 11, _ => rfl
theorem ptr_at (b : Nat) {j : Nat} (hj : j < 12) : (ptrs b).toArray[j]? = some (.pointer (some ⟨b, j + 2, none⟩)) := by
  simp [ptrs, hj]
set_option maxHeartbeats 16000000 in
set_option maxRecDepth 100000 in
theorem prt_calls {a : AVal} {r : List Ch} {v : Value} (w : World) (hL : Laid Tryz.prog w) (ha : RC a r) (hr : rOk r) (hv : V (ctx0 w fun b => b < w.heap.size) (.agg [a]) v) :
    Calls Tryz.prog 13 #[v] w fun e w' => e = .returned (.tuple #[.string (bs (prtR r)), .int .i64 0]) ∧ Below w.heap.size w w' := by
  have hl4 := hr.2.2.2
  obtain ⟨ao, cp, rfl, hcell⟩ := rec_val ha hv
  have hnn : ∀ c ∈ r, c.n.length ≤ 1000000 := fun c hc => by have := (hr.1 c hc).1.2.2; omega
  have hF14 := F14_eq ha (by omega) hnn
  rw [decide_eq_true hr] at hF14
  go_enter Tryz.func13, Tryz.ntmps13
  go_wp2_with (go_at_call 14; refine (calls_sound Tryz.func14 (by kernel_rfl) (by kernel_rfl) sound14 hF14 _ ?hL14 (vs := [.agg #[.slice ao r.length cp]]) ?hV14).mono ?_)
  case hL14 => exact below_laid hL ((Below.refl _ w).alloc (Nat.le_refl _) _)
  case hV14 =>
    simp only [VL]
    exact ⟨_, _, rfl, V_grow (ctx_grow ((Below.refl _ w).alloc (Nat.le_refl _) _)) _ _ hv, rfl⟩
  rintro e w2 ⟨v, rfl, hb2, hv2⟩
  simp only [V] at hv2
  subst hv2
  have hbw2 : Below w.heap.size w w2 := ((Below.refl _ w).alloc (Nat.le_refl _) _).trans (hb2.mono (by simp))
  have hJ2 : w2.heap[w.heap.size]? = some (.cells #[.slice ao r.length cp] 24 (0, 0)) := by
    rw [hb2.block _ (by simp)]
    exact heap_alloc_new _ _
  have hlt2 : w.heap.size < w2.heap.size := by have := hb2.size; simp at this; omega
  have hJ3 : (w2.alloc (.cells #[.pointer none, .slice none 0 0] 60)).heap[w.heap.size]? = some (.cells #[.slice ao r.length cp] 24 (0, 0)) := by
    rw [Lib.alloc_old _ _ _ hlt2]
    exact hJ2
  have c0 : (w2.alloc (.cells #[.pointer none, .slice none 0 0] 60)).cell? ⟨w.heap.size, 0, none⟩ = some (.slice ao r.length cp) := by rw [Lib.cell_of_heap hJ3]; rfl
  have hO : Stg w w2.heap.size [] (w2.alloc (.cells #[.pointer none, .slice none 0 0] 60)) :=
    ⟨Lib.IsBuilderF.of (Lib.fresh_isBuilder 60 5 w2), hbw2.alloc (by omega) _, by omega, by simp⟩
  generalize hB : w2.heap.size = B at *
  go_wp2_with fail
  generalize w2.alloc (.cells #[.pointer none, .slice none 0 0] 60) = w3 at *
  go_loopw [16] (fun i wr => ∃ k : Nat, k ≤ r.length ∧ i = .int .i64 k ∧ Stg w B (prtR (r.take k)) wr)
    (fun i _ => r.length - (intOf i).toNat)
  case atStart =>
    exact ⟨0, Nat.zero_le _, rfl, by simpa [prtR] using hO⟩
  case round =>
    obtain ⟨k, hk, rfl, hW⟩ := hrel
    by_cases hkl : k < r.length
    · obtain ⟨b, o, rfl, hbl, hc⟩ := hcell k hkl
      have hco := hr.1 _ (List.getElem_mem hkl)
      have hnx : prtR (r.take (k + 1)) = prtR (r.take k) ++ chP r[k] := by
        unfold prtR
        rw [take_next hkl, List.flatMap_append]
        simp
      have hpl := prtR_len (r := r.take k) fun c hc => hr.1 c (List.mem_of_mem_take hc)
      rw [List.length_take] at hpl
      generalize prtR (r.take k) = p at *
      generalize hrk : r[k] = c at *
      obtain ⟨t, hct⟩ : ∃ t : Nat, c.t = t := ⟨c.t.toNat, by have := hco.2.1; omega⟩
      have ht : t < 8 := by have := hco.2.1; omega
      have ce : ∀ q, wr.cell? ⟨b, q, none⟩ = w.cell? ⟨b, q, none⟩ := fun q => cell_of_heap (hW.2.1.block b hbl)
      have d0 : wr.cell? ⟨b, o + k * 14, none⟩ = some (.string (bs c.n)) := (ce _).trans (hc 0 _ rfl)
      have d1 : wr.cell? ⟨b, o + k * 14 + 1, none⟩ = some (.int .i64 (t : Int)) := (ce _).trans ((hc 1 _ rfl).trans (by rw [hct]))
      have d2 : wr.cell? ⟨b, o + k * 14 + 2, none⟩ = some (.int .i64 c.f0) := (ce _).trans (hc 2 _ rfl)
      have d3 : wr.cell? ⟨b, o + k * 14 + 3, none⟩ = some (.int .i64 c.f1) := (ce _).trans (hc 3 _ rfl)
      have d4 : wr.cell? ⟨b, o + k * 14 + 4, none⟩ = some (.int .i64 c.f2) := (ce _).trans (hc 4 _ rfl)
      have d5 : wr.cell? ⟨b, o + k * 14 + 5, none⟩ = some (.int .i64 c.f3) := (ce _).trans (hc 5 _ rfl)
      have d6 : wr.cell? ⟨b, o + k * 14 + 6, none⟩ = some (.int .i64 c.f4) := (ce _).trans (hc 6 _ rfl)
      have d7 : wr.cell? ⟨b, o + k * 14 + 7, none⟩ = some (.int .i64 c.f5) := (ce _).trans (hc 7 _ rfl)
      have d8 : wr.cell? ⟨b, o + k * 14 + 8, none⟩ = some (.int .i64 c.f6) := (ce _).trans (hc 8 _ rfl)
      have d9 : wr.cell? ⟨b, o + k * 14 + 9, none⟩ = some (.int .i64 c.f7) := (ce _).trans (hc 9 _ rfl)
      have d10 : wr.cell? ⟨b, o + k * 14 + 10, none⟩ = some (.int .i64 c.f8) := (ce _).trans (hc 10 _ rfl)
      have d11 : wr.cell? ⟨b, o + k * 14 + 11, none⟩ = some (.int .i64 c.f9) := (ce _).trans (hc 11 _ rfl)
      have d12 : wr.cell? ⟨b, o + k * 14 + 12, none⟩ = some (.int .i64 c.f10) := (ce _).trans (hc 12 _ rfl)
      have d13 : wr.cell? ⟨b, o + k * 14 + 13, none⟩ = some (.int .i64 c.f11) := (ce _).trans (hc 13 _ rfl)
      have hkl2 : (k : Int) < (r.length : Int) := by omega
      clear ce hc hcell hv hb2 hJ2 hJ3 c0
      have hX := heap_alloc_new wr (.cells #[.string (bs c.n), .int .i64 (t : Int), .int .i64 c.f0, .int .i64 c.f1, .int .i64 c.f2, .int .i64 c.f3, .int .i64 c.f4, .int .i64 c.f5, .int .i64 c.f6, .int .i64 c.f7, .int .i64 c.f8, .int .i64 c.f9, .int .i64 c.f10, .int .i64 c.f11] 37)
      have hW4 := hW.alloc (.cells #[.string (bs c.n), .int .i64 (t : Int), .int .i64 c.f0, .int .i64 c.f1, .int .i64 c.f2, .int .i64 c.f3, .int .i64 c.f4, .int .i64 c.f5, .int .i64 c.f6, .int .i64 c.f7, .int .i64 c.f8, .int .i64 c.f9, .int .i64 c.f10, .int .i64 c.f11] 37)
      have hnB : wr.heap.size ≠ B := Nat.ne_of_gt hW.2.2.2
      have hs4 : wr.heap.size < (wr.alloc (.cells #[.string (bs c.n), .int .i64 (t : Int), .int .i64 c.f0, .int .i64 c.f1, .int .i64 c.f2, .int .i64 c.f3, .int .i64 c.f4, .int .i64 c.f5, .int .i64 c.f6, .int .i64 c.f7, .int .i64 c.f8, .int .i64 c.f9, .int .i64 c.f10, .int .i64 c.f11] 37)).heap.size := by simp
      go_wp2_with fail
      generalize wr.alloc (.cells #[.string (bs c.n), .int .i64 (t : Int), .int .i64 c.f0, .int .i64 c.f1, .int .i64 c.f2, .int .i64 c.f3, .int .i64 c.f4, .int .i64 c.f5, .int .i64 c.f6, .int .i64 c.f7, .int .i64 c.f8, .int .i64 c.f9, .int .i64 c.f10, .int .i64 c.f11] 37) = w4 at *
      generalize wr.heap.size = n6 at *
      have e0 : w4.cell? ⟨n6, 0, none⟩ = some (.string (bs c.n)) := by rw [Lib.cell_of_heap hX]; rfl
      have e1 : w4.cell? ⟨n6, 1, none⟩ = some (.int .i64 (t : Int)) := by rw [Lib.cell_of_heap hX]; rfl
      clear d0 d1 d2 d3 d4 d5 d6 d7 d8 d9 d10 d11 d12 d13 hO hW
      have hn2 := hco.1.2.2
      have h6 : ∀ t < 8, (chW.getD t []).length ≤ 6 := by decide
      have h6 := h6 t ht
      obtain ⟨wd, hwd⟩ : ∃ wd, chW.getD t [] = wd := ⟨_, rfl⟩
      have hidx : ∀ W, (Instr.index 63 (.agg wsA) (.int .i64 (t : Int))).run Tryz.prog W = .ok (.string (bs wd)) W := by rw [← hwd]; exact fun W => idx_words ht W
      rw [hwd] at h6
      have hhd : (hdP c).length ≤ 100 := by simp only [hdP, List.length_append, List.length_cons, List.length_nil, chanW, hct, Int.toNat_natCast, hwd]; omega
      have hpp : p.length + 100 ≤ 1000000 := by omega
      have htI : (t : Int) < 8 := by omega
      have hz1 : ¬ 9223372036854775807 < 8 + c.n.length := by omega
      have hz2 : ¬ 9223372036854775807 < 8 + c.n.length + 1 := by omega
      have hz3 : ¬ 9223372036854775807 < 8 + c.n.length + 1 + wd.length := by omega
      have hz4 : ¬ 9223372036854775807 < 8 + c.n.length + 1 + wd.length + 3 := by omega
      go_region_held3 (fun w' => w'.cell? ⟨n6, 0, none⟩ = some (.string (bs c.n)) ∧ w'.cell? ⟨n6, 1, none⟩ = some (.int .i64 (t : Int))) (first | exact ⟨e0, e1⟩ | exact ⟨f0, f1⟩ | exact ⟨g0, g1⟩)
        (first
          | (go_at_call 23
             refine (words_calls _ (hW4.drew.laid hL)).mono ?_
             rintro e w5 ⟨rfl, hb5⟩
             have hW5 := hW4.drew.below hb5
             have hX5 := (hb5.block _ hs4).trans hX
             have hs5 := Nat.lt_of_lt_of_le hs4 hb5.size
             have f0 : w5.cell? ⟨n6, 0, none⟩ = some (.string (bs c.n)) := (by rw [Lib.cell_of_heap hX5]; rfl)
             have f1 : w5.cell? ⟨n6, 1, none⟩ = some (.int .i64 (t : Int)) := (by rw [Lib.cell_of_heap hX5]; rfl))
          | (go_at_call 22
             refine (stg_write hW5 (hdP c) (by simp only [bs_append]; unfold hdP; rw [hct, Int.toNat_natCast, hwd]; simp [chanW]) (by omega)).mono ?_
             rintro e w6 ⟨rfl, hW6, hs6, hk6⟩
             have hX6 := hk6 _ _ _ hX5 hnB (by decide)
             have hs6' := Nat.lt_of_lt_of_le hs5 hs6
             have g0 : w6.cell? ⟨n6, 0, none⟩ = some (.string (bs c.n)) := (by rw [Lib.cell_of_heap hX6]; rfl)
             have g1 : w6.cell? ⟨n6, 1, none⟩ = some (.int .i64 (t : Int)) := (by rw [Lib.cell_of_heap hX6]; rfl)))
      clear hW4 hX hz1 hz2 hz3 hz4 e0 e1 hs4
      have hBn6 : B < w6.heap.size := hW6.2.2.2
      have hqq : (p ++ hdP c).length ≤ 1800 := by simp; omega
      go_wp2_with fail
      refine (fields_calls n6 _).mono ?_
      rintro e w7 ⟨BA, rfl, hBA, hP7, hb7⟩
      have hW7 := hW6.below hb7
      have hX7 := (hb7.block _ hs6').trans hX6
      have hs7 := Nat.lt_of_lt_of_le hs6' hb7.size
      have hA7 : BA < w7.heap.size := (Array.getElem?_eq_some_iff.1 hP7).1
      go_wp2_with fail
      refine (bounds_calls _).mono ?_
      rintro e w8 ⟨BB, rfl, hBB, ⟨cs, hC8, hcs⟩, hb8⟩
      have hW8 := hW7.below hb8
      have hX8 := (hb8.block _ hs7).trans hX7
      have hP8 := (hb8.block _ hA7).trans hP7
      have hAB : BA ≠ B := by omega
      have hBB2 : BB ≠ B := by have := hb7.size; omega
      have hnx2 : prtR (r.take (k + 1)) = (p ++ hdP c) ++ ((fl c).flatMap (fP c) ++ [125, 10]) := by rw [hnx, chP_eq]; simp
      clear hX5 hW5 f0 f1 g0 g1 hX6 hW6 hX7 hW7 hP7 hb7 hb8 hb5 hk6 hidx hnx
      generalize hq : p ++ hdP c = q at *
      go_wp2_with fail
      go_loopw [34] (fun i wr => ∃ j : Nat, j ≤ 12 ∧ i = .int .i64 j ∧ Stg w B (q ++ ((List.range j).filter (flB c)).flatMap (fP c)) wr ∧ wr.heap[n6]? = some (.cells #[.string (bs c.n), .int .i64 (t : Int), .int .i64 c.f0, .int .i64 c.f1, .int .i64 c.f2, .int .i64 c.f3, .int .i64 c.f4, .int .i64 c.f5, .int .i64 c.f6, .int .i64 c.f7, .int .i64 c.f8, .int .i64 c.f9, .int .i64 c.f10, .int .i64 c.f11] 37) ∧ wr.heap[BA]? = some (.cells (ptrs n6).toArray 74 (0, 0)) ∧ wr.heap[BB]? = some (.cells cs 71 (0, 0)))
        (fun i _ => 12 - (intOf i).toNat)
      case atStart =>
        exact ⟨0, Nat.zero_le _, rfl, by simpa using hW8, hX8, hP8, hC8⟩
      case round =>
        obtain ⟨j, hj, rfl, hWt, hXt, hPt, hCt⟩ := hrel
        by_cases hj12 : j < 12
        · have d12 : (j : Int) < 12 := by omega
          obtain ⟨q0, q1, q2, q3⟩ := hcs j hj12
          have u0 : wr.cell? ⟨BB, j * 4, none⟩ = some (.string (bs (fd j).w)) := by rw [Lib.cell_of_heap hCt]; exact q0
          have u1 : wr.cell? ⟨BB, j * 4 + 1, none⟩ = some (.int .i64 (fd j).lo) := by rw [Lib.cell_of_heap hCt]; exact q1
          have u2 : wr.cell? ⟨BB, j * 4 + 2, none⟩ = some (.int .i64 (fd j).hi) := by rw [Lib.cell_of_heap hCt]; exact q2
          have u3 : wr.cell? ⟨BB, j * 4 + 3, none⟩ = some (.int .i64 (fd j).nd) := by rw [Lib.cell_of_heap hCt]; exact q3
          have hBt : B < wr.heap.size := hWt.2.2.2
          have hn6t : n6 < wr.heap.size := (Array.getElem?_eq_some_iff.1 hXt).1
          have hAt : BA < wr.heap.size := (Array.getElem?_eq_some_iff.1 hPt).1
          have hCtl : BB < wr.heap.size := (Array.getElem?_eq_some_iff.1 hCt).1
          have hX9 : (wr.alloc (.cells #[.string (bs (fd j).w), .int .i64 (fd j).lo, .int .i64 (fd j).hi, .int .i64 (fd j).nd] 71)).heap[n6]? = some (.cells #[.string (bs c.n), .int .i64 (t : Int), .int .i64 c.f0, .int .i64 c.f1, .int .i64 c.f2, .int .i64 c.f3, .int .i64 c.f4, .int .i64 c.f5, .int .i64 c.f6, .int .i64 c.f7, .int .i64 c.f8, .int .i64 c.f9, .int .i64 c.f10, .int .i64 c.f11] 37) := by rw [Lib.alloc_old _ _ _ hn6t]; exact hXt
          have hP9 : (wr.alloc (.cells #[.string (bs (fd j).w), .int .i64 (fd j).lo, .int .i64 (fd j).hi, .int .i64 (fd j).nd] 71)).heap[BA]? = some (.cells (ptrs n6).toArray 74 (0, 0)) := by rw [Lib.alloc_old _ _ _ hAt]; exact hPt
          have hC9 : (wr.alloc (.cells #[.string (bs (fd j).w), .int .i64 (fd j).lo, .int .i64 (fd j).hi, .int .i64 (fd j).nd] 71)).heap[BB]? = some (.cells cs 71 (0, 0)) := by rw [Lib.alloc_old _ _ _ hCtl]; exact hCt
          have hF9 := heap_alloc_new wr (.cells #[.string (bs (fd j).w), .int .i64 (fd j).lo, .int .i64 (fd j).hi, .int .i64 (fd j).nd] 71)
          have hW9 := hWt.alloc (.cells #[.string (bs (fd j).w), .int .i64 (fd j).lo, .int .i64 (fd j).hi, .int .i64 (fd j).nd] 71)
          have x1 : (wr.alloc (.cells #[.string (bs (fd j).w), .int .i64 (fd j).lo, .int .i64 (fd j).hi, .int .i64 (fd j).nd] 71)).cell? ⟨n6, 1, none⟩ = some (.int .i64 (t : Int)) := by rw [Lib.cell_of_heap hX9]; rfl
          have hs9 : (wr.alloc (.cells #[.string (bs (fd j).w), .int .i64 (fd j).lo, .int .i64 (fd j).hi, .int .i64 (fd j).nd] 71)).heap.size = wr.heap.size + 1 := by simp
          go_wp2_with fail
          generalize wr.alloc (.cells #[.string (bs (fd j).w), .int .i64 (fd j).lo, .int .i64 (fd j).hi, .int .i64 (fd j).nd] 71) = w9 at *
          generalize wr.heap.size = n9 at *
          refine (need_calls ht hj12 _ (hW9.laid hL)).mono ?_
          rintro e w10 ⟨rfl, hb10⟩
          have hW10 := hW9.below hb10
          have hX10 := (hb10.block _ (by omega)).trans hX9
          have hP10 := (hb10.block _ (by omega)).trans hP9
          have hC10 := (hb10.block _ (by omega)).trans hC9
          have hF10 := (hb10.block _ (by omega)).trans hF9
          have y12 : w10.cell? ⟨n6, 12, none⟩ = some (.int .i64 c.f10) := by rw [Lib.cell_of_heap hX10]; rfl
          have y13 : w10.cell? ⟨n6, 13, none⟩ = some (.int .i64 c.f11) := by rw [Lib.cell_of_heap hX10]; rfl
          have hs10 : n9 < w10.heap.size := Nat.lt_of_lt_of_le (by omega) hb10.size
          have hn6s : n6 < w10.heap.size := by omega
          have hAs : BA < w10.heap.size := by omega
          have hCs : BB < w10.heap.size := by omega
          have hn9B : n9 ≠ B := by omega
          have hst := range_next (flB c) (fP c) j
          have hfl := fls_len hco (i := j) (by omega)
          have hfb : flB c j = (needB (fd j) (t : Nat) || (decide (10 ≤ j) && !decide (c.f10 = c.f11))) := by unfold flB; rw [hct]
          clear hXt hPt hCt hWt hX9 hP9 hC9 hF9 hW9 x1 u0 u1 u2 u3 q0 q1 q2 q3 hb10
          cases hnd : needB (fd j) (t : Nat) with
          | true =>
            rw [hnd] at hfb
            have hb : flB c j = true := hfb
            clear hfb
            rw [hb, if_pos rfl] at hst
            have hnum := vl_num hco hj12 hb
            have hrg : -9223372036854775808 ≤ vl c j ∧ vl c j ≤ 9223372036854775807 := ⟨by have := hnum.1; omega, by have := hnum.2; omega⟩
            have hil : (Lib.itoa (vl c j)).length ≤ 21 := T.its_len hrg
            have h6w : ∀ f < 12, (fd f).w.length ≤ 6 := by decide
            have h6w := h6w j hj12
            have hz1 : ¬ 9223372036854775807 < (fd j).w.length + 1 := by omega
            have hz2 : ¬ 9223372036854775807 < (fd j).w.length + 1 + (Lib.itoa (vl c j)).length := by omega
            have hz3 : ¬ 9223372036854775807 < (fd j).w.length + 1 + (Lib.itoa (vl c j)).length + 2 := by omega
            have hle : (q ++ ((List.range j).filter (flB c)).flatMap (fP c)).length + (fP c j).length ≤ 1000000 := by
              have hil2 : (itz (vl c j)).length ≤ 21 := hil
              simp only [fP, List.length_append, List.length_cons, List.length_nil] at hqq hfl ⊢
              omega
            go_wp2_with fail
            have a0 : w10.cell? ⟨n9, 0, none⟩ = some (.string (bs (fd j).w)) := by rw [Lib.cell_of_heap hF10]; rfl
            have a1 : w10.cell? ⟨BA, j, none⟩ = some (.pointer (some ⟨n6, j + 2, none⟩)) := by rw [Lib.cell_of_heap hP10]; exact ptr_at n6 hj12
            have a2 : w10.cell? ⟨n6, j + 2, none⟩ = some (.int .i64 (vl c j)) := by rw [Lib.cell_of_heap hX10]; exact ch_at c _ _ hj12
            go_region_held3 (fun w' => w'.cell? ⟨n9, 0, none⟩ = some (.string (bs (fd j).w)) ∧ w'.cell? ⟨BA, j, none⟩ = some (.pointer (some ⟨n6, j + 2, none⟩)) ∧ w'.cell? ⟨n6, j + 2, none⟩ = some (.int .i64 (vl c j))) (first | exact ⟨a0, a1, a2⟩ | exact ⟨b0, b1, b2⟩ | exact ⟨e0, e1, e2⟩)
              (first
                | (go_at_call 27
                   refine (itoa_calls _ hrg _ (hW10.drew.laid hL)).mono ?_
                   rintro e w11 ⟨rfl, hb11⟩
                   have hW11 := hW10.drew.below hb11
                   have hX11 := (hb11.block _ hn6s).trans hX10
                   have hP11 := (hb11.block _ hAs).trans hP10
                   have hC11 := (hb11.block _ hCs).trans hC10
                   have hF11 := (hb11.block _ hs10).trans hF10
                   have b0 : w11.cell? ⟨n9, 0, none⟩ = some (.string (bs (fd j).w)) := (by rw [Lib.cell_of_heap hF11]; rfl)
                   have b1 : w11.cell? ⟨BA, j, none⟩ = some (.pointer (some ⟨n6, j + 2, none⟩)) := (by rw [Lib.cell_of_heap hP11]; exact ptr_at n6 hj12)
                   have b2 : w11.cell? ⟨n6, j + 2, none⟩ = some (.int .i64 (vl c j)) := (by rw [Lib.cell_of_heap hX11]; exact ch_at c _ _ hj12))
                | (go_at_call 22
                   refine (stg_write hW11 (fP c j) (by simp only [bs_append]; unfold fP; simp) hle).mono ?_
                   rintro e w12 ⟨rfl, hW12, hs12, hk12⟩
                   have hX12 := hk12 _ _ _ hX11 hnB (by decide)
                   have hP12 := hk12 _ _ _ hP11 hAB (by decide)
                   have hC12 := hk12 _ _ _ hC11 hBB2 (by decide)
                   have hF12 := hk12 _ _ _ hF11 hn9B (by decide)
                   have e0 : w12.cell? ⟨n9, 0, none⟩ = some (.string (bs (fd j).w)) := (by rw [Lib.cell_of_heap hF12]; rfl)
                   have e1 : w12.cell? ⟨BA, j, none⟩ = some (.pointer (some ⟨n6, j + 2, none⟩)) := (by rw [Lib.cell_of_heap hP12]; exact ptr_at n6 hj12)
                   have e2 : w12.cell? ⟨n6, j + 2, none⟩ = some (.int .i64 (vl c j)) := (by rw [Lib.cell_of_heap hX12]; exact ch_at c _ _ hj12)))
            clear hz1 hz2 hz3
            go_wp2_with fail
            go_roundw
            case rel => exact ⟨j + 1, by omega, by simp, by rw [hst, ← List.append_assoc]; exact hW12, hX12, hP12, hC12⟩
            case measure => simp [intOf]; omega
          | false =>
            rw [hnd] at hfb
            by_cases h10 : 10 ≤ j
            · have h10' : (10 : Int) ≤ (j : Int) := by omega
              by_cases hff : c.f10 = c.f11
              · have hb : flB c j = false := by rw [hfb, decide_eq_true hff]; simp
                have hff' : (c.f10 != c.f11) = false := by simpa using hff
                clear hfb hff
                rw [hb, if_neg (by decide), List.append_nil] at hst
                go_wp2_with fail
                go_roundw
                case rel => exact ⟨j + 1, by omega, by simp, by rw [hst]; exact hW10, hX10, hP10, hC10⟩
                case measure => simp [intOf]; omega
              · have hb : flB c j = true := by rw [hfb, decide_eq_true h10, decide_eq_false hff]; rfl
                have hff' : (c.f10 != c.f11) = true := by simpa using hff
                clear hfb
                rw [hb, if_pos rfl] at hst
                have hnum := vl_num hco hj12 hb
                have hrg : -9223372036854775808 ≤ vl c j ∧ vl c j ≤ 9223372036854775807 := ⟨by have := hnum.1; omega, by have := hnum.2; omega⟩
                have hil : (Lib.itoa (vl c j)).length ≤ 21 := T.its_len hrg
                have h6w : ∀ f < 12, (fd f).w.length ≤ 6 := by decide
                have h6w := h6w j hj12
                have hz1 : ¬ 9223372036854775807 < (fd j).w.length + 1 := by omega
                have hz2 : ¬ 9223372036854775807 < (fd j).w.length + 1 + (Lib.itoa (vl c j)).length := by omega
                have hz3 : ¬ 9223372036854775807 < (fd j).w.length + 1 + (Lib.itoa (vl c j)).length + 2 := by omega
                have hle : (q ++ ((List.range j).filter (flB c)).flatMap (fP c)).length + (fP c j).length ≤ 1000000 := by
                  have hil2 : (itz (vl c j)).length ≤ 21 := hil
                  simp only [fP, List.length_append, List.length_cons, List.length_nil] at hqq hfl ⊢
                  omega
                go_wp2_with fail
                have a0 : w10.cell? ⟨n9, 0, none⟩ = some (.string (bs (fd j).w)) := by rw [Lib.cell_of_heap hF10]; rfl
                have a1 : w10.cell? ⟨BA, j, none⟩ = some (.pointer (some ⟨n6, j + 2, none⟩)) := by rw [Lib.cell_of_heap hP10]; exact ptr_at n6 hj12
                have a2 : w10.cell? ⟨n6, j + 2, none⟩ = some (.int .i64 (vl c j)) := by rw [Lib.cell_of_heap hX10]; exact ch_at c _ _ hj12
                go_region_held3 (fun w' => w'.cell? ⟨n9, 0, none⟩ = some (.string (bs (fd j).w)) ∧ w'.cell? ⟨BA, j, none⟩ = some (.pointer (some ⟨n6, j + 2, none⟩)) ∧ w'.cell? ⟨n6, j + 2, none⟩ = some (.int .i64 (vl c j))) (first | exact ⟨a0, a1, a2⟩ | exact ⟨b0, b1, b2⟩ | exact ⟨e0, e1, e2⟩)
                  (first
                    | (go_at_call 27
                       refine (itoa_calls _ hrg _ (hW10.drew.laid hL)).mono ?_
                       rintro e w11 ⟨rfl, hb11⟩
                       have hW11 := hW10.drew.below hb11
                       have hX11 := (hb11.block _ hn6s).trans hX10
                       have hP11 := (hb11.block _ hAs).trans hP10
                       have hC11 := (hb11.block _ hCs).trans hC10
                       have hF11 := (hb11.block _ hs10).trans hF10
                       have b0 : w11.cell? ⟨n9, 0, none⟩ = some (.string (bs (fd j).w)) := (by rw [Lib.cell_of_heap hF11]; rfl)
                       have b1 : w11.cell? ⟨BA, j, none⟩ = some (.pointer (some ⟨n6, j + 2, none⟩)) := (by rw [Lib.cell_of_heap hP11]; exact ptr_at n6 hj12)
                       have b2 : w11.cell? ⟨n6, j + 2, none⟩ = some (.int .i64 (vl c j)) := (by rw [Lib.cell_of_heap hX11]; exact ch_at c _ _ hj12))
                    | (go_at_call 22
                       refine (stg_write hW11 (fP c j) (by simp only [bs_append]; unfold fP; simp) hle).mono ?_
                       rintro e w12 ⟨rfl, hW12, hs12, hk12⟩
                       have hX12 := hk12 _ _ _ hX11 hnB (by decide)
                       have hP12 := hk12 _ _ _ hP11 hAB (by decide)
                       have hC12 := hk12 _ _ _ hC11 hBB2 (by decide)
                       have hF12 := hk12 _ _ _ hF11 hn9B (by decide)
                       have e0 : w12.cell? ⟨n9, 0, none⟩ = some (.string (bs (fd j).w)) := (by rw [Lib.cell_of_heap hF12]; rfl)
                       have e1 : w12.cell? ⟨BA, j, none⟩ = some (.pointer (some ⟨n6, j + 2, none⟩)) := (by rw [Lib.cell_of_heap hP12]; exact ptr_at n6 hj12)
                       have e2 : w12.cell? ⟨n6, j + 2, none⟩ = some (.int .i64 (vl c j)) := (by rw [Lib.cell_of_heap hX12]; exact ch_at c _ _ hj12)))
                clear hz1 hz2 hz3
                go_wp2_with fail
                go_roundw
                case rel => exact ⟨j + 1, by omega, by simp, by rw [hst, ← List.append_assoc]; exact hW12, hX12, hP12, hC12⟩
                case measure => simp [intOf]; omega
            · have h10' : ¬ (10 : Int) ≤ (j : Int) := by omega
              have hb : flB c j = false := by rw [hfb, decide_eq_false h10]; rfl
              clear hfb
              rw [hb, if_neg (by decide), List.append_nil] at hst
              go_wp2_with fail
              go_roundw
              case rel => exact ⟨j + 1, by omega, by simp, by rw [hst]; exact hW10, hX10, hP10, hC10⟩
              case measure => simp [intOf]; omega
        · obtain rfl : j = 12 := by omega
          have hflc : ((List.range 12).filter (flB c)).flatMap (fP c) = (fl c).flatMap (fP c) := rfl
          have hfl := fls_len hco (i := 12) (by omega)
          rw [hflc] at hWt hfl
          go_wp2_with fail
          refine (stg_write hWt [125, 10] rfl (by simp only [List.length_append, List.length_cons, List.length_nil] at hqq ⊢; omega)).mono ?_
          rintro e w11 ⟨rfl, hW11, hs11, hk11⟩
          go_wp2_with fail
          go_roundw
          case rel => exact ⟨k + 1, by omega, by simp, by rw [hnx2, ← List.append_assoc]; exact hW11⟩
          case measure => simp [intOf]; omega
    · obtain rfl : k = r.length := by omega
      rw [List.take_length] at hW
      go_wp2_with fail
      refine (stg_string hW).mono ?_
      rintro e w6 ⟨rfl, hb6⟩
      go_wp2
      go_ret2
      exact ⟨rfl, hb6⟩
end Go.Proofs.YtppehejnnjlkfaaGreatDoor
