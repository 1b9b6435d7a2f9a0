/-
  few: the first channels, their names cut.
-/
import Derived.Test.YtppehejnnjlkfaaGreatDoorYCh
import Derived.Test.YtppehejnnjlkfaaGreatDoorYDa
set_option linter.unusedVariables false
set_option linter.unusedSimpArgs false
namespace Go.Proofs.YtppehejnnjlkfaaGreatDoor
open Go Go.Xec
attribute [local go_sem] tm0 ne_eq not_false_eq_true List.length_append List.length_replicate List.replicate_succ List.replicate_zero Int.cast_ofNat_Int not_true_eq_false decide_true decide_false ite_self beq_self_eq_true Bool.true_beq Bool.false_beq Bool.not_true Bool.not_false
attribute [local go_sem_proc] Nat.reduceAdd Nat.reduceMul Nat.reduceSub Nat.reduceLeDiff Nat.reduceLT Nat.reduceEqDiff Int.reduceLT Int.reduceLE Int.reduceAdd Int.reduceSub Int.reduceMul Int.reduceToNat Int.reducePow Int.reduceNe Int.reduceMod Int.reduceDiv Int.reduceEq Nat.reducePow Int.reduceNeg

set_option maxRecDepth 10000
def cutC (c : Ch) : Ch := { c with n := c.n.take 20 }
def few (r : List Ch) : List Ch := (r.take 6).map cutC
noncomputable def F12 : List AVal → Option AVal := pureF C15 1 12
theorem sound12 : Sound Tryz.prog 12 F12 := sound_self ok15 1 12
theorem F12_eq {a : AVal} {l : List Ch} (ha : RC a l) (hl : l.length ≤ 140737488355328) : F12 [.agg [a]] = some (.agg [rowN 14 ((few l).map CK)]) := by
  have ap := ha.plain
  have asc := ha.sc
  have acl := ha.cells
  have hs := ha.sliceTo (n := min l.length 6) (Nat.min_le_left _ _)
  have hm : mnxA false (.int .i64 l.length) [.int .i64 6] = some (.int .i64 ((min l.length 6 : Nat) : Int)) := mnx_min2 l.length 6
  have hcu := ha.cut 6
  have hll : (l.take 6).length ≤ 6 := by simp; omega
  unfold F12 few
  refine pureF_of (x := x12) rfl rfl ?_
  rw [x12_eq.1, x12_eq.2.1]
  simp (disch := first | omega | simp only [*, go_sem, ↓reduceIte, dropK_eq]) only [x12b, go_sem, ↓reduceIte, dropK_eq, asc, acl, ha.len, hm, hs, hcu.len, Option.map_some, Option.map_none]
  generalize l.take 6 = l at *
  generalize rwTake (min _ 6) a = b at *
  refine Ev_range (ti := 15) (len := l.length) (J := fun i tm hp nc => ∃ v, hp (12001001, 1) = some (.var [v]) ∧ hp (12000001, 0) = some (.var [.nils]) ∧ Own [12006004] 14 hp v (((l.take i).map cutC).map CK) ∧ (((l.take i).map cutC).map CK = [] → v = .nils)) (by omega) ?_ ?_ ?_
  · simp only [go_sem, ↓reduceIte, dropK_eq]
  · simp only [go_sem, ↓reduceIte, dropK_eq, List.map_nil]
    exact ⟨_, rfl, Own.nils _ _ _, fun _ => rfl⟩
  · rintro i tm hp nc hi' hc k15 ⟨v, h3, h2, ho, h0⟩
    have k2 := hc 2 rfl; have k3 := hc 3 rfl; have k13 := hc 13 rfl; have k14 := hc 14 rfl; simp only [go_sem, ↓reduceIte, dropK_eq] at k2 k3 k13 k14
    rcases Nat.lt_or_ge i l.length with hlt | hge
    · have d1 : decide ((i : Int) < (l.length : Int)) = true := decide_eq_true (by omega)
      have ia := hcu.ia hlt
      have hm2 : mnxA false (.int .i64 (l[i].n.length : Int)) [.int .i64 20] = some (.int .i64 ((min l[i].n.length 20 : Nat) : Int)) := mnx_min2 _ 20
      have hs2 := str_sliceTo (l := l[i].n) (hi := min l[i].n.length 20) (Nat.min_le_left _ _)
      have et : l[i].n.take (min l[i].n.length 20) = l[i].n.take 20 := by rw [List.take_eq_take_iff]; omega
      rw [et] at hs2
      have hmp : ((l.take (i + 1)).map cutC).map CK = ((l.take i).map cutC).map CK ++ [CK (cutC l[i])] := by rw [take_next hlt, List.map_append, List.map_append]; rfl
      obtain ⟨V, H, hA, hO⟩ := (ho.keep (hp' := upd (upd (upd hp (12004002, nc + 1) (some (.var (cellsOf (CK Ch.nil))))) (12004002, nc + 1) (some (.var (cellsOf (CK l[i]))))) (12004002, nc + 1) (some (.var (cellsOf (CK (cutC l[i])))))) (fun k hk => by repeat rw [upd_ne _ _ (by rintro rfl; simp at hk)])).push (s0 := 12006004) (s1 := 12006003) (z := CK (cutC l[i])) (bytes := 120) (by simp) (by simp) (CK_plain _ (cutC l[i])) (CK_sc (cutC l[i])) (by simp; omega)
      simp only [go_sem, ↓reduceIte, dropK_eq, CK, cutC, Ch.nil] at hA
      simp (disch := first | omega | simp only [*, go_sem, ↓reduceIte, dropK_eq]) only [x12l3, go_sem, ↓reduceIte, dropK_eq, k2, k3, k13, k14, k15, d1, ia, hm2, hs2, h3, Option.map_some, Option.map_none, hA]
      obtain ⟨go, gk⟩ := hO (nc + 1 + 1 + 1) (nc + 1 + 1 + 1)
      clear hA hO
      generalize V (nc + 1 + 1 + 1) (nc + 1 + 1 + 1) = v' at *
      generalize H (nc + 1 + 1 + 1) (nc + 1 + 1 + 1) = H' at *
      have gsc := go.sc
      have gcl := go.cells
      have g3 : H' (12001001, 1) = some (.var [v]) := (gk _ (by simp) (by simp)).trans (by repeat rw [upd_ne _ _ (by simp)]; exact h3)
      have g2 : H' (12000001, 0) = some (.var [.nils]) := (gk _ (by simp) (by simp)).trans (by repeat rw [upd_ne _ _ (by simp)]; exact h2)
      simp (disch := first | omega | simp only [*, go_sem, ↓reduceIte, dropK_eq]) only [go_sem, ↓reduceIte, dropK_eq, k15, gsc, gcl, g3]
      refine ⟨hlt, by simp, v', rfl, g2, ?_, ?_⟩
      · rw [hmp]
        exact go.keep (fun k hk => by repeat rw [upd_ne _ _ (by rintro rfl; simp at hk)])
      · rw [hmp]
        intro h
        simp at h
    · obtain rfl : i = l.length := by omega
      have d1 : decide ((l.length : Int) < (l.length : Int)) = false := decide_eq_false (by omega)
      rw [List.take_length] at ho h0
      have hvs := ho.sc
      have hvc := ho.cells
      have hmp : ∀ d, plainL (d + 1) ((l.map cutC).map CK) = true := fun d => plainL_map _ (fun x => CK_plain d x) _
      have hlv := ho.lendN h0 62 (hmp 61) (hp' := upd hp (12000001, 0) (some (.var [v]))) (fun k hk => by repeat rw [upd_ne _ _ (by rintro rfl; simp at hk)])
      simp (disch := first | omega | simp only [*, go_sem, ↓reduceIte, dropK_eq]) only [x12l3, go_sem, ↓reduceIte, dropK_eq, k2, k3, k13, k14, k15, d1, h3, h2, hvs, hvc]
      rw [Ends_eq]
      simp (disch := first | omega | simp only [*, go_sem, ↓reduceIte, dropK_eq]) only [go_sem, ↓reduceIte, dropK_eq, hlv]
end Go.Proofs.YtppehejnnjlkfaaGreatDoor
