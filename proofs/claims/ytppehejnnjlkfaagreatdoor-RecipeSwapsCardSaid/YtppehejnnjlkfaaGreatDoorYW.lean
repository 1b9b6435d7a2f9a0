/-
  The program's reader: a channel.
-/
import Derived.Test.YtppehejnnjlkfaaGreatDoorYU
set_option linter.unusedVariables false
set_option linter.unusedSimpArgs false
namespace Go.Proofs.YtppehejnnjlkfaaGreatDoor
open Go Go.Xec
attribute [local go_sem] tm0 ne_eq not_false_eq_true List.length_append List.length_replicate List.replicate_succ List.replicate_zero Int.cast_ofNat_Int not_true_eq_false decide_true decide_false ite_self beq_self_eq_true Bool.true_beq Bool.false_beq Bool.not_true Bool.not_false
attribute [local go_sem_proc] Nat.reduceAdd Nat.reduceMul Nat.reduceSub Nat.reduceLeDiff Nat.reduceLT Nat.reduceEqDiff Int.reduceLT Int.reduceLE Int.reduceAdd Int.reduceSub Int.reduceMul Int.reduceToNat Int.reducePow Int.reduceNe Int.reduceMod Int.reduceDiv Int.reduceEq Nat.reducePow Int.reduceNeg

set_option maxRecDepth 10000
theorem no42 {k' : Key} (h3 : k'.1 / 1000000 ∉ [18, 24, 42, 44, 45]) : ¬ k'.1 / 1000000 = 42 := by
  intro h
  rw [h] at h3
  simp at h3
theorem x18b_eq : x18b =
  (.seq (.reg 0 x18r0 none)
  (.seq (.reg 1 x18r1 none)
  (.seq (.seq (.reg 2 x18r2 none)
  (.block 0
    (.seq (.reg 3 x18r3 none)
    (.cond (.t 20)
      (.seq (.reg 4 x18r4 (some ⟨[(0, 2)]⟩))
      .ret)
      (.seq (.reg 5 x18r5 none)
      (.cond (.t 32)
        (.seq (.reg 6 x18r6 (some ⟨[(0, 2)]⟩))
        .ret)
        .skip))))))
  (.seq (.reg 7 x18r7 none)
  (.seq (.reg 8 x18r8 none)
  (.seq (.seq (.reg 9 x18r9 none)
  (.cond (.t 55)
    (.seq (.reg 10 x18r10 (some ⟨[(0, 2)]⟩))
    .ret)
    .skip))
  (.seq (.seq (.reg 11 x18r11 none)
  (.seq (.reg 12 x18r12 none)
  (.cond (.t 65)
    (.seq (.reg 13 x18r13 none)
    .ret)
    .skip)))
  (.seq (.reg 14 x18r14 none)
  (.seq (.reg 15 x18r15 none)
  (.seq (.reg 16 x18r16 none)
  (.seq (.seq (.reg 17 x18r17 (some ⟨[(0, 2)]⟩))
  (.seq (.reg 18 x18r18 none)
  (.cond (.t 86)
    (.seq (.reg 19 x18r19 (some ⟨[(0, 2)]⟩))
    .ret)
    .skip)))
  (.seq (.reg 20 x18r20 none)
  (.seq (.seq (.reg 21 x18r21 none)
  (.seq (.reg 22 x18r22 none)
  (.cond (.t 103)
    (.seq (.reg 23 x18r23 none)
    .ret)
    .skip)))
  (.seq (.reg 24 x18r24 none) x18q)))))))))))))) := rfl
section
variable {C : Cfg} {key : Key} {tm : Nat → AVal} {hp hp' : Heap}
def ftA (x : AVal) : Foot := match x with
  | .ptr k 0 0 _ 0 => (.kn [k], [])
  | _ => (.kn [], [])
theorem ftA_ptr (k : Key) (es : Nat) : ftA (.ptr k 0 0 es 0) = (.kn [k], []) := rfl
theorem ft_slAx (n es : Nat) (x : XArg) (lo hi : Option XArg) : ftV C key (.slA n es x lo hi) tm hp hp' = ftA (arg tm x) := by
  simp only [ftV, rdOf, opR, footP]
  generalize arg tm x = v
  cases v <;> try rfl
  rename_i k g i es' off
  cases g <;> try rfl
  cases i <;> try rfl
  cases off <;> try rfl
  simp only [Rd.reads, Rd.run, ftA]
  cases hp k with
  | none => rfl
  | some b =>
    cases b with
    | row => rfl
    | obj => rfl
    | var cells =>
      simp only
      split
      · cases slAA n es (.ptr k 0 0 es' 0) (lo.map (arg tm)) (hi.map (arg tm)) <;> rfl
      · rfl
def slB (n es : Nat) (k : Key) (es' : Nat) (lo hi : Option AVal) (b : Blk) : Option AVal := match b with
  | .var cells => if n * es ≤ cells.length then slAA n es (.ptr k 0 0 es' 0) lo hi else none
  | _ => none
theorem slB_var (n es : Nat) (k : Key) (es' : Nat) (lo hi : Option AVal) (cells : List AVal) : slB n es k es' lo hi (.var cells) = if n * es ≤ cells.length then slAA n es (.ptr k 0 0 es' 0) lo hi else none := rfl
theorem slAH_ptr (n es : Nat) (k : Key) (es' : Nat) (lo hi : Option AVal) : slAH n es (.ptr k 0 0 es' 0) lo hi hp = (hp k).bind (slB n es k es' lo hi) := by
  simp only [slAH]
  cases hp k with
  | none => rfl
  | some b => cases b <;> rfl
theorem slAA_full (n es : Nat) (k : Key) (es' : Nat) : slAA n es (.ptr k 0 0 es' 0) none none = some (.sl k 0 es 0 n) := by simp [slAA, bnd]
theorem els_var (es off len : Nat) (cells : List AVal) : (Blk.var cells).els 0 es off len = if es = 1 ∧ off + len ≤ cells.length ∧ ((cells.drop off).take len).all isSc = true then some ((cells.drop off).take len) else none := by
  simp [Blk.els]
end
set_option maxHeartbeats 4000000 in
theorem channel18 {d c0 : Nat} {hp : Heap} {nc : Nat} {K : AVal × Heap × Nat → Prop} {a b b' : AVal} {ks : List Key} {l : List T.Tok} {k e : Nat} {out : List Ch} (hl : l.length ≤ 100000) (hkb : k ≤ 100000) (ho : out.length ≤ 100000)
    (ha : Rg 4 T.TK a l) (hlen : lenVA b = some (.int .i64 out.length)) (hb : Rg 14 CK b' out) (hlx : ∀ hp', (∀ k : Key, k.1 = 8011003 → hp' k = hp k) → lendX 64 b hp' = some (b', ks)) (hk : hp (κR c0) = some (.var (RdC a k e)))
    (hy : (chanS l k out).2.2 = 0 → ∀ hp' nc', hp' (κR c0) = some (.var (RdC a (chanS l k out).2.1 e)) → FrT c0 hp hp' → K (.tup [CK (chanS l k out).1, .nili], hp', nc'))
    (hn : ¬ (chanS l k out).2.2 = 0 → ∀ c' hp' nc', FrT c0 hp hp' → K (.tup [CK c', WV l e (chanS l k out).2.1 (chanS l k out).2.2], hp', nc')) :
    Bd (inlD C12 (d + 3) 18 [.ptr (κR c0) 0 0 0 0, b] hp nc) K := by
  refine inl_of (x := x18) rfl rfl ?_
  rw [x18_eq.1, x18_eq.2.1, x18b_eq]
  have hap := ha.plain
  have hcp2 := RdC_plain ha 62 k e
  have e38 := F38_eq (k := k) (e := e) ha
  generalize hR : chanS l k out = R at *
  unfold chanS at hR
  by_cases h0 : wordT (gt l k) = chanW
  · rw [if_neg (fun h => h h0)] at hR
    have hk1 : (gt l k).k = 1 := by
      refine Classical.byContradiction fun h => ?_
      unfold wordT at h0
      rw [if_neg h] at h0
      exact absurd h0 (by decide)
    have hs1 : (gt l k).s = [99, 104, 97, 110, 110, 101, 108] := by
      unfold wordT at h0
      rw [if_pos hk1] at h0
      exact h0
    have d0 : decide (¬ (gt l k).k = 1) = false := decide_eq_false (fun h => h hk1)
    have d1 : decide (¬ (gt l k).s = [99, 104, 97, 110, 110, 101, 108]) = false := decide_eq_false (fun h => h hs1)
    by_cases h1 : out.length = 4
    · have d2 : decide ((out.length : Int) = 4) = true := decide_eq_true (by omega)
      rw [if_pos h1] at hR
      subst hR
      have e39 := F39_eq (k := k) (e := e) (why := 2) ha
      simp (disch := first | omega | simp only [*, go_sem, ↓reduceIte, dropK_eq]) only [go_sem, ↓reduceIte, dropK_eq, hk, hlen, d0, d1, d2, callX_names (C := C12) (g := 38) rfl, ftC_names (C := C12) (g := 38) rfl, callX_names (C := C12) (g := 39) rfl, ftC_names (C := C12) (g := 39) rfl, e38, e39]
      exact hn (by simp) (Ch.new [] 0) _ _ (fun k' h0 h3 => by repeat rw [upd_ne _ _ (by first | exact h0 | (rintro rfl; simp at h3))])
    · have d2 : decide ((out.length : Int) = 4) = false := decide_eq_false (by omega)
      rw [if_neg h1] at hR
      have e38b : F38 [.pvo [a, .int .i64 ((k : Int) + 1), .int .i64 (e : Nat)] 0] = some (PK l e (k + 1)) := F38_eq (k := k + 1) ha
      by_cases h2 : (gt l (k + 1)).k = 1
      · rw [if_neg (fun h => h h2)] at hR
        have d3 := decide_eq_true h2
        have d3' : decide (¬ (gt l (k + 1)).k = 1) = false := decide_eq_false (fun h => h h2)
        have e40 : F40 [b', .fn (.func 41) [] [.pvo [.int .i64 (gt l (k + 1)).k, sv (gt l (k + 1)).s, .int .i64 (gt l (k + 1)).n, .int .i64 (placeS l e (k + 1))] 0]] = some (.bool (decide ((gt l (k + 1)).s ∈ out.map (·.n)))) := F40_eq (t := ⟨(gt l (k + 1)).k, (gt l (k + 1)).s, (gt l (k + 1)).n, placeS l e (k + 1)⟩) hb ho
        simp (disch := first | omega | simp only [*, go_sem, ↓reduceIte, dropK_eq]) only [go_sem, ↓reduceIte, dropK_eq, hk, hlen, d0, d1, d2, d3, callX_names (C := C12) (g := 38) rfl, ftC_names (C := C12) (g := 38) rfl, callX_names (C := C12) (g := 40) rfl, ftC_names (C := C12) (g := 40) rfl, e38, e38b]
        rw [hlx _ (fun k' hk' => by repeat rw [upd_ne _ _ (by rintro rfl; simp at hk')])]
        by_cases h3 : (gt l (k + 1)).s ∈ out.map (·.n)
        · rw [if_pos h3] at hR
          rw [decide_eq_true h3] at e40
          subst hR
          have e39 : F39 [.pvo [a, .int .i64 ((k : Int) + 1), .int .i64 (e : Nat)] 0, .int .i64 9] = some (WV l e (k + 1) 9) := F39_eq (k := k + 1) ha
          simp (disch := first | omega | simp only [*, go_sem, ↓reduceIte, dropK_eq]) only [go_sem, ↓reduceIte, dropK_eq, e40, callX_names (C := C12) (g := 39) rfl, ftC_names (C := C12) (g := 39) rfl, e39]
          exact hn (by simp) (Ch.new [] 0) _ _ (fun k' h0 h3 => by repeat rw [upd_ne _ _ (by first | exact h0 | (rintro rfl; simp at h3))])
        · rw [if_neg h3] at hR
          rw [decide_eq_false h3] at e40
          simp (disch := first | omega | simp only [*, go_sem, ↓reduceIte, dropK_eq]) only [go_sem, ↓reduceIte, dropK_eq, e40, call_inl (C := C12) (g := 42) rfl, ft_inl (C := C12) (g := 42) rfl]
          refine take42 (k := k + 1) (e := e) (by omega) ha ?_ ?_ ?_
          · simp only [go_sem, ↓reduceIte, dropK_eq]
            rfl
          · intro _ hp1 nc1 g1 gf1
            have t6 : hp1 (18001000, nc + 1) = some (.var (cellsOf (CK (Ch.new [] 0)))) := by
              rw [gf1 _ (by simp) (by simp)]
              simp only [go_sem, ↓reduceIte, dropK_eq]
            have t4 : hp1 (18000000, nc) = some (.var (cellsOf (CK (Ch.new [] 0)))) := by
              rw [gf1 _ (by simp) (by simp)]
              simp only [go_sem, ↓reduceIte, dropK_eq]
            have t8 : hp1 (18008002, nc + 1 + 1 + 1 + 1 + 1 + 1) = some (.var [.int .i64 (gt l (k + 1)).k, sv (gt l (k + 1)).s, .int .i64 (gt l (k + 1)).n, .int .i64 (placeS l e (k + 1))]) := by
              rw [gf1 _ (by simp) (by simp)]
              simp only [go_sem, ↓reduceIte, dropK_eq]
            have gR : hp1 (κR c0) = some (.var (RdC a (k + 2) e)) := g1
            have hcp3 := RdC_plain ha 62 (k + 2) e
            have e38c := F38_eq (k := k + 2) (e := e) ha
            have e23 : F23 [] = some (.agg [sv [120, 98, 97, 114], sv [115, 105, 110, 103, 108, 101], sv [112], sv [110, 112], sv [99], sv [117], sv [99, 117, 115, 117, 109], sv [101, 119, 109, 97]]) := F23_eq
            have e43 : F43 [.slc 1 [sv [120, 98, 97, 114], sv [115, 105, 110, 103, 108, 101], sv [112], sv [110, 112], sv [99], sv [117], sv [99, 117, 115, 117, 109], sv [101, 119, 109, 97]], sv (gt l (k + 2)).s] = some (.int .i64 (findW chW (gt l (k + 2)).s)) := F43_eq (a := .slc 1 (chW.map sv)) (l := chW) (Rg.slc _) (by decide)
            have ff1 : FrT c0 hp hp1 := fun k' h0 h3 => by
              rw [gf1 k' h0 (no42 h3)]
              repeat rw [upd_ne _ _ (by first | exact h0 | (rintro rfl; simp at h3))]
            cases hf : chW.findIdx? (· == wordT (gt l (k + 2))) with
            | none =>
              rw [hf] at hR
              simp only at hR
              subst hR
              have e39 := F39_eq (k := k + 2) (e := e) (why := 8) ha
              by_cases hk2 : (gt l (k + 2)).k = 1
              · rw [show findW chW (gt l (k + 2)).s = -1 by unfold findW; unfold wordT at hf; rw [if_pos hk2] at hf; rw [hf]] at e43
                simp (disch := first | omega | simp only [*, go_sem, ↓reduceIte, dropK_eq]) only [go_sem, ↓reduceIte, dropK_eq, T.nilA_nili, t6, t4, t8, gR, els_var, slAH_ptr, slB_var, slAA_full, ft_slAx, ftA_ptr, callX_names (C := C12) (g := 23) rfl, ftC_names (C := C12) (g := 23) rfl, callX_names (C := C12) (g := 38) rfl, ftC_names (C := C12) (g := 38) rfl, callX_names (C := C12) (g := 43) rfl, ftC_names (C := C12) (g := 43) rfl, callX_names (C := C12) (g := 39) rfl, ftC_names (C := C12) (g := 39) rfl, e23, e38c, e43, e39]
                exact hn (by simp) (Ch.new (gt l (k + 1)).s (-1)) _ _ (fun k' h0 h3 => by (repeat rw [upd_ne _ _ (by first | exact h0 | (rintro rfl; simp at h3))]); exact ff1 k' h0 h3)
              · generalize findW chW (gt l (k + 2)).s = z at *
                have d5 : decide (¬ (gt l (k + 2)).k = 1) = true := decide_eq_true hk2
                by_cases hz : z < 0
                · have d6 := decide_eq_true hz
                  simp (disch := first | omega | simp only [*, go_sem, ↓reduceIte, dropK_eq]) only [go_sem, ↓reduceIte, dropK_eq, T.nilA_nili, t6, t4, t8, gR, els_var, slAH_ptr, slB_var, slAA_full, ft_slAx, ftA_ptr, d5, d6, callX_names (C := C12) (g := 23) rfl, ftC_names (C := C12) (g := 23) rfl, callX_names (C := C12) (g := 38) rfl, ftC_names (C := C12) (g := 38) rfl, callX_names (C := C12) (g := 43) rfl, ftC_names (C := C12) (g := 43) rfl, callX_names (C := C12) (g := 39) rfl, ftC_names (C := C12) (g := 39) rfl, e23, e38c, e43, e39]
                  exact hn (by simp) (Ch.new (gt l (k + 1)).s z) _ _ (fun k' h0 h3 => by (repeat rw [upd_ne _ _ (by first | exact h0 | (rintro rfl; simp at h3))]); exact ff1 k' h0 h3)
                · have d6 := decide_eq_false hz
                  simp (disch := first | omega | simp only [*, go_sem, ↓reduceIte, dropK_eq]) only [go_sem, ↓reduceIte, dropK_eq, T.nilA_nili, t6, t4, t8, gR, els_var, slAH_ptr, slB_var, slAA_full, ft_slAx, ftA_ptr, d5, d6, callX_names (C := C12) (g := 23) rfl, ftC_names (C := C12) (g := 23) rfl, callX_names (C := C12) (g := 38) rfl, ftC_names (C := C12) (g := 38) rfl, callX_names (C := C12) (g := 43) rfl, ftC_names (C := C12) (g := 43) rfl, callX_names (C := C12) (g := 39) rfl, ftC_names (C := C12) (g := 39) rfl, e23, e38c, e43, e39]
                  exact hn (by simp) (Ch.new (gt l (k + 1)).s z) _ _ (fun k' h0 h3 => by (repeat rw [upd_ne _ _ (by first | exact h0 | (rintro rfl; simp at h3))]); exact ff1 k' h0 h3)
            | some t =>
              obtain ⟨_, ht8, hk2, hw⟩ := word_in hf ch_63
              have ht8 : t < 8 := ht8
              rw [hf] at hR
              simp only at hR
              rw [show findW chW (gt l (k + 2)).s = t by unfold findW; unfold wordT at hf; rw [if_pos hk2] at hf; rw [hf]] at e43
              have d5 : decide (¬ (gt l (k + 2)).k = 1) = false := decide_eq_false (fun h => h hk2)
              have d6 : decide ((t : Int) < 0) = false := decide_eq_false (by omega)
              simp (disch := first | omega | simp only [*, go_sem, ↓reduceIte, dropK_eq]) only [go_sem, ↓reduceIte, dropK_eq, T.nilA_nili, t6, t4, t8, gR, els_var, slAH_ptr, slB_var, slAA_full, ft_slAx, ftA_ptr, d5, d6, callX_names (C := C12) (g := 23) rfl, ftC_names (C := C12) (g := 23) rfl, callX_names (C := C12) (g := 38) rfl, ftC_names (C := C12) (g := 38) rfl, callX_names (C := C12) (g := 43) rfl, ftC_names (C := C12) (g := 43) rfl, e23, e38c, e43, call_inl (C := C12) (g := 42) rfl, ft_inl (C := C12) (g := 42) rfl]
              refine take42 (k := k + 3) (e := e) (by omega) ha ?_ ?_ ?_
              · simp only [go_sem, ↓reduceIte, dropK_eq]
                rfl
              · intro h3 hp2 nc2 g2 gf2
                rw [if_neg (fun h => h h3)] at hR
                have g6 : hp2 (18001000, nc + 1) = some (.var (cellsOf (CK (Ch.new (gt l (k + 1)).s (t : Nat))))) := by
                  rw [gf2 _ (by simp) (by simp)]
                  simp only [go_sem, ↓reduceIte, dropK_eq]
                have g4 : hp2 (18000000, nc) = some (.var (cellsOf (CK (Ch.new [] 0)))) := by
                  rw [gf2 _ (by simp) (by simp)]
                  repeat rw [upd_ne _ _ (by simp)]
                  exact t4
                simp (disch := first | omega | simp only [*, go_sem, ↓reduceIte, dropK_eq]) only [go_sem, ↓reduceIte, dropK_eq, T.nilA_nili]
                refine tail18 (c0 := c0) (c1 := nc + 1) (c2 := nc2 + 1) (n0 := nc) (k := k + 4) (e := e) (c := Ch.new (gt l (k + 1)).s (t : Nat)) (c00 := Ch.new [] 0) ht8 rfl hl (by omega) ha ?_ ?_ ?_ ?_ ?_ ?_ ?_ ?_ hR ?_ ?_
                · simp only [go_sem, ↓reduceIte, dropK_eq]
                · simp only [go_sem, ↓reduceIte, dropK_eq]
                · simp only [go_sem, ↓reduceIte, dropK_eq]
                · simp only [go_sem, ↓reduceIte, dropK_eq]
                · repeat rw [upd_ne _ _ (by simp)]
                  exact g2
                · repeat rw [upd_ne _ _ (by simp)]
                  exact g6
                · simp only [go_sem, ↓reduceIte, dropK_eq]
                · repeat rw [upd_ne _ _ (by simp)]
                  exact g4
                · intro hz hp3 nc3 g3 gf3
                  exact hy hz _ _ g3 fun k' h0 h3 => by
                    rw [gf3 k' h0 h3]
                    repeat rw [upd_ne _ _ (by first | exact h0 | (rintro rfl; simp at h3))]
                    rw [gf2 k' h0 (no42 h3)]
                    repeat rw [upd_ne _ _ (by first | exact h0 | (rintro rfl; simp at h3))]
                    exact ff1 k' h0 h3
                · intro hz c' hp3 nc3 gf3
                  exact hn hz c' _ _ fun k' h0 h3 => by
                    rw [gf3 k' h0 h3]
                    repeat rw [upd_ne _ _ (by first | exact h0 | (rintro rfl; simp at h3))]
                    rw [gf2 k' h0 (no42 h3)]
                    repeat rw [upd_ne _ _ (by first | exact h0 | (rintro rfl; simp at h3))]
                    exact ff1 k' h0 h3
              · intro h3 hp2 nc2 gf2
                rw [if_pos h3] at hR
                subst hR
                have g6 : hp2 (18001000, nc + 1) = some (.var (cellsOf (CK (Ch.new (gt l (k + 1)).s (t : Nat))))) := by
                  rw [gf2 _ (by simp)]
                  simp only [go_sem, ↓reduceIte, dropK_eq]
                have g4 : hp2 (18000000, nc) = some (.var (cellsOf (CK (Ch.new [] 0)))) := by
                  rw [gf2 _ (by simp)]
                  repeat rw [upd_ne _ _ (by simp)]
                  exact t4
                simp (disch := first | omega | simp only [*, go_sem, ↓reduceIte, dropK_eq]) only [go_sem, ↓reduceIte, dropK_eq, T.nilA_ifc1, g6, g4]
                exact hn (by simp) (Ch.new (gt l (k + 1)).s (t : Nat)) _ _ (fun k' h0 h3 => by
                  repeat rw [upd_ne _ _ (by first | exact h0 | (rintro rfl; simp at h3))]
                  rw [gf2 k' (no42 h3)]
                  repeat rw [upd_ne _ _ (by first | exact h0 | (rintro rfl; simp at h3))]
                  exact ff1 k' h0 h3)
          · intro h; exact absurd h2 h
      · rw [if_pos h2] at hR
        subst hR
        have d3 := decide_eq_false h2
        simp (disch := first | omega | simp only [*, go_sem, ↓reduceIte, dropK_eq]) only [go_sem, ↓reduceIte, dropK_eq, hk, hlen, d0, d1, d2, d3, callX_names (C := C12) (g := 38) rfl, ftC_names (C := C12) (g := 38) rfl, e38, e38b, call_inl (C := C12) (g := 42) rfl, ft_inl (C := C12) (g := 42) rfl]
        refine take42 (k := k + 1) (e := e) (by omega) ha ?_ ?_ ?_
        · simp only [go_sem, ↓reduceIte, dropK_eq]
          rfl
        · intro h; exact absurd h h2
        · intro _ hp1 nc1 gf1
          have t6 : hp1 (18001000, nc + 1) = some (.var (cellsOf (CK (Ch.new [] 0)))) := by
            rw [gf1 _ (by simp)]
            simp only [go_sem, ↓reduceIte, dropK_eq]
          have t4 : hp1 (18000000, nc) = some (.var (cellsOf (CK (Ch.new [] 0)))) := by
            rw [gf1 _ (by simp)]
            simp only [go_sem, ↓reduceIte, dropK_eq]
          have ff1 : FrT c0 hp hp1 := fun k' h0 h3 => by
            rw [gf1 k' (no42 h3)]
            repeat rw [upd_ne _ _ (by first | exact h0 | (rintro rfl; simp at h3))]
          simp (disch := first | omega | simp only [*, go_sem, ↓reduceIte, dropK_eq]) only [go_sem, ↓reduceIte, dropK_eq, T.nilA_ifc1, t6, t4]
          exact hn (by simp) (Ch.new [] 0) _ _ (fun k' h0 h3 => by
            repeat rw [upd_ne _ _ (by first | exact h0 | (rintro rfl; simp at h3))]
            exact ff1 k' h0 h3)
  · rw [if_pos h0] at hR
    subst hR
    have e39 := F39_eq (k := k) (e := e) (why := 8) ha
    by_cases hk1 : (gt l k).k = 1
    · have d0 : decide (¬ (gt l k).k = 1) = false := decide_eq_false (fun h => h hk1)
      have d1 : decide (¬ (gt l k).s = [99, 104, 97, 110, 110, 101, 108]) = true := decide_eq_true (fun h => h0 (by unfold wordT; rw [if_pos hk1]; exact h))
      simp (disch := first | omega | simp only [*, go_sem, ↓reduceIte, dropK_eq]) only [go_sem, ↓reduceIte, dropK_eq, hk, d0, d1, callX_names (C := C12) (g := 38) rfl, ftC_names (C := C12) (g := 38) rfl, callX_names (C := C12) (g := 39) rfl, ftC_names (C := C12) (g := 39) rfl, e38, e39]
      exact hn (by simp) (Ch.new [] 0) _ _ (fun k' h0 h3 => by repeat rw [upd_ne _ _ (by first | exact h0 | (rintro rfl; simp at h3))])
    · have d0 : decide (¬ (gt l k).k = 1) = true := decide_eq_true hk1
      simp (disch := first | omega | simp only [*, go_sem, ↓reduceIte, dropK_eq]) only [go_sem, ↓reduceIte, dropK_eq, hk, d0, callX_names (C := C12) (g := 38) rfl, ftC_names (C := C12) (g := 38) rfl, callX_names (C := C12) (g := 39) rfl, ftC_names (C := C12) (g := 39) rfl, e38, e39]
      exact hn (by simp) (Ch.new [] 0) _ _ (fun k' h0 h3 => by repeat rw [upd_ne _ _ (by first | exact h0 | (rintro rfl; simp at h3))])
end Go.Proofs.YtppehejnnjlkfaaGreatDoor
