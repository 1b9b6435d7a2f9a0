/-
  Operations that make memory, and that write it.
-/
import Derived.Test.YtppehejnnjlkfaaGreatDoorXF
set_option linter.unusedVariables false
set_option linter.unusedSimpArgs false
namespace Go.Xec
open Go

section
variable {P : Program} {B : Nat} {S0 : Base} {ρc : Operand → Value} {o : Oper} {x : Ctx} {h : Heap} {nc : Nat} {key : Key} {e : XArg → AVal}

theorem freshOk (hs : Sim B S0 h nc x) (hk : key.2 < nc) (hfresh : ∀ g, x.ρ key g = none) {u : Value} {w' : World} {c : Array Value} {el : TypeId} {blk : Blk} {v : AVal} (hr : (execOp ρc o).run P x.w = .ok (.value u) w') (hw : w'.heap = x.w.heap.push (.cells c el (0, 0))) (henv : SameEnv x.w w')
    (hg : blk.gen = 0) (hb : ∀ y : Ctx, Grow x y → y.w.heap[x.w.heap.size]? = some (.cells c el (0, 0)) → BlkOk y x.w.heap.size 0 blk)
    (hv : ∀ y : Ctx, Grow x y → y.w.heap[x.w.heap.size]? = some (.cells c el (0, 0)) → y.ρ key 0 = some (x.w.heap.size, 0) → V y v u) : OpOk P B S0 ρc o x (applyW h [(key, some blk)]) nc key v := by
  obtain ⟨y, h1, h2, h3, h4, h5, h6⟩ := hs.fresh key 0 blk w' c el hk hg (fun g p hp => by rw [hfresh] at hp; cases hp) hw henv
  refine ⟨u, y, .inl (by rw [h1]; exact hr), hv y h4.grow h5 (by rw [h2]; exact ρset_same _ _ _ _), h6 (hb y h4.grow h5), h4, ?_⟩
  intro k g p hp
  rw [h2] at hp
  rcases ρset_inv _ _ _ _ hp with h7 | ⟨h7, _⟩
  · exact .inl ⟨g, p, h7⟩
  · exact .inr h7

theorem cell_new {w : World} {b : Nat} {c : Array Value} {el : TypeId} {fr : Nat × Nat} (h : w.heap[b]? = some (.cells c el fr)) (i : Nat) : w.cell? ⟨b, i, none⟩ = c[i]? := by
  simp [World.cell?, h]

theorem VC_new {y : Ctx} {b : Nat} {c : Array Value} {el : TypeId} {fr : Nat × Nat} {as : List AVal} (h : y.w.heap[b]? = some (.cells c el fr)) (hl : VL y as c.toList) : VC y as b 0 := by
  refine VC_of_VL hl (fun i u hi => ?_)
  rw [Nat.zero_add, cell_new h, ← Array.getElem?_toList]
  exact hi

theorem V_ptr0 {y : Ctx} {k : Key} {b : Nat} (h : y.ρ k 0 = some (b, 0)) : V y (.ptr k 0 0 0 0) (.pointer (some ⟨b, 0, none⟩)) := by
  simp only [V]
  exact ⟨b, 0, h, by simp⟩

theorem ok_alloc (hs : Sim B S0 h nc x) (hk : key.2 < nc) (hfresh : ∀ g, x.ρ key g = none) {t : TypeId} {z : Value} {cells : List AVal} (hop : o.op = .alloc t) (hz : zeroOf P t = some z) (hc : chkSL z.cells.toList cells = true) :
    OpOk P B S0 ρc o x (applyW h [(key, some (.var cells))]) nc key (.ptr key 0 0 0 0) := by
  refine freshOk hs hk hfresh (u := .pointer (some ⟨x.w.heap.size, 0, none⟩)) (w' := { x.w with heap := x.w.heap.push (.cells z.cells t (0, 0)) }) (c := z.cells) (el := t) ?_ rfl ⟨rfl, rfl, rfl⟩ rfl ?_ (fun y _ _ hρ => V_ptr0 hρ)
  · simp only [execOp, hop, Instr.alloc, Sem.run_bind, zero_run hz, Result.andThen_ok, newVar, newRow, run_newObj, Sem.run_pure]
  · intro y g hb
    have hl : VL y cells z.cells.toList := chkSL_ok hc
    refine ⟨rfl, z.cells, t, hb, ?_, VC_new hb hl⟩
    simpa using hl.length

theorem ok_box (hs : Sim B S0 h nc x) (hk : key.2 < nc) (hfresh : ∀ g, x.ρ key g = none) {t : TypeId} {a : Operand} {va : AVal} (hop : o.op = .box t a) (ha : V x va (ρc a)) (hsc : (cellsOf va).all isSc = true) :
    OpOk P B S0 ρc o x (applyW h [(key, some (.var (cellsOf va)))]) nc key (.ptr key 0 0 0 0) := by
  have hl := V_cells_sc ha hsc
  refine freshOk hs hk hfresh (u := .pointer (some ⟨x.w.heap.size, 0, none⟩)) (w' := { x.w with heap := x.w.heap.push (.cells (ρc a).cells t (0, 0)) }) (c := (ρc a).cells) (el := t) ?_ rfl ⟨rfl, rfl, rfl⟩ rfl ?_ (fun y _ _ hρ => V_ptr0 hρ)
  · simp only [execOp, hop, Instr.box, Sem.run_bind, Result.andThen_ok, newVar, newRow, run_newObj, Sem.run_pure]
  · intro y g hb
    exact ⟨rfl, _, t, hb, by simpa using hl.length, VC_new hb (VL_grow g _ _ hl)⟩

/-! ### rows of elements -/
theorem flat_replicate (n : Nat) (z : AVal) : (List.replicate n z).flatMap cellsOf = (List.replicate n (cellsOf z)).flatten := by
  induction n with
  | zero => rfl
  | succ n ih => simp [List.replicate_succ, ih]

theorem VL_flatten_replicate {x : Ctx} {as : List AVal} {us : List Value} (h : VL x as us) : ∀ n, VL x (List.replicate n as).flatten (List.replicate n us).flatten
  | 0 => by simp [VL]
  | n + 1 => by simp only [List.replicate_succ, List.flatten_cons]; exact h.append (VL_flatten_replicate h n)

theorem zeros_eq (zc : Array Value) (n : Nat) (h : 1 ≤ zc.size) : ((Array.range (n * zc.size)).map fun i => zc[i % zc.size]!).toList = (List.replicate n zc.toList).flatten := by
  induction n with
  | zero => simp
  | succ n ih =>
    have h1 : (Array.range ((n + 1) * zc.size)).toList = (Array.range (n * zc.size)).toList ++ (List.range zc.size).map (n * zc.size + ·) := by
      simp only [Array.toList_range]
      rw [Nat.succ_mul, List.range_add]
    have h2 : (List.replicate (n + 1) zc.toList).flatten = (List.replicate n zc.toList).flatten ++ zc.toList := by
      rw [List.replicate_succ', List.flatten_append]; simp
    rw [Array.toList_map, h1, List.map_append, ← Array.toList_map, ih, h2]
    congr 1
    rw [List.map_map]
    apply List.ext_getElem?
    intro i
    by_cases hi : i < zc.size
    · simp only [List.getElem?_map, List.getElem?_range hi, Option.map_some, Function.comp]
      have : (n * zc.size + i) % zc.size = i := by rw [Nat.mul_comm, Nat.mul_add_mod]; exact Nat.mod_eq_of_lt hi
      rw [this]
      simp [hi]
    · rw [List.getElem?_eq_none (by simp; omega), List.getElem?_eq_none (by simp; omega)]

/-- parts of a literal -/
def PartsE (x : Ctx) : List (Nat × AVal) → List (Nat × Value) → Prop
  | [], [] => True
  | (i, a) :: ps, (j, u) :: qs => i = j ∧ V x a u ∧ PartsE x ps qs
  | _, _ => False

theorem flat_set {es : Nat} : ∀ {xs : List AVal} {i : Nat} {a : AVal}, (∀ b ∈ xs, (cellsOf b).length = es) → i < xs.length → (cellsOf a).length = es → (xs.set i a).flatMap cellsOf = splice (xs.flatMap cellsOf) (i * es) (cellsOf a)
  | [], i, a, _, hi, _ => by simp at hi
  | b :: bs, 0, a, hl, _, ha => by
    have hb := hl b (by simp)
    simp only [List.set_cons_zero, List.flatMap_cons, splice, Nat.zero_mul, List.take_zero, List.nil_append, Nat.zero_add, ha]
    rw [← hb, List.drop_left]
  | b :: bs, i + 1, a, hl, hi, ha => by
    have hb := hl b (by simp)
    simp only [List.set_cons_succ, List.flatMap_cons]
    rw [flat_set (fun c hc => hl c (by simp [hc])) (by simpa using hi) ha]
    have e1 : (i + 1) * es = (cellsOf b).length + i * es := by rw [hb, Nat.succ_mul]; omega
    unfold splice
    rw [e1, List.take_append, List.drop_append]
    have e2 : (cellsOf b).length + i * es + (cellsOf a).length - (cellsOf b).length = i * es + (cellsOf a).length := by omega
    have e3 : (cellsOf b).length + i * es - (cellsOf b).length = i * es := by omega
    rw [e2, e3, List.take_of_length_le (by omega : (cellsOf b).length ≤ (cellsOf b).length + i * es), List.drop_eq_nil_of_le (by omega : (cellsOf b).length ≤ (cellsOf b).length + i * es + (cellsOf a).length)]
    simp

theorem flat_len {es : Nat} : ∀ {xs : List AVal}, (∀ b ∈ xs, (cellsOf b).length = es) → (xs.flatMap cellsOf).length = xs.length * es
  | [], _ => by simp
  | b :: bs, hl => by
    have ih := flat_len (es := es) (xs := bs) (fun c hc => hl c (List.mem_cons_of_mem _ hc))
    simp only [List.flatMap_cons, List.length_append, List.length_cons, hl b (by simp), ih, Nat.succ_mul]
    omega

theorem all_set {es : Nat} {xs : List AVal} {i : Nat} {a : AVal} (hl : ∀ b ∈ xs, (cellsOf b).length = es) (ha : (cellsOf a).length = es) : ∀ b ∈ xs.set i a, (cellsOf b).length = es := by
  intro b hb
  rcases List.mem_or_eq_of_mem_set hb with h1 | h1
  · exact hl b h1
  · rw [h1]; exact ha

theorem fillE_ok {x : Ctx} {es : Nat} : ∀ {ps : List (Nat × AVal)} {qs : List (Nat × Value)} {xs r : List AVal} {vs : Array Value}, PartsE x ps qs → (∀ b ∈ xs, (cellsOf b).length = es) → VL x (xs.flatMap cellsOf) vs.toList → fillE es xs ps = some r →
    ∃ us, Instr.fill (fun i => some (i * es, es)) vs qs = some us ∧ VL x (r.flatMap cellsOf) us.toList ∧ (∀ b ∈ r, (cellsOf b).length = es) ∧ r.length = xs.length
  | [], [], xs, r, vs, _, hl, hv, hf => by
    simp only [fillE, Option.some.injEq] at hf
    subst hf
    exact ⟨vs, rfl, hv, hl, rfl⟩
  | [], _ :: _, xs, r, vs, hp, _, _, _ => by simp [PartsE] at hp
  | _ :: _, [], xs, r, vs, hp, _, _, _ => by simp [PartsE] at hp
  | (i, a) :: ps, (j, u) :: qs, xs, r, vs, hp, hl, hv, hf => by
    simp only [PartsE] at hp
    obtain ⟨rfl, hvu, hp⟩ := hp
    simp only [fillE] at hf
    split at hf
    · rename_i hc
      obtain ⟨hc1, hc2, hc3⟩ := hc
      have hcl := V_cells_sc hvu hc3
      have hlen := hcl.length
      have hlen' := hv.length
      rw [flat_len hl] at hlen'
      simp only [Array.length_toList] at hlen hlen'
      have hle : i * es + es ≤ xs.length * es := by
        have := Nat.mul_le_mul_right es (Nat.succ_le_of_lt hc2)
        rw [Nat.succ_mul] at this
        exact this
      have hstep := fill_step u.cells vs (i * es) (by omega)
      obtain ⟨us, h1, h2, h3, h4⟩ := fillE_ok (vs := (spliceV vs.toList (i * es) u.cells.toList).toArray) hp (all_set hl hc1) (by rw [flat_set hl hc2 hc1]; simpa using VL_splice (i * es) hv hcl) hf
      refine ⟨us, ?_, h2, h3, by simpa using h4⟩
      simp only [Instr.fill]
      rw [if_neg (by simp only [Bool.or_eq_true, decide_eq_true_eq]; omega), hstep]
      exact h1
    · cases hf

theorem V_sl0 {y : Ctx} {k : Key} {b es n cap : Nat} (h : y.ρ k 0 = some (b, 0)) (hc : n ≤ cap) (hz : cap * es ≤ bsz y.w b) : V y (.sl k 0 es 0 n) (.slice (some ⟨b, 0, none⟩) n cap) := by
  simp only [V]
  exact ⟨b, 0, _, cap, h, rfl, hc, .inr (by simp), by simpa using hz, rfl⟩

theorem bsz_of {w : World} {b : Nat} {c : Array Value} {el : TypeId} {fr : Nat × Nat} (h : w.heap[b]? = some (.cells c el fr)) : bsz w b = c.size := by
  simp only [Go.Xec.bsz, h]

theorem ok_mkslice (hs : Sim B S0 h nc x) (hk : key.2 < nc) (hfresh : ∀ g, x.ρ key g = none) {t et : TypeId} {n es : Nat} {parts : Array (Nat × Operand)} {z : Value} {zero : AVal} {xs : List AVal} {ps : List (Nat × AVal)} (hop : o.op = .buildSlice t n parts)
    (ht : P.underlying t = some (.slice et)) (hsz : szOf P et = some es) (hbig : n * es ≤ 16777216) (hz : zeroOf P et = some z) (hzc : chkSL z.cells.toList (cellsOf zero) = true) (hzl : (cellsOf zero).length = es) (hes : 1 ≤ es)
    (hp : PartsE x ps (parts.toList.map fun p => (p.1, ρc p.2))) (hxs : fillE es (List.replicate n zero) ps = some xs) :
    OpOk P B S0 ρc o x (applyW h [(key, some (.row 0 es xs))]) nc key (.sl key 0 es 0 n) := by
  have hzl' : VL x (cellsOf zero) z.cells.toList := chkSL_ok hzc
  have hzsz : z.cells.size = es := by rw [← Array.length_toList, hzl'.length, hzl]
  have hall : ∀ b ∈ List.replicate n zero, (cellsOf b).length = es := by
    intro b hb; rw [List.eq_of_mem_replicate hb]; exact hzl
  have hinit : ∃ zc : Array Value, ((n * es = 0 ∧ zc = #[]) ∨ (¬ n * es = 0 ∧ zc = z.cells)) ∧ ((Array.range (n * es)).map fun i => zc[i % zc.size]!).toList = (List.replicate n z.cells.toList).flatten := by
    by_cases h0 : n * es = 0
    · refine ⟨#[], .inl ⟨h0, rfl⟩, ?_⟩
      have : n = 0 := by
        rcases Nat.mul_eq_zero.1 h0 with h1 | h1
        · exact h1
        · omega
      subst this
      simp
    · refine ⟨z.cells, .inr ⟨h0, rfl⟩, ?_⟩
      have := zeros_eq z.cells n (by omega)
      rw [hzsz] at this
      rw [hzsz]
      exact this
  obtain ⟨zc, e1, e2⟩ := hinit
  obtain ⟨us, h1, h2, h3, h4⟩ := fillE_ok (vs := (Array.range (n * es)).map fun i => zc[i % zc.size]!) hp hall (by rw [e2, flat_replicate]; exact VL_flatten_replicate hzl' n) hxs
  have hlen := h2.length
  rw [flat_len h3, h4, List.length_replicate, Array.length_toList] at hlen
  refine freshOk hs hk hfresh (u := .slice (some ⟨x.w.heap.size, 0, none⟩) n n) (w' := { x.w with heap := x.w.heap.push (.cells us et (0, 0)) }) (c := us) (el := et) ?_ rfl ⟨rfl, rfl, rfl⟩ rfl ?_ ?_
  · simp only [execOp, hop, Instr.buildSlice, Sem.run_bind, run_underlying ht, Result.andThen_ok, szOf_run hsz]
    rw [if_neg (by omega)]
    rcases e1 with ⟨h0, rfl⟩ | ⟨h0, rfl⟩
    · simp only [h0, if_true, Sem.run_bind, Sem.run_pure, Result.andThen_ok, Array.toList_map] at h1 ⊢
      rw [h1]
      simp only [newRow, Sem.run_bind, run_newObj, Sem.run_pure, Result.andThen_ok]
    · simp only [h0, if_false, Sem.run_bind, Sem.run_pure, zero_run hz, Result.andThen_ok, Array.toList_map] at h1 ⊢
      rw [h1]
      simp only [newRow, Sem.run_bind, run_newObj, Sem.run_pure, Result.andThen_ok]
  · intro y g hb
    refine ⟨us, et, hb, by rw [h4]; simp; omega, VR_of_flat h3 (VC_new hb (VL_grow g _ _ h2))⟩
  · intro y g hb hρ
    exact V_sl0 hρ (Nat.le_refl _) (by rw [bsz_of hb]; omega)

end
end Go.Xec
