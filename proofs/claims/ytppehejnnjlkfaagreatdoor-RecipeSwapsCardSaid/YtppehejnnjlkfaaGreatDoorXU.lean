/-
  The rules for stepping, marked for the simplifier; the interpreter's tables, grown by one function.
-/
import Derived.Test.YtppehejnnjlkfaaGreatDoorXS
import Derived.Attr
set_option linter.unusedVariables false
set_option linter.unusedSimpArgs false
namespace Go.Xec
open Go

attribute [go_sem ↓] Ev_seq Ev_cond Ev_block Ev_skip Ev_ret Ev_exit Ev_reg0 Ev_reg1 Ev_reg2 Ro_cons Ro_consG Ro_nil RoF_cons RoF_consG RoF_nil
  op_mv op_pick op_alloc op_box op_build op_mkslice op_load op_store op_bin op_eqB op_eqN op_eqA op_nilChk op_idS op_un op_conv op_fa op_fld op_iaA op_iaS op_ixA op_ixS op_mkS op_slS op_slV op_slA op_lenS op_lenV op_mnx op_ext op_mkf op_mki op_app op_cpy op_call op_b2s op_rngS op_nxtS op_mkM op_lkp op_mset op_ment op_msto op_mdel
  Bd_map Bd_bind updT_eq upd_eq arg_t arg_c putO_some putO_none resL_tmp resL_cell
attribute [go_sem] Bd_some Bd_if Cd_true Cd_false Gd_tt Gd_tf Gd_ft Gd_ff Gd_undef Nx_nrm Nx_ext Nx_ret Bx_nrm Bx_ret Bx_ext
  Fin_nrm Fin_ret resL_nil one_one one_two one_nil Option.getD_some Option.getD_none List.getElem?_cons_zero List.getElem?_cons_succ
  pickA_true pickA_false List.map_cons List.map_nil Option.map_some Option.map_none Option.bind_some ldA_ptr ldA_pvo cs_var0

theorem Gd_split_t {b : Bool} {A B : Unit → Prop} (hA : b = true → A ()) (hB : b = false → B ()) : Gd (.bool b) true A B := Gd_split hA hB
theorem Gd_split_f {b : Bool} {A B : Unit → Prop} (hA : b = true → B ()) (hB : b = false → A ()) : Gd (.bool b) false A B := Gd_split hB hA
theorem site_eq (fid rid i : Nat) : site fid rid i = (fid * 1000 + rid) * 1000 + i := rfl

/-- One function more is known. -/
def Cfg.add (C : Cfg) (g : FuncId) (F : List AVal → Option AVal) : Cfg := ⟨fun h => if h = g then some F else C.Γ h, C.xf, C.Γn, C.Γm, C.Γa⟩
theorem Cfg.add_Γ (C : Cfg) (g : FuncId) (F : List AVal → Option AVal) (h : FuncId) : (C.add g F).Γ h = if h = g then some F else C.Γ h := rfl
theorem Cfg.add_xf (C : Cfg) (g : FuncId) (F : List AVal → Option AVal) : (C.add g F).xf = C.xf := rfl
theorem CfgOk.add {P : Program} {C : Cfg} (ok : CfgOk P C) {g : FuncId} {F : List AVal → Option AVal} (h : Sound P g F) : CfgOk P (C.add g F) := by
  refine ⟨fun g' F' hg => ?_, ok.xf, ok.mixed, ok.Γn, ok.Γm, ok.Γa⟩
  rw [Cfg.add_Γ] at hg
  split at hg
  · rename_i e; subst e; cases hg; exact h
  · exact ok.Γ g' F' hg

/-- One function more that answers rows of its own. -/
def Cfg.addN (C : Cfg) (g : FuncId) (F : List AVal → Option (Option (Nat × List AVal))) : Cfg := ⟨C.Γ, C.xf, fun h => if h = g then some F else C.Γn h, C.Γm, C.Γa⟩
theorem CfgOk.addN {P : Program} {C : Cfg} (ok : CfgOk P C) {g : FuncId} {F : List AVal → Option (Option (Nat × List AVal))} (h : SoundN P g F) : CfgOk P (C.addN g F) := by
  refine ⟨ok.Γ, ok.xf, ok.mixed, fun g' F' hg => ?_, ok.Γm, ok.Γa⟩
  simp only [Cfg.addN] at hg
  split at hg
  · rename_i e; subst e; cases hg; exact h
  · exact ok.Γn g' F' hg
/-- One function more that looks at a map. -/
def Cfg.addM (C : Cfg) (g : FuncId) (F : List (AVal × AVal × Nat) → Nat → Option (Option (Nat × List AVal))) : Cfg := ⟨C.Γ, C.xf, C.Γn, fun h => if h = g then some F else C.Γm h, C.Γa⟩
theorem CfgOk.addM {P : Program} {C : Cfg} (ok : CfgOk P C) {g : FuncId} {F : List (AVal × AVal × Nat) → Nat → Option (Option (Nat × List AVal))} (h : SoundM P g F) : CfgOk P (C.addM g F) := by
  refine ⟨ok.Γ, ok.xf, ok.mixed, ok.Γn, fun g' F' hg => ?_, ok.Γa⟩
  simp only [Cfg.addM] at hg
  split at hg
  · rename_i e; subst e; cases hg; exact h
  · exact ok.Γm g' F' hg
/-- One function more that asks of what type an error is. -/
def Cfg.addA (C : Cfg) (g : FuncId) (q : TypeId × TypeId × Nat) : Cfg := ⟨C.Γ, C.xf, C.Γn, C.Γm, fun h => if h = g then some q else C.Γa h⟩
theorem CfgOk.addA {P : Program} {C : Cfg} (ok : CfgOk P C) {g : FuncId} {q : TypeId × TypeId × Nat} (h : SoundA P g q.1 q.2.1 q.2.2) : CfgOk P (C.addA g q) := by
  refine ⟨ok.Γ, ok.xf, ok.mixed, ok.Γn, ok.Γm, fun g' F' hg => ?_⟩
  simp only [Cfg.addA] at hg
  split at hg
  · rename_i e; subst e; cases hg; exact h
  · exact ok.Γa g' F' hg
theorem sound_at {P : Program} {C : Cfg} (ok : CfgOk P C) (d : Nat) {f : FuncId} {F : List AVal → Option AVal} (hF : ∀ xs r, F xs = some r → pureF C (d + 1) f xs = some r) : Sound P f F := sound_of ok (d + 1) hF

theorem lendL_nil (d : Nat) (h : Heap) : (lendL d []).run h = some ([], []) := by simp [lendL, Rd.run]
theorem lendL_cons {d : Nat} {x x' : AVal} {xs xs' : List AVal} {ks ls : List Key} {h : Heap} (h1 : (lend d x).run h = some (x', ks)) (h2 : (lendL d xs).run h = some (xs', ls)) : (lendL d (x :: xs)).run h = some (x' :: xs', ks ++ ls) := by
  simp [lendL, Rd.run_bind, h1, h2, Rd.run]

/-! ### values that hold no names: handed over as they are -/
mutual
def plain : Nat → AVal → Bool
  | d, .agg xs => match d with
    | 0 => false
    | d + 1 => plainL d xs
  | d, .tup xs => match d with
    | 0 => false
    | d + 1 => plainL d xs
  | _, .sl .. => false
  | _, .ptr .. => false
  | _, .fn .. => false
  | _, .mp .. => false
  | _, .ifc .. => false
  | _, _ => true
def plainL : Nat → List AVal → Bool
  | _, [] => true
  | d, x :: xs => plain d x && plainL d xs
end
mutual
theorem lend_plain (h : Heap) : ∀ (x : AVal) (d : Nat), plain d x = true → (lend d x).run h = some (x, [])
  | .agg xs, 0, hp => by simp [plain] at hp
  | .agg xs, d + 1, hp => by
    simp only [plain] at hp
    simp only [lend, Rd.run_bind, lendL_plain h xs d hp, Option.bind_some, Rd.run]
  | .tup xs, 0, hp => by simp [plain] at hp
  | .tup xs, d + 1, hp => by
    simp only [plain] at hp
    simp only [lend, Rd.run_bind, lendL_plain h xs d hp, Option.bind_some, Rd.run]
  | .undef, d, _ => by simp [lend, Rd.run]
  | .any, d, _ => by simp [lend, Rd.run]
  | .bool _, d, _ => by simp [lend, Rd.run]
  | .int _ _, d, _ => by simp [lend, Rd.run]
  | .str _, d, _ => by simp [lend, Rd.run]
  | .nilp, d, _ => by simp [lend, Rd.run]
  | .pvo .., d, _ => by simp [lend, Rd.run]
  | .nils, d, _ => by simp [lend, Rd.run]
  | .emp, d, _ => by simp [lend, Rd.run]
  | .slc .., d, _ => by simp [lend, Rd.run]
  | .nili, d, _ => by simp [lend, Rd.run]
  | .nilf, d, _ => by simp [lend, Rd.run]
  | .sl .., d, hp => by cases d <;> simp [plain] at hp
  | .ptr .., d, hp => by cases d <;> simp [plain] at hp
  | .mp .., d, hp => by cases d <;> simp [plain] at hp
  | .fn .., d, hp => by cases d <;> simp [plain] at hp
  | .ifc .., d, hp => by cases d <;> simp [plain] at hp
theorem lendL_plain (h : Heap) : ∀ (xs : List AVal) (d : Nat), plainL d xs = true → (lendL d xs).run h = some (xs, [])
  | [], d, _ => by simp [lendL, Rd.run]
  | x :: xs, d, hp => by
    simp only [plainL, Bool.and_eq_true] at hp
    simp only [lendL, Rd.run_bind, lend_plain h x d hp.1, lendL_plain h xs d hp.2, Option.bind_some, Rd.run, List.append_nil]
end
theorem Ends_plain {v r : AVal} {h : Heap} (hp : plain freeze v = true) (hr : v = r) : Ends v h r := by
  subst hr
  unfold Ends
  rw [lend_plain h v freeze hp]
  rfl
mutual
theorem lend_plain_eq : ∀ (x : AVal) (d : Nat), plain d x = true → lend d x = .ret (x, [])
  | .agg xs, 0, hp => by simp [plain] at hp
  | .agg xs, d + 1, hp => by
    simp only [plain] at hp
    simp only [lend, lendL_plain_eq xs d hp, Rd.bind]
  | .tup xs, 0, hp => by simp [plain] at hp
  | .tup xs, d + 1, hp => by
    simp only [plain] at hp
    simp only [lend, lendL_plain_eq xs d hp, Rd.bind]
  | .undef, d, _ => by simp [lend]
  | .any, d, _ => by simp [lend]
  | .bool _, d, _ => by simp [lend]
  | .int _ _, d, _ => by simp [lend]
  | .str _, d, _ => by simp [lend]
  | .nilp, d, _ => by simp [lend]
  | .pvo .., d, _ => by simp [lend]
  | .nils, d, _ => by simp [lend]
  | .emp, d, _ => by simp [lend]
  | .slc .., d, _ => by simp [lend]
  | .nili, d, _ => by simp [lend]
  | .nilf, d, _ => by simp [lend]
  | .sl .., d, hp => by cases d <;> simp [plain] at hp
  | .ptr .., d, hp => by cases d <;> simp [plain] at hp
  | .mp .., d, hp => by cases d <;> simp [plain] at hp
  | .fn .., d, hp => by cases d <;> simp [plain] at hp
  | .ifc .., d, hp => by cases d <;> simp [plain] at hp
theorem lendL_plain_eq : ∀ (xs : List AVal) (d : Nat), plainL d xs = true → lendL d xs = .ret (xs, [])
  | [], d, _ => by simp [lendL]
  | x :: xs, d, hp => by
    simp only [plainL, Bool.and_eq_true] at hp
    simp only [lendL, lend_plain_eq x d hp.1, lendL_plain_eq xs d hp.2, Rd.bind, List.append_nil]
end
theorem call_plain {C : Cfg} {inl : Inl} {g : FuncId} {F : List AVal → Option AVal} {xs : List AVal} {r : AVal} {hp : Heap} {nc : Nat} (hg : C.Γ g = some F) (hl : plainL freeze xs = true) (hr : F xs = some r) :
    callX C inl (.fn (.func g) [] []) xs hp nc = some (r, hp, nc) := call_known hg (lendL_plain hp xs freeze hl) hr


/-! ### values -/
theorem cellsOf_agg (xs : List AVal) : cellsOf (.agg xs) = xs := rfl
theorem cellsOf_int (k : IntKind) (n : Int) : cellsOf (.int k n) = [.int k n] := rfl
theorem cellsOf_bool (b : Bool) : cellsOf (.bool b) = [.bool b] := rfl
theorem cellsOf_str (s : ByteArray) : cellsOf (.str s) = [.str s] := rfl
theorem cellsOf_nils : cellsOf .nils = [.nils] := rfl
theorem cellsOf_emp : cellsOf .emp = [.emp] := rfl
theorem cellsOf_slc (es : Nat) (xs : List AVal) : cellsOf (.slc es xs) = [.slc es xs] := rfl
theorem cellsOf_sl (k : Key) (g es off len : Nat) : cellsOf (.sl k g es off len) = [.sl k g es off len] := rfl
theorem cellsOf_ptr (k : Key) (g i es off : Nat) : cellsOf (.ptr k g i es off) = [.ptr k g i es off] := rfl
theorem isSc_int (k : IntKind) (n : Int) : isSc (.int k n) = true := rfl
theorem isSc_bool (b : Bool) : isSc (.bool b) = true := rfl
theorem isSc_str (s : ByteArray) : isSc (.str s) = true := rfl
theorem isSc_nils : isSc .nils = true := rfl
theorem isSc_emp : isSc .emp = true := rfl
theorem isSc_slc (es : Nat) (xs : List AVal) : isSc (.slc es xs) = true := rfl
theorem isSc_sl (k : Key) (g es off len : Nat) : isSc (.sl k g es off len) = true := rfl
theorem isSc_ptr (k : Key) (g i es off : Nat) : isSc (.ptr k g i es off) = true := rfl
theorem faA_ptr (off : Nat) (k : Key) (g i es o : Nat) : faA off (.ptr k g i es o) = some (.ptr k g i es (o + off)) := rfl
theorem faA_pvo (off : Nat) (cs : List AVal) (o : Nat) : faA off (.pvo cs o) = some (.pvo cs (o + off)) := rfl
theorem extA_tup (xs : List AVal) (i : Nat) : extA (.tup xs) i = xs[i]? := rfl
theorem fldA_agg (agg : Bool) (n off : Nat) (cs : List AVal) : fldA agg n off (.agg cs) = takeV agg n off cs := rfl
theorem iaAA_ptr (n es : Nat) (k : Key) (g i es0 o : Nat) (kd : IntKind) (j : Int) : iaAA n es (.ptr k g i es0 o) (.int kd j) = if 0 ≤ j ∧ j < n then some (.ptr k g i es0 (o + j.toNat * es)) else none := rfl
theorem ixAA_agg (agg : Bool) (n es : Nat) (cs : List AVal) (kd : IntKind) (j : Int) : ixAA agg n es (.agg cs) (.int kd j) = if 0 ≤ j ∧ j < n then takeV agg es (j.toNat * es) cs else none := rfl
theorem fillA_nil (cs : List AVal) : fillA cs [] = some cs := rfl
theorem fillA_cons (cs : List AVal) (off n : Nat) (x : AVal) (r : List (Nat × Nat × AVal)) : fillA cs ((off, n, x) :: r) = if (cellsOf x).length = n ∧ off + n ≤ cs.length ∧ (cellsOf x).all isSc = true then fillA (splice cs off (cellsOf x)) r else none := rfl
theorem fillE_nil (es : Nat) (xs : List AVal) : fillE es xs [] = some xs := rfl
theorem fillE_cons (es : Nat) (xs : List AVal) (i : Nat) (x : AVal) (r : List (Nat × AVal)) : fillE es xs ((i, x) :: r) = if (cellsOf x).length = es ∧ i < xs.length ∧ (cellsOf x).all isSc = true then fillE es (xs.set i x) r else none := rfl
theorem splice_eq (cs : List AVal) (off : Nat) (new : List AVal) : splice cs off new = cs.take off ++ (new ++ cs.drop (off + new.length)) := rfl
theorem unA_not (b : Bool) : unA .not (.bool b) = some (.bool !b) := rfl
theorem unA_neg (k : IntKind) (n : Int) : unA .neg (.int k n) = some (.int k (k.wrap (0 - n))) := rfl
theorem convA_int (k k' : IntKind) (n : Int) : convA k (.int k' n) = some (.int k (k.wrap n)) := rfl
theorem eqBA_bool (neg a b : Bool) : eqBA neg (.bool a) (.bool b) = some (.bool (if neg then !(a == b) else a == b)) := rfl
theorem eqAA_agg (neg : Bool) (ks : List Nat) (xs ys : List AVal) : eqAA neg ks (.agg xs) (.agg ys) = (eqCells ks xs ys).map fun b => .bool (if neg then !b else b) := rfl
theorem eqCells_nil : eqCells [] [] [] = some true := rfl
theorem eqCells_cons (k : Nat) (ks : List Nat) (x y : AVal) (xs ys : List AVal) : eqCells (k :: ks) (x :: xs) (y :: ys) = (eq1 k x y).bind fun a => (eqCells ks xs ys).map fun b => a && b := by
  simp only [eqCells]
  cases eq1 k x y with
  | none => rfl
  | some a => cases eqCells ks xs ys <;> rfl
theorem eq1_int (k : IntKind) (a b : Int) : eq1 0 (.int k a) (.int k b) = some (decide (a = b)) := by simp only [eq1, if_true]; rfl
theorem eq1_bool (a b : Bool) : eq1 1 (.bool a) (.bool b) = some (a == b) := rfl
theorem eq1_str (a b : ByteArray) : eq1 2 (.str a) (.str b) = some (a.toList == b.toList) := rfl
theorem nilA_nils : nilA 0 .nils = some true := rfl
theorem nilA_emp : nilA 0 .emp = some false := rfl
theorem nilA_slc (es : Nat) (xs : List AVal) : nilA 0 (.slc es xs) = some false := rfl
theorem nilA_sl (k : Key) (g es off len : Nat) : nilA 0 (.sl k g es off len) = some false := rfl
theorem nilA_ptr (k : Key) (g i es off : Nat) : nilA 2 (.ptr k g i es off) = some false := rfl
theorem remake_agg (xs cs : List AVal) : remake (.agg xs) cs = .agg cs := rfl
theorem remake_int (k : IntKind) (n : Int) (cs : List AVal) : remake (.int k n) cs = cs.headD .undef := rfl
theorem remake_bool (b : Bool) (cs : List AVal) : remake (.bool b) cs = cs.headD .undef := rfl
attribute [go_sem] List.isEmpty_cons nilA_nils nilA_emp nilA_slc nilA_sl nilA_ptr cellsOf_agg cellsOf_int cellsOf_bool cellsOf_str cellsOf_nils cellsOf_emp cellsOf_slc cellsOf_sl cellsOf_ptr isSc_int isSc_bool isSc_str isSc_nils isSc_emp isSc_slc isSc_sl isSc_ptr faA_ptr faA_pvo extA_tup fldA_agg iaAA_ptr ixAA_agg
  fillA_nil fillA_cons fillE_nil fillE_cons splice_eq unA_not unA_neg convA_int eqBA_bool eqAA_agg eqCells_nil eqCells_cons eq1_int eq1_bool eq1_str remake_agg remake_int remake_bool takeV_agg takeV_one site_eq
  List.length_cons List.length_nil List.all_cons List.all_nil List.take_succ_cons List.take_zero List.drop_succ_cons List.drop_zero List.nil_append List.cons_append List.set_cons_zero List.set_cons_succ List.headD_cons Prod.mk.injEq List.append_nil and_true true_and and_false false_and and_self Bool.and_self Bool.and_true Bool.true_and Bool.and_false Bool.false_and List.getElem?_nil Bool.not_true Bool.not_false
/-! ### what is answered, with names in it -/
def lendV (d : Nat) (v : AVal) (hp : Heap) : Option AVal := ((lend d v).run hp).map (·.1)
def lendVL (d : Nat) (xs : List AVal) (hp : Heap) : Option (List AVal) := ((lendL d xs).run hp).map (·.1)
theorem Ends_eq (v : AVal) (hp : Heap) (r : AVal) : Ends v hp r = (lendV 64 v hp = some r) := rfl
theorem lendV_plain {d : Nat} {v : AVal} {hp : Heap} (h : plain d v = true) : lendV d v hp = some v := by
  unfold lendV; rw [lend_plain hp v d h]; rfl
theorem lendVL_plain {d : Nat} {xs : List AVal} {hp : Heap} (h : plainL d xs = true) : lendVL d xs hp = some xs := by
  unfold lendVL; rw [lendL_plain hp xs d h]; rfl
theorem lendV_sl (d : Nat) (k : Key) (g es off len : Nat) (hp : Heap) : lendV (d + 1) (.sl k g es off len) hp = (hp k).bind fun b => (b.els g es off len).bind fun xs => (lendVL d xs hp).map fun ys => .slc es ys := by
  simp only [lendV, lendVL, lend, Rd.run]
  cases hp k with
  | none => rfl
  | some b =>
    simp only [Option.bind_some]
    cases b.els g es off len with
    | none => rfl
    | some xs =>
      simp only [Option.bind_some, Rd.run_bind]
      cases (lendL d xs).run hp <;> rfl
theorem lendV_agg (d : Nat) (xs : List AVal) (hp : Heap) : lendV (d + 1) (.agg xs) hp = (lendVL d xs hp).map .agg := by
  simp only [lendV, lendVL, lend, Rd.run_bind]
  cases (lendL d xs).run hp <;> rfl
theorem lendV_tup (d : Nat) (xs : List AVal) (hp : Heap) : lendV (d + 1) (.tup xs) hp = (lendVL d xs hp).map .tup := by
  simp only [lendV, lendVL, lend, Rd.run_bind]
  cases (lendL d xs).run hp <;> rfl
theorem lendV_ifc (d : Nat) (t : TypeId) (v : AVal) (hp : Heap) : lendV (d + 1) (.ifc t v) hp = (lendV d v hp).map (.ifc t) := by
  simp only [lendV, lend, Rd.run_bind]
  cases (lend d v).run hp <;> rfl
theorem lendVL_nil (d : Nat) (hp : Heap) : lendVL d [] hp = some [] := by simp [lendVL, lendL, Rd.run]
theorem lendVL_cons (d : Nat) (x : AVal) (xs : List AVal) (hp : Heap) : lendVL d (x :: xs) hp = (lendV d x hp).bind fun y => (lendVL d xs hp).map fun ys => y :: ys := by
  simp only [lendV, lendVL, lendL, Rd.run_bind]
  cases (lend d x).run hp with
  | none => rfl
  | some a =>
    simp only [Option.bind_some, Option.map_some]
    cases (lendL d xs).run hp <;> rfl
attribute [go_sem] lendV_plain lendV_sl lendV_agg lendV_tup lendV_ifc lendVL_nil lendVL_cons
/-! ### what operations look at -/
def memK (k : Key) : List Key → Bool
  | [] => false
  | k' :: l => decide (k = k') || memK k l
theorem contains_memK (k : Key) (l : List Key) : l.contains k = memK k l := by
  induction l with
  | nil => rfl
  | cons k' l ih =>
    simp only [List.contains_cons, memK, ih]
    congr 1
    rw [Bool.eq_iff_iff]
    simp
theorem disj_nil (l : List Key) : disj [] l = true := rfl
theorem disj_cons (k : Key) (ks l : List Key) : disj (k :: ks) l = (!memK k l && disj ks l) := by
  simp only [disj, List.all_cons, contains_memK]
theorem memK_nil (k : Key) : memK k [] = false := rfl
theorem memK_cons (k k' : Key) (l : List Key) : memK k (k' :: l) = (decide (k = k') || memK k l) := rfl
theorem apartF_ck0 (p : Key → Prop) (w : List Key) : apartF (.cl p, w) (.kn [], []) = true := by simp [apartF]
theorem apartF_ck1 {p : Key → Prop} {w : List Key} {k : Key} (h : p k) : apartF (.cl p, w) (.kn [k], []) = true := by simp [apartF, h]
theorem apartF_kc0 (p : Key → Prop) (w : List Key) : apartF (.kn [], []) (.cl p, w) = true := by simp [apartF]
theorem apartF_kc1 {p : Key → Prop} {w : List Key} {k : Key} (h : p k) : apartF (.kn [k], []) (.cl p, w) = true := by simp [apartF, h]
theorem apartF_some (rx wx ry wy : List Key) : apartF (.kn rx, wx) (.kn ry, wy) = (disj wx (ry ++ wy) && disj wy rx) := rfl
noncomputable def hotP (a b : Option Foot) : Bool := match a, b with
  | some x, some y => apartF x y
  | _, _ => false
theorem hotP_some (x y : Foot) : hotP (some x) (some y) = apartF x y := rfl
theorem hotOk_nil (fs : List Foot) : hotOk fs [] = true := rfl
theorem hotOk_cons (fs : List Foot) (i j : Nat) (hot : List (Nat × Nat)) : hotOk fs ((i, j) :: hot) = (hotP fs[i]? fs[j]? && hotOk fs hot) := by
  simp only [hotOk, List.all_cons, hotP]
  rfl
section
variable {C : Cfg} {key : Key} {tm : Nat → AVal} {hp hp' : Heap}
def ftV (C : Cfg) (key : Key) (op : XOp) (tm : Nat → AVal) (hp hp' : Heap) : Foot := footP (rdOf C key op (arg tm)) hp hp'
theorem ftV_eq (op : XOp) : footP (rdOf C key op (arg tm)) hp hp' = ftV C key op tm hp hp' := rfl
def ftP (x : AVal) : Foot := match x with
  | .ptr k .. => (.kn [k], [])
  | _ => (.kn [], [])
theorem ftP_ptr (k : Key) (g i es off : Nat) : ftP (.ptr k g i es off) = (.kn [k], []) := rfl
theorem ftP_pvo (cs : List AVal) (off : Nat) : ftP (.pvo cs off) = (.kn [], []) := rfl
theorem ft_load (agg : Bool) (n : Nat) (x : XArg) : ftV C key (.load agg n x) tm hp hp' = ftP (arg tm x) := by
  simp only [ftV, rdOf, opR, footP, Rd.run_bind]
  cases h : arg tm x with
  | ptr k g i es off =>
    simp only [loadR, Rd.bind, Rd.reads, Rd.run, ftP]
    cases hp k with
    | none => rfl
    | some b => simp only; cases (b.cs g i es).bind (takeV agg n off) <;> rfl
  | pvo cs off => simp only [loadR, ftP]; cases takeV agg n off cs <;> rfl
  | _ => rfl
theorem ft_alloc (cells : List AVal) : ftV C key (.alloc cells) tm hp hp' = (.kn [], [key]) := rfl
theorem ft_box (x : XArg) : ftV C key (.box x) tm hp hp' = if (cellsOf (arg tm x)).all isSc = true then (.kn [], [key]) else (.kn [], []) := by
  simp only [ftV, rdOf, opR, footP]
  split <;> rfl
theorem ft_call {g : FuncId} {F : List AVal → Option AVal} (hg : C.Γ g = some F) (xs : List XArg) (hl : plainL freeze (xs.map (arg tm)) = true) : ftV C key (.call (.c (.fn (.func g) [] [])) xs) tm hp hp' = (.kn [], []) := by
  have e : lendL freeze (xs.map (arg tm)) = .ret (xs.map (arg tm), []) := lendL_plain_eq _ _ hl
  simp only [ftV, rdOf, arg, target, List.nil_append, List.append_nil, hg, footP, callR, e, Rd.bind]
  cases F (xs.map (arg tm)) with
  | none => rfl
  | some v => simp only [Rd.reads, Rd.run, List.map_nil, ite_self]
/-- A store's: the place. -/
def ftS (n : Nat) (x y : AVal) (hp : Heap) : Foot := match x with
  | .ptr k .. => if (cellsOf y).length = n ∧ (cellsOf y).all isSc = true then (.kn [k], if (stA n x y hp).isSome = true then [k] else []) else (.kn [], [])
  | _ => (.kn [], [])
theorem ftS_ptr (n : Nat) (k : Key) (g i es off : Nat) (y : AVal) : ftS n (.ptr k g i es off) y hp = if (cellsOf y).length = n ∧ (cellsOf y).all isSc = true then (.kn [k], if (stA n (.ptr k g i es off) y hp).isSome = true then [k] else []) else (.kn [], []) := rfl
theorem ft_get {k : Key} {f : Option Blk → Rd Outp} (hf : ∀ b, f b = .fail ∨ ∃ z, f b = .ret (.undef, [(k, z)])) :
    footP (.inl (.get k f)) hp hp' = (.kn [k], if (((Rd.get k f).run hp).map fun r => applyW hp r.2).isSome = true then [k] else []) := by
  rcases hf (hp k) with h | ⟨z, h⟩ <;> simp [footP, Rd.reads, Rd.run, h]
theorem ft_store (n : Nat) (x y : XArg) : ftV C key (.store n x y) tm hp hp' = ftS n (arg tm x) (arg tm y) hp := by
  simp only [ftV, rdOf, opR]
  cases h : arg tm x with
  | ptr k g i es off =>
    simp only [ftS, stA, storeR]
    split
    · refine ft_get fun b => ?_
      cases b with
      | none => exact .inl rfl
      | some b =>
        cases b with
        | obj a => exact .inl rfl
        | var cells =>
          simp only
          split
          · exact .inr ⟨_, rfl⟩
          · exact .inl rfl
        | row g' es' elems =>
          simp only
          split
          · cases elems[i]? with
            | none => exact .inl rfl
            | some e =>
              simp only
              split
              · exact .inr ⟨_, rfl⟩
              · exact .inl rfl
          · exact .inl rfl
    · rfl
  | _ => rfl
theorem ft_ofO {op : XOp} {o : Option AVal} (h : rdOf C key op (arg tm) = .inl ((Rd.ofO o).bind fun v => .ret (v, []))) : ftV C key op tm hp hp' = (.kn [], []) := by
  rw [ftV, h]; cases o <;> rfl
theorem ft_inl {g : FuncId} (hg : C.Γ g = none) (xs : List XArg) (fs cs : List AVal) : ftV C key (.call (.c (.fn (.func g) fs cs)) xs) tm hp hp' = (.cl fun k => hp' k = hp k, []) := by
  simp only [ftV, rdOf, arg, target, hg, footP]
theorem ft_slA (n es : Nat) (x : XArg) (lo hi : Option XArg) {k : Key} {es' : Nat} (hx : arg tm x = .ptr k 0 0 es' 0) : ftV C key (.slA n es x lo hi) tm hp hp' = (.kn [k], []) := by
  simp only [ftV, rdOf, opR, footP, hx, Rd.reads, Rd.run]
  cases hp k with
  | none => rfl
  | some b =>
    cases b with
    | row => rfl
    | obj => rfl
    | var cells =>
      simp only
      split
      · cases slAA n es (.ptr k 0 0 es' 0) (lo.map (arg tm)) (hi.map (arg tm)) <;> rfl
      · rfl
theorem ft_mv (x : XArg) : ftV C key (.mv x) tm hp hp' = (.kn [], []) := rfl
theorem ft_bin (op : BinOp) (x y : XArg) : ftV C key (.bin op x y) tm hp hp' = (.kn [], []) := ft_ofO rfl
theorem ft_un (op : UnOp) (x : XArg) : ftV C key (.un op x) tm hp hp' = (.kn [], []) := ft_ofO rfl
theorem ft_fa (off : Nat) (x : XArg) : ftV C key (.fa off x) tm hp hp' = (.kn [], []) := ft_ofO rfl
theorem ft_iaA (n es : Nat) (x i : XArg) : ftV C key (.iaA n es x i) tm hp hp' = (.kn [], []) := ft_ofO rfl
theorem ft_iaS (es : Nat) (x i : XArg) : ftV C key (.iaS es x i) tm hp hp' = (.kn [], []) := ft_ofO rfl
theorem ft_ixA (agg : Bool) (n es : Nat) (x i : XArg) : ftV C key (.ixA agg n es x i) tm hp hp' = (.kn [], []) := ft_ofO rfl
theorem ft_ixS (x i : XArg) : ftV C key (.ixS x i) tm hp hp' = (.kn [], []) := ft_ofO rfl
theorem ft_slS (x : XArg) (lo hi : Option XArg) : ftV C key (.slS x lo hi) tm hp hp' = (.kn [], []) := ft_ofO rfl
theorem ft_slV (es : Nat) (x : XArg) (lo hi mx : Option XArg) : ftV C key (.slV es x lo hi mx) tm hp hp' = (.kn [], []) := ft_ofO rfl
theorem ft_lenV (x : XArg) : ftV C key (.lenV x) tm hp hp' = (.kn [], []) := ft_ofO rfl
theorem ft_mnx (m : Bool) (x : XArg) (xs : List XArg) : ftV C key (.mnx m x xs) tm hp hp' = (.kn [], []) := ft_ofO rfl
theorem ft_mkf (f : Fn) (a b : List XArg) : ftV C key (.mkf f a b) tm hp hp' = (.kn [], []) := rfl
theorem ft_mki (t : TypeId) (x : XArg) : ftV C key (.mki t x) tm hp hp' = (.kn [], []) := rfl
theorem ft_pick (x y z : XArg) : ftV C key (.pick x y z) tm hp hp' = (.kn [], []) := by
  simp only [ftV, rdOf, opR, footP]; cases arg tm x <;> rfl
theorem ft_build (zero : List AVal) (parts : List (Nat × Nat × XArg)) : ftV C key (.build zero parts) tm hp hp' = (.kn [], []) := by
  simp only [ftV, rdOf, opR, footP]; split <;> rfl
theorem ft_eqB (neg : Bool) (x y : XArg) : ftV C key (.eqB neg x y) tm hp hp' = (.kn [], []) := by
  simp only [ftV, rdOf, opR, footP]; split <;> rfl
theorem ft_eqN (neg : Bool) (kd : Nat) (x : XArg) : ftV C key (.eqN neg kd x) tm hp hp' = (.kn [], []) := by
  simp only [ftV, rdOf, opR, footP]; cases nilA kd (arg tm x) <;> rfl
theorem ft_eqA (neg : Bool) (ks : List Nat) (x y : XArg) : ftV C key (.eqA neg ks x y) tm hp hp' = (.kn [], []) := by
  simp only [ftV, rdOf, opR, footP]
  split
  · rename_i xs ys _ _
    cases eqCells ks xs ys <;> rfl
  · rfl
theorem ft_nilChk (x : XArg) : ftV C key (.nilChk x) tm hp hp' = (.kn [], []) := by
  simp only [ftV, rdOf, opR, footP]; split <;> rfl
theorem ft_idS (x : XArg) : ftV C key (.idS x) tm hp hp' = (.kn [], []) := by
  simp only [ftV, rdOf, opR, footP]; split <;> rfl
theorem ft_conv (k : IntKind) (x : XArg) : ftV C key (.conv k x) tm hp hp' = (.kn [], []) := by
  simp only [ftV, rdOf, opR, footP]; split <;> rfl
theorem ft_lenS (x : XArg) : ftV C key (.lenS x) tm hp hp' = (.kn [], []) := by
  simp only [ftV, rdOf, opR, footP]; split <;> rfl
theorem ft_fld (agg : Bool) (n off : Nat) (x : XArg) : ftV C key (.fld agg n off x) tm hp hp' = (.kn [], []) := by
  simp only [ftV, rdOf, opR, footP]
  split
  · rename_i cs _
    cases takeV agg n off cs <;> rfl
  · rfl
theorem ft_ext (x : XArg) (i : Nat) : ftV C key (.ext x i) tm hp hp' = (.kn [], []) := by
  simp only [ftV, rdOf, opR, footP]
  split
  · rename_i xs _
    cases xs[i]? <;> rfl
  · rfl
theorem ft_mkslice (es n : Nat) (zero : AVal) (parts : List (Nat × XArg)) : ftV C key (.mkslice es zero n parts) tm hp hp' =
    if (fillE es (List.replicate n zero) (parts.map fun p => (p.1, arg tm p.2))).isSome = true then (.kn [], [key]) else (.kn [], []) := by
  simp only [ftV, rdOf, opR, footP]
  cases fillE es (List.replicate n zero) (parts.map fun p => (p.1, arg tm p.2)) <;> rfl
end
attribute [go_sem ↓] ftV_eq ft_load ft_alloc ft_box ft_store ft_mv ft_bin ft_un ft_fa ft_iaA ft_iaS ft_ixA ft_ixS ft_slS ft_slV ft_lenV ft_mnx ft_mkf ft_mki ft_pick ft_build ft_eqB ft_eqN ft_eqA ft_nilChk ft_idS ft_conv ft_lenS ft_fld ft_ext ft_mkslice
attribute [go_sem] disj_nil disj_cons memK_nil memK_cons apartF_some apartF_ck0 apartF_ck1 apartF_kc0 apartF_kc1 hotP_some hotOk_nil hotOk_cons ftP_ptr ftP_pvo ftS_ptr Hk_true Option.isSome_some Option.isSome_none Bool.or_false Bool.false_or Bool.or_true Bool.true_or decide_true decide_false
/-! ### slices -/
section
variable {hp : Heap} {key : Key}
def elemsA (es : Nat) (x : AVal) (hp : Heap) : Option (List AVal) := (elemsR es x).run hp
theorem elemsA_nils (es : Nat) : elemsA es .nils hp = some [] := rfl
theorem elemsA_emp (es : Nat) : elemsA es .emp hp = some [] := rfl
theorem elemsA_slc (es : Nat) (xs : List AVal) : elemsA es (.slc es xs) hp = some xs := by simp [elemsA, elemsR, Rd.run]
theorem elemsA_sl (es : Nat) (k : Key) (g off len : Nat) : elemsA es (.sl k g es off len) hp = (hp k).bind fun b => b.els g es off len := by
  simp only [elemsA, elemsR, if_true, Rd.run]
  cases hp k with
  | none => rfl
  | some b => simp [Rd.run_ofO]
theorem els_row (g es off len : Nat) (elems : List AVal) : (Blk.row g es elems).els g es off len = if off + len ≤ elems.length then some ((elems.drop off).take len) else none := by
  simp [Blk.els]
def lendA (xs : List AVal) (hp : Heap) : Option (List AVal × List Key) := (lendL freeze xs).run hp
theorem lendA_plain {xs : List AVal} (h : plainL freeze xs = true) : lendA xs hp = some (xs, []) := lendL_plain hp xs freeze h
theorem appA_nils (es bytes : Nat) (y : AVal) : appA es bytes key .nils y hp = (elemsA es y hp).bind fun new0 => (lendA new0 hp).bind fun r =>
    if r.1.isEmpty = true then some (.nils, applyW hp (r.2.map fun k => (k, none))) else
    if r.1.length * bytes ≤ 140737488355328 then some (.sl key 0 es 0 r.1.length, applyW hp (r.2.map (fun k => (k, none)) ++ [(key, some (.row 0 es r.1))])) else none := by
  simp only [appA, appR, Rd.run_bind, elemsA, lendA]
  cases (elemsR es y).run hp with
  | none => rfl
  | some new0 =>
    simp only [Option.bind_some]
    cases (lendL freeze new0).run hp with
    | none => rfl
    | some r =>
      simp only [Option.bind_some]
      split
      · rfl
      · split <;> rfl
theorem appA_emp (es bytes : Nat) (y : AVal) : appA es bytes key .emp y hp = (elemsA es y hp).bind fun new0 => (lendA new0 hp).bind fun r =>
    if r.1.isEmpty = true then some (.emp, applyW hp (r.2.map fun k => (k, none))) else
    if r.1.length * bytes ≤ 140737488355328 then some (.sl key 0 es 0 r.1.length, applyW hp (r.2.map (fun k => (k, none)) ++ [(key, some (.row 0 es r.1))])) else none := by
  simp only [appA, appR, Rd.run_bind, elemsA, lendA]
  cases (elemsR es y).run hp with
  | none => rfl
  | some new0 =>
    simp only [Option.bind_some]
    cases (lendL freeze new0).run hp with
    | none => rfl
    | some r =>
      simp only [Option.bind_some]
      split
      · rfl
      · split <;> rfl
/-- A row that is grown. -/
def grown (es bytes : Nat) (k : Key) (g off len : Nat) (new : List AVal) (ks : List Key) (b : Blk) (hp : Heap) : Option (AVal × Heap) :=
  match b with
  | .row g' es'' elems =>
    if g = g' ∧ es'' = es ∧ off + len = elems.length ∧ (len + new.length) * bytes ≤ 140737488355328 ∧ new.all (fun e => (cellsOf e).all isSc) = true then
      some (.sl k (g + 1) es 0 (len + new.length), applyW hp (ks.map (fun k => (k, none)) ++ [(k, some (.row (g + 1) es (elems.drop off ++ new)))]))
    else none
  | _ => none
theorem grown_row {es bytes : Nat} {k : Key} {g off len : Nat} {new elems : List AVal} {ks : List Key} : grown es bytes k g off len new ks (.row g es elems) hp =
    if off + len = elems.length ∧ (len + new.length) * bytes ≤ 140737488355328 ∧ new.all (fun e => (cellsOf e).all isSc) = true then
      some (.sl k (g + 1) es 0 (len + new.length), applyW hp (ks.map (fun k => (k, none)) ++ [(k, some (.row (g + 1) es (elems.drop off ++ new)))]))
    else none := by simp [grown]
theorem appA_sl (es bytes : Nat) (k : Key) (g off len : Nat) (y : AVal) : appA es bytes key (.sl k g es off len) y hp = (elemsA es y hp).bind fun new0 => (lendA new0 hp).bind fun r =>
    if r.2.contains k = false then (hp k).bind fun b => grown es bytes k g off len r.1 r.2 b hp else none := by
  simp only [appA, appR, Rd.run_bind, elemsA, lendA]
  cases (elemsR es y).run hp with
  | none => rfl
  | some new0 =>
    simp only [Option.bind_some]
    cases (lendL freeze new0).run hp with
    | none => rfl
    | some r =>
      simp only [Option.bind_some, true_and]
      split
      · simp only [Rd.run]
        cases hp k with
        | none => rfl
        | some b =>
          cases b with
          | var => rfl
          | obj => rfl
          | row g' es' elems =>
            simp only [Option.bind_some, grown]
            split <;> rfl
      · rfl
theorem applyW_nil : applyW hp [] = hp := rfl
theorem applyW_cons (k : Key) (b : Option Blk) (ws : Wr) : applyW hp ((k, b) :: ws) = applyW (upd hp k b) ws := rfl
/-- What copy writes. -/
def copied (es : Nat) (k : Key) (g off len : Nat) (ys : List AVal) (b : Blk) (hp : Heap) : Option (AVal × Heap) :=
  match b with
  | .row g' es'' elems =>
    if g = g' ∧ es'' = es ∧ off + len ≤ elems.length ∧ (ys.take len).all (fun e => (cellsOf e).length == es && (cellsOf e).all isSc) = true then
      some (.int .i64 (ys.take len).length, upd hp k (some (.row g' es (splice elems off (ys.take len)))))
    else none
  | .var cells =>
    if g = 0 ∧ es = 1 ∧ off + len ≤ cells.length ∧ (ys.take len).all isSc = true then
      some (.int .i64 (ys.take len).length, upd hp k (some (.var (splice cells off (ys.take len)))))
    else none
  | .obj _ => none
theorem copied_row {es : Nat} {k : Key} {g off len : Nat} {ys elems : List AVal} : copied es k g off len ys (.row g es elems) hp =
    if off + len ≤ elems.length ∧ (ys.take len).all (fun e => (cellsOf e).length == es && (cellsOf e).all isSc) = true then
      some (.int .i64 (ys.take len).length, upd hp k (some (.row g es (splice elems off (ys.take len)))))
    else none := by simp [copied]
theorem cpyA_sl (es : Nat) (k : Key) (g off len : Nat) (y : AVal) : cpyA es (.sl k g es off len) y hp = (elemsA es y hp).bind fun ys => (hp k).bind fun b => copied es k g off len ys b hp := by
  simp only [cpyA, cpyR, Rd.run_bind, elemsA]
  cases (elemsR es y).run hp with
  | none => rfl
  | some ys =>
    simp only [Option.bind_some, if_true, Rd.run]
    cases hp k with
    | none => rfl
    | some b =>
      cases b with
      | obj => rfl
      | row g' es' elems =>
        simp only [Option.bind_some, copied]
        split <;> rfl
      | var cells =>
        simp only [Option.bind_some, copied]
        split <;> rfl
theorem mkSA_int (es bytes : Nat) (k k' : IntKind) (l c : Int) : mkSA es bytes (.int k l) (.int k' c) = if 0 ≤ l ∧ l ≤ c ∧ bytes * c ≤ 281474976710656 then some l.toNat else none := rfl
theorem lenVA_sl (k : Key) (g es off len : Nat) : lenVA (.sl k g es off len) = some (.int .i64 len) := rfl
theorem lenVA_slc (es : Nat) (xs : List AVal) : lenVA (.slc es xs) = some (.int .i64 xs.length) := rfl
theorem lenVA_nils : lenVA .nils = some (.int .i64 0) := rfl
theorem lenVA_emp : lenVA .emp = some (.int .i64 0) := rfl
theorem iaSA_sl (es : Nat) (k : Key) (g off len : Nat) (kd : IntKind) (j : Int) : iaSA es (.sl k g es off len) (.int kd j) = if 0 ≤ j ∧ j < len then some (.ptr k g (off + j.toNat) es 0) else none := by simp [iaSA]
theorem iaSA_slc (es : Nat) (xs : List AVal) (kd : IntKind) (j : Int) : iaSA es (.slc es xs) (.int kd j) = if 0 ≤ j then (xs[j.toNat]?).map fun x => .pvo (cellsOf x) 0 else none := by simp [iaSA]
theorem stA_ptr (n : Nat) (k : Key) (g i es off : Nat) (y : AVal) : stA n (.ptr k g i es off) y hp = if (cellsOf y).length = n ∧ (cellsOf y).all isSc = true then
    (hp k).bind fun b => match b with
      | .var cells => if g = 0 ∧ i * es + off + n ≤ cells.length then some (upd hp k (some (.var (splice cells (i * es + off) (cellsOf y))))) else none
      | .row g' es' elems => if g = g' ∧ es = es' then (elems[i]?).bind fun e => if off + n ≤ (cellsOf e).length then some (upd hp k (some (.row g' es' (elems.set i (remake e (splice (cellsOf e) off (cellsOf y))))))) else none else none
      | .obj _ => none
    else none := by
  simp only [stA, storeR]
  split
  · simp only [Rd.run]
    cases hp k with
    | none => rfl
    | some b =>
      cases b with
      | obj => rfl
      | var cells => simp only [Option.bind_some]; split <;> rfl
      | row g' es' elems =>
        simp only [Option.bind_some]
        split
        · cases elems[i]? with
          | none => rfl
          | some e => simp only [Option.bind_some]; split <;> rfl
        · rfl
  · rfl
theorem callX_known {C : Cfg} {inl : Inl} {g : FuncId} {F : List AVal → Option AVal} {xs : List AVal} {nc : Nat} (hg : C.Γ g = some F) (hl : plainL freeze xs = true) :
    callX C inl (.fn (.func g) [] []) xs hp nc = (F xs).map fun r => (r, hp, nc) := by
  cases hr : F xs with
  | some r => exact call_plain hg hl hr
  | none => simp only [callX, target, List.nil_append, List.append_nil, hg, runP, callR, Rd.run_bind, lendL_plain hp xs freeze hl, Option.bind_some, hr, Rd.run, Option.map_none]
theorem plain_int (d : Nat) (k : IntKind) (n : Int) : plain d (.int k n) = true := by cases d <;> rfl
theorem plain_bool (d : Nat) (b : Bool) : plain d (.bool b) = true := by cases d <;> rfl
theorem plain_str (d : Nat) (s : ByteArray) : plain d (.str s) = true := by cases d <;> rfl
theorem plain_slc (d es : Nat) (xs : List AVal) : plain d (.slc es xs) = true := by cases d <;> rfl
theorem plain_pvo (d : Nat) (cs : List AVal) (off : Nat) : plain d (.pvo cs off) = true := by cases d <;> rfl
theorem plain_nils (d : Nat) : plain d .nils = true := by cases d <;> rfl
theorem plain_emp (d : Nat) : plain d .emp = true := by cases d <;> rfl
theorem plain_agg (d : Nat) (xs : List AVal) : plain (d + 1) (.agg xs) = plainL d xs := by simp only [plain]
theorem plain_tup (d : Nat) (xs : List AVal) : plain (d + 1) (.tup xs) = plainL d xs := by simp only [plain]
theorem plainL_nil (d : Nat) : plainL d [] = true := by simp only [plainL]
theorem plainL_cons (d : Nat) (x : AVal) (xs : List AVal) : plainL d (x :: xs) = (plain d x && plainL d xs) := by simp only [plainL]
theorem freeze_eq : freeze = 64 := rfl
end
attribute [go_sem] copied_row cpyA_sl mkSA_int lendA_plain contains_memK elemsA_nils elemsA_emp elemsA_slc elemsA_sl els_row appA_nils appA_emp appA_sl grown_row applyW_nil applyW_cons lenVA_sl lenVA_slc lenVA_nils lenVA_emp iaSA_sl iaSA_slc stA_ptr
  plain_int plain_bool plain_str plain_pvo plain_slc plain_nils plain_emp plain_agg plain_tup plainL_nil plainL_cons freeze_eq

/-! ### calls that are handed names -/
theorem Rd.reads_bind {α β : Type} (h : Heap) : ∀ (r : Rd α) (f : α → Rd β), (r.bind f).reads h = r.reads h ++ (match r.run h with | some a => (f a).reads h | none => [])
  | .ret a, f => by simp [Rd.bind, Rd.reads, Rd.run]
  | .fail, f => by simp [Rd.bind, Rd.reads, Rd.run]
  | .get k g, f => by
    simp only [Rd.bind, Rd.reads, Rd.run, List.cons_append]
    rw [Rd.reads_bind h (g (h k)) f]
mutual
theorem lend_reads (h : Heap) : ∀ (d : Nat) (x y : AVal) (ks : List Key), (lend d x).run h = some (y, ks) → (lend d x).reads h = ks
  | 0, .sl .., y, ks, e => by simp [lend, Rd.run] at e
  | d + 1, .sl k g es off len, y, ks, e => by
    simp only [lend, Rd.run, Rd.reads] at e ⊢
    cases hb : h k with
    | none => rw [hb] at e; simp [Rd.run] at e
    | some b =>
      rw [hb] at e
      simp only at e ⊢
      cases hx : b.els g es off len with
      | none => rw [hx] at e; simp [Rd.run] at e
      | some xs =>
        rw [hx] at e
        simp only [Rd.run_bind] at e
        simp only [Rd.reads_bind]
        cases hr : (lendL d xs).run h with
        | none => rw [hr] at e; simp at e
        | some r =>
          rw [hr] at e
          simp only [Option.bind_some, Rd.run, Option.some.injEq, Prod.mk.injEq] at e
          rw [lendL_reads h d xs r.1 r.2 hr, ← e.2]
          simp [Rd.reads]
  | 0, .agg xs, y, ks, e => by simp [lend, Rd.run] at e
  | d + 1, .agg xs, y, ks, e => by
    simp only [lend, Rd.run_bind] at e
    simp only [lend, Rd.reads_bind]
    cases hr : (lendL d xs).run h with
    | none => rw [hr] at e; simp at e
    | some r =>
      rw [hr] at e
      simp only [Option.bind_some, Rd.run, Option.some.injEq, Prod.mk.injEq] at e
      rw [lendL_reads h d xs r.1 r.2 hr, ← e.2]
      simp [Rd.reads]
  | 0, .tup xs, y, ks, e => by simp [lend, Rd.run] at e
  | d + 1, .tup xs, y, ks, e => by
    simp only [lend, Rd.run_bind] at e
    simp only [lend, Rd.reads_bind]
    cases hr : (lendL d xs).run h with
    | none => rw [hr] at e; simp at e
    | some r =>
      rw [hr] at e
      simp only [Option.bind_some, Rd.run, Option.some.injEq, Prod.mk.injEq] at e
      rw [lendL_reads h d xs r.1 r.2 hr, ← e.2]
      simp [Rd.reads]
  | 0, .fn .., y, ks, e => by simp [lend, Rd.run] at e
  | d + 1, .fn f a b, y, ks, e => by
    simp only [lend, Rd.run_bind] at e
    simp only [lend, Rd.reads_bind]
    cases hr : (lendL d a).run h with
    | none => rw [hr] at e; simp at e
    | some r =>
      rw [hr] at e
      simp only [Option.bind_some, Rd.run_bind] at e
      cases hq : (lendL d b).run h with
      | none => rw [hq] at e; simp at e
      | some q =>
        rw [hq] at e
        simp only [Option.bind_some, Rd.run, Option.some.injEq, Prod.mk.injEq] at e
        simp only [hq]
        rw [lendL_reads h d a r.1 r.2 hr, lendL_reads h d b q.1 q.2 hq, ← e.2]
        simp [Rd.reads]
  | 0, .ifc .., y, ks, e => by simp [lend, Rd.run] at e
  | d + 1, .ifc t v, y, ks, e => by
    simp only [lend, Rd.run_bind] at e
    simp only [lend, Rd.reads_bind]
    cases hr : (lend d v).run h with
    | none => rw [hr] at e; simp at e
    | some r =>
      rw [hr] at e
      simp only [Option.bind_some, Rd.run, Option.some.injEq, Prod.mk.injEq] at e
      rw [lend_reads h d v r.1 r.2 hr, ← e.2]
      simp [Rd.reads]
  | 0, .ptr .., y, ks, e => by simp [lend, Rd.run] at e
  | d + 1, .ptr k g i es off, y, ks, e => by
    simp only [lend, Rd.run, Rd.reads] at e ⊢
    cases hb : h k with
    | none => rw [hb] at e; simp [Rd.run] at e
    | some b =>
      rw [hb] at e
      cases b with
      | row => simp [Rd.run] at e
      | obj => simp [Rd.run] at e
      | var cells =>
        simp only at e ⊢
        by_cases hg : g = 0
        · rw [if_pos hg] at e ⊢
          simp only [Rd.run_bind] at e
          simp only [Rd.reads_bind]
          cases hr : (lendL d cells).run h with
          | none => rw [hr] at e; simp at e
          | some r =>
            rw [hr] at e
            simp only [Option.bind_some, Rd.run, Option.some.injEq, Prod.mk.injEq] at e
            rw [lendL_reads h d cells r.1 r.2 hr, ← e.2]
            simp [Rd.reads]
        · rw [if_neg hg] at e
          simp [Rd.run] at e
  | d, .mp .., y, ks, e => by simp [lend, Rd.run] at e
  | d, .undef, y, ks, e => by simp [lend, Rd.run] at e; simp [lend, Rd.reads, ← e.2]
  | d, .any, y, ks, e => by simp [lend, Rd.run] at e; simp [lend, Rd.reads, ← e.2]
  | d, .bool _, y, ks, e => by simp [lend, Rd.run] at e; simp [lend, Rd.reads, ← e.2]
  | d, .int _ _, y, ks, e => by simp [lend, Rd.run] at e; simp [lend, Rd.reads, ← e.2]
  | d, .str _, y, ks, e => by simp [lend, Rd.run] at e; simp [lend, Rd.reads, ← e.2]
  | d, .nilp, y, ks, e => by simp [lend, Rd.run] at e; simp [lend, Rd.reads, ← e.2]
  | d, .pvo .., y, ks, e => by simp [lend, Rd.run] at e; simp [lend, Rd.reads, ← e.2]
  | d, .nils, y, ks, e => by simp [lend, Rd.run] at e; simp [lend, Rd.reads, ← e.2]
  | d, .emp, y, ks, e => by simp [lend, Rd.run] at e; simp [lend, Rd.reads, ← e.2]
  | d, .slc .., y, ks, e => by simp [lend, Rd.run] at e; simp [lend, Rd.reads, ← e.2]
  | d, .nili, y, ks, e => by simp [lend, Rd.run] at e; simp [lend, Rd.reads, ← e.2]
  | d, .nilf, y, ks, e => by simp [lend, Rd.run] at e; simp [lend, Rd.reads, ← e.2]
theorem lendL_reads (h : Heap) : ∀ (d : Nat) (xs ys : List AVal) (ks : List Key), (lendL d xs).run h = some (ys, ks) → (lendL d xs).reads h = ks
  | d, [], ys, ks, e => by simp [lendL, Rd.run] at e; simp [lendL, Rd.reads, ← e.2]
  | d, x :: xs, ys, ks, e => by
    simp only [lendL, Rd.run_bind] at e
    simp only [lendL, Rd.reads_bind]
    cases hr : (lend d x).run h with
    | none => rw [hr] at e; simp at e
    | some r =>
      rw [hr] at e
      simp only [Option.bind_some, Rd.run_bind] at e
      cases hq : (lendL d xs).run h with
      | none => rw [hq] at e; simp at e
      | some q =>
        rw [hq] at e
        simp only [Option.bind_some, Rd.run, Option.some.injEq, Prod.mk.injEq] at e
        simp only [hq]
        rw [lend_reads h d x r.1 r.2 hr, lendL_reads h d xs q.1 q.2 hq, ← e.2]
        simp [Rd.reads]
end
section
variable {hp : Heap}
def lendX (d : Nat) (x : AVal) (hp : Heap) : Option (AVal × List Key) := (lend d x).run hp
def lendXL (d : Nat) (xs : List AVal) (hp : Heap) : Option (List AVal × List Key) := (lendL d xs).run hp
theorem lendX_plain {d : Nat} {v : AVal} (h : plain d v = true) : lendX d v hp = some (v, []) := lend_plain hp v d h
theorem lendXL_plain {d : Nat} {xs : List AVal} (h : plainL d xs = true) : lendXL d xs hp = some (xs, []) := lendL_plain hp xs d h
theorem lendX_sl (d : Nat) (k : Key) (g es off len : Nat) : lendX (d + 1) (.sl k g es off len) hp = (hp k).bind fun b => (b.els g es off len).bind fun xs => (lendXL d xs hp).map fun r => (.slc es r.1, k :: r.2) := by
  simp only [lendX, lendXL, lend, Rd.run]
  cases hp k with
  | none => rfl
  | some b =>
    simp only [Option.bind_some]
    cases b.els g es off len with
    | none => rfl
    | some xs =>
      simp only [Option.bind_some, Rd.run_bind]
      cases (lendL d xs).run hp <;> rfl
theorem lendX_agg (d : Nat) (xs : List AVal) : lendX (d + 1) (.agg xs) hp = (lendXL d xs hp).map fun r => (.agg r.1, r.2) := by
  simp only [lendX, lendXL, lend, Rd.run_bind]
  cases (lendL d xs).run hp <;> rfl
def ptrX (d off : Nat) (k : Key) (b : Blk) (hp : Heap) : Option (AVal × List Key) := match b with
  | .var cells => (lendXL d cells hp).map fun r => (.pvo r.1 off, k :: r.2)
  | _ => none
theorem ptrX_var (d off : Nat) (k : Key) (cells : List AVal) : ptrX d off k (.var cells) hp = (lendXL d cells hp).map fun r => (.pvo r.1 off, k :: r.2) := rfl
theorem lendX_ptr (d : Nat) (k : Key) (i es off : Nat) : lendX (d + 1) (.ptr k 0 i es off) hp = (hp k).bind fun b => ptrX d (i * es + off) k b hp := by
  simp only [lendX, lend, Rd.run]
  cases hp k with
  | none => rfl
  | some b =>
    cases b with
    | row => rfl
    | obj => rfl
    | var cells =>
      simp only [Option.bind_some, if_true, Rd.run_bind, ptrX, lendXL]
      cases (lendL d cells).run hp <;> rfl
theorem lendX_fn (d : Nat) (f : Fn) (a b : List AVal) : lendX (d + 1) (.fn f a b) hp = (lendXL d a hp).bind fun r => (lendXL d b hp).map fun q => (.fn f r.1 q.1, r.2 ++ q.2) := by
  simp only [lendX, lendXL, lend, Rd.run_bind]
  cases (lendL d a).run hp with
  | none => rfl
  | some r =>
    simp only [Option.bind_some, Rd.run_bind]
    cases (lendL d b).run hp <;> rfl
theorem lendX_ifc (d : Nat) (t : TypeId) (v : AVal) : lendX (d + 1) (.ifc t v) hp = (lendX d v hp).map fun r => (.ifc t r.1, r.2) := by
  simp only [lendX, lend, Rd.run_bind]
  cases (lend d v).run hp <;> rfl
theorem lendX_tup (d : Nat) (xs : List AVal) : lendX (d + 1) (.tup xs) hp = (lendXL d xs hp).map fun r => (.tup r.1, r.2) := by
  simp only [lendX, lendXL, lend, Rd.run_bind]
  cases (lendL d xs).run hp <;> rfl
theorem lendXL_nil (d : Nat) : lendXL d [] hp = some ([], []) := by simp [lendXL, lendL, Rd.run]
theorem lendXL_cons (d : Nat) (x : AVal) (xs : List AVal) : lendXL d (x :: xs) hp = (lendX d x hp).bind fun y => (lendXL d xs hp).map fun ys => (y.1 :: ys.1, y.2 ++ ys.2) := by
  simp only [lendX, lendXL, lendL, Rd.run_bind]
  cases (lend d x).run hp with
  | none => rfl
  | some a =>
    simp only [Option.bind_some]
    cases (lendL d xs).run hp <;> rfl
/-- What a call leaves of the names that it was handed. -/
def dropK (v : AVal) (ks : List Key) (hp : Heap) : Heap := applyW hp (if hasRef v = true then ks.map fun k => (k, none) else [])
theorem dropK_nil (v : AVal) : dropK v [] hp = hp := by unfold dropK; split <;> rfl
theorem dropK_eq (v : AVal) (ks : List Key) : dropK v ks hp = applyW hp (if hasRef v = true then ks.map fun k => (k, none) else []) := rfl
theorem callX_names {C : Cfg} {inl : Inl} {g : FuncId} {F : List AVal → Option AVal} {xs : List AVal} {nc : Nat} (hg : C.Γ g = some F) :
    callX C inl (.fn (.func g) [] []) xs hp nc = (lendXL 64 xs hp).bind fun r => (F r.1).map fun v => (v, dropK v r.2 hp, nc) := by
  simp only [callX, target, List.nil_append, List.append_nil, hg, runP, callR, Rd.run_bind, lendXL, freeze, dropK]
  cases (lendL 64 xs).run hp with
  | none => rfl
  | some r =>
    simp only [Option.bind_some]
    cases F r.1 <;> rfl
/-- A call that answers a row of its own. -/
def nres (key : Key) (r : Option (Option (Nat × List AVal))) (hp : Heap) (nc : Nat) : Option (AVal × Heap × Nat) := match r with
  | some (some p) => if hasRefL p.2 = false then some (.sl key 0 p.1 0 p.2.length, upd hp key (some (.row 0 p.1 p.2)), nc) else none
  | some none => some (.nils, hp, nc)
  | none => none
theorem nres_row (key : Key) (es : Nat) (l : List AVal) (hp : Heap) (nc : Nat) : nres key (some (some (es, l))) hp nc = if hasRefL l = false then some (.sl key 0 es 0 l.length, upd hp key (some (.row 0 es l)), nc) else none := rfl
theorem nres_nil (key : Key) (hp : Heap) (nc : Nat) : nres key (some none) hp nc = some (.nils, hp, nc) := rfl
def callNX (F : List AVal → Option (Option (Nat × List AVal))) (key : Key) (xs : List AVal) (hp : Heap) (nc : Nat) : Option (AVal × Heap × Nat) := (lendXL 64 xs hp).bind fun p => nres key (F p.1) hp nc
theorem op_callN {C : Cfg} {inl : Inl} {key : Key} {tm : Nat → AVal} {nc : Nat} {g : FuncId} {F : List AVal → Option (Option (Nat × List AVal))} {xs : List XArg} (hg : C.Γn g = some F) :
    opV C inl key (.callN (.c (.fn (.func g) [] [])) xs) tm hp nc = callNX F key (xs.map (arg tm)) hp nc := by
  simp only [opV, rdOf, arg, target, List.nil_append, List.append_nil, hg, runP, callNR, Rd.run_bind, freeze, callNX, lendXL]
  cases (lendL 64 (xs.map (arg tm))).run hp with
  | none => rfl
  | some r =>
    simp only [Option.bind_some]
    cases F r.1 with
    | none => rfl
    | some q =>
      cases q with
      | none => simp only [nres, Rd.run, Option.map_some, applyW]
      | some p =>
        simp only [nres]
        split
        · simp only [Rd.run, Option.map_some, applyW]
        · rfl
def ftN (key : Key) (r : Option (Option (Nat × List AVal))) (ks : List Key) : Foot := match r with
  | some (some p) => if hasRefL p.2 = false then (.kn ks, [key]) else (.kn ks, [])
  | _ => (.kn ks, [])
theorem ftN_row (key : Key) (es : Nat) (l : List AVal) (ks : List Key) : ftN key (some (some (es, l))) ks = if hasRefL l = false then (.kn ks, [key]) else (.kn ks, []) := rfl
theorem ftN_nil (key : Key) (ks : List Key) : ftN key (some none) ks = (.kn ks, []) := rfl
def ftNL (F : List AVal → Option (Option (Nat × List AVal))) (key : Key) (o : Option (List AVal × List Key)) (rd : List Key) : Foot := match o with
  | some r => ftN key (F r.1) r.2
  | none => (.kn rd, [])
theorem ftNL_some (F : List AVal → Option (Option (Nat × List AVal))) (key : Key) (r : List AVal × List Key) (rd : List Key) : ftNL F key (some r) rd = ftN key (F r.1) r.2 := rfl
theorem ft_callN {C : Cfg} {key : Key} {tm : Nat → AVal} {hp' : Heap} {g : FuncId} {F : List AVal → Option (Option (Nat × List AVal))} {xs : List XArg} (hg : C.Γn g = some F) :
    ftV C key (.callN (.c (.fn (.func g) [] [])) xs) tm hp hp' = ftNL F key (lendXL 64 (xs.map (arg tm)) hp) ((lendL freeze (xs.map (arg tm))).reads hp) := by
  simp only [ftV, rdOf, arg, target, List.nil_append, List.append_nil, hg, footP, callNR, Rd.run_bind, Rd.reads_bind]
  cases h : lendXL 64 (xs.map (arg tm)) hp with
  | none =>
    simp only [lendXL] at h
    simp only [freeze, h, ftNL, Option.bind_none]
    simp
  | some p =>
    obtain ⟨ys, ks⟩ := p
    have e := lendL_reads hp 64 _ ys ks h
    simp only [lendXL] at h
    simp only [freeze, e, h, Option.bind_some, ftNL]
    cases F ys with
    | none => simp [ftN, Rd.run, Rd.reads]
    | some q =>
      cases q with
      | none => simp [ftN, Rd.run, Rd.reads]
      | some p =>
        simp only [ftN]
        split <;> simp [Rd.run, Rd.reads]
def ftC (F : List AVal → Option AVal) (xs : List AVal) (hp : Heap) : Foot := footP (.inl (callR F xs)) hp hp
theorem ftC_names {C : Cfg} {key : Key} {tm : Nat → AVal} {hp' : Heap} {g : FuncId} {F : List AVal → Option AVal} (hg : C.Γ g = some F) (xs : List XArg) : ftV C key (.call (.c (.fn (.func g) [] [])) xs) tm hp hp' = ftC F (xs.map (arg tm)) hp := by
  simp only [ftV, rdOf, arg, target, List.nil_append, List.append_nil, hg, ftC]
  rfl
def ftK (o : Option AVal) (ks : List Key) : Foot := match o with
  | some v => (.kn ks, if hasRef v = true then ks else [])
  | none => (.kn ks, [])
theorem ftK_some (v : AVal) (ks : List Key) : ftK (some v) ks = (.kn ks, if hasRef v = true then ks else []) := rfl
theorem ftC_eq {F : List AVal → Option AVal} {xs ys : List AVal} {ks : List Key} (h : lendXL 64 xs hp = some (ys, ks)) : ftC F xs hp = ftK (F ys) ks := by
  have e := lendL_reads hp 64 xs ys ks h
  simp only [ftC, footP, callR, Rd.run_bind, Rd.reads_bind, freeze]
  rw [e]
  simp only [lendXL] at h
  rw [h]
  simp only [Option.bind_some]
  cases F ys with
  | none => simp [ftK, Rd.reads, Rd.run]
  | some v =>
    simp only [ftK, Rd.reads, Rd.run, List.append_nil]
    split
    · simp [List.map_map, Function.comp_def]
    · rfl
def ftL (F : List AVal → Option AVal) (o : Option (List AVal × List Key)) (rd : List Key) : Foot := match o with
  | some r => ftK (F r.1) r.2
  | none => (.kn rd, [])
theorem ftL_some (F : List AVal → Option AVal) (r : List AVal × List Key) (rd : List Key) : ftL F (some r) rd = ftK (F r.1) r.2 := rfl
theorem ftC_fun (F : List AVal → Option AVal) (xs : List AVal) : ftC F xs hp = ftL F (lendXL 64 xs hp) ((lendL freeze xs).reads hp) := by
  cases h : lendXL 64 xs hp with
  | some r => obtain ⟨ys, ks⟩ := r; rw [ftC_eq h]; rfl
  | none =>
    simp only [ftC, footP, callR, Rd.run_bind, Rd.reads_bind, freeze, ftL]
    simp only [lendXL] at h
    rw [h]
    simp
theorem hasRef_int (k : IntKind) (n : Int) : hasRef (.int k n) = false := rfl
theorem hasRef_bool (b : Bool) : hasRef (.bool b) = false := rfl
theorem hasRef_str (s : ByteArray) : hasRef (.str s) = false := rfl
theorem hasRef_nils : hasRef .nils = false := rfl
theorem hasRef_emp : hasRef .emp = false := rfl
theorem hasRef_slc (es : Nat) (xs : List AVal) : hasRef (.slc es xs) = true := rfl
theorem hasRef_agg (xs : List AVal) : hasRef (.agg xs) = hasRefL xs := rfl
theorem hasRef_tup (xs : List AVal) : hasRef (.tup xs) = hasRefL xs := rfl
theorem hasRefL_nil : hasRefL [] = false := rfl
theorem hasRefL_cons (x : AVal) (xs : List AVal) : hasRefL (x :: xs) = (hasRef x || hasRefL xs) := rfl
end
attribute [go_sem ↓] ftC_fun
attribute [go_sem] nres_row nres_nil ftN_row ftN_nil ftNL_some
attribute [go_sem ↓] callNX
theorem hasRef_ifc (t : TypeId) (v : AVal) : hasRef (.ifc t v) = hasRef v := rfl
theorem hasRef_nili : hasRef .nili = false := rfl
attribute [go_sem] hasRef_ifc hasRef_nili
attribute [go_sem] ftL_some cs_row Bool.false_eq_true Bool.or_self lendX_plain lendXL_plain lendX_sl lendX_agg lendX_ptr ptrX_var lendX_fn lendX_ifc lendX_tup lendXL_nil lendXL_cons dropK_nil ftK_some hasRef_int hasRef_bool hasRef_str hasRef_nils hasRef_emp hasRef_slc hasRef_agg hasRef_tup hasRefL_nil hasRefL_cons
/-! ### rows of numbers -/
theorem plainL_ints (d : Nat) (k : IntKind) : ∀ (l : List Int), plainL d (l.map (AVal.int k)) = true
  | [] => plainL_nil d
  | x :: l => by rw [List.map_cons, plainL_cons, plain_int, plainL_ints d k l]; rfl
theorem plainL_append (d : Nat) : ∀ (xs ys : List AVal), plainL d (xs ++ ys) = (plainL d xs && plainL d ys)
  | [], ys => by simp [plainL_nil]
  | x :: xs, ys => by simp [plainL_cons, plainL_append d xs ys, Bool.and_assoc]
theorem isSc_ints (k : IntKind) : ∀ (l : List Int), (l.map (AVal.int k)).all isSc = true
  | [] => rfl
  | x :: l => by simp [isSc]
theorem Ends_row {k : Key} {g es len : Nat} {hp : Heap} {xs : List AVal} {r : AVal} (hk : hp k = some (.row g es xs)) (hl : len = xs.length) (hpl : plainL 63 xs = true) (hr : r = .slc es xs) : Ends (.sl k g es 0 len) hp r := by
  subst hl; subst hr
  rw [Ends_eq, show (64 : Nat) = 63 + 1 from rfl, lendV_sl, hk]
  simp only [Option.bind_some, els_row, Nat.zero_add, Nat.le_refl, if_true, List.drop_zero, List.take_length, lendVL_plain hpl, Option.map_some]
attribute [go_sem] plainL_ints plainL_append isSc_ints
end Go.Xec
