/-
  Laid together: part 3.
-/
import Derived.Test.YtkonpbcnekcjjaaGreatDoorZM2
set_option linter.unusedVariables false
set_option linter.unusedSimpArgs false
namespace Go.Xec
open Go
attribute [go_sem ↓] Ev_seq Ev_cond Ev_block Ev_scope Ev_skip Ev_ret Ev_exit Ev_reg0 Ev_reg1 Ev_reg2 Ro_cons Ro_consG Ro_nil RoF_cons RoF_consG RoF_nil
  op_mv op_pick op_alloc op_box op_build op_mkslice op_load op_store op_bin op_eqB op_eqN op_eqA op_un op_conv op_fa op_fld op_iaA op_iaS op_ixA op_ixS op_slV op_lenV op_mnx op_ext op_mkf op_mki op_app op_call op_mkM op_inv
  Bd_map Bd_bind updT_eq upd_eq arg_t arg_c putO_some putO_none resL_tmp resL_cell
attribute [go_sem] tasA_ifc tasA_nili taiA_ifc taiA_nili Bd_some Cd_true Cd_false Gd_tt Gd_tf Gd_ft Gd_ff Gd_undef Nx_nrm Nx_ext Nx_ret Bx_nrm Bx_ret Bx_ext
  Fin_nrm Fin_ret resL_nil one_one one_two one_nil Option.getD_some Option.getD_none List.getElem?_cons_zero List.getElem?_cons_succ
  pickA_true pickA_false List.map_cons List.map_nil Option.map_some Option.map_none Option.bind_some ldA_ptr ldA_pvo cs_var0
theorem Gd_split_t {b : Bool} {A B : Unit → Prop} (hA : b = true → A ()) (hB : b = false → B ()) : Gd (.bool b) true A B := Gd_split hA hB
theorem Gd_split_f {b : Bool} {A B : Unit → Prop} (hA : b = true → B ()) (hB : b = false → A ()) : Gd (.bool b) false A B := Gd_split hB hA
theorem site_eq (fid rid i : Nat) : site fid rid i = (fid * 1000 + rid) * 1000 + i := rfl
def Cfg.add (C : Cfg) (g : FuncId) (F : List AVal → Option AVal) : Cfg := ⟨fun h => if h = g then some F else C.Γ h, C.xf, C.Γn, C.Γm, C.Γa, C.μ⟩
theorem Cfg.add_Γ (C : Cfg) (g : FuncId) (F : List AVal → Option AVal) (h : FuncId) : (C.add g F).Γ h = if h = g then some F else C.Γ h := rfl
theorem CfgOk.add {P : Program} {C : Cfg} (ok : CfgOk P C) {g : FuncId} {F : List AVal → Option AVal} (h : Sound P g F) : CfgOk P (C.add g F) := by
  refine ⟨fun g' F' hg => ?_, ok.xf, ok.mixed, ok.Γn, ok.Γm, ok.Γa, ok.μ⟩
  rw [Cfg.add_Γ] at hg
  split at hg
  · rename_i e; subst e; cases hg; exact h
  · exact ok.Γ g' F' hg
def Cfg.addN (C : Cfg) (g : FuncId) (F : List AVal → Option (Option (Nat × List AVal))) : Cfg := ⟨C.Γ, C.xf, fun h => if h = g then some F else C.Γn h, C.Γm, C.Γa, C.μ⟩
theorem CfgOk.addN {P : Program} {C : Cfg} (ok : CfgOk P C) {g : FuncId} {F : List AVal → Option (Option (Nat × List AVal))} (h : SoundN P g F) : CfgOk P (C.addN g F) := by
  refine ⟨ok.Γ, ok.xf, ok.mixed, fun g' F' hg => ?_, ok.Γm, ok.Γa, ok.μ⟩
  simp only [Cfg.addN] at hg
  split at hg
  · rename_i e; subst e; cases hg; exact h
  · exact ok.Γn g' F' hg
def Cfg.addM (C : Cfg) (g : FuncId) (F : List (AVal × AVal × Nat) → Nat → Option (Option (Nat × List AVal))) : Cfg := ⟨C.Γ, C.xf, C.Γn, fun h => if h = g then some F else C.Γm h, C.Γa, C.μ⟩
theorem CfgOk.addM {P : Program} {C : Cfg} (ok : CfgOk P C) {g : FuncId} {F : List (AVal × AVal × Nat) → Nat → Option (Option (Nat × List AVal))} (h : SoundM P g F) : CfgOk P (C.addM g F) := by
  refine ⟨ok.Γ, ok.xf, ok.mixed, ok.Γn, fun g' F' hg => ?_, ok.Γa, ok.μ⟩
  simp only [Cfg.addM] at hg
  split at hg
  · rename_i e; subst e; cases hg; exact h
  · exact ok.Γm g' F' hg
theorem sound_at {P : Program} {C : Cfg} (ok : CfgOk P C) (d : Nat) {f : FuncId} {F : List AVal → Option AVal} (hF : ∀ xs r, F xs = some r → pureF C (d + 1) f xs = some r) : Sound P f F := sound_of ok (d + 1) hF
mutual
def plain : Nat → AVal → Bool
  | d, .agg xs => match d with
    | 0 => false
    | d + 1 => plainL d xs
  | d, .tup xs => match d with
    | 0 => false
    | d + 1 => plainL d xs
  | _, .sl .. => false
  | _, .ptr .. => false
  | _, .fn .. => false
  | _, .mp .. => false
  | _, .ifc .. => false
  | _, _ => true
def plainL : Nat → List AVal → Bool
  | _, [] => true
  | d, x :: xs => plain d x && plainL d xs
end
mutual
theorem lend_plain (h : Heap) : ∀ (x : AVal) (d : Nat), plain d x = true → (lend d x).run h = some (x, [])
  | .agg xs, 0, hp => by simp [plain] at hp
  | .agg xs, d + 1, hp => by
    simp only [plain] at hp
    simp only [lend, Rd.run_bind, lendL_plain h xs d hp, Option.bind_some, Rd.run]
  | .tup xs, 0, hp => by simp [plain] at hp
  | .tup xs, d + 1, hp => by
    simp only [plain] at hp
    simp only [lend, Rd.run_bind, lendL_plain h xs d hp, Option.bind_some, Rd.run]
  | .undef, d, _ => by simp [lend, Rd.run]
  | .any, d, _ => by simp [lend, Rd.run]
  | .bool _, d, _ => by simp [lend, Rd.run]
  | .int _ _, d, _ => by simp [lend, Rd.run]
  | .str _, d, _ => by simp [lend, Rd.run]
  | .nilp, d, _ => by simp [lend, Rd.run]
  | .pvo .., d, _ => by simp [lend, Rd.run]
  | .nils, d, _ => by simp [lend, Rd.run]
  | .emp, d, _ => by simp [lend, Rd.run]
  | .slc .., d, _ => by simp [lend, Rd.run]
  | .nili, d, _ => by simp [lend, Rd.run]
  | .nilf, d, _ => by simp [lend, Rd.run]
  | .sl .., d, hp => by cases d <;> simp [plain] at hp
  | .ptr .., d, hp => by cases d <;> simp [plain] at hp
  | .mp .., d, hp => by cases d <;> simp [plain] at hp
  | .fn .., d, hp => by cases d <;> simp [plain] at hp
  | .ifc .., d, hp => by cases d <;> simp [plain] at hp
theorem lendL_plain (h : Heap) : ∀ (xs : List AVal) (d : Nat), plainL d xs = true → (lendL d xs).run h = some (xs, [])
  | [], d, _ => by simp [lendL, Rd.run]
  | x :: xs, d, hp => by
    simp only [plainL, Bool.and_eq_true] at hp
    simp only [lendL, Rd.run_bind, lend_plain h x d hp.1, lendL_plain h xs d hp.2, Option.bind_some, Rd.run, List.append_nil]
end
theorem Ends_plain {v r : AVal} {h : Heap} (hp : plain freeze v = true) (hr : v = r) : Ends v h r := by
  subst hr
  unfold Ends
  rw [lend_plain h v freeze hp]
  rfl
mutual
theorem lend_plain_eq : ∀ (x : AVal) (d : Nat), plain d x = true → lend d x = .ret (x, [])
  | .agg xs, 0, hp => by simp [plain] at hp
  | .agg xs, d + 1, hp => by
    simp only [plain] at hp
    simp only [lend, lendL_plain_eq xs d hp, Rd.bind]
  | .tup xs, 0, hp => by simp [plain] at hp
  | .tup xs, d + 1, hp => by
    simp only [plain] at hp
    simp only [lend, lendL_plain_eq xs d hp, Rd.bind]
  | .undef, d, _ => by simp [lend]
  | .any, d, _ => by simp [lend]
  | .bool _, d, _ => by simp [lend]
  | .int _ _, d, _ => by simp [lend]
  | .str _, d, _ => by simp [lend]
  | .nilp, d, _ => by simp [lend]
  | .pvo .., d, _ => by simp [lend]
  | .nils, d, _ => by simp [lend]
  | .emp, d, _ => by simp [lend]
  | .slc .., d, _ => by simp [lend]
  | .nili, d, _ => by simp [lend]
  | .nilf, d, _ => by simp [lend]
  | .sl .., d, hp => by cases d <;> simp [plain] at hp
  | .ptr .., d, hp => by cases d <;> simp [plain] at hp
  | .mp .., d, hp => by cases d <;> simp [plain] at hp
  | .fn .., d, hp => by cases d <;> simp [plain] at hp
  | .ifc .., d, hp => by cases d <;> simp [plain] at hp
theorem lendL_plain_eq : ∀ (xs : List AVal) (d : Nat), plainL d xs = true → lendL d xs = .ret (xs, [])
  | [], d, _ => by simp [lendL]
  | x :: xs, d, hp => by
    simp only [plainL, Bool.and_eq_true] at hp
    simp only [lendL, lend_plain_eq x d hp.1, lendL_plain_eq xs d hp.2, Rd.bind, List.append_nil]
end
theorem call_plain {C : Cfg} {inl : Inl} {g : FuncId} {F : List AVal → Option AVal} {xs : List AVal} {r : AVal} {hp : Heap} {nc : Nat} (hg : C.Γ g = some F) (hl : plainL freeze xs = true) (hr : F xs = some r) :
    callX C inl (.fn (.func g) [] []) xs hp nc = some (r, hp, nc) := call_known hg (lendL_plain hp xs freeze hl) hr
theorem cellsOf_agg (xs : List AVal) : cellsOf (.agg xs) = xs := rfl
theorem cellsOf_int (k : IntKind) (n : Int) : cellsOf (.int k n) = [.int k n] := rfl
theorem cellsOf_bool (b : Bool) : cellsOf (.bool b) = [.bool b] := rfl
theorem cellsOf_str (s : ByteArray) : cellsOf (.str s) = [.str s] := rfl
theorem cellsOf_nils : cellsOf .nils = [.nils] := rfl
theorem cellsOf_emp : cellsOf .emp = [.emp] := rfl
theorem cellsOf_slc (es : Nat) (xs : List AVal) : cellsOf (.slc es xs) = [.slc es xs] := rfl
theorem cellsOf_sl (k : Key) (g es off len : Nat) : cellsOf (.sl k g es off len) = [.sl k g es off len] := rfl
theorem cellsOf_ptr (k : Key) (g i es off : Nat) : cellsOf (.ptr k g i es off) = [.ptr k g i es off] := rfl
theorem isSc_int (k : IntKind) (n : Int) : isSc (.int k n) = true := rfl
theorem isSc_bool (b : Bool) : isSc (.bool b) = true := rfl
theorem isSc_str (s : ByteArray) : isSc (.str s) = true := rfl
theorem isSc_nils : isSc .nils = true := rfl
theorem isSc_emp : isSc .emp = true := rfl
theorem isSc_slc (es : Nat) (xs : List AVal) : isSc (.slc es xs) = true := rfl
theorem isSc_sl (k : Key) (g es off len : Nat) : isSc (.sl k g es off len) = true := rfl
theorem isSc_ptr (k : Key) (g i es off : Nat) : isSc (.ptr k g i es off) = true := rfl
theorem faA_ptr (off : Nat) (k : Key) (g i es o : Nat) : faA off (.ptr k g i es o) = some (.ptr k g i es (o + off)) := rfl
theorem faA_pvo (off : Nat) (cs : List AVal) (o : Nat) : faA off (.pvo cs o) = some (.pvo cs (o + off)) := rfl
theorem extA_tup (xs : List AVal) (i : Nat) : extA (.tup xs) i = xs[i]? := rfl
theorem fldA_agg (agg : Bool) (n off : Nat) (cs : List AVal) : fldA agg n off (.agg cs) = takeV agg n off cs := rfl
theorem iaAA_ptr (n es : Nat) (k : Key) (g i es0 o : Nat) (kd : IntKind) (j : Int) : iaAA n es (.ptr k g i es0 o) (.int kd j) = if 0 ≤ j ∧ j < n then some (.ptr k g i es0 (o + j.toNat * es)) else none := rfl
theorem ixAA_agg (agg : Bool) (n es : Nat) (cs : List AVal) (kd : IntKind) (j : Int) : ixAA agg n es (.agg cs) (.int kd j) = if 0 ≤ j ∧ j < n then takeV agg es (j.toNat * es) cs else none := rfl
theorem fillA_nil (cs : List AVal) : fillA cs [] = some cs := rfl
theorem fillA_cons (cs : List AVal) (off n : Nat) (x : AVal) (r : List (Nat × Nat × AVal)) : fillA cs ((off, n, x) :: r) = if (cellsOf x).length = n ∧ off + n ≤ cs.length ∧ (cellsOf x).all isSc = true then fillA (splice cs off (cellsOf x)) r else none := rfl
theorem fillE_nil (es : Nat) (xs : List AVal) : fillE es xs [] = some xs := rfl
theorem fillE_cons (es : Nat) (xs : List AVal) (i : Nat) (x : AVal) (r : List (Nat × AVal)) : fillE es xs ((i, x) :: r) = if (cellsOf x).length = es ∧ i < xs.length ∧ (cellsOf x).all isSc = true then fillE es (xs.set i x) r else none := rfl
theorem splice_eq (cs : List AVal) (off : Nat) (new : List AVal) : splice cs off new = cs.take off ++ (new ++ cs.drop (off + new.length)) := rfl
theorem unA_not (b : Bool) : unA .not (.bool b) = some (.bool !b) := rfl
theorem unA_neg (k : IntKind) (n : Int) : unA .neg (.int k n) = some (.int k (k.wrap (0 - n))) := rfl
theorem convA_int (k k' : IntKind) (n : Int) : convA k (.int k' n) = some (.int k (k.wrap n)) := rfl
theorem eqBA_bool (neg a b : Bool) : eqBA neg (.bool a) (.bool b) = some (.bool (if neg then !(a == b) else a == b)) := rfl
theorem eqAA_agg (neg : Bool) (ks : List Nat) (xs ys : List AVal) : eqAA neg ks (.agg xs) (.agg ys) = (eqCells ks xs ys).map fun b => .bool (if neg then !b else b) := rfl
theorem eqCells_nil : eqCells [] [] [] = some true := rfl
theorem eqCells_cons (k : Nat) (ks : List Nat) (x y : AVal) (xs ys : List AVal) : eqCells (k :: ks) (x :: xs) (y :: ys) = (eq1 k x y).bind fun a => (eqCells ks xs ys).map fun b => a && b := by
  simp only [eqCells]
  cases eq1 k x y with
  | none => rfl
  | some a => cases eqCells ks xs ys <;> rfl
theorem eq1_int (k : IntKind) (a b : Int) : eq1 0 (.int k a) (.int k b) = some (decide (a = b)) := by simp only [eq1, if_true]; rfl
theorem eq1_bool (a b : Bool) : eq1 1 (.bool a) (.bool b) = some (a == b) := rfl
theorem eq1_str (a b : ByteArray) : eq1 2 (.str a) (.str b) = some (a.toList == b.toList) := rfl
theorem nilA_nils : nilA 0 .nils = some true := rfl
theorem nilA_emp : nilA 0 .emp = some false := rfl
theorem nilA_slc (es : Nat) (xs : List AVal) : nilA 0 (.slc es xs) = some false := rfl
theorem nilA_sl (k : Key) (g es off len : Nat) : nilA 0 (.sl k g es off len) = some false := rfl
theorem nilA_ptr (k : Key) (g i es off : Nat) : nilA 2 (.ptr k g i es off) = some false := rfl
theorem remake_agg (xs cs : List AVal) : remake (.agg xs) cs = .agg cs := rfl
theorem remake_int (k : IntKind) (n : Int) (cs : List AVal) : remake (.int k n) cs = cs.headD .undef := rfl
theorem remake_bool (b : Bool) (cs : List AVal) : remake (.bool b) cs = cs.headD .undef := rfl
attribute [go_sem] List.isEmpty_cons nilA_nils nilA_emp nilA_slc nilA_sl nilA_ptr cellsOf_agg cellsOf_int cellsOf_bool cellsOf_str cellsOf_nils cellsOf_emp cellsOf_slc cellsOf_sl cellsOf_ptr isSc_int isSc_bool isSc_str isSc_nils isSc_emp isSc_slc isSc_sl isSc_ptr faA_ptr faA_pvo extA_tup fldA_agg iaAA_ptr ixAA_agg
  fillA_nil fillA_cons fillE_nil fillE_cons splice_eq unA_not unA_neg convA_int eqBA_bool eqAA_agg eqCells_nil eqCells_cons eq1_int eq1_bool eq1_str remake_agg remake_int remake_bool takeV_agg takeV_one site_eq
  List.length_cons List.length_nil List.all_cons List.all_nil List.take_succ_cons List.take_zero List.drop_succ_cons List.drop_zero List.nil_append List.cons_append List.set_cons_zero List.set_cons_succ List.headD_cons Prod.mk.injEq List.append_nil and_true true_and and_false false_and and_self Bool.and_self Bool.and_true Bool.true_and Bool.and_false Bool.false_and List.getElem?_nil Bool.not_true Bool.not_false
def lendV (d : Nat) (v : AVal) (hp : Heap) : Option AVal := ((lend d v).run hp).map (·.1)
def lendVL (d : Nat) (xs : List AVal) (hp : Heap) : Option (List AVal) := ((lendL d xs).run hp).map (·.1)
theorem Ends_eq (v : AVal) (hp : Heap) (r : AVal) : Ends v hp r = (lendV 64 v hp = some r) := rfl
theorem lendV_plain {d : Nat} {v : AVal} {hp : Heap} (h : plain d v = true) : lendV d v hp = some v := by
  unfold lendV; rw [lend_plain hp v d h]; rfl
theorem lendVL_plain {d : Nat} {xs : List AVal} {hp : Heap} (h : plainL d xs = true) : lendVL d xs hp = some xs := by
  unfold lendVL; rw [lendL_plain hp xs d h]; rfl
theorem lendV_sl (d : Nat) (k : Key) (g es off len : Nat) (hp : Heap) : lendV (d + 1) (.sl k g es off len) hp = (hp k).bind fun b => (b.els g es off len).bind fun xs => (lendVL d xs hp).map fun ys => .slc es ys := by
  simp only [lendV, lendVL, lend, Rd.run]
  cases hp k with
  | none => rfl
  | some b =>
    simp only [Option.bind_some]
    cases b.els g es off len with
    | none => rfl
    | some xs =>
      simp only [Option.bind_some, Rd.run_bind]
      cases (lendL d xs).run hp <;> rfl
theorem lendV_agg (d : Nat) (xs : List AVal) (hp : Heap) : lendV (d + 1) (.agg xs) hp = (lendVL d xs hp).map .agg := by
  simp only [lendV, lendVL, lend, Rd.run_bind]
  cases (lendL d xs).run hp <;> rfl
theorem lendV_ifc (d : Nat) (t : TypeId) (v : AVal) (hp : Heap) : lendV (d + 1) (.ifc t v) hp = (lendV d v hp).map (.ifc t) := by
  simp only [lendV, lend, Rd.run_bind]
  cases (lend d v).run hp <;> rfl
theorem lendVL_nil (d : Nat) (hp : Heap) : lendVL d [] hp = some [] := by simp [lendVL, lendL, Rd.run]
theorem lendVL_cons (d : Nat) (x : AVal) (xs : List AVal) (hp : Heap) : lendVL d (x :: xs) hp = (lendV d x hp).bind fun y => (lendVL d xs hp).map fun ys => y :: ys := by
  simp only [lendV, lendVL, lendL, Rd.run_bind]
  cases (lend d x).run hp with
  | none => rfl
  | some a =>
    simp only [Option.bind_some, Option.map_some]
    cases (lendL d xs).run hp <;> rfl
attribute [go_sem] lendV_plain lendV_sl lendV_agg lendV_ifc lendVL_nil lendVL_cons
def memK (k : Key) : List Key → Bool
  | [] => false
  | k' :: l => decide (k = k') || memK k l
theorem contains_memK (k : Key) (l : List Key) : l.contains k = memK k l := by
  induction l with
  | nil => rfl
  | cons k' l ih =>
    simp only [List.contains_cons, memK, ih]
    congr 1
    rw [Bool.eq_iff_iff]
    simp
theorem disj_nil (l : List Key) : disj [] l = true := rfl
theorem disj_cons (k : Key) (ks l : List Key) : disj (k :: ks) l = (!memK k l && disj ks l) := by
  simp only [disj, List.all_cons, contains_memK]
theorem memK_nil (k : Key) : memK k [] = false := rfl
theorem memK_cons (k k' : Key) (l : List Key) : memK k (k' :: l) = (decide (k = k') || memK k l) := rfl
theorem apartF_some (rx wx ry wy : List Key) : apartF (.kn rx, wx) (.kn ry, wy) = (disj wx (ry ++ wy) && disj wy rx) := rfl
noncomputable def hotP (a b : Option Foot) : Bool := match a, b with
  | some x, some y => apartF x y
  | _, _ => false
theorem hotP_some (x y : Foot) : hotP (some x) (some y) = apartF x y := rfl
theorem hotOk_nil (fs : List Foot) : hotOk fs [] = true := rfl
theorem hotOk_cons (fs : List Foot) (i j : Nat) (hot : List (Nat × Nat)) : hotOk fs ((i, j) :: hot) = (hotP fs[i]? fs[j]? && hotOk fs hot) := by
  simp only [hotOk, List.all_cons, hotP]
  rfl
section
variable {C : Cfg} {key : Key} {tm : Nat → AVal} {hp hp' : Heap}
def ftV (C : Cfg) (key : Key) (op : XOp) (tm : Nat → AVal) (hp hp' : Heap) : Foot := footP (rdOf C key op (arg tm)) hp hp'
theorem ftV_eq (op : XOp) : footP (rdOf C key op (arg tm)) hp hp' = ftV C key op tm hp hp' := rfl
def ftP (x : AVal) : Foot := match x with
  | .ptr k .. => (.kn [k], [])
  | _ => (.kn [], [])
theorem ftP_ptr (k : Key) (g i es off : Nat) : ftP (.ptr k g i es off) = (.kn [k], []) := rfl
theorem ftP_pvo (cs : List AVal) (off : Nat) : ftP (.pvo cs off) = (.kn [], []) := rfl
theorem ft_load (agg : Bool) (n : Nat) (x : XArg) : ftV C key (.load agg n x) tm hp hp' = ftP (arg tm x) := by
  simp only [ftV, rdOf, opR, footP, Rd.run_bind]
  cases h : arg tm x with
  | ptr k g i es off =>
    simp only [loadR, Rd.bind, Rd.reads, Rd.run, ftP]
    cases hp k with
    | none => rfl
    | some b => simp only; cases (b.cs g i es).bind (takeV agg n off) <;> rfl
  | pvo cs off => simp only [loadR, ftP]; cases takeV agg n off cs <;> rfl
  | _ => rfl
theorem ft_alloc (cells : List AVal) : ftV C key (.alloc cells) tm hp hp' = (.kn [], [key]) := rfl
theorem ft_call {g : FuncId} {F : List AVal → Option AVal} (hg : C.Γ g = some F) (xs : List XArg) (hl : plainL freeze (xs.map (arg tm)) = true) : ftV C key (.call (.c (.fn (.func g) [] [])) xs) tm hp hp' = (.kn [], []) := by
  have e : lendL freeze (xs.map (arg tm)) = .ret (xs.map (arg tm), []) := lendL_plain_eq _ _ hl
  simp only [ftV, rdOf, arg, target, List.nil_append, List.append_nil, hg, footP, callR, e, Rd.bind]
  cases F (xs.map (arg tm)) with
  | none => rfl
  | some v => simp only [Rd.reads, Rd.run, List.map_nil, ite_self]
def ftS (n : Nat) (x y : AVal) (hp : Heap) : Foot := match x with
  | .ptr k .. => if (cellsOf y).length = n ∧ (cellsOf y).all isSc = true then (.kn [k], if (stA n x y hp).isSome = true then [k] else []) else (.kn [], [])
  | _ => (.kn [], [])
theorem ftS_ptr (n : Nat) (k : Key) (g i es off : Nat) (y : AVal) : ftS n (.ptr k g i es off) y hp = if (cellsOf y).length = n ∧ (cellsOf y).all isSc = true then (.kn [k], if (stA n (.ptr k g i es off) y hp).isSome = true then [k] else []) else (.kn [], []) := rfl
theorem ft_get {k : Key} {f : Option Blk → Rd Outp} (hf : ∀ b, f b = .fail ∨ ∃ z, f b = .ret (.undef, [(k, z)])) :
    footP (.inl (.get k f)) hp hp' = (.kn [k], if (((Rd.get k f).run hp).map fun r => applyW hp r.2).isSome = true then [k] else []) := by
  rcases hf (hp k) with h | ⟨z, h⟩ <;> simp [footP, Rd.reads, Rd.run, h]
theorem ft_store (n : Nat) (x y : XArg) : ftV C key (.store n x y) tm hp hp' = ftS n (arg tm x) (arg tm y) hp := by
  simp only [ftV, rdOf, opR]
  cases h : arg tm x with
  | ptr k g i es off =>
    simp only [ftS, stA, storeR]
    split
    · refine ft_get fun b => ?_
      cases b with
      | none => exact .inl rfl
      | some b =>
        cases b with
        | obj a => exact .inl rfl
        | var cells =>
          simp only
          split
          · exact .inr ⟨_, rfl⟩
          · exact .inl rfl
        | row g' es' elems =>
          simp only
          split
          · cases elems[i]? with
            | none => exact .inl rfl
            | some e =>
              simp only
              split
              · exact .inr ⟨_, rfl⟩
              · exact .inl rfl
          · exact .inl rfl
    · rfl
  | _ => rfl
theorem ft_ofO {op : XOp} {o : Option AVal} (h : rdOf C key op (arg tm) = .inl ((Rd.ofO o).bind fun v => .ret (v, []))) : ftV C key op tm hp hp' = (.kn [], []) := by
  rw [ftV, h]; cases o <;> rfl
theorem ft_inl {g : FuncId} (hg : C.Γ g = none) (xs : List XArg) (fs cs : List AVal) : ftV C key (.call (.c (.fn (.func g) fs cs)) xs) tm hp hp' = (.cl fun k => hp' k = hp k, []) := by
  simp only [ftV, rdOf, arg, target, hg, footP]
theorem ft_mv (x : XArg) : ftV C key (.mv x) tm hp hp' = (.kn [], []) := rfl
theorem ft_bin (op : BinOp) (x y : XArg) : ftV C key (.bin op x y) tm hp hp' = (.kn [], []) := ft_ofO rfl
theorem ft_un (op : UnOp) (x : XArg) : ftV C key (.un op x) tm hp hp' = (.kn [], []) := ft_ofO rfl
theorem ft_fa (off : Nat) (x : XArg) : ftV C key (.fa off x) tm hp hp' = (.kn [], []) := ft_ofO rfl
theorem ft_slV (es : Nat) (x : XArg) (lo hi mx : Option XArg) : ftV C key (.slV es x lo hi mx) tm hp hp' = (.kn [], []) := ft_ofO rfl
theorem ft_mnx (m : Bool) (x : XArg) (xs : List XArg) : ftV C key (.mnx m x xs) tm hp hp' = (.kn [], []) := ft_ofO rfl
theorem ft_mkf (f : Fn) (a b : List XArg) : ftV C key (.mkf f a b) tm hp hp' = (.kn [], []) := rfl
theorem ft_mki (t : TypeId) (x : XArg) : ftV C key (.mki t x) tm hp hp' = (.kn [], []) := rfl
theorem ft_pick (x y z : XArg) : ftV C key (.pick x y z) tm hp hp' = (.kn [], []) := by
  simp only [ftV, rdOf, opR, footP]; cases arg tm x <;> rfl
theorem ft_build (zero : List AVal) (parts : List (Nat × Nat × XArg)) : ftV C key (.build zero parts) tm hp hp' = (.kn [], []) := by
  simp only [ftV, rdOf, opR, footP]; split <;> rfl
theorem ft_eqB (neg : Bool) (x y : XArg) : ftV C key (.eqB neg x y) tm hp hp' = (.kn [], []) := by
  simp only [ftV, rdOf, opR, footP]; split <;> rfl
theorem ft_eqA (neg : Bool) (ks : List Nat) (x y : XArg) : ftV C key (.eqA neg ks x y) tm hp hp' = (.kn [], []) := by
  simp only [ftV, rdOf, opR, footP]
  split
  · rename_i xs ys _ _
    cases eqCells ks xs ys <;> rfl
  · rfl
theorem ft_conv (k : IntKind) (x : XArg) : ftV C key (.conv k x) tm hp hp' = (.kn [], []) := by
  simp only [ftV, rdOf, opR, footP]; split <;> rfl
theorem ft_fld (agg : Bool) (n off : Nat) (x : XArg) : ftV C key (.fld agg n off x) tm hp hp' = (.kn [], []) := by
  simp only [ftV, rdOf, opR, footP]
  split
  · rename_i cs _
    cases takeV agg n off cs <;> rfl
  · rfl
theorem ft_ext (x : XArg) (i : Nat) : ftV C key (.ext x i) tm hp hp' = (.kn [], []) := by
  simp only [ftV, rdOf, opR, footP]
  split
  · rename_i xs _
    cases xs[i]? <;> rfl
  · rfl
end
attribute [go_sem ↓] ftV_eq ft_load ft_alloc ft_store ft_mv ft_bin ft_un ft_fa ft_slV ft_mnx ft_mkf ft_mki ft_pick ft_build ft_eqB ft_eqA ft_conv ft_fld ft_ext
attribute [go_sem] disj_nil disj_cons memK_nil memK_cons apartF_some hotP_some hotOk_nil hotOk_cons ftP_ptr ftP_pvo ftS_ptr Hk_true Option.isSome_some Option.isSome_none Bool.or_false Bool.false_or Bool.or_true Bool.true_or decide_true decide_false
section
variable {hp : Heap} {key : Key}
def elemsA (es : Nat) (x : AVal) (hp : Heap) : Option (List AVal) := (elemsR es x).run hp
theorem elemsA_nils (es : Nat) : elemsA es .nils hp = some [] := rfl
theorem elemsA_emp (es : Nat) : elemsA es .emp hp = some [] := rfl
theorem elemsA_slc (es : Nat) (xs : List AVal) : elemsA es (.slc es xs) hp = some xs := by simp [elemsA, elemsR, Rd.run]
theorem elemsA_sl (es : Nat) (k : Key) (g off len : Nat) : elemsA es (.sl k g es off len) hp = (hp k).bind fun b => b.els g es off len := by
  simp only [elemsA, elemsR, if_true, Rd.run]
  cases hp k with
  | none => rfl
  | some b => simp [Rd.run_ofO]
theorem els_row (g es off len : Nat) (elems : List AVal) : (Blk.row g es elems).els g es off len = if off + len ≤ elems.length then some ((elems.drop off).take len) else none := by
  simp [Blk.els]
def lendA (xs : List AVal) (hp : Heap) : Option (List AVal × List Key) := (lendL freeze xs).run hp
theorem lendA_plain {xs : List AVal} (h : plainL freeze xs = true) : lendA xs hp = some (xs, []) := lendL_plain hp xs freeze h
theorem appA_nils (es bytes : Nat) (y : AVal) : appA es bytes key .nils y hp = (elemsA es y hp).bind fun new0 => (lendA new0 hp).bind fun r =>
    if r.1.isEmpty = true then some (.nils, applyW hp (r.2.map fun k => (k, none))) else
    if r.1.length * bytes ≤ 140737488355328 then some (.sl key 0 es 0 r.1.length, applyW hp (r.2.map (fun k => (k, none)) ++ [(key, some (.row 0 es r.1))])) else none := by
  simp only [appA, appR, Rd.run_bind, elemsA, lendA]
  cases (elemsR es y).run hp with
  | none => rfl
  | some new0 =>
    simp only [Option.bind_some]
    cases (lendL freeze new0).run hp with
    | none => rfl
    | some r =>
      simp only [Option.bind_some]
      split
      · rfl
      · split <;> rfl
def grown (es bytes : Nat) (k : Key) (g off len : Nat) (new : List AVal) (ks : List Key) (b : Blk) (hp : Heap) : Option (AVal × Heap) :=
  match b with
  | .row g' es'' elems =>
    if g = g' ∧ es'' = es ∧ off + len = elems.length ∧ (len + new.length) * bytes ≤ 140737488355328 ∧ new.all (fun e => (cellsOf e).all isSc) = true then
      some (.sl k (g + 1) es 0 (len + new.length), applyW hp (ks.map (fun k => (k, none)) ++ [(k, some (.row (g + 1) es (elems.drop off ++ new)))]))
    else none
  | _ => none
theorem grown_row {es bytes : Nat} {k : Key} {g off len : Nat} {new elems : List AVal} {ks : List Key} : grown es bytes k g off len new ks (.row g es elems) hp =
    if off + len = elems.length ∧ (len + new.length) * bytes ≤ 140737488355328 ∧ new.all (fun e => (cellsOf e).all isSc) = true then
      some (.sl k (g + 1) es 0 (len + new.length), applyW hp (ks.map (fun k => (k, none)) ++ [(k, some (.row (g + 1) es (elems.drop off ++ new)))]))
    else none := by simp [grown]
theorem appA_sl (es bytes : Nat) (k : Key) (g off len : Nat) (y : AVal) : appA es bytes key (.sl k g es off len) y hp = (elemsA es y hp).bind fun new0 => (lendA new0 hp).bind fun r =>
    if r.2.contains k = false then (hp k).bind fun b => grown es bytes k g off len r.1 r.2 b hp else none := by
  simp only [appA, appR, Rd.run_bind, elemsA, lendA]
  cases (elemsR es y).run hp with
  | none => rfl
  | some new0 =>
    simp only [Option.bind_some]
    cases (lendL freeze new0).run hp with
    | none => rfl
    | some r =>
      simp only [Option.bind_some, true_and]
      split
      · simp only [Rd.run]
        cases hp k with
        | none => rfl
        | some b =>
          cases b with
          | var => rfl
          | obj => rfl
          | row g' es' elems =>
            simp only [Option.bind_some, grown]
            split <;> rfl
      · rfl
theorem applyW_nil : applyW hp [] = hp := rfl
theorem applyW_cons (k : Key) (b : Option Blk) (ws : Wr) : applyW hp ((k, b) :: ws) = applyW (upd hp k b) ws := rfl
theorem mkSA_int (es bytes : Nat) (k k' : IntKind) (l c : Int) : mkSA es bytes (.int k l) (.int k' c) = if 0 ≤ l ∧ l ≤ c ∧ bytes * c ≤ 281474976710656 then some l.toNat else none := rfl
theorem lenVA_sl (k : Key) (g es off len : Nat) : lenVA (.sl k g es off len) = some (.int .i64 len) := rfl
theorem lenVA_slc (es : Nat) (xs : List AVal) : lenVA (.slc es xs) = some (.int .i64 xs.length) := rfl
theorem lenVA_nils : lenVA .nils = some (.int .i64 0) := rfl
theorem lenVA_emp : lenVA .emp = some (.int .i64 0) := rfl
theorem iaSA_slc (es : Nat) (xs : List AVal) (kd : IntKind) (j : Int) : iaSA es (.slc es xs) (.int kd j) = if 0 ≤ j then (xs[j.toNat]?).map fun x => .pvo (cellsOf x) 0 else none := by simp [iaSA]
theorem stA_ptr (n : Nat) (k : Key) (g i es off : Nat) (y : AVal) : stA n (.ptr k g i es off) y hp = if (cellsOf y).length = n ∧ (cellsOf y).all isSc = true then
    (hp k).bind fun b => match b with
      | .var cells => if g = 0 ∧ i * es + off + n ≤ cells.length then some (upd hp k (some (.var (splice cells (i * es + off) (cellsOf y))))) else none
      | .row g' es' elems => if g = g' ∧ es = es' then (elems[i]?).bind fun e => if off + n ≤ (cellsOf e).length then some (upd hp k (some (.row g' es' (elems.set i (remake e (splice (cellsOf e) off (cellsOf y))))))) else none else none
      | .obj _ => none
    else none := by
  simp only [stA, storeR]
  split
  · simp only [Rd.run]
    cases hp k with
    | none => rfl
    | some b =>
      cases b with
      | obj => rfl
      | var cells => simp only [Option.bind_some]; split <;> rfl
      | row g' es' elems =>
        simp only [Option.bind_some]
        split
        · cases elems[i]? with
          | none => rfl
          | some e => simp only [Option.bind_some]; split <;> rfl
        · rfl
  · rfl
theorem callX_known {C : Cfg} {inl : Inl} {g : FuncId} {F : List AVal → Option AVal} {xs : List AVal} {nc : Nat} (hg : C.Γ g = some F) (hl : plainL freeze xs = true) :
    callX C inl (.fn (.func g) [] []) xs hp nc = (F xs).map fun r => (r, hp, nc) := by
  cases hr : F xs with
  | some r => exact call_plain hg hl hr
  | none => simp only [callX, target, List.nil_append, List.append_nil, hg, runP, callR, Rd.run_bind, lendL_plain hp xs freeze hl, Option.bind_some, hr, Rd.run, Option.map_none]
theorem plain_int (d : Nat) (k : IntKind) (n : Int) : plain d (.int k n) = true := by cases d <;> rfl
theorem plain_bool (d : Nat) (b : Bool) : plain d (.bool b) = true := by cases d <;> rfl
theorem plain_slc (d es : Nat) (xs : List AVal) : plain d (.slc es xs) = true := by cases d <;> rfl
theorem plain_nils (d : Nat) : plain d .nils = true := by cases d <;> rfl
theorem plain_emp (d : Nat) : plain d .emp = true := by cases d <;> rfl
theorem plain_agg (d : Nat) (xs : List AVal) : plain (d + 1) (.agg xs) = plainL d xs := by simp only [plain]
theorem plainL_nil (d : Nat) : plainL d [] = true := by simp only [plainL]
theorem plainL_cons (d : Nat) (x : AVal) (xs : List AVal) : plainL d (x :: xs) = (plain d x && plainL d xs) := by simp only [plainL]
theorem freeze_eq : freeze = 64 := rfl
end
attribute [go_sem] mkSA_int lendA_plain contains_memK elemsA_nils elemsA_emp elemsA_slc elemsA_sl els_row appA_nils appA_sl grown_row applyW_nil applyW_cons lenVA_sl lenVA_slc lenVA_nils lenVA_emp iaSA_slc stA_ptr
  plain_int plain_bool plain_slc plain_nils plain_emp plain_agg plainL_nil plainL_cons freeze_eq
theorem Rd.reads_bind {α β : Type} (h : Heap) : ∀ (r : Rd α) (f : α → Rd β), (r.bind f).reads h = r.reads h ++ (match r.run h with | some a => (f a).reads h | none => [])
  | .ret a, f => by simp [Rd.bind, Rd.reads, Rd.run]
  | .fail, f => by simp [Rd.bind, Rd.reads, Rd.run]
  | .get k g, f => by
    simp only [Rd.bind, Rd.reads, Rd.run, List.cons_append]
    rw [Rd.reads_bind h (g (h k)) f]
mutual
theorem lend_reads (h : Heap) : ∀ (d : Nat) (x y : AVal) (ks : List Key), (lend d x).run h = some (y, ks) → (lend d x).reads h = ks
  | 0, .sl .., y, ks, e => by simp [lend, Rd.run] at e
  | d + 1, .sl k g es off len, y, ks, e => by
    simp only [lend, Rd.run, Rd.reads] at e ⊢
    cases hb : h k with
    | none => rw [hb] at e; simp [Rd.run] at e
    | some b =>
      rw [hb] at e
      simp only at e ⊢
      cases hx : b.els g es off len with
      | none => rw [hx] at e; simp [Rd.run] at e
      | some xs =>
        rw [hx] at e
        simp only [Rd.run_bind] at e
        simp only [Rd.reads_bind]
        cases hr : (lendL d xs).run h with
        | none => rw [hr] at e; simp at e
        | some r =>
          rw [hr] at e
          simp only [Option.bind_some, Rd.run, Option.some.injEq, Prod.mk.injEq] at e
          rw [lendL_reads h d xs r.1 r.2 hr, ← e.2]
          simp [Rd.reads]
  | 0, .agg xs, y, ks, e => by simp [lend, Rd.run] at e
  | d + 1, .agg xs, y, ks, e => by
    simp only [lend, Rd.run_bind] at e
    simp only [lend, Rd.reads_bind]
    cases hr : (lendL d xs).run h with
    | none => rw [hr] at e; simp at e
    | some r =>
      rw [hr] at e
      simp only [Option.bind_some, Rd.run, Option.some.injEq, Prod.mk.injEq] at e
      rw [lendL_reads h d xs r.1 r.2 hr, ← e.2]
      simp [Rd.reads]
  | 0, .tup xs, y, ks, e => by simp [lend, Rd.run] at e
  | d + 1, .tup xs, y, ks, e => by
    simp only [lend, Rd.run_bind] at e
    simp only [lend, Rd.reads_bind]
    cases hr : (lendL d xs).run h with
    | none => rw [hr] at e; simp at e
    | some r =>
      rw [hr] at e
      simp only [Option.bind_some, Rd.run, Option.some.injEq, Prod.mk.injEq] at e
      rw [lendL_reads h d xs r.1 r.2 hr, ← e.2]
      simp [Rd.reads]
  | 0, .fn .., y, ks, e => by simp [lend, Rd.run] at e
  | d + 1, .fn f a b, y, ks, e => by
    simp only [lend, Rd.run_bind] at e
    simp only [lend, Rd.reads_bind]
    cases hr : (lendL d a).run h with
    | none => rw [hr] at e; simp at e
    | some r =>
      rw [hr] at e
      simp only [Option.bind_some, Rd.run_bind] at e
      cases hq : (lendL d b).run h with
      | none => rw [hq] at e; simp at e
      | some q =>
        rw [hq] at e
        simp only [Option.bind_some, Rd.run, Option.some.injEq, Prod.mk.injEq] at e
        simp only [hq]
        rw [lendL_reads h d a r.1 r.2 hr, lendL_reads h d b q.1 q.2 hq, ← e.2]
        simp [Rd.reads]
  | 0, .ifc .., y, ks, e => by simp [lend, Rd.run] at e
  | d + 1, .ifc t v, y, ks, e => by
    simp only [lend, Rd.run_bind] at e
    simp only [lend, Rd.reads_bind]
    cases hr : (lend d v).run h with
    | none => rw [hr] at e; simp at e
    | some r =>
      rw [hr] at e
      simp only [Option.bind_some, Rd.run, Option.some.injEq, Prod.mk.injEq] at e
      rw [lend_reads h d v r.1 r.2 hr, ← e.2]
      simp [Rd.reads]
  | 0, .ptr .., y, ks, e => by simp [lend, Rd.run] at e
  | d + 1, .ptr k g i es off, y, ks, e => by
    simp only [lend, Rd.run, Rd.reads] at e ⊢
    cases hb : h k with
    | none => rw [hb] at e; simp [Rd.run] at e
    | some b =>
      rw [hb] at e
      cases b with
      | row => simp [Rd.run] at e
      | obj => simp [Rd.run] at e
      | var cells =>
        simp only at e ⊢
        by_cases hg : g = 0
        · rw [if_pos hg] at e ⊢
          simp only [Rd.run_bind] at e
          simp only [Rd.reads_bind]
          cases hr : (lendL d cells).run h with
          | none => rw [hr] at e; simp at e
          | some r =>
            rw [hr] at e
            simp only [Option.bind_some, Rd.run, Option.some.injEq, Prod.mk.injEq] at e
            rw [lendL_reads h d cells r.1 r.2 hr, ← e.2]
            simp [Rd.reads]
        · rw [if_neg hg] at e
          simp [Rd.run] at e
  | d, .mp .., y, ks, e => by simp [lend, Rd.run] at e
  | d, .undef, y, ks, e => by simp [lend, Rd.run] at e; simp [lend, Rd.reads, ← e.2]
  | d, .any, y, ks, e => by simp [lend, Rd.run] at e; simp [lend, Rd.reads, ← e.2]
  | d, .bool _, y, ks, e => by simp [lend, Rd.run] at e; simp [lend, Rd.reads, ← e.2]
  | d, .int _ _, y, ks, e => by simp [lend, Rd.run] at e; simp [lend, Rd.reads, ← e.2]
  | d, .str _, y, ks, e => by simp [lend, Rd.run] at e; simp [lend, Rd.reads, ← e.2]
  | d, .nilp, y, ks, e => by simp [lend, Rd.run] at e; simp [lend, Rd.reads, ← e.2]
  | d, .pvo .., y, ks, e => by simp [lend, Rd.run] at e; simp [lend, Rd.reads, ← e.2]
  | d, .nils, y, ks, e => by simp [lend, Rd.run] at e; simp [lend, Rd.reads, ← e.2]
  | d, .emp, y, ks, e => by simp [lend, Rd.run] at e; simp [lend, Rd.reads, ← e.2]
  | d, .slc .., y, ks, e => by simp [lend, Rd.run] at e; simp [lend, Rd.reads, ← e.2]
  | d, .nili, y, ks, e => by simp [lend, Rd.run] at e; simp [lend, Rd.reads, ← e.2]
  | d, .nilf, y, ks, e => by simp [lend, Rd.run] at e; simp [lend, Rd.reads, ← e.2]
theorem lendL_reads (h : Heap) : ∀ (d : Nat) (xs ys : List AVal) (ks : List Key), (lendL d xs).run h = some (ys, ks) → (lendL d xs).reads h = ks
  | d, [], ys, ks, e => by simp [lendL, Rd.run] at e; simp [lendL, Rd.reads, ← e.2]
  | d, x :: xs, ys, ks, e => by
    simp only [lendL, Rd.run_bind] at e
    simp only [lendL, Rd.reads_bind]
    cases hr : (lend d x).run h with
    | none => rw [hr] at e; simp at e
    | some r =>
      rw [hr] at e
      simp only [Option.bind_some, Rd.run_bind] at e
      cases hq : (lendL d xs).run h with
      | none => rw [hq] at e; simp at e
      | some q =>
        rw [hq] at e
        simp only [Option.bind_some, Rd.run, Option.some.injEq, Prod.mk.injEq] at e
        simp only [hq]
        rw [lend_reads h d x r.1 r.2 hr, lendL_reads h d xs q.1 q.2 hq, ← e.2]
        simp [Rd.reads]
end
section
variable {hp : Heap}
def lendX (d : Nat) (x : AVal) (hp : Heap) : Option (AVal × List Key) := (lend d x).run hp
def lendXL (d : Nat) (xs : List AVal) (hp : Heap) : Option (List AVal × List Key) := (lendL d xs).run hp
theorem lendX_plain {d : Nat} {v : AVal} (h : plain d v = true) : lendX d v hp = some (v, []) := lend_plain hp v d h
theorem lendXL_plain {d : Nat} {xs : List AVal} (h : plainL d xs = true) : lendXL d xs hp = some (xs, []) := lendL_plain hp xs d h
theorem lendX_sl (d : Nat) (k : Key) (g es off len : Nat) : lendX (d + 1) (.sl k g es off len) hp = (hp k).bind fun b => (b.els g es off len).bind fun xs => (lendXL d xs hp).map fun r => (.slc es r.1, k :: r.2) := by
  simp only [lendX, lendXL, lend, Rd.run]
  cases hp k with
  | none => rfl
  | some b =>
    simp only [Option.bind_some]
    cases b.els g es off len with
    | none => rfl
    | some xs =>
      simp only [Option.bind_some, Rd.run_bind]
      cases (lendL d xs).run hp <;> rfl
def ptrX (d off : Nat) (k : Key) (b : Blk) (hp : Heap) : Option (AVal × List Key) := match b with
  | .var cells => (lendXL d cells hp).map fun r => (.pvo r.1 off, k :: r.2)
  | _ => none
theorem ptrX_var (d off : Nat) (k : Key) (cells : List AVal) : ptrX d off k (.var cells) hp = (lendXL d cells hp).map fun r => (.pvo r.1 off, k :: r.2) := rfl
theorem lendX_ptr (d : Nat) (k : Key) (i es off : Nat) : lendX (d + 1) (.ptr k 0 i es off) hp = (hp k).bind fun b => ptrX d (i * es + off) k b hp := by
  simp only [lendX, lend, Rd.run]
  cases hp k with
  | none => rfl
  | some b =>
    cases b with
    | row => rfl
    | obj => rfl
    | var cells =>
      simp only [Option.bind_some, if_true, Rd.run_bind, ptrX, lendXL]
      cases (lendL d cells).run hp <;> rfl
theorem lendXL_cons (d : Nat) (x : AVal) (xs : List AVal) : lendXL d (x :: xs) hp = (lendX d x hp).bind fun y => (lendXL d xs hp).map fun ys => (y.1 :: ys.1, y.2 ++ ys.2) := by
  simp only [lendX, lendXL, lendL, Rd.run_bind]
  cases (lend d x).run hp with
  | none => rfl
  | some a =>
    simp only [Option.bind_some]
    cases (lendL d xs).run hp <;> rfl
def dropK (v : AVal) (ks : List Key) (hp : Heap) : Heap := applyW hp (if hasRef v = true then ks.map fun k => (k, none) else [])
theorem dropK_eq (v : AVal) (ks : List Key) : dropK v ks hp = applyW hp (if hasRef v = true then ks.map fun k => (k, none) else []) := rfl
theorem callX_names {C : Cfg} {inl : Inl} {g : FuncId} {F : List AVal → Option AVal} {xs : List AVal} {nc : Nat} (hg : C.Γ g = some F) :
    callX C inl (.fn (.func g) [] []) xs hp nc = (lendXL 64 xs hp).bind fun r => (F r.1).map fun v => (v, dropK v r.2 hp, nc) := by
  simp only [callX, target, List.nil_append, List.append_nil, hg, runP, callR, Rd.run_bind, lendXL, freeze, dropK]
  cases (lendL 64 xs).run hp with
  | none => rfl
  | some r =>
    simp only [Option.bind_some]
    cases F r.1 <;> rfl
def nres (key : Key) (r : Option (Option (Nat × List AVal))) (hp : Heap) (nc : Nat) : Option (AVal × Heap × Nat) := match r with
  | some (some p) => if hasRefL p.2 = false then some (.sl key 0 p.1 0 p.2.length, upd hp key (some (.row 0 p.1 p.2)), nc) else none
  | some none => some (.nils, hp, nc)
  | none => none
theorem nres_row (key : Key) (es : Nat) (l : List AVal) (hp : Heap) (nc : Nat) : nres key (some (some (es, l))) hp nc = if hasRefL l = false then some (.sl key 0 es 0 l.length, upd hp key (some (.row 0 es l)), nc) else none := rfl
theorem nres_nil (key : Key) (hp : Heap) (nc : Nat) : nres key (some none) hp nc = some (.nils, hp, nc) := rfl
def nresM (key : Key) (o : Option (List (AVal × AVal × Nat))) (n : Nat) (ks : List Key) (hp : Heap) (nc : Nat) : Option (AVal × Heap × Nat) := match o with
  | some es => if ks.isEmpty = true then some (.mp key, upd hp key (some (.obj (.map es n))), nc) else none
  | none => none
theorem nresM_some (key : Key) (es : List (AVal × AVal × Nat)) (n : Nat) (ks : List Key) (hp : Heap) (nc : Nat) : nresM key (some es) n ks hp nc = if ks.isEmpty = true then some (.mp key, upd hp key (some (.obj (.map es n))), nc) else none := rfl
def nresN (key : Key) (r : Option (Option (Nat × List AVal))) (ks : List Key) (hp : Heap) (nc : Nat) : Option (AVal × Heap × Nat) := match r with
  | some (some p) => if p.1 = 0 then nresM key (entsOf 0 p.2) p.2.length ks hp nc else nres key (some (some p)) hp nc
  | r => nres key r hp nc
theorem nresN_row (key : Key) (es : Nat) (l : List AVal) (ks : List Key) (hp : Heap) (nc : Nat) : nresN key (some (some (es, l))) ks hp nc = if es = 0 then nresM key (entsOf 0 l) l.length ks hp nc else nres key (some (some (es, l))) hp nc := rfl
theorem nresN_nil (key : Key) (ks : List Key) (hp : Heap) (nc : Nat) : nresN key (some none) ks hp nc = some (.nils, hp, nc) := rfl
theorem entsOf_nil (i : Nat) : entsOf i [] = some [] := rfl
theorem entsOf_cons (i : Nat) (k v : AVal) (r : List AVal) : entsOf i (.tup [k, v] :: r) = (entsOf (i + 1) r).map fun es => (k, v, i) :: es := rfl
def ftNM (key : Key) (o : Option (List (AVal × AVal × Nat))) (ks : List Key) : Foot := match o with
  | some _ => if ks.isEmpty = true then (.kn ks, [key]) else (.kn ks, [])
  | none => (.kn ks, [])
theorem ftNM_some (key : Key) (es : List (AVal × AVal × Nat)) (ks : List Key) : ftNM key (some es) ks = if ks.isEmpty = true then (.kn ks, [key]) else (.kn ks, []) := rfl
def ftN (key : Key) (r : Option (Option (Nat × List AVal))) (ks : List Key) : Foot := match r with
  | some (some p) => if p.1 = 0 then ftNM key (entsOf 0 p.2) ks else if hasRefL p.2 = false then (.kn ks, [key]) else (.kn ks, [])
  | _ => (.kn ks, [])
theorem ftN_row (key : Key) (es : Nat) (l : List AVal) (ks : List Key) : ftN key (some (some (es, l))) ks = if es = 0 then ftNM key (entsOf 0 l) ks else if hasRefL l = false then (.kn ks, [key]) else (.kn ks, []) := rfl
theorem ftN_nil (key : Key) (ks : List Key) : ftN key (some none) ks = (.kn ks, []) := rfl
def ftNL (F : List AVal → Option (Option (Nat × List AVal))) (key : Key) (o : Option (List AVal × List Key)) (rd : List Key) : Foot := match o with
  | some r => ftN key (F r.1) r.2
  | none => (.kn rd, [])
theorem ftNL_some (F : List AVal → Option (Option (Nat × List AVal))) (key : Key) (r : List AVal × List Key) (rd : List Key) : ftNL F key (some r) rd = ftN key (F r.1) r.2 := rfl
def ftC (F : List AVal → Option AVal) (xs : List AVal) (hp : Heap) : Foot := footP (.inl (callR F xs)) hp hp
theorem ftC_names {C : Cfg} {key : Key} {tm : Nat → AVal} {hp' : Heap} {g : FuncId} {F : List AVal → Option AVal} (hg : C.Γ g = some F) (xs : List XArg) : ftV C key (.call (.c (.fn (.func g) [] [])) xs) tm hp hp' = ftC F (xs.map (arg tm)) hp := by
  simp only [ftV, rdOf, arg, target, List.nil_append, List.append_nil, hg, ftC]
  rfl
def ftK (o : Option AVal) (ks : List Key) : Foot := match o with
  | some v => (.kn ks, if hasRef v = true then ks else [])
  | none => (.kn ks, [])
theorem ftK_some (v : AVal) (ks : List Key) : ftK (some v) ks = (.kn ks, if hasRef v = true then ks else []) := rfl
theorem ftC_eq {F : List AVal → Option AVal} {xs ys : List AVal} {ks : List Key} (h : lendXL 64 xs hp = some (ys, ks)) : ftC F xs hp = ftK (F ys) ks := by
  have e := lendL_reads hp 64 xs ys ks h
  simp only [ftC, footP, callR, Rd.run_bind, Rd.reads_bind, freeze]
  rw [e]
  simp only [lendXL] at h
  rw [h]
  simp only [Option.bind_some]
  cases F ys with
  | none => simp [ftK, Rd.reads, Rd.run]
  | some v =>
    simp only [ftK, Rd.reads, Rd.run, List.append_nil]
    split
    · simp [List.map_map, Function.comp_def]
    · rfl
def ftL (F : List AVal → Option AVal) (o : Option (List AVal × List Key)) (rd : List Key) : Foot := match o with
  | some r => ftK (F r.1) r.2
  | none => (.kn rd, [])
theorem ftL_some (F : List AVal → Option AVal) (r : List AVal × List Key) (rd : List Key) : ftL F (some r) rd = ftK (F r.1) r.2 := rfl
theorem ftC_fun (F : List AVal → Option AVal) (xs : List AVal) : ftC F xs hp = ftL F (lendXL 64 xs hp) ((lendL freeze xs).reads hp) := by
  cases h : lendXL 64 xs hp with
  | some r => obtain ⟨ys, ks⟩ := r; rw [ftC_eq h]; rfl
  | none =>
    simp only [ftC, footP, callR, Rd.run_bind, Rd.reads_bind, freeze, ftL]
    simp only [lendXL] at h
    rw [h]
    simp
theorem hasRef_int (k : IntKind) (n : Int) : hasRef (.int k n) = false := rfl
theorem hasRef_bool (b : Bool) : hasRef (.bool b) = false := rfl
theorem hasRef_str (s : ByteArray) : hasRef (.str s) = false := rfl
theorem hasRef_nils : hasRef .nils = false := rfl
theorem hasRef_emp : hasRef .emp = false := rfl
theorem hasRef_slc (es : Nat) (xs : List AVal) : hasRef (.slc es xs) = true := rfl
theorem hasRef_agg (xs : List AVal) : hasRef (.agg xs) = hasRefL xs := rfl
theorem hasRef_tup (xs : List AVal) : hasRef (.tup xs) = hasRefL xs := rfl
theorem hasRefL_nil : hasRefL [] = false := rfl
theorem hasRefL_cons (x : AVal) (xs : List AVal) : hasRefL (x :: xs) = (hasRef x || hasRefL xs) := rfl
end
attribute [go_sem ↓] ftC_fun
attribute [go_sem] nres_row nres_nil nresN_row nresN_nil nresM_some entsOf_nil entsOf_cons ftNM_some List.isEmpty_nil ftN_row ftN_nil ftNL_some
theorem hasRef_ifc (t : TypeId) (v : AVal) : hasRef (.ifc t v) = hasRef v := rfl
theorem hasRef_nili : hasRef .nili = false := rfl
attribute [go_sem] hasRef_ifc hasRef_nili
attribute [go_sem] ftL_some Bool.false_eq_true Bool.or_self lendX_plain lendXL_plain lendX_sl lendX_ptr ptrX_var lendXL_cons ftK_some hasRef_int hasRef_bool hasRef_str hasRef_nils hasRef_emp hasRef_slc hasRef_agg hasRef_tup hasRefL_nil hasRefL_cons
theorem plainL_ints (d : Nat) (k : IntKind) : ∀ (l : List Int), plainL d (l.map (AVal.int k)) = true
  | [] => plainL_nil d
  | x :: l => by rw [List.map_cons, plainL_cons, plain_int, plainL_ints d k l]; rfl
attribute [go_sem] plainL_ints
theorem wrap_u64 (n : Int) : IntKind.u64.wrap n = n % 18446744073709551616 := by
  simp [IntKind.wrap, IntKind.signed, IntKind.bits]
theorem wrap_u8 (n : Int) : IntKind.u8.wrap n = n % 256 := by
  simp [IntKind.wrap, IntKind.signed, IntKind.bits]
section
variable (k : IntKind) (a b : Int)
theorem binA_add : binA .add (.int k a) (.int k b) = some (.int k (k.wrap (a + b))) := by simp [binA, isShift, intBin]
theorem binA_sub : binA .sub (.int k a) (.int k b) = some (.int k (k.wrap (a - b))) := by simp [binA, isShift, intBin]
theorem binA_mul : binA .mul (.int k a) (.int k b) = some (.int k (k.wrap (a * b))) := by simp [binA, isShift, intBin]
theorem binA_quo (h : b ≠ 0) : binA .quo (.int k a) (.int k b) = some (.int k (k.wrap (a.tdiv b))) := by simp [binA, isShift, intBin, h]
theorem binA_rem (h : b ≠ 0) : binA .rem (.int k a) (.int k b) = some (.int k (a.tmod b)) := by simp [binA, isShift, intBin, h]
theorem binA_eql : binA .eql (.int k a) (.int k b) = some (.bool (decide (a = b))) := by
  simp only [binA, isShift, intBin, if_true, Bool.false_eq_true, if_false]; rfl
theorem binA_neq : binA .neq (.int k a) (.int k b) = some (.bool (decide (a ≠ b))) := by
  simp only [binA, isShift, intBin, if_true, Bool.false_eq_true, if_false]
  congr 2
  by_cases h : a = b <;> simp [h]
theorem binA_lss : binA .lss (.int k a) (.int k b) = some (.bool (decide (a < b))) := by simp [binA, isShift, intBin]
theorem binA_leq : binA .leq (.int k a) (.int k b) = some (.bool (decide (a ≤ b))) := by simp [binA, isShift, intBin]
theorem binA_gtr : binA .gtr (.int k a) (.int k b) = some (.bool (decide (b < a))) := by simp [binA, isShift, intBin]
theorem binA_geq : binA .geq (.int k a) (.int k b) = some (.bool (decide (b ≤ a))) := by simp [binA, isShift, intBin]
theorem binA_and_u64 (m : Nat) (hm : m ≤ 64) : binA .and (.int .u64 a) (.int .u64 (2 ^ m - 1)) = some (.int .u64 (a % 2 ^ m)) := by
  simp only [binA, isShift, intBin, if_true, Bool.false_eq_true, if_false, wrap_u64]
  congr 2
  have h1 : ((BitVec.ofInt 64 a &&& BitVec.ofInt 64 (2 ^ m - 1)).toNat : Int) = a % 2 ^ m := by
    have e1 : BitVec.ofInt 64 ((2 : Int) ^ m - 1) = BitVec.ofNat 64 (2 ^ m - 1) := by
      have e : ((2 : Int) ^ m - 1) = ((2 ^ m - 1 : Nat) : Int) := by
        have : 1 ≤ 2 ^ m := Nat.one_le_two_pow
        rw [Int.natCast_sub this]
        simp
      rw [e]
      simp
    rw [e1, BitVec.toNat_and, BitVec.toNat_ofNat]
    have hlt : 2 ^ m - 1 < 2 ^ 64 := by
      have := Nat.pow_le_pow_right (show 0 < 2 by decide) hm
      have : 1 ≤ 2 ^ m := Nat.one_le_two_pow
      omega
    rw [Nat.mod_eq_of_lt hlt, Nat.and_two_pow_sub_one_eq_mod]
    simp only [BitVec.toNat_ofInt]
    have hp : (2 : Int) ^ 64 = 2 ^ m * 2 ^ (64 - m) := by
      rw [← Int.pow_add]; congr 1; omega
    have h2 : (((a % ((2 ^ 64 : Nat) : Int)).toNat : Nat) : Int) = a % 2 ^ 64 := by
      rw [Int.toNat_of_nonneg (Int.emod_nonneg _ (by decide))]
      rfl
    rw [Int.natCast_emod, h2]
    show a % 2 ^ 64 % ((2 ^ m : Nat) : Int) = _
    rw [Int.natCast_pow]
    show a % 2 ^ 64 % 2 ^ m = _
    rw [hp, Int.emod_emod_of_dvd _ ⟨_, rfl⟩]
  rw [show IntKind.u64.bits = 64 from rfl, h1]
  have hp : (0 : Int) < 2 ^ m := Int.pow_pos (by decide)
  have := Int.emod_nonneg a (Int.ne_of_gt hp)
  have := Int.emod_lt_of_pos a hp
  have h3 : (2 : Int) ^ m ≤ 18446744073709551616 := by
    have := Nat.pow_le_pow_right (show 0 < 2 by decide) hm
    have h4 : ((2 ^ m : Nat) : Int) ≤ ((2 ^ 64 : Nat) : Int) := by exact_mod_cast this
    rw [Int.natCast_pow] at h4
    exact h4
  rw [Int.emod_eq_of_lt (by omega) (by omega)]
theorem binA_and32 : binA .and (.int .u64 a) (.int .u64 4294967295) = some (.int .u64 (a % 4294967296)) := binA_and_u64 a 32 (by decide)
theorem binA_shr : binA .shr (.int .u64 a) (.int .u64 32) = some (.int .u64 (a / 4294967296)) := by
  simp only [binA, isShift, if_true, shiftBin]
  simp [IntKind.bits]
  rw [Int.fdiv_eq_ediv_of_nonneg _ (by decide)]
theorem binA_shr_u64 (h0 : 0 ≤ b) (h1 : b < 64) : binA .shr (.int .u64 a) (.int .u64 b) = some (.int .u64 (a / 2 ^ b.toNat)) := by
  simp only [binA, isShift, if_true, shiftBin, if_neg (Int.not_lt.2 h0)]
  have e : min b.toNat IntKind.u64.bits = b.toNat := by
    have : IntKind.u64.bits = 64 := rfl
    omega
  rw [e, Int.fdiv_eq_ediv_of_nonneg _ (Int.le_of_lt (Int.pow_pos (by decide)))]
end
attribute [go_sem] wrap_i64 binA_quo binA_rem binA_shr_u64 binA_add binA_sub binA_mul binA_eql binA_neq binA_lss binA_leq binA_gtr binA_geq wrap_u64 wrap_u8
abbrev i64s (l : List Int) : List AVal := l.map (AVal.int .i64)
def Rw (a : AVal) (l : List Int) : Prop := (a = .nils ∧ l = []) ∨ (a = .emp ∧ l = []) ∨ a = .slc 1 (i64s l)
theorem Rw.nils : Rw .nils [] := .inl ⟨rfl, rfl⟩
theorem Rw.slc (l : List Int) : Rw (.slc 1 (i64s l)) l := .inr (.inr rfl)
def rwTake (h : Nat) : AVal → AVal
  | .slc es xs => .slc es (xs.take h)
  | x => x
section
variable {a : AVal} {l : List Int} {hp : Heap}
theorem Rw.len (h : Rw a l) : lenVA a = some (.int .i64 l.length) := by
  rcases h with ⟨rfl, rfl⟩ | ⟨rfl, rfl⟩ | rfl
  · rfl
  · rfl
  · simp [lenVA]
theorem Rw.plain (h : Rw a l) (d : Nat) : plain d a = true := by
  rcases h with ⟨rfl, rfl⟩ | ⟨rfl, rfl⟩ | rfl
  · exact plain_nils d
  · exact plain_emp d
  · exact plain_slc d _ _
theorem Rw.ia (h : Rw a l) {i : Nat} (hi : i < l.length) : iaSA 1 a (.int .i64 i) = some (.pvo [.int .i64 (l.getD i 0)] 0) := by
  rcases h with ⟨rfl, rfl⟩ | ⟨rfl, rfl⟩ | rfl
  · simp at hi
  · simp at hi
  · rw [iaSA_slc]
    simp [List.getElem?_map, List.getElem?_eq_getElem hi, cellsOf]
theorem Rw.take (h : Rw a l) (n : Nat) : Rw (rwTake n a) (l.take n) := by
  rcases h with ⟨rfl, rfl⟩ | ⟨rfl, rfl⟩ | rfl
  · exact .inl ⟨rfl, by simp⟩
  · exact .inr (.inl ⟨rfl, by simp⟩)
  · exact .inr (.inr (by simp [rwTake, List.map_take]))
theorem Rw.sliceTo (h : Rw a l) {n : Nat} (hn : n ≤ l.length) : slVA 1 a none (some (.int .i64 n)) none = some (rwTake n a) := by
  rcases h with ⟨rfl, rfl⟩ | ⟨rfl, rfl⟩ | rfl
  · obtain rfl : n = 0 := by simpa using hn
    rfl
  · obtain rfl : n = 0 := by simpa using hn
    rfl
  · simp [slVA, bnd, rwTake, hn]
end
def wrO (os : List XOper) (t : Nat) : Bool := match os with
  | [] => false
  | o :: os => (match o.dst with | some d => d == t | none => false) || wrO os t
def wrC : XCode → Nat → Bool
  | .skip, _ => false
  | .reg _ ops _, t => wrO ops t
  | .seq a b, t => wrC a t || wrC b t
  | .cond _ a b, t => wrC a t || wrC b t
  | .block _ c, t => wrC c t
  | .scope c, t => wrC c t
  | .loop c, t => wrC c t
  | .exit _, _ => false
  | .ret, _ => false
  | .bad, _ => false
theorem stepO_tm {C : Cfg} {inl : Inl} {key : Key} {o : XOper} {st st' : St} (h : stepO C inl key o st = some st') {t : Nat} (ht : o.dst ≠ some t) : st'.tm t = st.tm t := by
  unfold stepO at h
  cases hp : progO C key o st.tm with
  | none => rw [hp] at h; cases h
  | some p =>
    rw [hp] at h
    simp only at h
    cases hr : runP inl p st.hp st.nc with
    | none => rw [hr] at h; cases h
    | some r =>
      rw [hr] at h
      simp only [Option.map_some, Option.some.injEq] at h
      subst h
      simp only [putO]
      cases hd : o.dst with
      | none => rfl
      | some d =>
        simp only [updT]
        split
        · rename_i e; subst e; exact absurd hd ht
        · rfl
theorem wrO_cons {o : XOper} {os : List XOper} {t : Nat} (h : wrO (o :: os) t = false) : o.dst ≠ some t ∧ wrO os t = false := by
  simp only [wrO, Bool.or_eq_false_iff] at h
  refine ⟨fun e => ?_, h.2⟩
  rw [e] at h
  simp at h
theorem runOps_tm {C : Cfg} {inl : Inl} {fid rid c : Nat} {t : Nat} : ∀ {os : List XOper} {i : Nat} {st st' : St}, wrO os t = false → runOps C inl fid rid c i os st = some st' → st'.tm t = st.tm t
  | [], i, st, st', _, h => by simp only [runOps, Option.some.injEq] at h; subst h; rfl
  | o :: os, i, st, st', hw, h => by
    obtain ⟨h1, h2⟩ := wrO_cons hw
    simp only [runOps] at h
    cases hs : stepO C inl (site fid rid i, c) o st with
    | none => rw [hs] at h; cases h
    | some s =>
      rw [hs] at h
      exact (runOps_tm h2 h).trans (stepO_tm hs h1)
theorem runOpsF_tm {C : Cfg} {inl : Inl} {fid rid c : Nat} {t : Nat} : ∀ {os : List XOper} {i : Nat} {st st' : St} {fs : List Foot}, wrO os t = false → runOpsF C inl fid rid c i os st = some (st', fs) → st'.tm t = st.tm t
  | [], i, st, st', fs, _, h => by simp only [runOpsF, Option.some.injEq, Prod.mk.injEq] at h; rw [← h.1]
  | o :: os, i, st, st', fs, hw, h => by
    obtain ⟨h1, h2⟩ := wrO_cons hw
    simp only [runOpsF] at h
    cases hs : stepO C inl (site fid rid i, c) o st with
    | none => rw [hs] at h; cases h
    | some s =>
      rw [hs] at h
      simp only [Option.bind_some] at h
      cases hq : runOpsF C inl fid rid c (i + 1) os s with
      | none => rw [hq] at h; cases h
      | some q =>
        rw [hq] at h
        simp only [Option.map_some, Option.some.injEq, Prod.mk.injEq] at h
        obtain ⟨q1, q2⟩ := q
        rw [← h.1]
        exact (runOpsF_tm h2 hq).trans (stepO_tm hs h1)
theorem runReg_tm {C : Cfg} {inl : Inl} {fid rid : Nat} {ops : List XOper} {d : Option XDraw} {st st' : St} {t : Nat} (hw : wrO ops t = false) (h : runReg C inl fid rid ops d st = some st') : st'.tm t = st.tm t := by
  unfold runReg at h
  split at h
  · exact (runOps_tm (st := { st with nc := st.nc + 1 }) hw h)
  · split at h
    · exact (runOps_tm (st := { st with nc := st.nc + 1 }) hw h)
    · split at h
      · rename_i hq
        split at h
        · cases h
          exact (runOpsF_tm (st := { st with nc := st.nc + 1 }) hw hq)
        · cases h
      · cases h
theorem iterN_tm {f : St → Res} {t : Nat} (hf : ∀ {s o s'}, f s = some (o, s') → s'.tm t = s.tm t) : ∀ {n : Nat} {st : St} {o : Out} {st' : St}, iterN n f st = some (o, st') → st'.tm t = st.tm t
  | 0, st, o, st', h => by simp [iterN] at h
  | n + 1, st, o, st', h => by
    rw [iterN] at h
    cases hs : f st with
    | none => rw [hs] at h; cases h
    | some r =>
      obtain ⟨o1, s1⟩ := r
      rw [hs] at h
      cases o1 with
      | nrm => exact (iterN_tm hf h).trans (hf hs)
      | ext i => simp only [Option.some.injEq, Prod.mk.injEq] at h; rw [← h.2]; exact hf hs
      | ret => simp only [Option.some.injEq, Prod.mk.injEq] at h; rw [← h.2]; exact hf hs
theorem execC_tm {C : Cfg} {inl : Inl} {fid : Nat} {t : Nat} : ∀ {a : XCode} {st : St} {o : Out} {st' : St}, wrC a t = false → execC C inl fid a st = some (o, st') → st'.tm t = st.tm t
  | .skip, st, o, st', _, h => by simp only [execC, Option.some.injEq, Prod.mk.injEq] at h; rw [← h.2]
  | .exit _, st, o, st', _, h => by simp only [execC, Option.some.injEq, Prod.mk.injEq] at h; rw [← h.2]
  | .ret, st, o, st', _, h => by simp only [execC, Option.some.injEq, Prod.mk.injEq] at h; rw [← h.2]
  | .bad, st, o, st', _, h => by simp [execC] at h
  | .reg id ops d, st, o, st', hw, h => by
    simp only [execC] at h
    cases hr : runReg C inl fid id ops d st with
    | none => rw [hr] at h; cases h
    | some s =>
      rw [hr] at h
      simp only [Option.map_some, Option.some.injEq, Prod.mk.injEq] at h
      rw [← h.2]
      exact runReg_tm hw hr
  | .seq a b, st, o, st', hw, h => by
    simp only [wrC, Bool.or_eq_false_iff] at hw
    simp only [execC] at h
    cases ha : execC C inl fid a st with
    | none => rw [ha] at h; cases h
    | some r =>
      obtain ⟨o1, s1⟩ := r
      rw [ha] at h
      cases o1 with
      | nrm => exact (execC_tm hw.2 h).trans (execC_tm hw.1 ha)
      | ext i => simp only [Option.some.injEq, Prod.mk.injEq] at h; rw [← h.2]; exact execC_tm hw.1 ha
      | ret => simp only [Option.some.injEq, Prod.mk.injEq] at h; rw [← h.2]; exact execC_tm hw.1 ha
  | .cond c a b, st, o, st', hw, h => by
    simp only [wrC, Bool.or_eq_false_iff] at hw
    simp only [execC] at h
    split at h
    · split at h
      · exact execC_tm hw.1 h
      · exact execC_tm hw.2 h
    · cases h
  | .block id a, st, o, st', hw, h => by
    simp only [wrC] at hw
    simp only [execC] at h
    split at h
    · rename_i ha
      split at h
      · simp only [Option.some.injEq, Prod.mk.injEq] at h; rw [← h.2]; exact execC_tm hw ha
      · simp only [Option.some.injEq, Prod.mk.injEq] at h; rw [← h.2]; exact execC_tm hw ha
    · exact execC_tm hw h
  | .scope a, st, o, st', hw, h => by
    simp only [wrC] at hw
    simp only [execC] at h
    exact execC_tm hw h
  | .loop a, st, o, st', hw, h => by
    simp only [wrC] at hw
    simp only [execC] at h
    exact iterN_tm (fun hs => execC_tm hw hs) h
section
variable {C : Cfg} {inl : Inl} {fid : Nat}
theorem Ev.and_tm {a : XCode} {st : St} {Q : Out → St → Prop} (h : Ev (C := C) (inl := inl) fid a st Q) : Ev (C := C) (inl := inl) fid a st fun o s => Q o s ∧ ∀ t, wrC a t = false → s.tm t = st.tm t := by
  unfold Ev Bd at h ⊢
  obtain ⟨r, h1, h2⟩ := h
  exact ⟨r, h1, h2, fun t ht => execC_tm ht h1⟩
theorem Ev_loopW {a : XCode} {Q : Out → St → Prop} {tm0 : Nat → AVal} {hp0 : Heap} {nc0 : Nat} (I : Nat → (Nat → AVal) → Heap → Nat → Prop) {n : Nat}
    (h0 : I n tm0 hp0 nc0) (hn : n < 4611686018427387904)
    (hstep : ∀ n tm hp nc, (∀ t, wrC a t = false → tm t = tm0 t) → I n tm hp nc → Ev (C := C) (inl := inl) fid a ⟨tm, hp, nc⟩ fun o s => Nx o (fun _ => ∃ m, m < n ∧ I m s.tm s.hp s.nc) (fun _ => Q o s)) :
    Ev (C := C) (inl := inl) fid (.loop a) ⟨tm0, hp0, nc0⟩ Q := by
  refine Ev_loop_inv (I := fun n st => (∀ t, wrC a t = false → st.tm t = tm0 t) ∧ I n st.tm st.hp st.nc) ⟨fun t _ => rfl, h0⟩ hn ?_
  rintro n ⟨tm, hp, nc⟩ ⟨hc, hI⟩
  refine (hstep n tm hp nc hc hI).and_tm.mono fun o s h => ?_
  obtain ⟨h, h'⟩ := h
  cases o with
  | nrm =>
    rw [Nx_nrm] at h ⊢
    obtain ⟨m, hm, hI'⟩ := h
    exact ⟨m, hm, fun t ht => (h' t ht).trans (hc t ht), hI'⟩
  | ext i => rw [Nx_ext] at h ⊢; exact h
  | ret => rw [Nx_ret] at h ⊢; exact h
theorem Ev_range {a : XCode} {Q : Out → St → Prop} {tm0 : Nat → AVal} {hp0 : Heap} {nc0 : Nat} (ti len : Nat) (J : Nat → (Nat → AVal) → Heap → Nat → Prop)
    (hn : len < 4611686018427387904) (hi : tm0 ti = .int .i64 0) (h0 : J 0 tm0 hp0 nc0)
    (hstep : ∀ i tm hp nc, i ≤ len → (∀ t, wrC a t = false → tm t = tm0 t) → tm ti = .int .i64 i → J i tm hp nc →
      Ev (C := C) (inl := inl) fid a ⟨tm, hp, nc⟩ fun o s => Nx o (fun _ => i < len ∧ s.tm ti = .int .i64 (i + 1 : Nat) ∧ J (i + 1) s.tm s.hp s.nc) (fun _ => Q o s)) :
    Ev (C := C) (inl := inl) fid (.loop a) ⟨tm0, hp0, nc0⟩ Q := by
  refine Ev_loopW (I := fun n tm hp nc => ∃ i, i ≤ len ∧ n = len - i ∧ tm ti = .int .i64 (i : Nat) ∧ J i tm hp nc) (n := len) ⟨0, by omega, by omega, hi, h0⟩ hn ?_
  rintro n tm hp nc hc ⟨i, hi, rfl, ht, hJ⟩
  refine (hstep i tm hp nc hi hc ht hJ).mono fun o s h => ?_
  cases o with
  | nrm =>
    rw [Nx_nrm] at h ⊢
    obtain ⟨h1, h2, h3⟩ := h
    exact ⟨len - (i + 1), by omega, i + 1, by omega, rfl, h2, h3⟩
  | ext i => rw [Nx_ext] at h ⊢; exact h
  | ret => rw [Nx_ret] at h ⊢; exact h
end
theorem sound_self {P : Program} {C : Cfg} (ok : CfgOk P C) (d : Nat) (f : FuncId) : Sound P f (pureF C d f) := sound_of ok d fun _ _ h => h
theorem liveA_ptr (k : Key) (g i es off : Nat) : liveA (.ptr k g i es off) = true := rfl
theorem liveA_pvo (cs : List AVal) (off : Nat) : liveA (.pvo cs off) = true := rfl
theorem liveA_fn (f : FuncId) (a b : List AVal) : liveA (.fn (.func f) a b) = true := rfl
theorem liveA_ifc (t : TypeId) (v : AVal) : liveA (.ifc t v) = true := rfl
theorem mnx_max {k : IntKind} {a b : Int} : mnxA true (.int k a) [.int k b] = some (.int k (max a b)) := by
  simp only [mnxA, if_true]
  congr 2
  split <;> omega
attribute [go_sem] liveA_ptr liveA_pvo liveA_fn liveA_ifc
section
variable {hp : Heap}
theorem rngSA_str (s : ByteArray) : rngSA (.str s) = some s := rfl
def nxtB (k : Key) (b : Blk) (hp : Heap) : Option (AVal × Heap) := match b with
  | .obj (.iter s pos) => if pos < s.size then some (.tup [.bool true, .int .i64 pos, .int .i32 (Utf8.decode s pos).1], upd hp k (some (.obj (.iter s (pos + (Utf8.decode s pos).2))))) else some (.tup [.bool false], hp)
  | _ => none
theorem nxtB_iter (k : Key) (s : ByteArray) (pos : Nat) : nxtB k (.obj (.iter s pos)) hp = if pos < s.size then some (.tup [.bool true, .int .i64 pos, .int .i32 (Utf8.decode s pos).1], upd hp k (some (.obj (.iter s (pos + (Utf8.decode s pos).2))))) else some (.tup [.bool false], hp) := rfl
theorem bytesOf_nil : bytesOf [] = some [] := rfl
theorem bytesOf_cons (n : Int) (r : List AVal) : bytesOf (.int .u8 n :: r) = (bytesOf r).map (UInt8.ofNat n.toNat :: ·) := rfl
theorem b2sA_sl (k : Key) (g es off len : Nat) : b2sA (.sl k g es off len) hp = (elemsA 1 (.sl k g es off len) hp).bind fun ys => (bytesOf ys).map fun s => .str ⟨s.toArray⟩ := rfl
theorem b2sA_slc (es : Nat) (xs : List AVal) : b2sA (.slc es xs) hp = (elemsA 1 (.slc es xs) hp).bind fun ys => (bytesOf ys).map fun s => .str ⟨s.toArray⟩ := rfl
def mapB (b : Blk) : Option (List (AVal × AVal × Nat) × Nat) := match b with
  | .obj (.map es cl) => some (es, cl)
  | _ => none
theorem mapB_map (es : List (AVal × AVal × Nat)) (cl : Nat) : mapB (.obj (.map es cl)) = some (es, cl) := rfl
end
def callAX (q : List AVal → Rd Outp) (xs : List AVal) (hp : Heap) (nc : Nat) : Option (AVal × Heap × Nat) := ((q xs).run hp).map fun r => (r.1, applyW hp r.2, nc)
theorem callAX_nil (t tp n : Nat) (v : AVal) (hp : Heap) (nc : Nat) : callAX (callAR t tp n) [.nili, v] hp nc = some (.bool false, hp, nc) := rfl
attribute [go_sem] callAX_nil
attribute [go_sem] rngSA_str nxtB_iter bytesOf_nil bytesOf_cons b2sA_sl b2sA_slc mapB_map
def Own (ss : List Nat) (es : Nat) (hp : Heap) (v : AVal) (xs : List AVal) : Prop :=
  (v = .nils ∧ xs = []) ∨ ∃ s c g, s ∈ ss ∧ v = .sl (s, c) g es 0 xs.length ∧ hp (s, c) = some (.row g es xs)
theorem Own.nils (ss : List Nat) (es : Nat) (hp : Heap) : Own ss es hp .nils [] := .inl ⟨rfl, rfl⟩
theorem Own.sl {ss : List Nat} {es : Nat} {hp : Heap} {s c g n : Nat} {xs : List AVal} (hs : s ∈ ss) (hn : n = xs.length) (h : hp (s, c) = some (.row g es xs)) : Own ss es hp (.sl (s, c) g es 0 n) xs :=
  .inr ⟨s, c, g, hs, by rw [hn], h⟩
theorem Own.keep {ss : List Nat} {es : Nat} {hp hp' : Heap} {v : AVal} {xs : List AVal} (h : Own ss es hp v xs) (hk : ∀ k, k.1 ∈ ss → hp' k = hp k) : Own ss es hp' v xs := by
  rcases h with h | ⟨s, c, g, hs, h1, h2⟩
  · exact .inl h
  · exact .inr ⟨s, c, g, hs, h1, (hk _ hs).trans h2⟩
theorem Own.app {ss : List Nat} {es bytes : Nat} {key : Key} {hp : Heap} {v y : AVal} {xs ys : List AVal} (h : Own ss es hp v xs) (hk : key.1 ∈ ss) (he : elemsA es y hp = some ys) (hl : plainL freeze ys = true)
    (hsc : (ys.all fun e => (cellsOf e).all isSc) = true) (hb : (xs.length + ys.length) * bytes ≤ 140737488355328) :
    ∃ v' hp', appA es bytes key v y hp = some (v', hp') ∧ Own ss es hp' v' (xs ++ ys) ∧ ∀ k, k.1 ∉ ss → hp' k = hp k := by
  rcases h with ⟨rfl, rfl⟩ | ⟨s, c, g, hs, rfl, h2⟩
  · rw [appA_nils, he, Option.bind_some, lendA_plain hl, Option.bind_some]
    simp only [List.map_nil, List.nil_append, applyW]
    cases ys with
    | nil => exact ⟨.nils, hp, by simp, Own.nils _ _ _, fun _ _ => rfl⟩
    | cons y0 ys0 =>
      rw [if_neg (by simp), if_pos (by simpa using hb)]
      refine ⟨_, _, rfl, Own.sl (s := key.1) (c := key.2) hk rfl (upd_same _ _ _), fun k hk' => upd_ne _ _ (fun e => hk' (e ▸ hk))⟩
  · rw [appA_sl, he, Option.bind_some, lendA_plain hl, Option.bind_some]
    rw [if_pos (by simp), h2, Option.bind_some, grown_row, if_pos ⟨by simp, hb, hsc⟩]
    simp only [List.map_nil, List.nil_append, applyW, List.drop_zero]
    refine ⟨_, _, rfl, Own.sl hs (by simp) (upd_same _ _ _), fun k hk' => upd_ne _ _ (fun e => hk' (e ▸ hs))⟩
theorem Own.push {ss : List Nat} {es bytes s0 s1 : Nat} {hp : Heap} {v z : AVal} {xs : List AVal} (h : Own ss es hp v xs) (hk : s0 ∈ ss) (hn : s1 ∉ ss) (hl : plain freeze z = true)
    (hsc : (cellsOf z).all isSc = true) (hb : (xs.length + 1) * bytes ≤ 140737488355328) :
    ∃ (V : Nat → Nat → AVal) (H : Nat → Nat → Heap), (∀ c c', appA es bytes (s0, c) v (.sl (s1, c') 0 es 0 1) (upd hp (s1, c') (some (.row 0 es [z]))) = some (V c c', H c c')) ∧
      ∀ c c', Own ss es (H c c') (V c c') (xs ++ [z]) ∧ ∀ k, k.1 ∉ ss → k.1 ≠ s1 → H c c' k = hp k := by
  have := fun c c' => (h.keep (hp' := upd hp (s1, c') (some (.row 0 es [z]))) fun k hk' => upd_ne _ _ (by rintro rfl; exact hn hk')).app (bytes := bytes) (key := (s0, c)) (y := .sl (s1, c') 0 es 0 1) (ys := [z]) hk
    (by rw [elemsA_sl, upd_same]; simp [els_row]) (by rw [plainL_cons, hl, plainL_nil]; rfl) (by simp [hsc]) hb
  refine ⟨fun c c' => (this c c').choose, fun c c' => (this c c').choose_spec.choose, fun c c' => (this c c').choose_spec.choose_spec.1, fun c c' => ⟨(this c c').choose_spec.choose_spec.2.1, fun k h1 h2 => ?_⟩⟩
  exact ((this c c').choose_spec.choose_spec.2.2 k h1).trans (upd_ne _ _ (by rintro rfl; exact h2 rfl))
def sliceOf (es : Nat) (v : AVal) (xs : List AVal) : AVal := match v with
  | .nils => .nils
  | _ => .slc es xs
theorem Own.lend {ss : List Nat} {es : Nat} {hp : Heap} {v : AVal} {xs : List AVal} (h : Own ss es hp v xs) (d : Nat) (hl : plainL d xs = true) : lendV (d + 1) v hp = some (sliceOf es v xs) := by
  rcases h with ⟨rfl, rfl⟩ | ⟨s, c, g, hs, rfl, h2⟩
  · exact lendV_plain (plain_nils _)
  · rw [lendV_sl, h2]
    simp only [Option.bind_some, els_row, Nat.zero_add, Nat.le_refl, if_true, List.drop_zero, List.take_length, lendVL_plain hl, Option.map_some]
    rfl
def rowN (es : Nat) (xs : List AVal) : AVal := match xs with
  | [] => .nils
  | _ => .slc es xs
theorem Own.lendN {ss : List Nat} {es : Nat} {hp : Heap} {v : AVal} {xs : List AVal} (h : Own ss es hp v xs) (h0 : xs = [] → v = .nils) (d : Nat) (hl : plainL d xs = true) {hp' : Heap} (hk : ∀ k, k.1 ∈ ss → hp' k = hp k) : lendV (d + 1) v hp' = some (rowN es xs) := by
  rw [(h.keep hk).lend d hl]
  cases xs with
  | nil => rw [h0 rfl]; rfl
  | cons x l =>
    rcases h with ⟨rfl, h⟩ | ⟨s, c, g, hs, rfl, h2⟩
    · simp at h
    · rfl
theorem rowN_rw (l : List Int) : Rw (rowN 1 (i64s l)) l := by
  cases l with
  | nil => exact Rw.nils
  | cons => exact Rw.slc _
theorem wt_ints {b : Nat} {a : AVal} (h : WT (.slice 1 b (.int .i64)) a) : ∃ l, Rw a l ∧ l.length * b ≤ 140737488351232 ∧ ∀ x ∈ l, IntKind.i64.min ≤ x ∧ x ≤ IntKind.i64.max := by
  simp only [WT] at h
  rcases h with rfl | rfl | ⟨xs, rfl, h1, h2⟩
  · exact ⟨[], Rw.nils, by simp, by simp⟩
  · exact ⟨[], .inr (.inl ⟨rfl, rfl⟩), by simp, by simp⟩
  · have : ∃ l : List Int, xs = i64s l ∧ ∀ x ∈ l, IntKind.i64.min ≤ x ∧ x ≤ IntKind.i64.max := by
      clear h2
      induction xs with
      | nil => exact ⟨[], rfl, by simp⟩
      | cons x xs ih =>
        obtain ⟨n, rfl, hn⟩ := h1 x (by simp)
        obtain ⟨l, rfl, hl⟩ := ih fun y hy => h1 y (by simp [hy])
        refine ⟨n :: l, rfl, ?_⟩
        intro y hy
        rcases List.mem_cons.1 hy with rfl | hy
        · exact hn
        · exact hl y hy
    obtain ⟨l, rfl, hl⟩ := this
    exact ⟨l, Rw.slc l, by simpa using h2, hl⟩
end Go.Xec
namespace Go.Xec
open Go Go.RowKit Go.Sort
def bs (l : List UInt8) : ByteArray := ⟨l.toArray⟩
abbrev sv (l : List UInt8) : AVal := .str (bs l)
theorem bs_mk (l : List UInt8) : (ByteArray.mk l.toArray) = bs l := rfl
theorem bs_size (l : List UInt8) : (bs l).size = l.length := by simp [bs, ByteArray.size]
theorem bs_of (s : ByteArray) : s = bs s.data.toList := by
  cases s; simp [bs]
theorem bs_append (l m : List UInt8) : bs l ++ bs m = bs (l ++ m) := by
  have : (bs l ++ bs m).data = (bs l).data ++ (bs m).data := ByteArray.data_append
  rw [bs_of (bs l ++ bs m), this]
  simp [bs]
section
variable (l m : List UInt8)
end
theorem str_len (l : List UInt8) : (match sv l with | .str s => some (.int .i64 s.size) | _ => none : Option AVal) = some (.int .i64 (l.length : Int)) := by
  simp only [bs_size]
def Rg (es : Nat) {α : Type} (enc : α → AVal) (a : AVal) (l : List α) : Prop := (a = .nils ∧ l = []) ∨ (a = .emp ∧ l = []) ∨ a = .slc es (l.map enc)
section
variable {es : Nat} {α : Type} {enc : α → AVal} {a : AVal} {l : List α} {hp : Heap}
theorem Rg.slc (l : List α) : Rg es enc (.slc es (l.map enc)) l := .inr (.inr rfl)
theorem Rg.elems (h : Rg es enc a l) : elemsA es a hp = some (l.map enc) := by
  rcases h with ⟨rfl, rfl⟩ | ⟨rfl, rfl⟩ | rfl
  · rfl
  · rfl
  · exact elemsA_slc es _
end
theorem plainL_map {α : Type} {enc : α → AVal} (d : Nat) (h : ∀ x, Xec.plain d (enc x) = true) : ∀ (l : List α), plainL d (l.map enc) = true
  | [] => plainL_nil d
  | x :: l => by rw [List.map_cons, plainL_cons, h x, plainL_map d h l]; rfl
theorem all_map {α : Type} {enc : α → AVal} (h : ∀ x, (cellsOf (enc x)).all isSc = true) (l : List α) : ((l.map enc).all fun e => (cellsOf e).all isSc) = true := by
  rw [List.all_map, List.all_eq_true]
  exact fun x _ => h x
theorem take_next {α : Type} {l : List α} {i : Nat} (hi : i < l.length) : l.take (i + 1) = l.take i ++ [l[i]] := by
  rw [List.take_add_one, List.getElem?_eq_getElem hi]; rfl
theorem sound_calls {P : Program} {f : FuncId} {fn : Func} {F : List AVal → Option AVal} (hf : P.funcs[f]? = some fn) (hname : (fn.name == "runtime.NumGoroutine") = false) (hb : fn.body.isSome = true)
    (h : ∀ as0 r, F as0 = some r → ∀ (w : World) (S : Nat → Prop) (vs : List Value), (∀ b, S b → b < w.heap.size) → Laid P w → VL (ctx0 w S) as0 vs →
      Calls P f vs.toArray w fun e w' => ∃ v, e = .returned v ∧ w.heap.size ≤ w'.heap.size ∧ (∀ b, b < w.heap.size → w'.heap[b]? = w.heap[b]?) ∧ SameEnv w w' ∧ V (ctx0 w' fun b => S b ∨ (w.heap.size ≤ b ∧ b < w'.heap.size)) r v) : Sound P f F := by
  intro as0 r hr w S vs hS hL hl
  refine .inl ⟨?_, h as0 r hr w S vs hS hL hl⟩
  cases hbb : fn.body with
  | none => rw [hbb] at hb; cases hb
  | some c =>
    simp only [callFunc, Sem.run_bind, run_program, Result.andThen_ok, hf, hname, hbb]
    simp
theorem env_below {w w' : World} (h : Below w.heap.size w w') : w.heap.size ≤ w'.heap.size ∧ (∀ b, b < w.heap.size → w'.heap[b]? = w.heap[b]?) ∧ SameEnv w w' :=
  ⟨h.size, h.block, h.os, h.tape, h.output⟩
theorem env_grow (w : World) (k : Nat) (os : Array Obj) : w.heap.size ≤ (grow (w.drewN k) os).heap.size ∧ (∀ b, b < w.heap.size → (grow (w.drewN k) os).heap[b]? = w.heap[b]?) ∧ SameEnv w (grow (w.drewN k) os) := by
  refine ⟨by simp [grow, World.drewN], fun b hb => ?_, rfl, rfl, rfl⟩
  simp only [grow, World.drewN]
  rw [Array.getElem?_append_left hb]
theorem env_bytes (w : World) (e : TypeId) (s : ByteArray) : w.heap.size ≤ (Lib.bytesWorld w e s).heap.size ∧ (∀ b, b < w.heap.size → (Lib.bytesWorld w e s).heap[b]? = w.heap[b]?) ∧ SameEnv w (Lib.bytesWorld w e s) := by
  unfold Lib.bytesWorld World.freeze
  have e : (w.drew.alloc (.cells (Lib.bytesCells w e s) e)).heap = w.heap.push (.cells (Lib.bytesCells w e s) e (0, 0)) := rfl
  rw [if_neg (by decide)]
  refine ⟨by simp only [Array.size_modify, e, Array.size_push]; omega, fun b hb => ?_, rfl, rfl, rfl⟩
  simp only [e]
  rw [Array.getElem?_modify, if_neg (by omega), Array.getElem?_push, if_neg (by omega)]
def F_itoa : List AVal → Option AVal
  | [.int .i64 n] => if -9223372036854775808 ≤ n ∧ n ≤ 9223372036854775807 then some (sv (Lib.itoa n)) else none
  | _ => none
theorem VL_1 {x : Ctx} {a : AVal} {vs : List Value} (h : VL x [a] vs) : ∃ u, vs = [u] ∧ V x a u := by
  simp only [VL] at h
  obtain ⟨u, _, rfl, hu, rfl⟩ := h
  exact ⟨u, rfl, hu⟩
theorem VL_2 {x : Ctx} {a b : AVal} {vs : List Value} (h : VL x [a, b] vs) : ∃ u v, vs = [u, v] ∧ V x a u ∧ V x b v := by
  simp only [VL] at h
  obtain ⟨u, _, rfl, hu, v, _, rfl, hv, rfl⟩ := h
  exact ⟨u, v, rfl, hu, hv⟩
def F_index : List AVal → Option AVal
  | [.str s, .int .u8 c] => some (.int .i64 (Lib.indexByte s.data.toList c.toNat.toUInt8))
  | _ => none
def F_atoi (te : TypeId) : List AVal → Option AVal
  | [.str s] => if s.size ≤ 281474976710656 then match Lib.atoiAll s.data.toList with
    | .ok v => some (.tup [.int .i64 v, .nili])
    | .range => some (.tup [.int .i64 (Lib.atoiSat s.data.toList), .ifc te .any])
    | _ => some (.tup [.int .i64 0, .ifc te .any]) else none
  | _ => none
attribute [go_sem] bs_mk bs_size
end Go.Xec
namespace Go.Proofs.YtkonpbcnekcjjaaGreatDoor
open Go Go.Xec
abbrev x3r0 : List XOper := [
  ⟨(some 4), none, .mv (.c (.bool false))⟩]
abbrev x3r1 : List XOper := [
  ⟨(some 14), none, .mv (.t 0)⟩,
  ⟨(some 15), none, .call (.c (.fn (.func 6) [] [])) [(.t 14), (.c (.int .i64 100))]⟩,
  ⟨(some 0), none, .mv (.t 15)⟩]
abbrev x3r2 : List XOper := [
  ⟨(some 17), none, .mv (.t 0)⟩,
  ⟨(some 18), none, .call (.c (.fn (.func 7) [] [])) [(.t 17)]⟩,
  ⟨(some 16), none, .mv (.t 18)⟩,
  ⟨(some 19), none, .ext (.t 16) 0⟩,
  ⟨(some 20), none, .ext (.t 16) 1⟩,
  ⟨(some 5), none, .alloc [(.int .i64 0), (.int .i64 0), (.int .u64 0), (.int .u64 0), (.int .i64 0), (.int .i64 0)]⟩,
  ⟨none, none, .store 6 (.t 5) (.t 19)⟩,
  ⟨(some 6), none, .mv (.t 20)⟩]
abbrev x3r3 : List XOper := [
  ⟨(some 21), none, .mv (.t 6)⟩,
  ⟨(some 22), none, .bin .neq (.t 21) (.c (.int .i64 0))⟩,
  ⟨(some 23), none, .mv (.t 22)⟩,
  ⟨(some 24), (some (23, false)), .call (.c (.fn (.func 8) [] [])) []⟩,
  ⟨(some 25), (some (23, false)), .un .not (.t 24)⟩,
  ⟨(some 26), none, .pick (.t 23) (.c (.bool true)) (.t 25)⟩]
abbrev x3r4 : List XOper := [
  ⟨(some 4), none, .mv (.c (.bool false))⟩]
abbrev x3r5 : List XOper := [
  ⟨(some 27), none, .build [(.int .u64 0), (.int .u64 0)] []⟩,
  ⟨(some 7), none, .alloc [(.int .u64 0), (.int .u64 0)]⟩,
  ⟨none, none, .store 2 (.t 7) (.t 27)⟩]
abbrev x3r6 : List XOper := [
  ⟨(some 28), none, .mv (.t 0)⟩,
  ⟨(some 29), none, .lenV (.t 28)⟩,
  ⟨(some 30), none, .mv (.c (.int .i64 0))⟩]
abbrev x3r7 : List XOper := [
  ⟨(some 31), none, .bin .lss (.t 30) (.t 29)⟩]
abbrev x3r8 : List XOper := [
  ⟨(some 32), none, .mv (.t 30)⟩,
  ⟨(some 8), none, .mv (.t 32)⟩]
abbrev x3r9 : List XOper := [
  ⟨(some 33), none, .mv (.t 0)⟩,
  ⟨(some 34), none, .mv (.t 8)⟩,
  ⟨(some 35), none, .mv (.t 1)⟩,
  ⟨(some 36), none, .bin .rem (.t 35) (.c (.int .i64 100))⟩,
  ⟨(some 37), none, .bin .add (.t 36) (.c (.int .i64 100))⟩,
  ⟨(some 38), none, .bin .rem (.t 37) (.c (.int .i64 100))⟩,
  ⟨(some 39), none, .bin .add (.t 34) (.t 38)⟩,
  ⟨(some 40), none, .mv (.t 0)⟩,
  ⟨(some 41), none, .lenV (.t 40)⟩,
  ⟨(some 42), none, .bin .rem (.t 39) (.t 41)⟩,
  ⟨(some 43), none, .iaS 1 (.t 33) (.t 42)⟩,
  ⟨(some 44), none, .load false 1 (.t 43)⟩,
  ⟨(some 9), none, .mv (.t 44)⟩]
abbrev x3r10 : List XOper := [
  ⟨(some 46), none, .mv (.t 9)⟩,
  ⟨(some 47), none, .mv (.t 9)⟩,
  ⟨(some 48), none, .un .neg (.t 47)⟩,
  ⟨(some 49), none, .mnx true (.t 46) [(.t 48)]⟩,
  ⟨(some 50), none, .conv .u64 (.t 49)⟩,
  ⟨(some 51), none, .build [(.int .u64 0), (.int .u64 0)] [(1, 1, (.t 50))]⟩,
  ⟨(some 52), none, .mv (.t 9)⟩,
  ⟨(some 53), none, .mv (.t 9)⟩,
  ⟨(some 54), none, .un .neg (.t 53)⟩,
  ⟨(some 55), none, .mnx true (.t 52) [(.t 54)]⟩,
  ⟨(some 56), none, .conv .u64 (.t 55)⟩,
  ⟨(some 57), none, .build [(.int .u64 0), (.int .u64 0)] [(1, 1, (.t 56))]⟩,
  ⟨(some 58), none, .call (.c (.fn (.func 9) [] [])) [(.t 51), (.t 57)]⟩,
  ⟨(some 45), none, .mv (.t 58)⟩,
  ⟨(some 59), none, .ext (.t 45) 0⟩,
  ⟨(some 60), none, .ext (.t 45) 1⟩,
  ⟨(some 10), none, .alloc [(.int .u64 0), (.int .u64 0)]⟩,
  ⟨none, none, .store 2 (.t 10) (.t 59)⟩,
  ⟨(some 11), none, .mv (.t 60)⟩]
abbrev x3r11 : List XOper := [
  ⟨(some 62), none, .load true 2 (.t 7)⟩,
  ⟨(some 63), none, .load true 2 (.t 10)⟩,
  ⟨(some 64), none, .call (.c (.fn (.func 10) [] [])) [(.t 62), (.t 63)]⟩,
  ⟨(some 61), none, .mv (.t 64)⟩,
  ⟨(some 65), none, .ext (.t 61) 0⟩,
  ⟨(some 66), none, .ext (.t 61) 1⟩,
  ⟨(some 12), none, .alloc [(.int .u64 0), (.int .u64 0)]⟩,
  ⟨none, none, .store 2 (.t 12) (.t 65)⟩,
  ⟨(some 13), none, .mv (.t 66)⟩]
abbrev x3r12 : List XOper := [
  ⟨(some 67), none, .mv (.t 11)⟩,
  ⟨(some 68), none, .mv (.t 67)⟩,
  ⟨(some 69), (some (68, false)), .mv (.t 13)⟩,
  ⟨(some 70), none, .pick (.t 68) (.c (.bool true)) (.t 69)⟩]
abbrev x3r13 : List XOper := [
  ⟨(some 4), none, .mv (.c (.bool false))⟩]
abbrev x3r14 : List XOper := [
  ⟨(some 71), none, .load true 2 (.t 12)⟩,
  ⟨none, none, .store 2 (.t 7) (.t 71)⟩]
abbrev x3r15 : List XOper := [
  ⟨(some 72), none, .bin .add (.t 30) (.c (.int .i64 1))⟩,
  ⟨(some 30), none, .mv (.t 72)⟩]
abbrev x3l7 : XCode :=
  (.seq (.reg 7 x3r7 none)
  (.seq (.cond (.t 31)
    .skip
    (.exit 0))
  (.seq (.block 1
    (.seq (.reg 8 x3r8 none)
    (.seq (.reg 9 x3r9 none)
    (.seq (.reg 10 x3r10 none)
    (.seq (.reg 11 x3r11 none)
    (.seq (.seq (.reg 12 x3r12 none)
    (.cond (.t 70)
      (.seq (.reg 13 x3r13 none)
      .ret)
      .skip))
    (.reg 14 x3r14 none)))))))
  (.reg 15 x3r15 none))))
abbrev x3r16 : List XOper := [
  ⟨(some 73), none, .load true 2 (.t 7)⟩,
  ⟨(some 74), none, .fa 2 (.t 5)⟩,
  ⟨(some 75), none, .load true 2 (.t 74)⟩,
  ⟨(some 76), none, .eqA false [0, 0] (.t 73) (.t 75)⟩,
  ⟨(some 4), none, .mv (.t 76)⟩]
abbrev x3b : XCode :=
  (.seq (.reg 0 x3r0 none)
  (.seq (.reg 1 x3r1 none)
  (.seq (.reg 2 x3r2 none)
  (.seq (.seq (.reg 3 x3r3 none)
  (.cond (.t 26)
    (.seq (.reg 4 x3r4 none)
    .ret)
    .skip))
  (.seq (.reg 5 x3r5 none)
  (.seq (.seq (.reg 6 x3r6 none)
  (.block 0
    (.loop x3l7)))
  (.seq (.reg 16 x3r16 none)
  .ret)))))))
def x3 : XFunc := ⟨77, 2, [.tmp 4], x3b⟩
theorem x3_ok : chkF Tryz.prog Tryz.f3 x3 = true := by kernel_rfl
abbrev x6r0 : List XOper := [
  ⟨(some 4), none, .mv (.c .nils)⟩]
abbrev x6r1 : List XOper := [
  ⟨(some 5), none, .mv (.c .nils)⟩]
abbrev x6r2 : List XOper := [
  ⟨(some 8), none, .mv (.t 0)⟩,
  ⟨(some 9), none, .mv (.t 0)⟩,
  ⟨(some 10), none, .lenV (.t 9)⟩,
  ⟨(some 11), none, .mv (.t 1)⟩,
  ⟨(some 12), none, .mnx false (.t 10) [(.t 11)]⟩,
  ⟨(some 13), none, .slV 1 (.t 8) none (some (.t 12)) none⟩,
  ⟨(some 14), none, .lenV (.t 13)⟩,
  ⟨(some 15), none, .mv (.c (.int .i64 0))⟩]
abbrev x6r3 : List XOper := [
  ⟨(some 16), none, .bin .lss (.t 15) (.t 14)⟩]
abbrev x6r4 : List XOper := [
  ⟨(some 17), none, .iaS 1 (.t 13) (.t 15)⟩,
  ⟨(some 18), none, .load false 1 (.t 17)⟩,
  ⟨(some 7), none, .mv (.t 18)⟩]
abbrev x6r5 : List XOper := [
  ⟨(some 19), none, .mv (.t 5)⟩,
  ⟨(some 20), none, .mv (.t 7)⟩,
  ⟨(some 21), none, .mnx true (.t 20) [(.c (.int .i64 (-100000)))]⟩,
  ⟨(some 22), none, .mnx false (.t 21) [(.c (.int .i64 100000))]⟩,
  ⟨(some 23), none, .mkslice 1 (.int .i64 0) 1 [(0, (.t 22))]⟩,
  ⟨(some 24), none, .app 1 8 (.t 19) (.t 23)⟩,
  ⟨(some 5), none, .mv (.t 24)⟩]
abbrev x6r6 : List XOper := [
  ⟨(some 25), none, .bin .add (.t 15) (.c (.int .i64 1))⟩,
  ⟨(some 15), none, .mv (.t 25)⟩]
abbrev x6l3 : XCode :=
  (.seq (.reg 3 x6r3 none)
  (.seq (.cond (.t 16)
    .skip
    (.exit 0))
  (.seq (.block 1
    (.seq (.reg 4 x6r4 none)
    (.reg 5 x6r5 none)))
  (.reg 6 x6r6 none))))
abbrev x6r7 : List XOper := [
  ⟨(some 26), none, .mv (.t 5)⟩,
  ⟨(some 4), none, .mv (.t 26)⟩]
abbrev x6b : XCode :=
  (.seq (.reg 0 x6r0 none)
  (.seq (.reg 1 x6r1 none)
  (.seq (.seq (.reg 2 x6r2 none)
  (.block 0
    (.loop x6l3)))
  (.seq (.reg 7 x6r7 none)
  .ret))))
def x6 : XFunc := ⟨27, 2, [.tmp 4], x6b⟩
theorem x6_ok : chkF Tryz.prog Tryz.f6 x6 = true := by kernel_rfl
theorem x6_eq : x6.body = x6b ∧ x6.res = [.tmp 4] ∧ x6.np = 2 := ⟨rfl, rfl, rfl⟩
abbrev x7r0 : List XOper := [
  ⟨(some 2), none, .alloc [(.int .i64 0), (.int .i64 0), (.int .u64 0), (.int .u64 0), (.int .i64 0), (.int .i64 0)]⟩,
  ⟨(some 3), none, .mv (.c (.int .i64 0))⟩]
abbrev x7r1 : List XOper := [
  ⟨(some 4), none, .alloc [(.int .i64 0), (.int .i64 0), (.int .u64 0), (.int .u64 0), (.int .i64 0), (.int .i64 0)]⟩]
abbrev x7r2 : List XOper := [
  ⟨(some 7), none, .mv (.t 0)⟩,
  ⟨(some 8), none, .lenV (.t 7)⟩,
  ⟨(some 9), none, .mv (.c (.int .i64 0))⟩]
abbrev x7r3 : List XOper := [
  ⟨(some 10), none, .bin .lss (.t 9) (.t 8)⟩]
abbrev x7r4 : List XOper := [
  ⟨(some 11), none, .iaS 1 (.t 7) (.t 9)⟩,
  ⟨(some 12), none, .load false 1 (.t 11)⟩,
  ⟨(some 6), none, .mv (.t 12)⟩]
abbrev x7r5 : List XOper := [
  ⟨(some 13), none, .mv (.t 6)⟩,
  ⟨(some 14), none, .call (.c (.fn (.func 20) [] [])) [(.t 13)]⟩,
  ⟨(some 15), none, .un .not (.t 14)⟩]
abbrev x7r6 : List XOper := [
  ⟨(some 16), none, .build [(.int .i64 0), (.int .i64 0), (.int .u64 0), (.int .u64 0), (.int .i64 0), (.int .i64 0)] []⟩,
  ⟨none, none, .store 6 (.t 2) (.t 16)⟩,
  ⟨(some 3), none, .mv (.c (.int .i64 3))⟩]
abbrev x7r7 : List XOper := [
  ⟨(some 17), none, .load true 6 (.t 4)⟩,
  ⟨(some 18), none, .mv (.t 6)⟩,
  ⟨(some 19), none, .call (.c (.fn (.func 22) [] [])) [(.t 18)]⟩,
  ⟨(some 20), none, .call (.c (.fn (.func 21) [] [])) [(.t 17), (.t 19)]⟩,
  ⟨none, none, .store 6 (.t 4) (.t 20)⟩]
abbrev x7r8 : List XOper := [
  ⟨(some 21), none, .bin .add (.t 9) (.c (.int .i64 1))⟩,
  ⟨(some 9), none, .mv (.t 21)⟩]
abbrev x7l3 : XCode :=
  (.seq (.reg 3 x7r3 none)
  (.seq (.cond (.t 10)
    .skip
    (.exit 0))
  (.seq (.block 1
    (.seq (.reg 4 x7r4 none)
    (.seq (.seq (.reg 5 x7r5 none)
    (.cond (.t 15)
      (.seq (.reg 6 x7r6 none)
      .ret)
      .skip))
    (.reg 7 x7r7 (some ⟨[(0, 2)]⟩)))))
  (.reg 8 x7r8 none))))
abbrev x7r9 : List XOper := [
  ⟨(some 22), none, .load true 6 (.t 4)⟩,
  ⟨none, none, .store 6 (.t 2) (.t 22)⟩,
  ⟨(some 3), none, .mv (.c (.int .i64 0))⟩]
abbrev x7b : XCode :=
  (.seq (.reg 0 x7r0 none)
  (.seq (.reg 1 x7r1 none)
  (.seq (.seq (.reg 2 x7r2 none)
  (.block 0
    (.loop x7l3)))
  (.seq (.reg 9 x7r9 none)
  .ret))))
def x7 : XFunc := ⟨23, 1, [.cell 2 true 6, .tmp 3], x7b⟩
theorem x7_ok : chkF Tryz.prog Tryz.f7 x7 = true := by kernel_rfl
theorem x7_eq : x7.body = x7b ∧ x7.res = [.cell 2 true 6, .tmp 3] ∧ x7.np = 1 := ⟨rfl, rfl, rfl⟩
abbrev x9r0 : List XOper := [
  ⟨(some 2), none, .box (.t 0)⟩,
  ⟨(some 3), none, .box (.t 1)⟩,
  ⟨(some 4), none, .alloc [(.int .u64 0), (.int .u64 0)]⟩,
  ⟨(some 5), none, .mv (.c (.bool false))⟩]
abbrev x9r1 : List XOper := [
  ⟨(some 12), none, .fa 1 (.t 2)⟩,
  ⟨(some 13), none, .load false 1 (.t 12)⟩,
  ⟨(some 14), none, .fa 1 (.t 3)⟩,
  ⟨(some 15), none, .load false 1 (.t 14)⟩,
  ⟨(some 16), none, .call (.c (.fn (.func 24) [] [])) [(.t 13), (.t 15)]⟩,
  ⟨(some 6), none, .alloc [(.int .u64 0), (.int .u64 0)]⟩,
  ⟨none, none, .store 2 (.t 6) (.t 16)⟩]
abbrev x9r2 : List XOper := [
  ⟨(some 17), none, .fa 0 (.t 2)⟩,
  ⟨(some 18), none, .load false 1 (.t 17)⟩,
  ⟨(some 19), none, .bin .gtr (.t 18) (.c (.int .u64 0))⟩,
  ⟨(some 20), none, .mv (.t 19)⟩,
  ⟨(some 21), (some (20, true)), .fa 0 (.t 3)⟩,
  ⟨(some 22), (some (20, true)), .load false 1 (.t 21)⟩,
  ⟨(some 23), (some (20, true)), .bin .gtr (.t 22) (.c (.int .u64 0))⟩,
  ⟨(some 24), none, .pick (.t 20) (.t 23) (.c (.bool false))⟩,
  ⟨(some 7), none, .mv (.t 24)⟩]
abbrev x9r3 : List XOper := [
  ⟨(some 25), none, .fa 0 (.t 2)⟩,
  ⟨(some 26), none, .load false 1 (.t 25)⟩,
  ⟨(some 27), none, .fa 1 (.t 3)⟩,
  ⟨(some 28), none, .load false 1 (.t 27)⟩,
  ⟨(some 29), none, .call (.c (.fn (.func 24) [] [])) [(.t 26), (.t 28)]⟩,
  ⟨(some 30), none, .fa 1 (.t 2)⟩,
  ⟨(some 31), none, .load false 1 (.t 30)⟩,
  ⟨(some 32), none, .fa 0 (.t 3)⟩,
  ⟨(some 33), none, .load false 1 (.t 32)⟩,
  ⟨(some 34), none, .call (.c (.fn (.func 24) [] [])) [(.t 31), (.t 33)]⟩,
  ⟨(some 35), none, .build [(.int .u64 0), (.int .u64 0), (.int .u64 0), (.int .u64 0)] [(0, 2, (.t 29)), (2, 2, (.t 34))]⟩,
  ⟨(some 36), none, .mv (.c (.int .i64 0))⟩]
abbrev x9r4 : List XOper := [
  ⟨(some 37), none, .bin .lss (.t 36) (.c (.int .i64 2))⟩]
abbrev x9r5 : List XOper := [
  ⟨(some 38), none, .ixA true 2 2 (.t 35) (.t 36)⟩,
  ⟨(some 9), none, .alloc [(.int .u64 0), (.int .u64 0)]⟩,
  ⟨none, none, .store 2 (.t 9) (.t 38)⟩]
abbrev x9r6 : List XOper := [
  ⟨(some 40), none, .fa 0 (.t 6)⟩,
  ⟨(some 41), none, .load false 1 (.t 40)⟩,
  ⟨(some 42), none, .fa 1 (.t 9)⟩,
  ⟨(some 43), none, .load false 1 (.t 42)⟩,
  ⟨(some 44), none, .call (.c (.fn (.func 25) [] [])) [(.t 41), (.t 43), (.c (.int .u64 0))]⟩,
  ⟨(some 39), none, .mv (.t 44)⟩,
  ⟨(some 45), none, .ext (.t 39) 0⟩,
  ⟨(some 46), none, .ext (.t 39) 1⟩,
  ⟨(some 10), none, .mv (.t 45)⟩,
  ⟨(some 11), none, .mv (.t 46)⟩]
abbrev x9r7 : List XOper := [
  ⟨(some 47), none, .mv (.t 10)⟩,
  ⟨(some 48), none, .mv (.t 7)⟩,
  ⟨(some 49), none, .mv (.t 48)⟩,
  ⟨(some 50), (some (49, false)), .mv (.t 11)⟩,
  ⟨(some 51), (some (49, false)), .bin .gtr (.t 50) (.c (.int .u64 0))⟩,
  ⟨(some 52), none, .pick (.t 49) (.c (.bool true)) (.t 51)⟩,
  ⟨(some 53), none, .mv (.t 52)⟩,
  ⟨(some 54), (some (53, false)), .fa 0 (.t 9)⟩,
  ⟨(some 55), (some (53, false)), .load false 1 (.t 54)⟩,
  ⟨(some 56), (some (53, false)), .bin .gtr (.t 55) (.c (.int .u64 0))⟩,
  ⟨(some 57), none, .pick (.t 53) (.c (.bool true)) (.t 56)⟩,
  ⟨(some 58), none, .fa 0 (.t 6)⟩,
  ⟨none, none, .store 1 (.t 58) (.t 47)⟩,
  ⟨(some 7), none, .mv (.t 57)⟩]
abbrev x9r8 : List XOper := [
  ⟨(some 59), none, .bin .add (.t 36) (.c (.int .i64 1))⟩,
  ⟨(some 36), none, .mv (.t 59)⟩]
abbrev x9l4 : XCode :=
  (.seq (.reg 4 x9r4 none)
  (.seq (.cond (.t 37)
    .skip
    (.exit 0))
  (.seq (.block 1
    (.seq (.reg 5 x9r5 none)
    (.seq (.reg 6 x9r6 none)
    (.reg 7 x9r7 (some ⟨[(8, 12)]⟩)))))
  (.reg 8 x9r8 none))))
abbrev x9r9 : List XOper := [
  ⟨(some 60), none, .load true 2 (.t 6)⟩,
  ⟨(some 61), none, .mv (.t 7)⟩,
  ⟨none, none, .store 2 (.t 4) (.t 60)⟩,
  ⟨(some 5), none, .mv (.t 61)⟩]
abbrev x9b : XCode :=
  (.seq (.reg 0 x9r0 none)
  (.seq (.reg 1 x9r1 none)
  (.seq (.reg 2 x9r2 none)
  (.seq (.seq (.reg 3 x9r3 (some ⟨[(4, 6), (4, 8)]⟩))
  (.block 0
    (.loop x9l4)))
  (.seq (.reg 9 x9r9 none)
  .ret)))))
def x9 : XFunc := ⟨62, 2, [.cell 4 true 2, .tmp 5], x9b⟩
theorem x9_ok : chkF Tryz.prog Tryz.f9 x9 = true := by kernel_rfl
theorem x9_eq : x9.body = x9b ∧ x9.res = [.cell 4 true 2, .tmp 5] ∧ x9.np = 2 := ⟨rfl, rfl, rfl⟩
abbrev x10r0 : List XOper := [
  ⟨(some 2), none, .box (.t 0)⟩,
  ⟨(some 3), none, .box (.t 1)⟩,
  ⟨(some 4), none, .alloc [(.int .u64 0), (.int .u64 0)]⟩,
  ⟨(some 5), none, .mv (.c (.bool false))⟩]
abbrev x10r1 : List XOper := [
  ⟨(some 11), none, .load true 2 (.t 2)⟩,
  ⟨(some 12), none, .call (.c (.fn (.func 26) [] [])) [(.t 11)]⟩,
  ⟨(some 13), none, .load true 2 (.t 3)⟩,
  ⟨(some 14), none, .call (.c (.fn (.func 26) [] [])) [(.t 13)]⟩,
  ⟨(some 6), none, .alloc [(.int .u64 0), (.int .u64 0)]⟩,
  ⟨(some 7), none, .alloc [(.int .u64 0), (.int .u64 0)]⟩,
  ⟨none, none, .store 2 (.t 6) (.t 12)⟩,
  ⟨none, none, .store 2 (.t 7) (.t 14)⟩]
abbrev x10r2 : List XOper := [
  ⟨(some 8), none, .alloc [(.int .u64 0), (.int .u64 0)]⟩]
abbrev x10r3 : List XOper := [
  ⟨(some 9), none, .mv (.c (.int .u64 0))⟩]
abbrev x10r4 : List XOper := [
  ⟨(some 15), none, .mv (.c (.int .i64 0))⟩]
abbrev x10r5 : List XOper := [
  ⟨(some 16), none, .bin .lss (.t 15) (.c (.int .i64 2))⟩]
abbrev x10r6 : List XOper := [
  ⟨(some 17), none, .mv (.t 15)⟩,
  ⟨(some 10), none, .mv (.t 17)⟩]
abbrev x10r7 : List XOper := [
  ⟨(some 19), none, .mv (.t 10)⟩,
  ⟨(some 20), none, .mv (.t 10)⟩,
  ⟨(some 21), none, .iaA 2 1 (.t 6) (.t 20)⟩,
  ⟨(some 22), none, .load false 1 (.t 21)⟩,
  ⟨(some 23), none, .mv (.t 10)⟩,
  ⟨(some 24), none, .iaA 2 1 (.t 7) (.t 23)⟩,
  ⟨(some 25), none, .load false 1 (.t 24)⟩,
  ⟨(some 26), none, .mv (.t 9)⟩,
  ⟨(some 27), none, .call (.c (.fn (.func 25) [] [])) [(.t 22), (.t 25), (.t 26)]⟩,
  ⟨(some 18), none, .mv (.t 27)⟩,
  ⟨(some 28), none, .ext (.t 18) 0⟩,
  ⟨(some 29), none, .ext (.t 18) 1⟩,
  ⟨(some 30), none, .iaA 2 1 (.t 8) (.t 19)⟩,
  ⟨none, none, .store 1 (.t 30) (.t 28)⟩,
  ⟨(some 9), none, .mv (.t 29)⟩]
abbrev x10r8 : List XOper := [
  ⟨(some 31), none, .bin .add (.t 15) (.c (.int .i64 1))⟩,
  ⟨(some 15), none, .mv (.t 31)⟩]
abbrev x10l5 : XCode :=
  (.seq (.reg 5 x10r5 none)
  (.seq (.cond (.t 16)
    .skip
    (.exit 0))
  (.seq (.block 1
    (.seq (.reg 6 x10r6 none)
    (.reg 7 x10r7 (some ⟨[]⟩))))
  (.reg 8 x10r8 none))))
abbrev x10r9 : List XOper := [
  ⟨(some 32), none, .iaA 2 1 (.t 8) (.c (.int .i64 1))⟩,
  ⟨(some 33), none, .load false 1 (.t 32)⟩,
  ⟨(some 34), none, .iaA 2 1 (.t 8) (.c (.int .i64 0))⟩,
  ⟨(some 35), none, .load false 1 (.t 34)⟩,
  ⟨(some 36), none, .build [(.int .u64 0), (.int .u64 0)] [(0, 1, (.t 33)), (1, 1, (.t 35))]⟩,
  ⟨(some 37), none, .mv (.t 9)⟩,
  ⟨(some 38), none, .bin .gtr (.t 37) (.c (.int .u64 0))⟩,
  ⟨none, none, .store 2 (.t 4) (.t 36)⟩,
  ⟨(some 5), none, .mv (.t 38)⟩]
abbrev x10b : XCode :=
  (.seq (.reg 0 x10r0 none)
  (.seq (.reg 1 x10r1 (some ⟨[(1, 2), (0, 4), (1, 4), (2, 4), (3, 4), (0, 5), (1, 5), (2, 5), (3, 5), (4, 5)]⟩))
  (.seq (.reg 2 x10r2 none)
  (.seq (.reg 3 x10r3 none)
  (.seq (.seq (.reg 4 x10r4 none)
  (.block 0
    (.loop x10l5)))
  (.seq (.reg 9 x10r9 none)
  .ret))))))
def x10 : XFunc := ⟨39, 2, [.cell 4 true 2, .tmp 5], x10b⟩
theorem x10_ok : chkF Tryz.prog Tryz.f10 x10 = true := by kernel_rfl
theorem x10_eq : x10.body = x10b ∧ x10.res = [.cell 4 true 2, .tmp 5] ∧ x10.np = 2 := ⟨rfl, rfl, rfl⟩
abbrev x20r0 : List XOper := [
  ⟨(some 2), none, .mv (.c (.bool false))⟩]
abbrev x20r1 : List XOper := [
  ⟨(some 3), none, .mv (.t 0)⟩,
  ⟨(some 4), none, .bin .geq (.t 3) (.c (.int .i64 (-1000000)))⟩,
  ⟨(some 5), none, .mv (.t 4)⟩,
  ⟨(some 6), (some (5, true)), .mv (.t 0)⟩,
  ⟨(some 7), (some (5, true)), .bin .leq (.t 6) (.c (.int .i64 1000000))⟩,
  ⟨(some 8), none, .pick (.t 5) (.t 7) (.c (.bool false))⟩,
  ⟨(some 2), none, .mv (.t 8)⟩]
abbrev x20b : XCode :=
  (.seq (.reg 0 x20r0 none)
  (.seq (.reg 1 x20r1 none)
  .ret))
def x20 : XFunc := ⟨9, 1, [.tmp 2], x20b⟩
theorem x20_ok : chkF Tryz.prog Tryz.f20 x20 = true := by kernel_rfl
theorem x20_eq : x20.body = x20b ∧ x20.res = [.tmp 2] ∧ x20.np = 1 := ⟨rfl, rfl, rfl⟩
abbrev x21r0 : List XOper := [
  ⟨(some 2), none, .box (.t 0)⟩,
  ⟨(some 3), none, .box (.t 1)⟩,
  ⟨(some 4), none, .alloc [(.int .i64 0), (.int .i64 0), (.int .u64 0), (.int .u64 0), (.int .i64 0), (.int .i64 0)]⟩]
abbrev x21r1 : List XOper := [
  ⟨(some 8), none, .fa 0 (.t 2)⟩,
  ⟨(some 9), none, .load false 1 (.t 8)⟩,
  ⟨(some 10), none, .bin .eql (.t 9) (.c (.int .i64 0))⟩,
  ⟨(some 7), none, .mv (.t 10)⟩]
abbrev x21r2 : List XOper := [
  ⟨(some 11), none, .load true 6 (.t 3)⟩,
  ⟨none, none, .store 6 (.t 4) (.t 11)⟩]
abbrev x21r3 : List XOper := [
  ⟨(some 13), none, .fa 0 (.t 3)⟩,
  ⟨(some 14), none, .load false 1 (.t 13)⟩,
  ⟨(some 15), none, .bin .eql (.t 14) (.c (.int .i64 0))⟩,
  ⟨(some 12), none, .mv (.t 15)⟩]
abbrev x21r4 : List XOper := [
  ⟨(some 16), none, .load true 6 (.t 2)⟩,
  ⟨none, none, .store 6 (.t 4) (.t 16)⟩]
abbrev x21r5 : List XOper := [
  ⟨(some 18), none, .fa 2 (.t 2)⟩,
  ⟨(some 19), none, .load true 2 (.t 18)⟩,
  ⟨(some 20), none, .fa 2 (.t 3)⟩,
  ⟨(some 21), none, .load true 2 (.t 20)⟩,
  ⟨(some 22), none, .call (.c (.fn (.func 10) [] [])) [(.t 19), (.t 21)]⟩,
  ⟨(some 17), none, .mv (.t 22)⟩,
  ⟨(some 23), none, .ext (.t 17) 0⟩,
  ⟨(some 24), none, .ext (.t 17) 1⟩,
  ⟨(some 5), none, .alloc [(.int .u64 0), (.int .u64 0)]⟩,
  ⟨none, none, .store 2 (.t 5) (.t 23)⟩,
  ⟨(some 6), none, .mv (.t 24)⟩]
abbrev x21r6 : List XOper := [
  ⟨(some 25), none, .fa 0 (.t 2)⟩,
  ⟨(some 26), none, .load false 1 (.t 25)⟩,
  ⟨(some 27), none, .fa 0 (.t 3)⟩,
  ⟨(some 28), none, .load false 1 (.t 27)⟩,
  ⟨(some 29), none, .bin .add (.t 26) (.t 28)⟩,
  ⟨(some 30), none, .fa 1 (.t 2)⟩,
  ⟨(some 31), none, .load false 1 (.t 30)⟩,
  ⟨(some 32), none, .fa 1 (.t 3)⟩,
  ⟨(some 33), none, .load false 1 (.t 32)⟩,
  ⟨(some 34), none, .bin .add (.t 31) (.t 33)⟩,
  ⟨(some 35), none, .load true 2 (.t 5)⟩,
  ⟨(some 36), none, .fa 4 (.t 2)⟩,
  ⟨(some 37), none, .load false 1 (.t 36)⟩,
  ⟨(some 38), none, .fa 4 (.t 3)⟩,
  ⟨(some 39), none, .load false 1 (.t 38)⟩,
  ⟨(some 40), none, .mnx false (.t 37) [(.t 39)]⟩,
  ⟨(some 41), none, .fa 5 (.t 2)⟩,
  ⟨(some 42), none, .load false 1 (.t 41)⟩,
  ⟨(some 43), none, .fa 5 (.t 3)⟩,
  ⟨(some 44), none, .load false 1 (.t 43)⟩,
  ⟨(some 45), none, .mnx true (.t 42) [(.t 44)]⟩,
  ⟨(some 46), none, .build [(.int .i64 0), (.int .i64 0), (.int .u64 0), (.int .u64 0), (.int .i64 0), (.int .i64 0)] [(0, 1, (.t 29)), (1, 1, (.t 34)), (2, 2, (.t 35)), (4, 1, (.t 40)), (5, 1, (.t 45))]⟩,
  ⟨none, none, .store 6 (.t 4) (.t 46)⟩]
abbrev x21b : XCode :=
  (.seq (.reg 0 x21r0 none)
  (.seq (.block 0
    (.seq (.reg 1 x21r1 none)
    (.cond (.t 7)
      (.seq (.reg 2 x21r2 none)
      .ret)
      (.seq (.reg 3 x21r3 none)
      (.cond (.t 12)
        (.seq (.reg 4 x21r4 none)
        .ret)
        .skip)))))
  (.seq (.reg 5 x21r5 none)
  (.seq (.reg 6 x21r6 none)
  .ret))))
def x21 : XFunc := ⟨47, 2, [.cell 4 true 6], x21b⟩
theorem x21_ok : chkF Tryz.prog Tryz.f21 x21 = true := by kernel_rfl
theorem x21_eq : x21.body = x21b ∧ x21.res = [.cell 4 true 6] ∧ x21.np = 2 := ⟨rfl, rfl, rfl⟩
abbrev x22r0 : List XOper := [
  ⟨(some 2), none, .alloc [(.int .i64 0), (.int .i64 0), (.int .u64 0), (.int .u64 0), (.int .i64 0), (.int .i64 0)]⟩]
abbrev x22r1 : List XOper := [
  ⟨(some 3), none, .mv (.t 0)⟩,
  ⟨(some 4), none, .mv (.t 0)⟩,
  ⟨(some 5), none, .call (.c (.fn (.func 48) [] [])) [(.t 4)]⟩,
  ⟨(some 6), none, .mv (.t 0)⟩,
  ⟨(some 7), none, .call (.c (.fn (.func 48) [] [])) [(.t 6)]⟩,
  ⟨(some 8), none, .call (.c (.fn (.func 24) [] [])) [(.t 5), (.t 7)]⟩,
  ⟨(some 9), none, .mv (.t 0)⟩,
  ⟨(some 10), none, .mv (.t 0)⟩,
  ⟨(some 11), none, .build [(.int .i64 0), (.int .i64 0), (.int .u64 0), (.int .u64 0), (.int .i64 0), (.int .i64 0)] [(0, 1, (.c (.int .i64 1))), (1, 1, (.t 3)), (2, 2, (.t 8)), (4, 1, (.t 9)), (5, 1, (.t 10))]⟩,
  ⟨none, none, .store 6 (.t 2) (.t 11)⟩]
abbrev x22b : XCode :=
  (.seq (.reg 0 x22r0 none)
  (.seq (.reg 1 x22r1 none)
  .ret))
def x22 : XFunc := ⟨12, 1, [.cell 2 true 6], x22b⟩
theorem x22_ok : chkF Tryz.prog Tryz.f22 x22 = true := by kernel_rfl
theorem x22_eq : x22.body = x22b ∧ x22.res = [.cell 2 true 6] ∧ x22.np = 1 := ⟨rfl, rfl, rfl⟩
abbrev x24r0 : List XOper := [
  ⟨(some 4), none, .alloc [(.int .u64 0), (.int .u64 0)]⟩]
abbrev x24r1 : List XOper := [
  ⟨(some 8), none, .mv (.t 0)⟩,
  ⟨(some 9), none, .mv (.t 1)⟩,
  ⟨(some 10), none, .call (.c (.fn (.func 52) [] [])) [(.t 8), (.t 9)]⟩,
  ⟨(some 7), none, .mv (.t 10)⟩,
  ⟨(some 11), none, .ext (.t 7) 0⟩,
  ⟨(some 12), none, .ext (.t 7) 1⟩,
  ⟨(some 5), none, .mv (.t 11)⟩,
  ⟨(some 6), none, .mv (.t 12)⟩]
abbrev x24r2 : List XOper := [
  ⟨(some 13), none, .mv (.t 5)⟩,
  ⟨(some 14), none, .mv (.t 6)⟩,
  ⟨(some 15), none, .build [(.int .u64 0), (.int .u64 0)] [(0, 1, (.t 13)), (1, 1, (.t 14))]⟩,
  ⟨none, none, .store 2 (.t 4) (.t 15)⟩]
abbrev x24b : XCode :=
  (.seq (.reg 0 x24r0 none)
  (.seq (.reg 1 x24r1 none)
  (.seq (.reg 2 x24r2 none)
  .ret)))
def x24 : XFunc := ⟨16, 2, [.cell 4 true 2], x24b⟩
theorem x24_ok : chkF Tryz.prog Tryz.f24 x24 = true := by kernel_rfl
theorem x24_eq : x24.body = x24b ∧ x24.res = [.cell 4 true 2] ∧ x24.np = 2 := ⟨rfl, rfl, rfl⟩
abbrev x26r0 : List XOper := [
  ⟨(some 1), none, .box (.t 0)⟩,
  ⟨(some 2), none, .alloc [(.int .u64 0), (.int .u64 0)]⟩]
abbrev x26r1 : List XOper := [
  ⟨(some 3), none, .fa 1 (.t 1)⟩,
  ⟨(some 4), none, .load false 1 (.t 3)⟩,
  ⟨(some 5), none, .fa 0 (.t 1)⟩,
  ⟨(some 6), none, .load false 1 (.t 5)⟩,
  ⟨(some 7), none, .build [(.int .u64 0), (.int .u64 0)] [(0, 1, (.t 4)), (1, 1, (.t 6))]⟩,
  ⟨none, none, .store 2 (.t 2) (.t 7)⟩]
abbrev x26b : XCode :=
  (.seq (.reg 0 x26r0 none)
  (.seq (.reg 1 x26r1 none)
  .ret))
def x26 : XFunc := ⟨8, 1, [.cell 2 true 2], x26b⟩
theorem x26_ok : chkF Tryz.prog Tryz.f26 x26 = true := by kernel_rfl
theorem x26_eq : x26.body = x26b ∧ x26.res = [.cell 2 true 2] ∧ x26.np = 1 := ⟨rfl, rfl, rfl⟩
abbrev x48r0 : List XOper := [
  ⟨(some 2), none, .mv (.c (.int .u64 0))⟩]
abbrev x48r1 : List XOper := [
  ⟨(some 3), none, .mv (.t 0)⟩,
  ⟨(some 4), none, .mv (.t 0)⟩,
  ⟨(some 5), none, .un .neg (.t 4)⟩,
  ⟨(some 6), none, .mnx true (.t 3) [(.t 5)]⟩,
  ⟨(some 7), none, .conv .u64 (.t 6)⟩,
  ⟨(some 2), none, .mv (.t 7)⟩]
abbrev x48b : XCode :=
  (.seq (.reg 0 x48r0 none)
  (.seq (.reg 1 x48r1 none)
  .ret))
def x48 : XFunc := ⟨8, 1, [.tmp 2], x48b⟩
theorem x48_ok : chkF Tryz.prog Tryz.f48 x48 = true := by kernel_rfl
theorem x48_eq : x48.body = x48b ∧ x48.res = [.tmp 2] ∧ x48.np = 1 := ⟨rfl, rfl, rfl⟩
abbrev x52r0 : List XOper := [
  ⟨(some 4), none, .mv (.c (.int .u64 0))⟩,
  ⟨(some 5), none, .mv (.c (.int .u64 0))⟩]
abbrev x52r1 : List XOper := [
  ⟨(some 14), none, .mv (.t 0)⟩,
  ⟨(some 15), none, .bin .and (.t 14) (.c (.int .u64 4294967295))⟩,
  ⟨(some 6), none, .mv (.t 15)⟩]
abbrev x52r2 : List XOper := [
  ⟨(some 16), none, .mv (.t 0)⟩,
  ⟨(some 17), none, .bin .shr (.t 16) (.c (.int .u64 32))⟩,
  ⟨(some 7), none, .mv (.t 17)⟩]
abbrev x52r3 : List XOper := [
  ⟨(some 18), none, .mv (.t 1)⟩,
  ⟨(some 19), none, .bin .and (.t 18) (.c (.int .u64 4294967295))⟩,
  ⟨(some 8), none, .mv (.t 19)⟩]
abbrev x52r4 : List XOper := [
  ⟨(some 20), none, .mv (.t 1)⟩,
  ⟨(some 21), none, .bin .shr (.t 20) (.c (.int .u64 32))⟩,
  ⟨(some 9), none, .mv (.t 21)⟩]
abbrev x52r5 : List XOper := [
  ⟨(some 22), none, .mv (.t 6)⟩,
  ⟨(some 23), none, .mv (.t 8)⟩,
  ⟨(some 24), none, .bin .mul (.t 22) (.t 23)⟩,
  ⟨(some 10), none, .mv (.t 24)⟩]
abbrev x52r6 : List XOper := [
  ⟨(some 25), none, .mv (.t 7)⟩,
  ⟨(some 26), none, .mv (.t 8)⟩,
  ⟨(some 27), none, .bin .mul (.t 25) (.t 26)⟩,
  ⟨(some 28), none, .mv (.t 10)⟩,
  ⟨(some 29), none, .bin .shr (.t 28) (.c (.int .u64 32))⟩,
  ⟨(some 30), none, .bin .add (.t 27) (.t 29)⟩,
  ⟨(some 11), none, .mv (.t 30)⟩]
abbrev x52r7 : List XOper := [
  ⟨(some 31), none, .mv (.t 11)⟩,
  ⟨(some 32), none, .bin .and (.t 31) (.c (.int .u64 4294967295))⟩,
  ⟨(some 12), none, .mv (.t 32)⟩]
abbrev x52r8 : List XOper := [
  ⟨(some 33), none, .mv (.t 11)⟩,
  ⟨(some 34), none, .bin .shr (.t 33) (.c (.int .u64 32))⟩,
  ⟨(some 13), none, .mv (.t 34)⟩]
abbrev x52r9 : List XOper := [
  ⟨(some 35), none, .mv (.t 12)⟩,
  ⟨(some 36), none, .mv (.t 6)⟩,
  ⟨(some 37), none, .mv (.t 9)⟩,
  ⟨(some 38), none, .bin .mul (.t 36) (.t 37)⟩,
  ⟨(some 39), none, .bin .add (.t 35) (.t 38)⟩,
  ⟨(some 12), none, .mv (.t 39)⟩]
abbrev x52r10 : List XOper := [
  ⟨(some 40), none, .mv (.t 7)⟩,
  ⟨(some 41), none, .mv (.t 9)⟩,
  ⟨(some 42), none, .bin .mul (.t 40) (.t 41)⟩,
  ⟨(some 43), none, .mv (.t 13)⟩,
  ⟨(some 44), none, .bin .add (.t 42) (.t 43)⟩,
  ⟨(some 45), none, .mv (.t 12)⟩,
  ⟨(some 46), none, .bin .shr (.t 45) (.c (.int .u64 32))⟩,
  ⟨(some 47), none, .bin .add (.t 44) (.t 46)⟩,
  ⟨(some 4), none, .mv (.t 47)⟩]
abbrev x52r11 : List XOper := [
  ⟨(some 48), none, .mv (.t 0)⟩,
  ⟨(some 49), none, .mv (.t 1)⟩,
  ⟨(some 50), none, .bin .mul (.t 48) (.t 49)⟩,
  ⟨(some 5), none, .mv (.t 50)⟩]
abbrev x52b : XCode :=
  (.seq (.reg 0 x52r0 none)
  (.seq (.reg 1 x52r1 none)
  (.seq (.reg 2 x52r2 none)
  (.seq (.reg 3 x52r3 none)
  (.seq (.reg 4 x52r4 none)
  (.seq (.reg 5 x52r5 none)
  (.seq (.reg 6 x52r6 none)
  (.seq (.reg 7 x52r7 none)
  (.seq (.reg 8 x52r8 none)
  (.seq (.reg 9 x52r9 none)
  (.seq (.reg 10 x52r10 none)
  (.seq (.reg 11 x52r11 none)
  .ret))))))))))))
def x52 : XFunc := ⟨51, 2, [.tmp 4, .tmp 5], x52b⟩
theorem x52_ok : chkF Tryz.prog Tryz.f52 x52 = true := by kernel_rfl
theorem x52_eq : x52.body = x52b ∧ x52.res = [.tmp 4, .tmp 5] ∧ x52.np = 2 := ⟨rfl, rfl, rfl⟩
abbrev x55r0 : List XOper := [
  ⟨(some 2), none, .box (.t 0)⟩,
  ⟨(some 3), none, .box (.t 1)⟩,
  ⟨(some 4), none, .mv (.c (.bool false))⟩]
abbrev x55r1 : List XOper := [
  ⟨(some 5), none, .fa 0 (.t 2)⟩,
  ⟨(some 6), none, .load false 1 (.t 5)⟩,
  ⟨(some 7), none, .fa 0 (.t 3)⟩,
  ⟨(some 8), none, .load false 1 (.t 7)⟩,
  ⟨(some 9), none, .bin .lss (.t 6) (.t 8)⟩,
  ⟨(some 10), none, .mv (.t 9)⟩,
  ⟨(some 11), (some (10, false)), .fa 0 (.t 2)⟩,
  ⟨(some 12), (some (10, false)), .load false 1 (.t 11)⟩,
  ⟨(some 13), (some (10, false)), .fa 0 (.t 3)⟩,
  ⟨(some 14), (some (10, false)), .load false 1 (.t 13)⟩,
  ⟨(some 15), (some (10, false)), .bin .eql (.t 12) (.t 14)⟩,
  ⟨(some 16), (some (10, false)), .mv (.t 15)⟩,
  ⟨(some 17), (some (16, true)), .fa 1 (.t 2)⟩,
  ⟨(some 18), (some (16, true)), .load false 1 (.t 17)⟩,
  ⟨(some 19), (some (16, true)), .fa 1 (.t 3)⟩,
  ⟨(some 20), (some (16, true)), .load false 1 (.t 19)⟩,
  ⟨(some 21), (some (16, true)), .bin .lss (.t 18) (.t 20)⟩,
  ⟨(some 22), (some (10, false)), .pick (.t 16) (.t 21) (.c (.bool false))⟩,
  ⟨(some 23), none, .pick (.t 10) (.c (.bool true)) (.t 22)⟩,
  ⟨(some 4), none, .mv (.t 23)⟩]
abbrev x55b : XCode :=
  (.seq (.reg 0 x55r0 none)
  (.seq (.reg 1 x55r1 none)
  .ret))
def x55 : XFunc := ⟨24, 2, [.tmp 4], x55b⟩
theorem x55_ok : chkF Tryz.prog Tryz.f55 x55 = true := by kernel_rfl
theorem x55_eq : x55.body = x55b ∧ x55.res = [.tmp 4] ∧ x55.np = 2 := ⟨rfl, rfl, rfl⟩
abbrev x58r0 : List XOper := [
  ⟨(some 2), none, .box (.t 0)⟩,
  ⟨(some 3), none, .box (.t 1)⟩,
  ⟨(some 4), none, .alloc [(.int .u64 0), (.int .u64 0)]⟩,
  ⟨(some 5), none, .alloc [(.int .u64 0), (.int .u64 0)]⟩,
  ⟨(some 6), none, .mv (.c (.int .i64 0))⟩]
abbrev x58r1 : List XOper := [
  ⟨(some 14), none, .load true 2 (.t 3)⟩,
  ⟨(some 15), none, .build [(.int .u64 0), (.int .u64 0)] []⟩,
  ⟨(some 16), none, .eqA false [0, 0] (.t 14) (.t 15)⟩]
abbrev x58r2 : List XOper := [
  ⟨(some 17), none, .build [(.int .u64 0), (.int .u64 0)] []⟩,
  ⟨(some 18), none, .build [(.int .u64 0), (.int .u64 0)] []⟩,
  ⟨none, none, .store 2 (.t 4) (.t 17)⟩,
  ⟨none, none, .store 2 (.t 5) (.t 18)⟩,
  ⟨(some 6), none, .mv (.c (.int .i64 4))⟩]
abbrev x58r3 : List XOper := [
  ⟨(some 19), none, .fa 0 (.t 3)⟩,
  ⟨(some 20), none, .load false 1 (.t 19)⟩,
  ⟨(some 21), none, .bin .eql (.t 20) (.c (.int .u64 0))⟩]
abbrev x58r4 : List XOper := [
  ⟨(some 23), none, .fa 0 (.t 2)⟩,
  ⟨(some 24), none, .load false 1 (.t 23)⟩,
  ⟨(some 25), none, .fa 1 (.t 3)⟩,
  ⟨(some 26), none, .load false 1 (.t 25)⟩,
  ⟨(some 27), none, .call (.c (.fn (.func 81) [] [])) [(.c (.int .u64 0)), (.t 24), (.t 26)]⟩,
  ⟨(some 22), none, .mv (.t 27)⟩,
  ⟨(some 28), none, .ext (.t 22) 0⟩,
  ⟨(some 29), none, .ext (.t 22) 1⟩,
  ⟨(some 7), none, .mv (.t 28)⟩,
  ⟨(some 8), none, .mv (.t 29)⟩]
abbrev x58r5 : List XOper := [
  ⟨(some 31), none, .mv (.t 8)⟩,
  ⟨(some 32), none, .fa 1 (.t 2)⟩,
  ⟨(some 33), none, .load false 1 (.t 32)⟩,
  ⟨(some 34), none, .fa 1 (.t 3)⟩,
  ⟨(some 35), none, .load false 1 (.t 34)⟩,
  ⟨(some 36), none, .call (.c (.fn (.func 81) [] [])) [(.t 31), (.t 33), (.t 35)]⟩,
  ⟨(some 30), none, .mv (.t 36)⟩,
  ⟨(some 37), none, .ext (.t 30) 0⟩,
  ⟨(some 38), none, .ext (.t 30) 1⟩,
  ⟨(some 9), none, .mv (.t 37)⟩,
  ⟨(some 10), none, .mv (.t 38)⟩]
abbrev x58r6 : List XOper := [
  ⟨(some 39), none, .mv (.t 7)⟩,
  ⟨(some 40), none, .mv (.t 9)⟩,
  ⟨(some 41), none, .build [(.int .u64 0), (.int .u64 0)] [(0, 1, (.t 39)), (1, 1, (.t 40))]⟩,
  ⟨(some 42), none, .mv (.t 10)⟩,
  ⟨(some 43), none, .build [(.int .u64 0), (.int .u64 0)] [(1, 1, (.t 42))]⟩,
  ⟨none, none, .store 2 (.t 4) (.t 41)⟩,
  ⟨none, none, .store 2 (.t 5) (.t 43)⟩,
  ⟨(some 6), none, .mv (.c (.int .i64 0))⟩]
abbrev x58r7 : List XOper := [
  ⟨(some 44), none, .build [(.int .u64 0), (.int .u64 0)] []⟩,
  ⟨(some 11), none, .alloc [(.int .u64 0), (.int .u64 0)]⟩,
  ⟨none, none, .store 2 (.t 11) (.t 44)⟩]
abbrev x58r8 : List XOper := [
  ⟨(some 45), none, .fa 0 (.t 3)⟩,
  ⟨(some 46), none, .load false 1 (.t 45)⟩,
  ⟨(some 47), none, .call (.c (.fn (.func 82) [] [])) [(.t 46)]⟩,
  ⟨(some 12), none, .mv (.t 47)⟩]
abbrev x58r9 : List XOper := [
  ⟨(some 48), none, .mv (.t 12)⟩,
  ⟨(some 49), none, .bin .geq (.t 48) (.c (.int .i64 0))⟩]
abbrev x58r11 : List XOper := [
  ⟨(some 52), none, .load true 2 (.t 3)⟩,
  ⟨(some 53), none, .mv (.t 12)⟩,
  ⟨(some 54), none, .call (.c (.fn (.func 83) [] [])) [(.t 52), (.t 53)]⟩,
  ⟨(some 13), none, .alloc [(.int .u64 0), (.int .u64 0)]⟩,
  ⟨none, none, .store 2 (.t 13) (.t 54)⟩]
abbrev x58r12 : List XOper := [
  ⟨(some 55), none, .load true 2 (.t 2)⟩,
  ⟨(some 56), none, .load true 2 (.t 13)⟩,
  ⟨(some 57), none, .call (.c (.fn (.func 55) [] [])) [(.t 55), (.t 56)]⟩]
abbrev x58r13 : List XOper := [
  ⟨(some 59), none, .load true 2 (.t 2)⟩,
  ⟨(some 60), none, .load true 2 (.t 13)⟩,
  ⟨(some 61), none, .call (.c (.fn (.func 80) [] [])) [(.t 59), (.t 60)]⟩,
  ⟨(some 58), none, .mv (.t 61)⟩,
  ⟨(some 62), none, .ext (.t 58) 0⟩,
  ⟨(some 63), none, .ext (.t 58) 1⟩,
  ⟨none, none, .store 2 (.t 2) (.t 62)⟩]
abbrev x58r14 : List XOper := [
  ⟨(some 64), none, .fa 1 (.t 11)⟩,
  ⟨(some 65), none, .load false 1 (.t 64)⟩,
  ⟨(some 66), none, .mv (.t 12)⟩,
  ⟨(some 67), none, .bin .shl (.c (.int .u64 1)) (.t 66)⟩,
  ⟨(some 68), none, .bin .or (.t 65) (.t 67)⟩,
  ⟨(some 69), none, .fa 1 (.t 11)⟩,
  ⟨none, none, .store 1 (.t 69) (.t 68)⟩]
abbrev x58r10 : List XOper := [
  ⟨(some 50), none, .mv (.t 12)⟩,
  ⟨(some 51), none, .bin .sub (.t 50) (.c (.int .i64 1))⟩,
  ⟨(some 12), none, .mv (.t 51)⟩]
abbrev x58l9 : XCode :=
  (.seq (.seq (.reg 9 x58r9 none)
  (.cond (.t 49)
    .skip
    (.exit 0)))
  (.seq (.block 1
    (.seq (.reg 11 x58r11 none)
    (.seq (.seq (.reg 12 x58r12 none)
    (.cond (.t 57)
      (.exit 1)
      .skip))
    (.seq (.reg 13 x58r13 none)
    (.reg 14 x58r14 (some ⟨[]⟩))))))
  (.reg 10 x58r10 none)))
abbrev x58r15 : List XOper := [
  ⟨(some 70), none, .load true 2 (.t 11)⟩,
  ⟨(some 71), none, .load true 2 (.t 2)⟩,
  ⟨none, none, .store 2 (.t 4) (.t 70)⟩,
  ⟨none, none, .store 2 (.t 5) (.t 71)⟩,
  ⟨(some 6), none, .mv (.c (.int .i64 0))⟩]
abbrev x58b : XCode :=
  (.seq (.reg 0 x58r0 none)
  (.seq (.seq (.reg 1 x58r1 none)
  (.cond (.t 16)
    (.seq (.reg 2 x58r2 none)
    .ret)
    .skip))
  (.seq (.seq (.reg 3 x58r3 none)
  (.cond (.t 21)
    (.seq (.reg 4 x58r4 none)
    (.seq (.reg 5 x58r5 none)
    (.seq (.reg 6 x58r6 none)
    .ret)))
    .skip))
  (.seq (.reg 7 x58r7 none)
  (.seq (.seq (.reg 8 x58r8 none)
  (.block 0
    (.loop x58l9)))
  (.seq (.reg 15 x58r15 (some ⟨[(1, 2)]⟩))
  .ret))))))
def x58 : XFunc := ⟨72, 2, [.cell 4 true 2, .cell 5 true 2, .tmp 6], x58b⟩
theorem x58_ok : chkF Tryz.prog Tryz.f58 x58 = true := by kernel_rfl
theorem x58_eq : x58.body = x58b ∧ x58.res = [.cell 4 true 2, .cell 5 true 2, .tmp 6] ∧ x58.np = 2 := ⟨rfl, rfl, rfl⟩
abbrev x80r0 : List XOper := [
  ⟨(some 2), none, .box (.t 0)⟩,
  ⟨(some 3), none, .box (.t 1)⟩,
  ⟨(some 4), none, .alloc [(.int .u64 0), (.int .u64 0)]⟩,
  ⟨(some 5), none, .mv (.c (.bool false))⟩]
abbrev x80r1 : List XOper := [
  ⟨(some 11), none, .load true 2 (.t 2)⟩,
  ⟨(some 12), none, .call (.c (.fn (.func 26) [] [])) [(.t 11)]⟩,
  ⟨(some 13), none, .load true 2 (.t 3)⟩,
  ⟨(some 14), none, .call (.c (.fn (.func 26) [] [])) [(.t 13)]⟩,
  ⟨(some 6), none, .alloc [(.int .u64 0), (.int .u64 0)]⟩,
  ⟨(some 7), none, .alloc [(.int .u64 0), (.int .u64 0)]⟩,
  ⟨none, none, .store 2 (.t 6) (.t 12)⟩,
  ⟨none, none, .store 2 (.t 7) (.t 14)⟩]
abbrev x80r2 : List XOper := [
  ⟨(some 8), none, .alloc [(.int .u64 0), (.int .u64 0)]⟩]
abbrev x80r3 : List XOper := [
  ⟨(some 9), none, .mv (.c (.int .u64 0))⟩]
abbrev x80r4 : List XOper := [
  ⟨(some 15), none, .mv (.c (.int .i64 0))⟩]
abbrev x80r5 : List XOper := [
  ⟨(some 16), none, .bin .lss (.t 15) (.c (.int .i64 2))⟩]
abbrev x80r6 : List XOper := [
  ⟨(some 17), none, .mv (.t 15)⟩,
  ⟨(some 10), none, .mv (.t 17)⟩]
abbrev x80r7 : List XOper := [
  ⟨(some 19), none, .mv (.t 10)⟩,
  ⟨(some 20), none, .mv (.t 10)⟩,
  ⟨(some 21), none, .iaA 2 1 (.t 6) (.t 20)⟩,
  ⟨(some 22), none, .load false 1 (.t 21)⟩,
  ⟨(some 23), none, .mv (.t 10)⟩,
  ⟨(some 24), none, .iaA 2 1 (.t 7) (.t 23)⟩,
  ⟨(some 25), none, .load false 1 (.t 24)⟩,
  ⟨(some 26), none, .mv (.t 9)⟩,
  ⟨(some 27), none, .call (.c (.fn (.func 114) [] [])) [(.t 22), (.t 25), (.t 26)]⟩,
  ⟨(some 18), none, .mv (.t 27)⟩,
  ⟨(some 28), none, .ext (.t 18) 0⟩,
  ⟨(some 29), none, .ext (.t 18) 1⟩,
  ⟨(some 30), none, .iaA 2 1 (.t 8) (.t 19)⟩,
  ⟨none, none, .store 1 (.t 30) (.t 28)⟩,
  ⟨(some 9), none, .mv (.t 29)⟩]
abbrev x80r8 : List XOper := [
  ⟨(some 31), none, .bin .add (.t 15) (.c (.int .i64 1))⟩,
  ⟨(some 15), none, .mv (.t 31)⟩]
abbrev x80l5 : XCode :=
  (.seq (.reg 5 x80r5 none)
  (.seq (.cond (.t 16)
    .skip
    (.exit 0))
  (.seq (.block 1
    (.seq (.reg 6 x80r6 none)
    (.reg 7 x80r7 (some ⟨[]⟩))))
  (.reg 8 x80r8 none))))
abbrev x80r9 : List XOper := [
  ⟨(some 32), none, .iaA 2 1 (.t 8) (.c (.int .i64 1))⟩,
  ⟨(some 33), none, .load false 1 (.t 32)⟩,
  ⟨(some 34), none, .iaA 2 1 (.t 8) (.c (.int .i64 0))⟩,
  ⟨(some 35), none, .load false 1 (.t 34)⟩,
  ⟨(some 36), none, .build [(.int .u64 0), (.int .u64 0)] [(0, 1, (.t 33)), (1, 1, (.t 35))]⟩,
  ⟨(some 37), none, .mv (.t 9)⟩,
  ⟨(some 38), none, .bin .gtr (.t 37) (.c (.int .u64 0))⟩,
  ⟨none, none, .store 2 (.t 4) (.t 36)⟩,
  ⟨(some 5), none, .mv (.t 38)⟩]
abbrev x80b : XCode :=
  (.seq (.reg 0 x80r0 none)
  (.seq (.reg 1 x80r1 (some ⟨[(1, 2), (0, 4), (1, 4), (2, 4), (3, 4), (0, 5), (1, 5), (2, 5), (3, 5), (4, 5)]⟩))
  (.seq (.reg 2 x80r2 none)
  (.seq (.reg 3 x80r3 none)
  (.seq (.seq (.reg 4 x80r4 none)
  (.block 0
    (.loop x80l5)))
  (.seq (.reg 9 x80r9 none)
  .ret))))))
def x80 : XFunc := ⟨39, 2, [.cell 4 true 2, .tmp 5], x80b⟩
theorem x80_ok : chkF Tryz.prog Tryz.f80 x80 = true := by kernel_rfl
theorem x80_eq : x80.body = x80b ∧ x80.res = [.cell 4 true 2, .tmp 5] ∧ x80.np = 2 := ⟨rfl, rfl, rfl⟩
abbrev x81r0 : List XOper := [
  ⟨(some 6), none, .mv (.c (.int .u64 0))⟩,
  ⟨(some 7), none, .mv (.c (.int .u64 0))⟩]
abbrev x81r1 : List XOper := [
  ⟨(some 19), none, .mv (.t 2)⟩,
  ⟨(some 20), none, .bin .eql (.t 19) (.c (.int .u64 0))⟩]
abbrev x81r2 : List XOper := [
  ⟨(some 21), none, .bad⟩,
  ⟨none, none, .bad⟩]
abbrev x81r3 : List XOper := [
  ⟨(some 22), none, .mv (.t 2)⟩,
  ⟨(some 23), none, .mv (.t 0)⟩,
  ⟨(some 24), none, .bin .leq (.t 22) (.t 23)⟩]
abbrev x81r4 : List XOper := [
  ⟨(some 25), none, .bad⟩,
  ⟨none, none, .bad⟩]
abbrev x81r5 : List XOper := [
  ⟨(some 26), none, .mv (.t 0)⟩,
  ⟨(some 27), none, .bin .eql (.t 26) (.c (.int .u64 0))⟩]
abbrev x81r6 : List XOper := [
  ⟨(some 28), none, .mv (.t 1)⟩,
  ⟨(some 29), none, .mv (.t 2)⟩,
  ⟨(some 30), none, .bin .quo (.t 28) (.t 29)⟩,
  ⟨(some 31), none, .mv (.t 1)⟩,
  ⟨(some 32), none, .mv (.t 2)⟩,
  ⟨(some 33), none, .bin .rem (.t 31) (.t 32)⟩,
  ⟨(some 6), none, .mv (.t 30)⟩,
  ⟨(some 7), none, .mv (.t 33)⟩]
abbrev x81r7 : List XOper := [
  ⟨(some 34), none, .mv (.t 2)⟩,
  ⟨(some 35), none, .call (.c (.fn (.func 82) [] [])) [(.t 34)]⟩,
  ⟨(some 36), none, .conv .u64 (.t 35)⟩,
  ⟨(some 8), none, .mv (.t 36)⟩]
abbrev x81r8 : List XOper := [
  ⟨(some 37), none, .mv (.t 2)⟩,
  ⟨(some 38), none, .mv (.t 8)⟩,
  ⟨(some 39), none, .bin .shl (.t 37) (.t 38)⟩,
  ⟨(some 2), none, .mv (.t 39)⟩]
abbrev x81r9 : List XOper := [
  ⟨(some 40), none, .mv (.t 2)⟩,
  ⟨(some 41), none, .bin .shr (.t 40) (.c (.int .u64 32))⟩,
  ⟨(some 9), none, .mv (.t 41)⟩]
abbrev x81r10 : List XOper := [
  ⟨(some 42), none, .mv (.t 2)⟩,
  ⟨(some 43), none, .bin .and (.t 42) (.c (.int .u64 4294967295))⟩,
  ⟨(some 10), none, .mv (.t 43)⟩]
abbrev x81r11 : List XOper := [
  ⟨(some 44), none, .mv (.t 0)⟩,
  ⟨(some 45), none, .mv (.t 8)⟩,
  ⟨(some 46), none, .bin .shl (.t 44) (.t 45)⟩,
  ⟨(some 47), none, .mv (.t 1)⟩,
  ⟨(some 48), none, .mv (.t 8)⟩,
  ⟨(some 49), none, .bin .sub (.c (.int .u64 64)) (.t 48)⟩,
  ⟨(some 50), none, .bin .shr (.t 47) (.t 49)⟩,
  ⟨(some 51), none, .bin .or (.t 46) (.t 50)⟩,
  ⟨(some 11), none, .mv (.t 51)⟩]
abbrev x81r12 : List XOper := [
  ⟨(some 52), none, .mv (.t 1)⟩,
  ⟨(some 53), none, .mv (.t 8)⟩,
  ⟨(some 54), none, .bin .shl (.t 52) (.t 53)⟩,
  ⟨(some 12), none, .mv (.t 54)⟩]
abbrev x81r13 : List XOper := [
  ⟨(some 55), none, .mv (.t 12)⟩,
  ⟨(some 56), none, .bin .shr (.t 55) (.c (.int .u64 32))⟩,
  ⟨(some 13), none, .mv (.t 56)⟩]
abbrev x81r14 : List XOper := [
  ⟨(some 57), none, .mv (.t 12)⟩,
  ⟨(some 58), none, .bin .and (.t 57) (.c (.int .u64 4294967295))⟩,
  ⟨(some 14), none, .mv (.t 58)⟩]
abbrev x81r15 : List XOper := [
  ⟨(some 59), none, .mv (.t 11)⟩,
  ⟨(some 60), none, .mv (.t 9)⟩,
  ⟨(some 61), none, .bin .quo (.t 59) (.t 60)⟩,
  ⟨(some 15), none, .mv (.t 61)⟩]
abbrev x81r16 : List XOper := [
  ⟨(some 62), none, .mv (.t 11)⟩,
  ⟨(some 63), none, .mv (.t 15)⟩,
  ⟨(some 64), none, .mv (.t 9)⟩,
  ⟨(some 65), none, .bin .mul (.t 63) (.t 64)⟩,
  ⟨(some 66), none, .bin .sub (.t 62) (.t 65)⟩,
  ⟨(some 16), none, .mv (.t 66)⟩]
abbrev x81r17 : List XOper := [
  ⟨(some 67), none, .mv (.t 15)⟩,
  ⟨(some 68), none, .bin .geq (.t 67) (.c (.int .u64 4294967296))⟩,
  ⟨(some 69), none, .mv (.t 68)⟩,
  ⟨(some 70), (some (69, false)), .mv (.t 15)⟩,
  ⟨(some 71), (some (69, false)), .mv (.t 10)⟩,
  ⟨(some 72), (some (69, false)), .bin .mul (.t 70) (.t 71)⟩,
  ⟨(some 73), (some (69, false)), .mv (.t 16)⟩,
  ⟨(some 74), (some (69, false)), .bin .mul (.c (.int .u64 4294967296)) (.t 73)⟩,
  ⟨(some 75), (some (69, false)), .mv (.t 13)⟩,
  ⟨(some 76), (some (69, false)), .bin .add (.t 74) (.t 75)⟩,
  ⟨(some 77), (some (69, false)), .bin .gtr (.t 72) (.t 76)⟩,
  ⟨(some 78), none, .pick (.t 69) (.c (.bool true)) (.t 77)⟩]
abbrev x81r18 : List XOper := [
  ⟨(some 79), none, .mv (.t 15)⟩,
  ⟨(some 80), none, .bin .sub (.t 79) (.c (.int .u64 1))⟩,
  ⟨(some 15), none, .mv (.t 80)⟩]
abbrev x81r19 : List XOper := [
  ⟨(some 81), none, .mv (.t 16)⟩,
  ⟨(some 82), none, .mv (.t 9)⟩,
  ⟨(some 83), none, .bin .add (.t 81) (.t 82)⟩,
  ⟨(some 16), none, .mv (.t 83)⟩]
abbrev x81r20 : List XOper := [
  ⟨(some 84), none, .mv (.t 16)⟩,
  ⟨(some 85), none, .bin .geq (.t 84) (.c (.int .u64 4294967296))⟩]
abbrev x81l17 : XCode :=
  (.seq (.seq (.reg 17 x81r17 none)
  (.cond (.t 78)
    .skip
    (.exit 0)))
  (.block 1
    (.seq (.reg 18 x81r18 none)
    (.seq (.reg 19 x81r19 none)
    (.seq (.reg 20 x81r20 none)
    (.cond (.t 85)
      (.exit 0)
      .skip))))))
abbrev x81r21 : List XOper := [
  ⟨(some 86), none, .mv (.t 11)⟩,
  ⟨(some 87), none, .bin .mul (.t 86) (.c (.int .u64 4294967296))⟩,
  ⟨(some 88), none, .mv (.t 13)⟩,
  ⟨(some 89), none, .bin .add (.t 87) (.t 88)⟩,
  ⟨(some 90), none, .mv (.t 15)⟩,
  ⟨(some 91), none, .mv (.t 2)⟩,
  ⟨(some 92), none, .bin .mul (.t 90) (.t 91)⟩,
  ⟨(some 93), none, .bin .sub (.t 89) (.t 92)⟩,
  ⟨(some 17), none, .mv (.t 93)⟩]
abbrev x81r22 : List XOper := [
  ⟨(some 94), none, .mv (.t 17)⟩,
  ⟨(some 95), none, .mv (.t 9)⟩,
  ⟨(some 96), none, .bin .quo (.t 94) (.t 95)⟩,
  ⟨(some 18), none, .mv (.t 96)⟩]
abbrev x81r23 : List XOper := [
  ⟨(some 97), none, .mv (.t 17)⟩,
  ⟨(some 98), none, .mv (.t 18)⟩,
  ⟨(some 99), none, .mv (.t 9)⟩,
  ⟨(some 100), none, .bin .mul (.t 98) (.t 99)⟩,
  ⟨(some 101), none, .bin .sub (.t 97) (.t 100)⟩,
  ⟨(some 16), none, .mv (.t 101)⟩]
abbrev x81r24 : List XOper := [
  ⟨(some 102), none, .mv (.t 18)⟩,
  ⟨(some 103), none, .bin .geq (.t 102) (.c (.int .u64 4294967296))⟩,
  ⟨(some 104), none, .mv (.t 103)⟩,
  ⟨(some 105), (some (104, false)), .mv (.t 18)⟩,
  ⟨(some 106), (some (104, false)), .mv (.t 10)⟩,
  ⟨(some 107), (some (104, false)), .bin .mul (.t 105) (.t 106)⟩,
  ⟨(some 108), (some (104, false)), .mv (.t 16)⟩,
  ⟨(some 109), (some (104, false)), .bin .mul (.c (.int .u64 4294967296)) (.t 108)⟩,
  ⟨(some 110), (some (104, false)), .mv (.t 14)⟩,
  ⟨(some 111), (some (104, false)), .bin .add (.t 109) (.t 110)⟩,
  ⟨(some 112), (some (104, false)), .bin .gtr (.t 107) (.t 111)⟩,
  ⟨(some 113), none, .pick (.t 104) (.c (.bool true)) (.t 112)⟩]
abbrev x81r25 : List XOper := [
  ⟨(some 114), none, .mv (.t 18)⟩,
  ⟨(some 115), none, .bin .sub (.t 114) (.c (.int .u64 1))⟩,
  ⟨(some 18), none, .mv (.t 115)⟩]
abbrev x81r26 : List XOper := [
  ⟨(some 116), none, .mv (.t 16)⟩,
  ⟨(some 117), none, .mv (.t 9)⟩,
  ⟨(some 118), none, .bin .add (.t 116) (.t 117)⟩,
  ⟨(some 16), none, .mv (.t 118)⟩]
abbrev x81r27 : List XOper := [
  ⟨(some 119), none, .mv (.t 16)⟩,
  ⟨(some 120), none, .bin .geq (.t 119) (.c (.int .u64 4294967296))⟩]
abbrev x81l25 : XCode :=
  (.seq (.seq (.reg 24 x81r24 none)
  (.cond (.t 113)
    .skip
    (.exit 2)))
  (.block 3
    (.seq (.reg 25 x81r25 none)
    (.seq (.reg 26 x81r26 none)
    (.seq (.reg 27 x81r27 none)
    (.cond (.t 120)
      (.exit 2)
      .skip))))))
abbrev x81r28 : List XOper := [
  ⟨(some 121), none, .mv (.t 15)⟩,
  ⟨(some 122), none, .bin .mul (.t 121) (.c (.int .u64 4294967296))⟩,
  ⟨(some 123), none, .mv (.t 18)⟩,
  ⟨(some 124), none, .bin .add (.t 122) (.t 123)⟩,
  ⟨(some 125), none, .mv (.t 17)⟩,
  ⟨(some 126), none, .bin .mul (.t 125) (.c (.int .u64 4294967296))⟩,
  ⟨(some 127), none, .mv (.t 14)⟩,
  ⟨(some 128), none, .bin .add (.t 126) (.t 127)⟩,
  ⟨(some 129), none, .mv (.t 18)⟩,
  ⟨(some 130), none, .mv (.t 2)⟩,
  ⟨(some 131), none, .bin .mul (.t 129) (.t 130)⟩,
  ⟨(some 132), none, .bin .sub (.t 128) (.t 131)⟩,
  ⟨(some 133), none, .mv (.t 8)⟩,
  ⟨(some 134), none, .bin .shr (.t 132) (.t 133)⟩,
  ⟨(some 6), none, .mv (.t 124)⟩,
  ⟨(some 7), none, .mv (.t 134)⟩]
abbrev x81b : XCode :=
  (.seq (.reg 0 x81r0 none)
  (.seq (.seq (.reg 1 x81r1 none)
  (.cond (.t 20)
    (.reg 2 x81r2 none)
    .skip))
  (.seq (.seq (.reg 3 x81r3 none)
  (.cond (.t 24)
    (.reg 4 x81r4 none)
    .skip))
  (.seq (.seq (.reg 5 x81r5 none)
  (.cond (.t 27)
    (.seq (.reg 6 x81r6 (some ⟨[]⟩))
    .ret)
    .skip))
  (.seq (.reg 7 x81r7 none)
  (.seq (.reg 8 x81r8 none)
  (.seq (.reg 9 x81r9 none)
  (.seq (.reg 10 x81r10 none)
  (.seq (.reg 11 x81r11 none)
  (.seq (.reg 12 x81r12 none)
  (.seq (.reg 13 x81r13 none)
  (.seq (.reg 14 x81r14 none)
  (.seq (.reg 15 x81r15 none)
  (.seq (.reg 16 x81r16 none)
  (.seq (.block 0
    (.loop x81l17))
  (.seq (.reg 21 x81r21 none)
  (.seq (.reg 22 x81r22 none)
  (.seq (.reg 23 x81r23 none)
  (.seq (.block 2
    (.loop x81l25))
  (.seq (.reg 28 x81r28 none)
  .ret))))))))))))))))))))
def x81 : XFunc := ⟨135, 3, [.tmp 6, .tmp 7], x81b⟩
theorem x81_ok : chkF Tryz.prog Tryz.f81 x81 = true := by kernel_rfl
theorem x81_eq : x81.body = x81b ∧ x81.res = [.tmp 6, .tmp 7] ∧ x81.np = 3 := ⟨rfl, rfl, rfl⟩
abbrev x82r0 : List XOper := [
  ⟨(some 2), none, .mv (.c (.int .i64 0))⟩]
abbrev x82r1 : List XOper := [
  ⟨(some 3), none, .mv (.t 0)⟩,
  ⟨(some 4), none, .call (.c (.fn (.func 85) [] [])) [(.t 3)]⟩,
  ⟨(some 5), none, .bin .sub (.c (.int .i64 64)) (.t 4)⟩,
  ⟨(some 2), none, .mv (.t 5)⟩]
abbrev x82b : XCode :=
  (.seq (.reg 0 x82r0 none)
  (.seq (.reg 1 x82r1 none)
  .ret))
def x82 : XFunc := ⟨6, 1, [.tmp 2], x82b⟩
theorem x82_ok : chkF Tryz.prog Tryz.f82 x82 = true := by kernel_rfl
theorem x82_eq : x82.body = x82b ∧ x82.res = [.tmp 2] ∧ x82.np = 1 := ⟨rfl, rfl, rfl⟩
abbrev x88r0 : List XOper := [
  ⟨(some 2), none, .mv (.c (.bool false))⟩]
abbrev x88r1 : List XOper := [
  ⟨(some 3), none, .mv (.t 0)⟩,
  ⟨(some 4), none, .bin .geq (.t 3) (.c (.int .i64 0))⟩,
  ⟨(some 5), none, .mv (.t 4)⟩,
  ⟨(some 6), (some (5, true)), .mv (.t 0)⟩,
  ⟨(some 7), (some (5, true)), .bin .lss (.t 6) (.c (.int .i64 7))⟩,
  ⟨(some 8), none, .pick (.t 5) (.t 7) (.c (.bool false))⟩,
  ⟨(some 2), none, .mv (.t 8)⟩]
abbrev x88b : XCode :=
  (.seq (.reg 0 x88r0 none)
  (.seq (.reg 1 x88r1 none)
  .ret))
def x88 : XFunc := ⟨9, 1, [.tmp 2], x88b⟩
theorem x88_ok : chkF Tryz.prog Tryz.f88 x88 = true := by kernel_rfl
theorem x88_eq : x88.body = x88b ∧ x88.res = [.tmp 2] ∧ x88.np = 1 := ⟨rfl, rfl, rfl⟩
abbrev x89r0 : List XOper := [
  ⟨(some 2), none, .mv (.c (.bool false))⟩]
abbrev x89r1 : List XOper := [
  ⟨(some 3), none, .mv (.t 0)⟩,
  ⟨(some 4), none, .bin .geq (.t 3) (.c (.int .i64 2))⟩,
  ⟨(some 5), none, .mv (.t 4)⟩,
  ⟨(some 6), (some (5, true)), .mv (.t 0)⟩,
  ⟨(some 7), (some (5, true)), .bin .leq (.t 6) (.c (.int .i64 10))⟩,
  ⟨(some 8), none, .pick (.t 5) (.t 7) (.c (.bool false))⟩,
  ⟨(some 2), none, .mv (.t 8)⟩]
abbrev x89b : XCode :=
  (.seq (.reg 0 x89r0 none)
  (.seq (.reg 1 x89r1 none)
  .ret))
def x89 : XFunc := ⟨9, 1, [.tmp 2], x89b⟩
theorem x89_ok : chkF Tryz.prog Tryz.f89 x89 = true := by kernel_rfl
theorem x89_eq : x89.body = x89b ∧ x89.res = [.tmp 2] ∧ x89.np = 1 := ⟨rfl, rfl, rfl⟩
abbrev x91r0 : List XOper := [
  ⟨(some 0), none, .alloc [.nilf, .nilf, .nilf]⟩]
abbrev x91r1 : List XOper := [
  ⟨(some 1), none, .build [.nilf, .nilf, .nilf] [(0, 1, (.c (.fn (.func 118) [] []))), (1, 1, (.c (.fn (.func 119) [] []))), (2, 1, (.c (.fn (.func 120) [] [])))]⟩,
  ⟨none, none, .store 3 (.t 0) (.t 1)⟩]
abbrev x91b : XCode :=
  (.seq (.reg 0 x91r0 none)
  (.seq (.reg 1 x91r1 none)
  .ret))
def x91 : XFunc := ⟨2, 0, [.cell 0 true 3], x91b⟩
theorem x91_ok : chkF Tryz.prog Tryz.f91 x91 = true := by kernel_rfl
theorem x91_eq : x91.body = x91b ∧ x91.res = [.cell 0 true 3] ∧ x91.np = 0 := ⟨rfl, rfl, rfl⟩
abbrev x93r0 : List XOper := [
  ⟨(some 5), none, .mv (.c (.int .i64 0))⟩]
abbrev x93r1 : List XOper := [
  ⟨(some 7), none, .load false 1 (.t 0)⟩,
  ⟨(some 8), none, .call (.c (.fn (.func 94) [] [])) [(.t 7)]⟩,
  ⟨(some 9), none, .build [(.int .u64 0), (.int .u64 0)] [(1, 1, (.t 8))]⟩,
  ⟨(some 10), none, .load false 1 (.t 1)⟩,
  ⟨(some 11), none, .bin .lss (.t 10) (.c (.int .i64 0))⟩,
  ⟨(some 12), none, .load false 1 (.t 2)⟩,
  ⟨(some 13), none, .bin .lss (.t 12) (.c (.int .i64 0))⟩,
  ⟨(some 14), none, .eqB true (.t 11) (.t 13)⟩,
  ⟨(some 15), none, .load false 1 (.t 0)⟩,
  ⟨(some 16), none, .bin .lss (.t 15) (.c (.int .i64 0))⟩,
  ⟨(some 17), none, .eqB true (.t 14) (.t 16)⟩,
  ⟨(some 18), none, .build [(.int .u64 0), (.int .u64 0), (.int .u64 0), (.int .u64 0), (.int .u64 0), (.int .u64 0), (.bool false)] [(4, 2, (.t 9)), (6, 1, (.t 17))]⟩,
  ⟨(some 6), none, .alloc [(.int .u64 0), (.int .u64 0), (.int .u64 0), (.int .u64 0), (.int .u64 0), (.int .u64 0), (.bool false)]⟩,
  ⟨none, none, .store 7 (.t 6) (.t 18)⟩]
abbrev x93r2 : List XOper := [
  ⟨(some 20), none, .load false 1 (.t 1)⟩,
  ⟨(some 21), none, .call (.c (.fn (.func 94) [] [])) [(.t 20)]⟩,
  ⟨(some 22), none, .load false 1 (.t 2)⟩,
  ⟨(some 23), none, .call (.c (.fn (.func 94) [] [])) [(.t 22)]⟩,
  ⟨(some 24), none, .call (.c (.fn (.func 24) [] [])) [(.t 21), (.t 23)]⟩,
  ⟨(some 25), none, .fa 4 (.t 6)⟩,
  ⟨(some 26), none, .load true 2 (.t 25)⟩,
  ⟨(some 27), none, .call (.c (.fn (.func 58) [] [])) [(.t 24), (.t 26)]⟩,
  ⟨(some 19), none, .mv (.t 27)⟩,
  ⟨(some 28), none, .ext (.t 19) 0⟩,
  ⟨(some 29), none, .ext (.t 19) 1⟩,
  ⟨(some 30), none, .ext (.t 19) 2⟩,
  ⟨(some 31), none, .fa 0 (.t 6)⟩,
  ⟨none, none, .store 2 (.t 31) (.t 28)⟩,
  ⟨(some 32), none, .fa 2 (.t 6)⟩,
  ⟨none, none, .store 2 (.t 32) (.t 29)⟩]
abbrev x93r3 : List XOper := [
  ⟨(some 33), none, .load false 1 (.t 1)⟩,
  ⟨(some 34), none, .bin .eql (.t 33) (.c (.int .i64 0))⟩,
  ⟨(some 35), none, .mv (.t 34)⟩,
  ⟨(some 36), (some (35, false)), .load false 1 (.t 2)⟩,
  ⟨(some 37), (some (35, false)), .bin .eql (.t 36) (.c (.int .i64 0))⟩,
  ⟨(some 38), none, .pick (.t 35) (.c (.bool true)) (.t 37)⟩]
abbrev x93r4 : List XOper := [
  ⟨(some 5), none, .mv (.c (.int .i64 0))⟩]
abbrev x93r5 : List XOper := [
  ⟨(some 39), none, .load false 1 (.t 4)⟩,
  ⟨(some 40), none, .iaA 3 1 (.t 3) (.t 39)⟩,
  ⟨(some 41), none, .load false 1 (.t 40)⟩,
  ⟨(some 42), none, .load true 7 (.t 6)⟩,
  ⟨(some 43), none, .call (.t 41) [(.t 42)]⟩]
abbrev x93r6 : List XOper := [
  ⟨(some 45), none, .fa 0 (.t 6)⟩,
  ⟨(some 46), none, .load true 2 (.t 45)⟩,
  ⟨(some 47), none, .build [(.int .u64 0), (.int .u64 0)] [(1, 1, (.c (.int .u64 1)))]⟩,
  ⟨(some 48), none, .call (.c (.fn (.func 10) [] [])) [(.t 46), (.t 47)]⟩,
  ⟨(some 44), none, .mv (.t 48)⟩,
  ⟨(some 49), none, .ext (.t 44) 0⟩,
  ⟨(some 50), none, .ext (.t 44) 1⟩,
  ⟨(some 51), none, .fa 0 (.t 6)⟩,
  ⟨none, none, .store 2 (.t 51) (.t 49)⟩]
abbrev x93r7 : List XOper := [
  ⟨(some 52), none, .fa 0 (.t 6)⟩,
  ⟨(some 53), none, .load true 2 (.t 52)⟩,
  ⟨(some 54), none, .fa 6 (.t 6)⟩,
  ⟨(some 55), none, .load false 1 (.t 54)⟩,
  ⟨(some 56), none, .call (.c (.fn (.func 95) [] [])) [(.t 53), (.t 55)]⟩,
  ⟨(some 5), none, .mv (.t 56)⟩]
abbrev x93b : XCode :=
  (.seq (.reg 0 x93r0 none)
  (.seq (.reg 1 x93r1 (some ⟨[(1, 3), (1, 5), (1, 8), (0, 12), (1, 12), (3, 12), (5, 12), (8, 12)]⟩))
  (.seq (.reg 2 x93r2 (some ⟨[(1, 2), (1, 6), (3, 6), (4, 6)]⟩))
  (.seq (.seq (.reg 3 x93r3 none)
  (.cond (.t 38)
    (.seq (.reg 4 x93r4 none)
    .ret)
    .skip))
  (.seq (.seq (.reg 5 x93r5 (some ⟨[]⟩))
  (.cond (.t 43)
    (.reg 6 x93r6 none)
    .skip))
  (.seq (.reg 7 x93r7 none)
  .ret))))))
def x93 : XFunc := ⟨57, 5, [.tmp 5], x93b⟩
theorem x93_ok : chkF Tryz.prog Tryz.f93 x93 = true := by kernel_rfl
theorem x93_eq : x93.body = x93b ∧ x93.res = [.tmp 5] ∧ x93.np = 5 := ⟨rfl, rfl, rfl⟩
abbrev x94r0 : List XOper := [
  ⟨(some 2), none, .mv (.c (.int .u64 0))⟩]
abbrev x94r1 : List XOper := [
  ⟨(some 3), none, .mv (.t 0)⟩,
  ⟨(some 4), none, .bin .lss (.t 3) (.c (.int .i64 0))⟩]
abbrev x94r2 : List XOper := [
  ⟨(some 5), none, .mv (.t 0)⟩,
  ⟨(some 6), none, .conv .u64 (.t 5)⟩,
  ⟨(some 7), none, .un .neg (.t 6)⟩,
  ⟨(some 2), none, .mv (.t 7)⟩]
abbrev x94r3 : List XOper := [
  ⟨(some 8), none, .mv (.t 0)⟩,
  ⟨(some 9), none, .conv .u64 (.t 8)⟩,
  ⟨(some 2), none, .mv (.t 9)⟩]
abbrev x94b : XCode :=
  (.seq (.reg 0 x94r0 none)
  (.seq (.seq (.reg 1 x94r1 none)
  (.cond (.t 4)
    (.seq (.reg 2 x94r2 none)
    .ret)
    .skip))
  (.seq (.reg 3 x94r3 none)
  .ret)))
def x94 : XFunc := ⟨10, 1, [.tmp 2], x94b⟩
theorem x94_ok : chkF Tryz.prog Tryz.f94 x94 = true := by kernel_rfl
theorem x94_eq : x94.body = x94b ∧ x94.res = [.tmp 2] ∧ x94.np = 1 := ⟨rfl, rfl, rfl⟩
abbrev x95r0 : List XOper := [
  ⟨(some 2), none, .box (.t 0)⟩,
  ⟨(some 4), none, .mv (.c (.int .i64 0))⟩]
abbrev x95r1 : List XOper := [
  ⟨(some 5), none, .fa 0 (.t 2)⟩,
  ⟨(some 6), none, .load false 1 (.t 5)⟩,
  ⟨(some 7), none, .bin .gtr (.t 6) (.c (.int .u64 0))⟩,
  ⟨(some 8), none, .mv (.t 7)⟩,
  ⟨(some 9), (some (8, false)), .fa 1 (.t 2)⟩,
  ⟨(some 10), (some (8, false)), .load false 1 (.t 9)⟩,
  ⟨(some 11), (some (8, false)), .bin .gtr (.t 10) (.c (.int .u64 9223372036854775808))⟩,
  ⟨(some 12), none, .pick (.t 8) (.c (.bool true)) (.t 11)⟩,
  ⟨(some 13), none, .mv (.t 12)⟩,
  ⟨(some 14), (some (13, false)), .fa 1 (.t 2)⟩,
  ⟨(some 15), (some (13, false)), .load false 1 (.t 14)⟩,
  ⟨(some 16), (some (13, false)), .bin .gtr (.t 15) (.c (.int .u64 9223372036854775807))⟩,
  ⟨(some 17), (some (13, false)), .mv (.t 16)⟩,
  ⟨(some 18), (some (17, true)), .mv (.t 1)⟩,
  ⟨(some 19), (some (17, true)), .un .not (.t 18)⟩,
  ⟨(some 20), (some (13, false)), .pick (.t 17) (.t 19) (.c (.bool false))⟩,
  ⟨(some 21), none, .pick (.t 13) (.c (.bool true)) (.t 20)⟩]
abbrev x95r2 : List XOper := [
  ⟨(some 22), none, .build [] []⟩,
  ⟨(some 23), none, .mki 235 (.t 22)⟩,
  ⟨none, none, .bad⟩]
abbrev x95r3 : List XOper := [
  ⟨(some 24), none, .mv (.t 1)⟩]
abbrev x95r4 : List XOper := [
  ⟨(some 25), none, .fa 1 (.t 2)⟩,
  ⟨(some 26), none, .load false 1 (.t 25)⟩,
  ⟨(some 27), none, .un .neg (.t 26)⟩,
  ⟨(some 28), none, .conv .i64 (.t 27)⟩,
  ⟨(some 4), none, .mv (.t 28)⟩]
abbrev x95r5 : List XOper := [
  ⟨(some 29), none, .fa 1 (.t 2)⟩,
  ⟨(some 30), none, .load false 1 (.t 29)⟩,
  ⟨(some 31), none, .conv .i64 (.t 30)⟩,
  ⟨(some 4), none, .mv (.t 31)⟩]
abbrev x95b : XCode :=
  (.seq (.reg 0 x95r0 none)
  (.seq (.seq (.reg 1 x95r1 none)
  (.cond (.t 21)
    (.reg 2 x95r2 none)
    .skip))
  (.seq (.seq (.reg 3 x95r3 none)
  (.cond (.t 24)
    (.seq (.reg 4 x95r4 none)
    .ret)
    .skip))
  (.seq (.reg 5 x95r5 none)
  .ret))))
def x95 : XFunc := ⟨32, 2, [.tmp 4], x95b⟩
theorem x95_ok : chkF Tryz.prog Tryz.f95 x95 = true := by kernel_rfl
theorem x95_eq : x95.body = x95b ∧ x95.res = [.tmp 4] ∧ x95.np = 2 := ⟨rfl, rfl, rfl⟩
abbrev x118r0 : List XOper := [
  ⟨(some 1), none, .box (.t 0)⟩,
  ⟨(some 2), none, .mv (.c (.bool false))⟩]
abbrev x118r1 : List XOper := [
  ⟨(some 3), none, .fa 6 (.t 1)⟩,
  ⟨(some 4), none, .load false 1 (.t 3)⟩,
  ⟨(some 5), none, .mv (.t 4)⟩,
  ⟨(some 6), (some (5, true)), .fa 2 (.t 1)⟩,
  ⟨(some 7), (some (5, true)), .load true 2 (.t 6)⟩,
  ⟨(some 8), (some (5, true)), .build [(.int .u64 0), (.int .u64 0)] []⟩,
  ⟨(some 9), (some (5, true)), .eqA true [0, 0] (.t 7) (.t 8)⟩,
  ⟨(some 10), none, .pick (.t 5) (.t 9) (.c (.bool false))⟩,
  ⟨(some 2), none, .mv (.t 10)⟩]
abbrev x118b : XCode :=
  (.seq (.reg 0 x118r0 none)
  (.seq (.reg 1 x118r1 none)
  .ret))
def x118 : XFunc := ⟨11, 1, [.tmp 2], x118b⟩
theorem x118_ok : chkF Tryz.prog Tryz.f118 x118 = true := by kernel_rfl
theorem x118_eq : x118.body = x118b ∧ x118.res = [.tmp 2] ∧ x118.np = 1 := ⟨rfl, rfl, rfl⟩
abbrev x119r0 : List XOper := [
  ⟨(some 1), none, .box (.t 0)⟩,
  ⟨(some 2), none, .mv (.c (.bool false))⟩]
abbrev x119r1 : List XOper := [
  ⟨(some 3), none, .fa 6 (.t 1)⟩,
  ⟨(some 4), none, .load false 1 (.t 3)⟩,
  ⟨(some 5), none, .un .not (.t 4)⟩,
  ⟨(some 6), none, .mv (.t 5)⟩,
  ⟨(some 7), (some (6, true)), .fa 2 (.t 1)⟩,
  ⟨(some 8), (some (6, true)), .load true 2 (.t 7)⟩,
  ⟨(some 9), (some (6, true)), .build [(.int .u64 0), (.int .u64 0)] []⟩,
  ⟨(some 10), (some (6, true)), .eqA true [0, 0] (.t 8) (.t 9)⟩,
  ⟨(some 11), none, .pick (.t 6) (.t 10) (.c (.bool false))⟩,
  ⟨(some 2), none, .mv (.t 11)⟩]
abbrev x119b : XCode :=
  (.seq (.reg 0 x119r0 none)
  (.seq (.reg 1 x119r1 none)
  .ret))
def x119 : XFunc := ⟨12, 1, [.tmp 2], x119b⟩
theorem x119_ok : chkF Tryz.prog Tryz.f119 x119 = true := by kernel_rfl
theorem x119_eq : x119.body = x119b ∧ x119.res = [.tmp 2] ∧ x119.np = 1 := ⟨rfl, rfl, rfl⟩
abbrev x188r0 : List XOper := [
  ⟨(some 2), none, .mv (.c .nils)⟩]
abbrev x188r1 : List XOper := [
  ⟨(some 3), none, .mv (.t 0)⟩,
  ⟨(some 4), none, .eqN false 0 (.t 3)⟩]
abbrev x188r2 : List XOper := [
  ⟨(some 2), none, .mv (.c .nils)⟩]
abbrev x188r3 : List XOper := [
  ⟨(some 5), none, .mkslice 4 (.agg [(.int .i64 0), (.int .i64 0), (.int .i64 0), (.int .i64 0)]) 0 []⟩,
  ⟨(some 6), none, .mv (.t 0)⟩,
  ⟨(some 7), none, .app 4 32 (.t 5) (.t 6)⟩,
  ⟨(some 2), none, .mv (.t 7)⟩]
abbrev x188b : XCode :=
  (.seq (.reg 0 x188r0 none)
  (.seq (.seq (.reg 1 x188r1 none)
  (.cond (.t 4)
    (.seq (.reg 2 x188r2 none)
    .ret)
    .skip))
  (.seq (.reg 3 x188r3 none)
  .ret)))
def x188 : XFunc := ⟨8, 1, [.tmp 2], x188b⟩
theorem x188_ok : chkF Tryz.prog Tryz.f188 x188 = true := by kernel_rfl
theorem x188_eq : x188.body = x188b ∧ x188.res = [.tmp 2] ∧ x188.np = 1 := ⟨rfl, rfl, rfl⟩
abbrev x419r0 : List XOper := [
  ⟨(some 2), none, .mv (.c .nils)⟩]
abbrev x419r1 : List XOper := [
  ⟨(some 3), none, .mv (.t 0)⟩,
  ⟨(some 4), none, .eqN false 0 (.t 3)⟩]
abbrev x419r2 : List XOper := [
  ⟨(some 2), none, .mv (.c .nils)⟩]
abbrev x419r3 : List XOper := [
  ⟨(some 5), none, .mkslice 1 (.int .i64 0) 0 []⟩,
  ⟨(some 6), none, .mv (.t 0)⟩,
  ⟨(some 7), none, .app 1 8 (.t 5) (.t 6)⟩,
  ⟨(some 2), none, .mv (.t 7)⟩]
abbrev x419b : XCode :=
  (.seq (.reg 0 x419r0 none)
  (.seq (.seq (.reg 1 x419r1 none)
  (.cond (.t 4)
    (.seq (.reg 2 x419r2 none)
    .ret)
    .skip))
  (.seq (.reg 3 x419r3 none)
  .ret)))
def x419 : XFunc := ⟨8, 1, [.tmp 2], x419b⟩
theorem x419_ok : chkF Tryz.prog Tryz.f419 x419 = true := by kernel_rfl
theorem x419_eq : x419.body = x419b ∧ x419.res = [.tmp 2] ∧ x419.np = 1 := ⟨rfl, rfl, rfl⟩
abbrev x30r0 : List XOper := [
  ⟨(some 1), none, .box (.t 0)⟩,
  ⟨(some 2), none, .mv (.c (.bool false))⟩]
abbrev x30r1 : List XOper := [
  ⟨(some 6), none, .load true 6 (.t 1)⟩,
  ⟨(some 7), none, .build [(.int .i64 0), (.int .i64 0), (.int .u64 0), (.int .u64 0), (.int .i64 0), (.int .i64 0)] []⟩,
  ⟨(some 8), none, .eqA false [0, 0, 0, 0, 0, 0] (.t 6) (.t 7)⟩,
  ⟨(some 5), none, .mv (.t 8)⟩]
abbrev x30r2 : List XOper := [
  ⟨(some 2), none, .mv (.c (.bool true))⟩]
abbrev x30r3 : List XOper := [
  ⟨(some 10), none, .fa 0 (.t 1)⟩,
  ⟨(some 11), none, .load false 1 (.t 10)⟩,
  ⟨(some 12), none, .bin .lss (.t 11) (.c (.int .i64 1))⟩,
  ⟨(some 13), none, .mv (.t 12)⟩,
  ⟨(some 14), (some (13, false)), .fa 0 (.t 1)⟩,
  ⟨(some 15), (some (13, false)), .load false 1 (.t 14)⟩,
  ⟨(some 16), (some (13, false)), .bin .gtr (.t 15) (.c (.int .i64 1000000000))⟩,
  ⟨(some 17), none, .pick (.t 13) (.c (.bool true)) (.t 16)⟩,
  ⟨(some 18), none, .mv (.t 17)⟩,
  ⟨(some 19), (some (18, false)), .fa 4 (.t 1)⟩,
  ⟨(some 20), (some (18, false)), .load false 1 (.t 19)⟩,
  ⟨(some 21), (some (18, false)), .fa 5 (.t 1)⟩,
  ⟨(some 22), (some (18, false)), .load false 1 (.t 21)⟩,
  ⟨(some 23), (some (18, false)), .bin .gtr (.t 20) (.t 22)⟩,
  ⟨(some 24), none, .pick (.t 18) (.c (.bool true)) (.t 23)⟩,
  ⟨(some 25), none, .mv (.t 24)⟩,
  ⟨(some 26), (some (25, false)), .fa 4 (.t 1)⟩,
  ⟨(some 27), (some (25, false)), .load false 1 (.t 26)⟩,
  ⟨(some 28), (some (25, false)), .call (.c (.fn (.func 20) [] [])) [(.t 27)]⟩,
  ⟨(some 29), (some (25, false)), .un .not (.t 28)⟩,
  ⟨(some 30), none, .pick (.t 25) (.c (.bool true)) (.t 29)⟩,
  ⟨(some 31), none, .mv (.t 30)⟩,
  ⟨(some 32), (some (31, false)), .fa 5 (.t 1)⟩,
  ⟨(some 33), (some (31, false)), .load false 1 (.t 32)⟩,
  ⟨(some 34), (some (31, false)), .call (.c (.fn (.func 20) [] [])) [(.t 33)]⟩,
  ⟨(some 35), (some (31, false)), .un .not (.t 34)⟩,
  ⟨(some 36), none, .pick (.t 31) (.c (.bool true)) (.t 35)⟩,
  ⟨(some 9), none, .mv (.t 36)⟩]
abbrev x30r4 : List XOper := [
  ⟨(some 2), none, .mv (.c (.bool false))⟩]
abbrev x30r5 : List XOper := [
  ⟨(some 38), none, .fa 1 (.t 1)⟩,
  ⟨(some 39), none, .load false 1 (.t 38)⟩,
  ⟨(some 40), none, .fa 0 (.t 1)⟩,
  ⟨(some 41), none, .load false 1 (.t 40)⟩,
  ⟨(some 42), none, .fa 4 (.t 1)⟩,
  ⟨(some 43), none, .load false 1 (.t 42)⟩,
  ⟨(some 44), none, .bin .mul (.t 41) (.t 43)⟩,
  ⟨(some 45), none, .bin .lss (.t 39) (.t 44)⟩,
  ⟨(some 46), none, .mv (.t 45)⟩,
  ⟨(some 47), (some (46, false)), .fa 1 (.t 1)⟩,
  ⟨(some 48), (some (46, false)), .load false 1 (.t 47)⟩,
  ⟨(some 49), (some (46, false)), .fa 0 (.t 1)⟩,
  ⟨(some 50), (some (46, false)), .load false 1 (.t 49)⟩,
  ⟨(some 51), (some (46, false)), .fa 5 (.t 1)⟩,
  ⟨(some 52), (some (46, false)), .load false 1 (.t 51)⟩,
  ⟨(some 53), (some (46, false)), .bin .mul (.t 50) (.t 52)⟩,
  ⟨(some 54), (some (46, false)), .bin .gtr (.t 48) (.t 53)⟩,
  ⟨(some 55), none, .pick (.t 46) (.c (.bool true)) (.t 54)⟩,
  ⟨(some 56), none, .mv (.t 55)⟩,
  ⟨(some 57), (some (56, false)), .fa 0 (.t 1)⟩,
  ⟨(some 58), (some (56, false)), .load false 1 (.t 57)⟩,
  ⟨(some 59), (some (56, false)), .call (.c (.fn (.func 56) [] [])) [(.t 58)]⟩,
  ⟨(some 60), (some (56, false)), .fa 2 (.t 1)⟩,
  ⟨(some 61), (some (56, false)), .load true 2 (.t 60)⟩,
  ⟨(some 62), (some (56, false)), .call (.c (.fn (.func 55) [] [])) [(.t 59), (.t 61)]⟩,
  ⟨(some 63), none, .pick (.t 56) (.c (.bool true)) (.t 62)⟩,
  ⟨(some 37), none, .mv (.t 63)⟩]
abbrev x30r6 : List XOper := [
  ⟨(some 2), none, .mv (.c (.bool false))⟩]
abbrev x30r7 : List XOper := [
  ⟨(some 65), none, .load true 6 (.t 1)⟩,
  ⟨(some 66), none, .call (.c (.fn (.func 57) [] [])) [(.t 65)]⟩,
  ⟨(some 64), none, .mv (.t 66)⟩,
  ⟨(some 67), none, .ext (.t 64) 0⟩,
  ⟨(some 68), none, .ext (.t 64) 1⟩,
  ⟨(some 3), none, .alloc [(.int .u64 0), (.int .u64 0)]⟩,
  ⟨none, none, .store 2 (.t 3) (.t 67)⟩,
  ⟨(some 4), none, .mv (.t 68)⟩]
abbrev x30r8 : List XOper := [
  ⟨(some 69), none, .mv (.t 4)⟩,
  ⟨(some 70), none, .un .not (.t 69)⟩,
  ⟨(some 2), none, .mv (.t 70)⟩]
abbrev x30b : XCode :=
  (.seq (.reg 0 x30r0 none)
  (.seq (.block 0
    (.seq (.reg 1 x30r1 none)
    (.cond (.t 5)
      (.seq (.reg 2 x30r2 none)
      .ret)
      (.seq (.reg 3 x30r3 none)
      (.cond (.t 9)
        (.seq (.reg 4 x30r4 none)
        .ret)
        (.seq (.reg 5 x30r5 (some ⟨[(21, 23)]⟩))
        (.cond (.t 37)
          (.seq (.reg 6 x30r6 none)
          .ret)
          .skip)))))))
  (.seq (.reg 7 x30r7 none)
  (.seq (.reg 8 x30r8 none)
  .ret))))
def x30 : XFunc := ⟨71, 1, [.tmp 2], x30b⟩
theorem x30_ok : chkF Tryz.prog Tryz.f30 x30 = true := by kernel_rfl
theorem x30_eq : x30.body = x30b ∧ x30.res = [.tmp 2] ∧ x30.np = 1 := ⟨rfl, rfl, rfl⟩
abbrev x56r0 : List XOper := [
  ⟨(some 2), none, .alloc [(.int .u64 0), (.int .u64 0)]⟩]
abbrev x56r1 : List XOper := [
  ⟨(some 3), none, .mv (.t 0)⟩,
  ⟨(some 4), none, .conv .u64 (.t 3)⟩,
  ⟨(some 5), none, .call (.c (.fn (.func 24) [] [])) [(.t 4), (.c (.int .u64 1000000000000))]⟩,
  ⟨none, none, .store 2 (.t 2) (.t 5)⟩]
abbrev x56b : XCode :=
  (.seq (.reg 0 x56r0 none)
  (.seq (.reg 1 x56r1 none)
  .ret))
def x56 : XFunc := ⟨6, 1, [.cell 2 true 2], x56b⟩
theorem x56_ok : chkF Tryz.prog Tryz.f56 x56 = true := by kernel_rfl
theorem x56_eq : x56.body = x56b ∧ x56.res = [.cell 2 true 2] ∧ x56.np = 1 := ⟨rfl, rfl, rfl⟩
abbrev x57r0 : List XOper := [
  ⟨(some 1), none, .box (.t 0)⟩,
  ⟨(some 2), none, .alloc [(.int .u64 0), (.int .u64 0)]⟩,
  ⟨(some 3), none, .mv (.c (.bool false))⟩]
abbrev x57r1 : List XOper := [
  ⟨(some 7), none, .fa 0 (.t 1)⟩,
  ⟨(some 8), none, .load false 1 (.t 7)⟩,
  ⟨(some 9), none, .conv .u64 (.t 8)⟩,
  ⟨(some 10), none, .build [(.int .u64 0), (.int .u64 0)] [(1, 1, (.t 9))]⟩,
  ⟨(some 11), none, .fa 2 (.t 1)⟩,
  ⟨(some 12), none, .load true 2 (.t 11)⟩,
  ⟨(some 13), none, .call (.c (.fn (.func 9) [] [])) [(.t 10), (.t 12)]⟩,
  ⟨(some 6), none, .mv (.t 13)⟩,
  ⟨(some 14), none, .ext (.t 6) 0⟩,
  ⟨(some 15), none, .ext (.t 6) 1⟩,
  ⟨(some 4), none, .alloc [(.int .u64 0), (.int .u64 0)]⟩,
  ⟨none, none, .store 2 (.t 4) (.t 14)⟩,
  ⟨(some 5), none, .mv (.t 15)⟩]
abbrev x57r2 : List XOper := [
  ⟨(some 16), none, .load true 2 (.t 4)⟩,
  ⟨(some 17), none, .fa 1 (.t 1)⟩,
  ⟨(some 18), none, .load false 1 (.t 17)⟩,
  ⟨(some 19), none, .call (.c (.fn (.func 48) [] [])) [(.t 18)]⟩,
  ⟨(some 20), none, .fa 1 (.t 1)⟩,
  ⟨(some 21), none, .load false 1 (.t 20)⟩,
  ⟨(some 22), none, .call (.c (.fn (.func 48) [] [])) [(.t 21)]⟩,
  ⟨(some 23), none, .call (.c (.fn (.func 24) [] [])) [(.t 19), (.t 22)]⟩,
  ⟨(some 24), none, .call (.c (.fn (.func 80) [] [])) [(.t 16), (.t 23)]⟩,
  ⟨(some 25), none, .ext (.t 24) 0⟩,
  ⟨(some 26), none, .ext (.t 24) 1⟩,
  ⟨none, none, .store 2 (.t 2) (.t 25)⟩,
  ⟨(some 3), none, .mv (.t 26)⟩]
abbrev x57b : XCode :=
  (.seq (.reg 0 x57r0 none)
  (.seq (.reg 1 x57r1 none)
  (.seq (.reg 2 x57r2 (some ⟨[(0, 3), (3, 5), (0, 6), (0, 7)]⟩))
  .ret)))
def x57 : XFunc := ⟨27, 1, [.cell 2 true 2, .tmp 3], x57b⟩
theorem x57_ok : chkF Tryz.prog Tryz.f57 x57 = true := by kernel_rfl
theorem x57_eq : x57.body = x57b ∧ x57.res = [.cell 2 true 2, .tmp 3] ∧ x57.np = 1 := ⟨rfl, rfl, rfl⟩
abbrev x59r0 : List XOper := [
  ⟨(some 1), none, .box (.t 0)⟩,
  ⟨(some 2), none, .mv (.c (.int .u64 0))⟩]
abbrev x59r1 : List XOper := [
  ⟨(some 8), none, .mkf (.func 84) [] [(.t 1)]⟩,
  ⟨(some 3), none, .mv (.t 8)⟩]
abbrev x59r2 : List XOper := [
  ⟨(some 4), none, .mv (.c (.int .u64 0))⟩,
  ⟨(some 5), none, .mv (.c (.int .u64 18446744073709551615))⟩]
abbrev x59r3 : List XOper := [
  ⟨(some 9), none, .fa 0 (.t 1)⟩,
  ⟨(some 10), none, .load false 1 (.t 9)⟩,
  ⟨(some 11), none, .call (.c (.fn (.func 85) [] [])) [(.t 10)]⟩,
  ⟨(some 6), none, .mv (.t 11)⟩]
abbrev x59r4 : List XOper := [
  ⟨(some 12), none, .mv (.t 6)⟩,
  ⟨(some 13), none, .bin .eql (.t 12) (.c (.int .i64 0))⟩]
abbrev x59r5 : List XOper := [
  ⟨(some 14), none, .fa 1 (.t 1)⟩,
  ⟨(some 15), none, .load false 1 (.t 14)⟩,
  ⟨(some 16), none, .bin .shr (.t 15) (.c (.int .u64 32))⟩,
  ⟨(some 17), none, .bin .or (.c (.int .u64 4294967295)) (.t 16)⟩,
  ⟨(some 5), none, .mv (.t 17)⟩]
abbrev x59r6 : List XOper := [
  ⟨(some 18), none, .mv (.t 4)⟩,
  ⟨(some 19), none, .mv (.t 5)⟩,
  ⟨(some 20), none, .bin .eql (.t 18) (.t 19)⟩]
abbrev x59r7 : List XOper := [
  ⟨(some 21), none, .mv (.t 5)⟩,
  ⟨(some 22), none, .mv (.t 5)⟩,
  ⟨(some 23), none, .mv (.t 4)⟩,
  ⟨(some 24), none, .bin .sub (.t 22) (.t 23)⟩,
  ⟨(some 25), none, .bin .quo (.t 24) (.c (.int .u64 2))⟩,
  ⟨(some 26), none, .bin .sub (.t 21) (.t 25)⟩,
  ⟨(some 7), none, .mv (.t 26)⟩]
abbrev x59r8 : List XOper := [
  ⟨(some 27), none, .mv (.t 3)⟩,
  ⟨(some 28), none, .mv (.t 7)⟩,
  ⟨(some 29), none, .call (.t 27) [(.t 28)]⟩]
abbrev x59r9 : List XOper := [
  ⟨(some 30), none, .mv (.t 7)⟩,
  ⟨(some 4), none, .mv (.t 30)⟩]
abbrev x59r10 : List XOper := [
  ⟨(some 31), none, .mv (.t 7)⟩,
  ⟨(some 32), none, .bin .sub (.t 31) (.c (.int .u64 1))⟩,
  ⟨(some 5), none, .mv (.t 32)⟩]
abbrev x59l6 : XCode :=
  (.block 1
    (.seq (.seq (.reg 6 x59r6 none)
    (.cond (.t 20)
      (.exit 0)
      .skip))
    (.seq (.reg 7 x59r7 none)
    (.seq (.seq (.reg 8 x59r8 none)
    (.cond (.t 29)
      (.seq (.reg 9 x59r9 none)
      (.exit 1))
      .skip))
    (.reg 10 x59r10 none)))))
abbrev x59r11 : List XOper := [
  ⟨(some 33), none, .mv (.t 4)⟩,
  ⟨(some 2), none, .mv (.t 33)⟩]
abbrev x59b : XCode :=
  (.seq (.reg 0 x59r0 none)
  (.scope
    (.seq (.reg 1 x59r1 none)
    (.seq (.reg 2 x59r2 none)
    (.seq (.seq (.reg 3 x59r3 none)
    (.seq (.reg 4 x59r4 none)
    (.cond (.t 13)
      (.reg 5 x59r5 none)
      .skip)))
    (.seq .skip
    (.seq (.block 0
      (.loop x59l6))
    (.seq (.reg 11 x59r11 none)
    .ret))))))))
def x59 : XFunc := ⟨34, 1, [.tmp 2], x59b⟩
theorem x59_ok : chkF Tryz.prog Tryz.f59 x59 = true := by kernel_rfl
theorem x59_eq : x59.body = x59b ∧ x59.res = [.tmp 2] ∧ x59.np = 1 := ⟨rfl, rfl, rfl⟩
abbrev x60r0 : List XOper := [
  ⟨(some 1), none, .box (.t 0)⟩,
  ⟨(some 2), none, .alloc [(.int .u64 0), (.int .u64 0)]⟩]
abbrev x60r1 : List XOper := [
  ⟨(some 4), none, .load true 2 (.t 1)⟩,
  ⟨(some 5), none, .call (.c (.fn (.func 59) [] [])) [(.t 4)]⟩,
  ⟨(some 6), none, .build [(.int .u64 0), (.int .u64 0)] [(1, 1, (.t 5))]⟩,
  ⟨(some 3), none, .alloc [(.int .u64 0), (.int .u64 0)]⟩,
  ⟨none, none, .store 2 (.t 3) (.t 6)⟩]
abbrev x60r2 : List XOper := [
  ⟨(some 7), none, .load true 2 (.t 1)⟩,
  ⟨(some 8), none, .call (.c (.fn (.func 86) [] [])) [(.t 7)]⟩,
  ⟨(some 9), none, .un .not (.t 8)⟩]
abbrev x60r3 : List XOper := [
  ⟨(some 11), none, .load true 2 (.t 3)⟩,
  ⟨(some 12), none, .build [(.int .u64 0), (.int .u64 0)] [(1, 1, (.c (.int .u64 1)))]⟩,
  ⟨(some 13), none, .call (.c (.fn (.func 10) [] [])) [(.t 11), (.t 12)]⟩,
  ⟨(some 10), none, .mv (.t 13)⟩,
  ⟨(some 14), none, .ext (.t 10) 0⟩,
  ⟨(some 15), none, .ext (.t 10) 1⟩,
  ⟨none, none, .store 2 (.t 3) (.t 14)⟩]
abbrev x60r4 : List XOper := [
  ⟨(some 16), none, .load true 2 (.t 3)⟩,
  ⟨none, none, .store 2 (.t 2) (.t 16)⟩]
abbrev x60b : XCode :=
  (.seq (.reg 0 x60r0 none)
  (.seq (.reg 1 x60r1 none)
  (.seq (.seq (.reg 2 x60r2 none)
  (.cond (.t 9)
    (.reg 3 x60r3 none)
    .skip))
  (.seq (.reg 4 x60r4 none)
  .ret))))
def x60 : XFunc := ⟨17, 1, [.cell 2 true 2], x60b⟩
theorem x60_ok : chkF Tryz.prog Tryz.f60 x60 = true := by kernel_rfl
theorem x60_eq : x60.body = x60b ∧ x60.res = [.cell 2 true 2] ∧ x60.np = 1 := ⟨rfl, rfl, rfl⟩
abbrev x61r0 : List XOper := [
  ⟨(some 1), none, .box (.t 0)⟩,
  ⟨(some 2), none, .alloc [(.int .u64 0), (.int .u64 0)]⟩,
  ⟨(some 3), none, .mv (.c (.int .i64 0))⟩]
abbrev x61r1 : List XOper := [
  ⟨(some 7), none, .load true 6 (.t 1)⟩,
  ⟨(some 8), none, .call (.c (.fn (.func 30) [] [])) [(.t 7)]⟩,
  ⟨(some 9), none, .un .not (.t 8)⟩,
  ⟨(some 6), none, .mv (.t 9)⟩]
abbrev x61r2 : List XOper := [
  ⟨(some 10), none, .build [(.int .u64 0), (.int .u64 0)] []⟩,
  ⟨none, none, .store 2 (.t 2) (.t 10)⟩,
  ⟨(some 3), none, .mv (.c (.int .i64 1))⟩]
abbrev x61r3 : List XOper := [
  ⟨(some 12), none, .fa 0 (.t 1)⟩,
  ⟨(some 13), none, .load false 1 (.t 12)⟩,
  ⟨(some 14), none, .bin .eql (.t 13) (.c (.int .i64 0))⟩,
  ⟨(some 11), none, .mv (.t 14)⟩]
abbrev x61r4 : List XOper := [
  ⟨(some 15), none, .build [(.int .u64 0), (.int .u64 0)] []⟩,
  ⟨none, none, .store 2 (.t 2) (.t 15)⟩,
  ⟨(some 3), none, .mv (.c (.int .i64 6))⟩]
abbrev x61r5 : List XOper := [
  ⟨(some 17), none, .load true 6 (.t 1)⟩,
  ⟨(some 18), none, .call (.c (.fn (.func 57) [] [])) [(.t 17)]⟩,
  ⟨(some 16), none, .mv (.t 18)⟩,
  ⟨(some 19), none, .ext (.t 16) 0⟩,
  ⟨(some 20), none, .ext (.t 16) 1⟩,
  ⟨(some 4), none, .alloc [(.int .u64 0), (.int .u64 0)]⟩,
  ⟨none, none, .store 2 (.t 4) (.t 19)⟩,
  ⟨(some 5), none, .mv (.t 20)⟩]
abbrev x61r6 : List XOper := [
  ⟨(some 21), none, .load true 2 (.t 4)⟩,
  ⟨none, none, .store 2 (.t 2) (.t 21)⟩,
  ⟨(some 3), none, .mv (.c (.int .i64 0))⟩]
abbrev x61b : XCode :=
  (.seq (.reg 0 x61r0 none)
  (.seq (.block 0
    (.seq (.reg 1 x61r1 none)
    (.cond (.t 6)
      (.seq (.reg 2 x61r2 none)
      .ret)
      (.seq (.reg 3 x61r3 none)
      (.cond (.t 11)
        (.seq (.reg 4 x61r4 none)
        .ret)
        .skip)))))
  (.seq (.reg 5 x61r5 none)
  (.seq (.reg 6 x61r6 none)
  .ret))))
def x61 : XFunc := ⟨22, 1, [.cell 2 true 2, .tmp 3], x61b⟩
theorem x61_ok : chkF Tryz.prog Tryz.f61 x61 = true := by kernel_rfl
theorem x61_eq : x61.body = x61b ∧ x61.res = [.cell 2 true 2, .tmp 3] ∧ x61.np = 1 := ⟨rfl, rfl, rfl⟩
abbrev x84r0 : List XOper := [
  ⟨(some 3), none, .mv (.c (.bool false))⟩]
abbrev x84r1 : List XOper := [
  ⟨(some 4), none, .load true 2 (.t 1)⟩,
  ⟨(some 5), none, .mv (.t 0)⟩,
  ⟨(some 6), none, .mv (.t 0)⟩,
  ⟨(some 7), none, .call (.c (.fn (.func 24) [] [])) [(.t 5), (.t 6)]⟩,
  ⟨(some 8), none, .call (.c (.fn (.func 55) [] [])) [(.t 4), (.t 7)]⟩,
  ⟨(some 9), none, .un .not (.t 8)⟩,
  ⟨(some 3), none, .mv (.t 9)⟩]
abbrev x84b : XCode :=
  (.seq (.reg 0 x84r0 none)
  (.seq (.reg 1 x84r1 (some ⟨[(0, 3)]⟩))
  .ret))
def x84 : XFunc := ⟨10, 2, [.tmp 3], x84b⟩
theorem x84_ok : chkF Tryz.prog Tryz.f84 x84 = true := by kernel_rfl
theorem x84_eq : x84.body = x84b ∧ x84.res = [.tmp 3] ∧ x84.np = 2 := ⟨rfl, rfl, rfl⟩
abbrev x85r0 : List XOper := [
  ⟨(some 2), none, .mv (.c (.int .i64 0))⟩]
abbrev x85r1 : List XOper := [
  ⟨(some 3), none, .mv (.t 0)⟩,
  ⟨(some 4), none, .bin .geq (.t 3) (.c (.int .u64 4294967296))⟩]
abbrev x85r2 : List XOper := [
  ⟨(some 5), none, .mv (.t 0)⟩,
  ⟨(some 6), none, .bin .shr (.t 5) (.c (.int .u64 32))⟩,
  ⟨(some 0), none, .mv (.t 6)⟩]
abbrev x85r3 : List XOper := [
  ⟨(some 2), none, .mv (.c (.int .i64 32))⟩]
abbrev x85r4 : List XOper := [
  ⟨(some 7), none, .mv (.t 0)⟩,
  ⟨(some 8), none, .bin .geq (.t 7) (.c (.int .u64 65536))⟩]
abbrev x85r5 : List XOper := [
  ⟨(some 9), none, .mv (.t 0)⟩,
  ⟨(some 10), none, .bin .shr (.t 9) (.c (.int .u64 16))⟩,
  ⟨(some 0), none, .mv (.t 10)⟩]
abbrev x85r6 : List XOper := [
  ⟨(some 11), none, .mv (.t 2)⟩,
  ⟨(some 12), none, .bin .add (.t 11) (.c (.int .i64 16))⟩,
  ⟨(some 2), none, .mv (.t 12)⟩]
abbrev x85r7 : List XOper := [
  ⟨(some 13), none, .mv (.t 0)⟩,
  ⟨(some 14), none, .bin .geq (.t 13) (.c (.int .u64 256))⟩]
abbrev x85r8 : List XOper := [
  ⟨(some 15), none, .mv (.t 0)⟩,
  ⟨(some 16), none, .bin .shr (.t 15) (.c (.int .u64 8))⟩,
  ⟨(some 0), none, .mv (.t 16)⟩]
abbrev x85r9 : List XOper := [
  ⟨(some 17), none, .mv (.t 2)⟩,
  ⟨(some 18), none, .bin .add (.t 17) (.c (.int .i64 8))⟩,
  ⟨(some 2), none, .mv (.t 18)⟩]
abbrev x85r10 : List XOper := [
  ⟨(some 19), none, .mv (.t 2)⟩,
  ⟨(some 20), none, .mv (.t 0)⟩,
  ⟨(some 21), none, .conv .u8 (.t 20)⟩,
  ⟨(some 22), none, .ixS (.c (.str ⟨#[0, 1, 2, 2, 3, 3, 3, 3, 4, 4, 4, 4, 4, 4, 4, 4, 5, 5, 5, 5, 5, 5, 5, 5, 5, 5, 5, 5, 5, 5, 5, 5, 6, 6, 6, 6, 6, 6, 6, 6, 6, 6, 6, 6, 6, 6, 6, 6, 6, 6, 6, 6, 6, 6, 6, 6, 6, 6, 6, 6, 6, 6, 6, 6, 7, 7, 7, 7, 7, 7, 7, 7, 7, 7, 7, 7, 7, 7, 7, 7, 7, 7, 7, 7, 7, 7, 7, 7, 7, 7, 7, 7, 7, 7, 7, 7, 7, 7, 7, 7, 7, 7, 7, 7, 7, 7, 7, 7, 7, 7, 7, 7, 7, 7, 7, 7, 7, 7, 7, 7, 7, 7, 7, 7, 7, 7, 7, 7, 8, 8, 8, 8, 8, 8, 8, 8, 8, 8, 8, 8, 8, 8, 8, 8, 8, 8, 8, 8, 8, 8, 8, 8, 8, 8, 8, 8, 8, 8, 8, 8, 8, 8, 8, 8, 8, 8, 8, 8, 8, 8, 8, 8, 8, 8, 8, 8, 8, 8, 8, 8, 8, 8, 8, 8, 8, 8, 8, 8, 8, 8, 8, 8, 8, 8, 8, 8, 8, 8, 8, 8, 8, 8, 8, 8, 8, 8, 8, 8, 8, 8, 8, 8, 8, 8, 8, 8, 8, 8, 8, 8, 8, 8, 8, 8, 8, 8, 8, 8, 8, 8, 8, 8, 8, 8, 8, 8, 8, 8, 8, 8, 8, 8, 8, 8, 8, 8, 8, 8, 8, 8, 8, 8, 8, 8, 8, 8]⟩)) (.t 21)⟩,
  ⟨(some 23), none, .conv .i64 (.t 22)⟩,
  ⟨(some 24), none, .bin .add (.t 19) (.t 23)⟩,
  ⟨(some 2), none, .mv (.t 24)⟩]
abbrev x85b : XCode :=
  (.seq (.reg 0 x85r0 none)
  (.seq (.seq (.reg 1 x85r1 none)
  (.cond (.t 4)
    (.seq (.reg 2 x85r2 none)
    (.reg 3 x85r3 none))
    .skip))
  (.seq (.seq (.reg 4 x85r4 none)
  (.cond (.t 8)
    (.seq (.reg 5 x85r5 none)
    (.reg 6 x85r6 none))
    .skip))
  (.seq (.seq (.reg 7 x85r7 none)
  (.cond (.t 14)
    (.seq (.reg 8 x85r8 none)
    (.reg 9 x85r9 none))
    .skip))
  (.seq (.reg 10 x85r10 none)
  .ret)))))
def x85 : XFunc := ⟨25, 1, [.tmp 2], x85b⟩
theorem x85_ok : chkF Tryz.prog Tryz.f85 x85 = true := by kernel_rfl
theorem x85_eq : x85.body = x85b ∧ x85.res = [.tmp 2] ∧ x85.np = 1 := ⟨rfl, rfl, rfl⟩
abbrev x86r0 : List XOper := [
  ⟨(some 1), none, .box (.t 0)⟩,
  ⟨(some 2), none, .mv (.c (.bool false))⟩]
abbrev x86r1 : List XOper := [
  ⟨(some 4), none, .load true 2 (.t 1)⟩,
  ⟨(some 5), none, .call (.c (.fn (.func 59) [] [])) [(.t 4)]⟩,
  ⟨(some 3), none, .mv (.t 5)⟩]
abbrev x86r2 : List XOper := [
  ⟨(some 6), none, .mv (.t 3)⟩,
  ⟨(some 7), none, .mv (.t 3)⟩,
  ⟨(some 8), none, .call (.c (.fn (.func 24) [] [])) [(.t 6), (.t 7)]⟩,
  ⟨(some 9), none, .load true 2 (.t 1)⟩,
  ⟨(some 10), none, .eqA false [0, 0] (.t 8) (.t 9)⟩,
  ⟨(some 2), none, .mv (.t 10)⟩]
abbrev x86b : XCode :=
  (.seq (.reg 0 x86r0 none)
  (.seq (.reg 1 x86r1 none)
  (.seq (.reg 2 x86r2 (some ⟨[(2, 3)]⟩))
  .ret)))
def x86 : XFunc := ⟨11, 1, [.tmp 2], x86b⟩
theorem x86_ok : chkF Tryz.prog Tryz.f86 x86 = true := by kernel_rfl
theorem x86_eq : x86.body = x86b ∧ x86.res = [.tmp 2] ∧ x86.np = 1 := ⟨rfl, rfl, rfl⟩
abbrev x4r0 : List XOper := [
  ⟨(some 6), none, .mv (.c (.bool false))⟩]
abbrev x4r1 : List XOper := [
  ⟨(some 21), none, .mv (.t 0)⟩,
  ⟨(some 22), none, .call (.c (.fn (.func 6) [] [])) [(.t 21), (.c (.int .i64 100))]⟩,
  ⟨(some 0), none, .mv (.t 22)⟩]
abbrev x4r2 : List XOper := [
  ⟨(some 24), none, .mv (.t 0)⟩,
  ⟨(some 25), none, .call (.c (.fn (.func 7) [] [])) [(.t 24)]⟩,
  ⟨(some 23), none, .mv (.t 25)⟩,
  ⟨(some 26), none, .ext (.t 23) 0⟩,
  ⟨(some 27), none, .ext (.t 23) 1⟩,
  ⟨(some 7), none, .alloc [(.int .i64 0), (.int .i64 0), (.int .u64 0), (.int .u64 0), (.int .i64 0), (.int .i64 0)]⟩,
  ⟨none, none, .store 6 (.t 7) (.t 26)⟩,
  ⟨(some 8), none, .mv (.t 27)⟩]
abbrev x4r3 : List XOper := [
  ⟨(some 28), none, .mv (.t 8)⟩,
  ⟨(some 29), none, .bin .neq (.t 28) (.c (.int .i64 0))⟩,
  ⟨(some 30), none, .mv (.t 29)⟩,
  ⟨(some 31), (some (30, false)), .call (.c (.fn (.func 8) [] [])) []⟩,
  ⟨(some 32), (some (30, false)), .un .not (.t 31)⟩,
  ⟨(some 33), none, .pick (.t 30) (.c (.bool true)) (.t 32)⟩]
abbrev x4r4 : List XOper := [
  ⟨(some 6), none, .mv (.c (.bool false))⟩]
abbrev x4r5 : List XOper := [
  ⟨(some 34), none, .mv (.t 1)⟩,
  ⟨(some 35), none, .bin .rem (.t 34) (.c (.int .i64 100000))⟩,
  ⟨(some 36), none, .mv (.t 2)⟩,
  ⟨(some 37), none, .bin .rem (.t 36) (.c (.int .i64 100000))⟩,
  ⟨(some 1), none, .mv (.t 35)⟩,
  ⟨(some 2), none, .mv (.t 37)⟩]
abbrev x4r6 : List XOper := [
  ⟨(some 38), none, .mv (.t 1)⟩,
  ⟨(some 39), none, .mv (.t 2)⟩,
  ⟨(some 40), none, .mnx false (.t 38) [(.t 39)]⟩,
  ⟨(some 41), none, .bin .sub (.t 40) (.c (.int .i64 1))⟩,
  ⟨(some 42), none, .mv (.t 1)⟩,
  ⟨(some 43), none, .mv (.t 2)⟩,
  ⟨(some 44), none, .mnx true (.t 42) [(.t 43)]⟩,
  ⟨(some 45), none, .bin .add (.t 44) (.c (.int .i64 1))⟩,
  ⟨(some 9), none, .mv (.t 41)⟩,
  ⟨(some 10), none, .mv (.t 45)⟩]
abbrev x4r7 : List XOper := [
  ⟨(some 47), none, .load true 6 (.t 7)⟩,
  ⟨(some 48), none, .mv (.t 9)⟩,
  ⟨(some 49), none, .mv (.t 10)⟩,
  ⟨(some 50), none, .call (.c (.fn (.func 11) [] [])) [(.t 47), (.t 48), (.t 49), (.c (.int .i64 100))]⟩,
  ⟨(some 46), none, .mv (.t 50)⟩,
  ⟨(some 51), none, .ext (.t 46) 0⟩,
  ⟨(some 52), none, .ext (.t 46) 1⟩,
  ⟨(some 11), none, .alloc [(.int .i64 0), (.int .i64 0)]⟩,
  ⟨none, none, .store 2 (.t 11) (.t 51)⟩,
  ⟨(some 12), none, .mv (.t 52)⟩]
abbrev x4r8 : List XOper := [
  ⟨(some 54), none, .load true 6 (.t 7)⟩,
  ⟨(some 55), none, .mv (.t 9)⟩,
  ⟨(some 56), none, .mv (.t 10)⟩,
  ⟨(some 57), none, .call (.c (.fn (.func 12) [] [])) [(.t 54), (.t 55), (.t 56), (.c (.int .i64 100))]⟩,
  ⟨(some 53), none, .mv (.t 57)⟩,
  ⟨(some 58), none, .ext (.t 53) 0⟩,
  ⟨(some 59), none, .ext (.t 53) 1⟩,
  ⟨(some 13), none, .alloc [(.int .i64 0), (.int .i64 0)]⟩,
  ⟨none, none, .store 2 (.t 13) (.t 58)⟩,
  ⟨(some 14), none, .mv (.t 59)⟩]
abbrev x4r9 : List XOper := [
  ⟨(some 61), none, .load true 6 (.t 7)⟩,
  ⟨(some 62), none, .mv (.t 9)⟩,
  ⟨(some 63), none, .mv (.t 10)⟩,
  ⟨(some 64), none, .mv (.t 10)⟩,
  ⟨(some 65), none, .mv (.t 9)⟩,
  ⟨(some 66), none, .bin .sub (.t 64) (.t 65)⟩,
  ⟨(some 67), none, .bin .add (.t 63) (.t 66)⟩,
  ⟨(some 68), none, .call (.c (.fn (.func 11) [] [])) [(.t 61), (.t 62), (.t 67), (.c (.int .i64 100))]⟩,
  ⟨(some 60), none, .mv (.t 68)⟩,
  ⟨(some 69), none, .ext (.t 60) 0⟩,
  ⟨(some 70), none, .ext (.t 60) 1⟩,
  ⟨(some 15), none, .alloc [(.int .i64 0), (.int .i64 0)]⟩,
  ⟨none, none, .store 2 (.t 15) (.t 69)⟩,
  ⟨(some 16), none, .mv (.t 70)⟩]
abbrev x4r10 : List XOper := [
  ⟨(some 71), none, .mv (.t 12)⟩,
  ⟨(some 72), none, .mv (.t 14)⟩,
  ⟨(some 73), none, .bin .neq (.t 71) (.t 72)⟩,
  ⟨(some 74), none, .mv (.t 73)⟩,
  ⟨(some 75), (some (74, false)), .mv (.t 12)⟩,
  ⟨(some 76), (some (74, false)), .mv (.t 16)⟩,
  ⟨(some 77), (some (74, false)), .bin .neq (.t 75) (.t 76)⟩,
  ⟨(some 78), none, .pick (.t 74) (.c (.bool true)) (.t 77)⟩]
abbrev x4r11 : List XOper := [
  ⟨(some 6), none, .mv (.c (.bool false))⟩]
abbrev x4r12 : List XOper := [
  ⟨(some 79), none, .mv (.t 12)⟩,
  ⟨(some 80), none, .bin .neq (.t 79) (.c (.int .i64 0))⟩]
abbrev x4r13 : List XOper := [
  ⟨(some 81), none, .mv (.t 12)⟩,
  ⟨(some 82), none, .bin .eql (.t 81) (.c (.int .i64 12))⟩,
  ⟨(some 83), none, .mv (.t 82)⟩,
  ⟨(some 84), (some (83, false)), .mv (.t 12)⟩,
  ⟨(some 85), (some (83, false)), .bin .eql (.t 84) (.c (.int .i64 6))⟩,
  ⟨(some 86), none, .pick (.t 83) (.c (.bool true)) (.t 85)⟩,
  ⟨(some 6), none, .mv (.t 86)⟩]
abbrev x4r14 : List XOper := [
  ⟨(some 87), none, .fa 1 (.t 13)⟩,
  ⟨(some 88), none, .load false 1 (.t 87)⟩,
  ⟨(some 89), none, .fa 1 (.t 11)⟩,
  ⟨(some 90), none, .load false 1 (.t 89)⟩,
  ⟨(some 91), none, .bin .gtr (.t 88) (.t 90)⟩,
  ⟨(some 92), none, .mv (.t 91)⟩,
  ⟨(some 93), (some (92, false)), .fa 0 (.t 13)⟩,
  ⟨(some 94), (some (92, false)), .load false 1 (.t 93)⟩,
  ⟨(some 95), (some (92, false)), .fa 0 (.t 11)⟩,
  ⟨(some 96), (some (92, false)), .load false 1 (.t 95)⟩,
  ⟨(some 97), (some (92, false)), .bin .gtr (.t 94) (.t 96)⟩,
  ⟨(some 98), none, .pick (.t 92) (.c (.bool true)) (.t 97)⟩,
  ⟨(some 99), none, .mv (.t 98)⟩,
  ⟨(some 100), (some (99, false)), .fa 0 (.t 15)⟩,
  ⟨(some 101), (some (99, false)), .load false 1 (.t 100)⟩,
  ⟨(some 102), (some (99, false)), .fa 0 (.t 11)⟩,
  ⟨(some 103), (some (99, false)), .load false 1 (.t 102)⟩,
  ⟨(some 104), (some (99, false)), .bin .mul (.c (.int .i64 2)) (.t 103)⟩,
  ⟨(some 105), (some (99, false)), .bin .lss (.t 101) (.t 104)⟩,
  ⟨(some 106), none, .pick (.t 99) (.c (.bool true)) (.t 105)⟩,
  ⟨(some 107), none, .mv (.t 106)⟩,
  ⟨(some 108), (some (107, false)), .fa 1 (.t 15)⟩,
  ⟨(some 109), (some (107, false)), .load false 1 (.t 108)⟩,
  ⟨(some 110), (some (107, false)), .fa 1 (.t 11)⟩,
  ⟨(some 111), (some (107, false)), .load false 1 (.t 110)⟩,
  ⟨(some 112), (some (107, false)), .bin .mul (.c (.int .i64 2)) (.t 111)⟩,
  ⟨(some 113), (some (107, false)), .bin .gtr (.t 109) (.t 112)⟩,
  ⟨(some 114), none, .pick (.t 107) (.c (.bool true)) (.t 113)⟩]
abbrev x4r15 : List XOper := [
  ⟨(some 6), none, .mv (.c (.bool false))⟩]
abbrev x4r16 : List XOper := [
  ⟨(some 116), none, .fa 0 (.t 15)⟩,
  ⟨(some 117), none, .load false 1 (.t 116)⟩,
  ⟨(some 118), none, .fa 1 (.t 11)⟩,
  ⟨(some 119), none, .load false 1 (.t 118)⟩,
  ⟨(some 120), none, .mnx true (.t 119) [(.c (.int .i64 1))]⟩,
  ⟨(some 121), none, .call (.c (.fn (.func 13) [] [])) [(.t 117), (.t 120)]⟩,
  ⟨(some 115), none, .mv (.t 121)⟩,
  ⟨(some 122), none, .ext (.t 115) 0⟩,
  ⟨(some 123), none, .ext (.t 115) 1⟩,
  ⟨(some 17), none, .alloc [(.int .i64 0), (.int .i64 0)]⟩,
  ⟨none, none, .store 2 (.t 17) (.t 122)⟩,
  ⟨(some 18), none, .mv (.t 123)⟩]
abbrev x4r17 : List XOper := [
  ⟨(some 125), none, .load true 2 (.t 17)⟩,
  ⟨(some 126), none, .build [(.int .i64 0), (.int .i64 0)] [(0, 1, (.c (.int .i64 2))), (1, 1, (.c (.int .i64 1)))]⟩,
  ⟨(some 127), none, .call (.c (.fn (.func 14) [] [])) [(.t 125), (.t 126)]⟩,
  ⟨(some 124), none, .mv (.t 127)⟩,
  ⟨(some 128), none, .ext (.t 124) 0⟩,
  ⟨(some 129), none, .ext (.t 124) 1⟩,
  ⟨(some 19), none, .mv (.t 128)⟩,
  ⟨(some 20), none, .mv (.t 129)⟩]
abbrev x4r18 : List XOper := [
  ⟨(some 130), none, .mv (.t 18)⟩,
  ⟨(some 131), none, .bin .eql (.t 130) (.c (.int .i64 0))⟩,
  ⟨(some 132), none, .mv (.t 131)⟩,
  ⟨(some 133), (some (132, true)), .mv (.t 20)⟩,
  ⟨(some 134), (some (132, true)), .bin .eql (.t 133) (.c (.int .i64 0))⟩,
  ⟨(some 135), none, .pick (.t 132) (.t 134) (.c (.bool false))⟩,
  ⟨(some 136), none, .mv (.t 135)⟩,
  ⟨(some 137), (some (136, true)), .mv (.t 19)⟩,
  ⟨(some 138), (some (136, true)), .bin .leq (.t 137) (.c (.int .i64 0))⟩,
  ⟨(some 139), none, .pick (.t 136) (.t 138) (.c (.bool false))⟩,
  ⟨(some 6), none, .mv (.t 139)⟩]
abbrev x4b : XCode :=
  (.seq (.reg 0 x4r0 none)
  (.seq (.reg 1 x4r1 none)
  (.seq (.reg 2 x4r2 none)
  (.seq (.seq (.reg 3 x4r3 none)
  (.cond (.t 33)
    (.seq (.reg 4 x4r4 none)
    .ret)
    .skip))
  (.seq (.reg 5 x4r5 none)
  (.seq (.reg 6 x4r6 none)
  (.seq (.reg 7 x4r7 none)
  (.seq (.reg 8 x4r8 none)
  (.seq (.reg 9 x4r9 none)
  (.seq (.seq (.reg 10 x4r10 none)
  (.cond (.t 78)
    (.seq (.reg 11 x4r11 none)
    .ret)
    .skip))
  (.seq (.seq (.reg 12 x4r12 none)
  (.cond (.t 80)
    (.seq (.reg 13 x4r13 none)
    .ret)
    .skip))
  (.seq (.seq (.reg 14 x4r14 none)
  (.cond (.t 114)
    (.seq (.reg 15 x4r15 none)
    .ret)
    .skip))
  (.seq (.reg 16 x4r16 none)
  (.seq (.reg 17 x4r17 none)
  (.seq (.reg 18 x4r18 none)
  .ret)))))))))))))))
def x4 : XFunc := ⟨140, 3, [.tmp 6], x4b⟩
theorem x4_ok : chkF Tryz.prog Tryz.f4 x4 = true := by kernel_rfl
abbrev x13r0 : List XOper := [
  ⟨(some 4), none, .alloc [(.int .i64 0), (.int .i64 0)]⟩,
  ⟨(some 5), none, .mv (.c (.int .i64 0))⟩]
abbrev x13r1 : List XOper := [
  ⟨(some 6), none, .mv (.t 1)⟩,
  ⟨(some 7), none, .bin .eql (.t 6) (.c (.int .i64 0))⟩]
abbrev x13r2 : List XOper := [
  ⟨(some 8), none, .build [(.int .i64 0), (.int .i64 0)] []⟩,
  ⟨none, none, .store 2 (.t 4) (.t 8)⟩,
  ⟨(some 5), none, .mv (.c (.int .i64 4))⟩]
abbrev x13r3 : List XOper := [
  ⟨(some 9), none, .mv (.t 0)⟩,
  ⟨(some 10), none, .bin .lss (.t 9) (.c (.int .i64 0))⟩,
  ⟨(some 11), none, .mv (.t 1)⟩,
  ⟨(some 12), none, .bin .lss (.t 11) (.c (.int .i64 0))⟩,
  ⟨(some 13), none, .eqB true (.t 10) (.t 12)⟩,
  ⟨(some 14), none, .mv (.t 0)⟩,
  ⟨(some 15), none, .call (.c (.fn (.func 35) [] [])) [(.t 14)]⟩,
  ⟨(some 16), none, .build [(.int .u64 0), (.int .u64 0)] [(1, 1, (.t 15))]⟩,
  ⟨(some 17), none, .build [(.bool false), (.int .u64 0), (.int .u64 0)] [(0, 1, (.t 13)), (1, 2, (.t 16))]⟩,
  ⟨(some 18), none, .mv (.t 1)⟩,
  ⟨(some 19), none, .call (.c (.fn (.func 35) [] [])) [(.t 18)]⟩,
  ⟨(some 20), none, .build [(.int .u64 0), (.int .u64 0)] [(1, 1, (.t 19))]⟩,
  ⟨(some 21), none, .call (.c (.fn (.func 34) [] [])) [(.t 17), (.t 20)]⟩,
  ⟨(some 22), none, .ext (.t 21) 0⟩,
  ⟨(some 23), none, .ext (.t 21) 1⟩,
  ⟨none, none, .store 2 (.t 4) (.t 22)⟩,
  ⟨(some 5), none, .mv (.t 23)⟩]
abbrev x13b : XCode :=
  (.seq (.reg 0 x13r0 none)
  (.seq (.seq (.reg 1 x13r1 none)
  (.cond (.t 7)
    (.seq (.reg 2 x13r2 none)
    .ret)
    .skip))
  (.seq (.reg 3 x13r3 none)
  .ret)))
def x13 : XFunc := ⟨24, 2, [.cell 4 true 2, .tmp 5], x13b⟩
theorem x13_ok : chkF Tryz.prog Tryz.f13 x13 = true := by kernel_rfl
theorem x13_eq : x13.body = x13b ∧ x13.res = [.cell 4 true 2, .tmp 5] ∧ x13.np = 2 := ⟨rfl, rfl, rfl⟩
abbrev x14r0 : List XOper := [
  ⟨(some 2), none, .box (.t 0)⟩,
  ⟨(some 3), none, .box (.t 1)⟩,
  ⟨(some 4), none, .mv (.c (.int .i64 0))⟩,
  ⟨(some 5), none, .mv (.c (.int .i64 0))⟩]
abbrev x14r1 : List XOper := [
  ⟨(some 8), none, .load true 2 (.t 2)⟩,
  ⟨(some 9), none, .call (.c (.fn (.func 36) [] [])) [(.t 8)]⟩,
  ⟨(some 10), none, .un .not (.t 9)⟩,
  ⟨(some 11), none, .mv (.t 10)⟩,
  ⟨(some 12), (some (11, false)), .load true 2 (.t 3)⟩,
  ⟨(some 13), (some (11, false)), .call (.c (.fn (.func 36) [] [])) [(.t 12)]⟩,
  ⟨(some 14), (some (11, false)), .un .not (.t 13)⟩,
  ⟨(some 15), none, .pick (.t 11) (.c (.bool true)) (.t 14)⟩]
abbrev x14r2 : List XOper := [
  ⟨(some 4), none, .mv (.c (.int .i64 0))⟩,
  ⟨(some 5), none, .mv (.c (.int .i64 1))⟩]
abbrev x14r3 : List XOper := [
  ⟨(some 16), none, .fa 0 (.t 2)⟩,
  ⟨(some 17), none, .load false 1 (.t 16)⟩,
  ⟨(some 18), none, .fa 1 (.t 3)⟩,
  ⟨(some 19), none, .load false 1 (.t 18)⟩,
  ⟨(some 20), none, .call (.c (.fn (.func 37) [] [])) [(.t 17), (.t 19)]⟩,
  ⟨(some 21), none, .fa 0 (.t 3)⟩,
  ⟨(some 22), none, .load false 1 (.t 21)⟩,
  ⟨(some 23), none, .fa 1 (.t 2)⟩,
  ⟨(some 24), none, .load false 1 (.t 23)⟩,
  ⟨(some 25), none, .call (.c (.fn (.func 37) [] [])) [(.t 22), (.t 24)]⟩,
  ⟨(some 6), none, .alloc [(.bool false), (.int .u64 0), (.int .u64 0)]⟩,
  ⟨(some 7), none, .alloc [(.bool false), (.int .u64 0), (.int .u64 0)]⟩,
  ⟨none, none, .store 3 (.t 6) (.t 20)⟩,
  ⟨none, none, .store 3 (.t 7) (.t 25)⟩]
abbrev x14r4 : List XOper := [
  ⟨(some 27), none, .load true 3 (.t 6)⟩,
  ⟨(some 28), none, .load true 3 (.t 7)⟩,
  ⟨(some 29), none, .call (.c (.fn (.func 38) [] [])) [(.t 27), (.t 28)]⟩,
  ⟨(some 26), none, .mv (.t 29)⟩]
abbrev x14r5 : List XOper := [
  ⟨(some 4), none, .mv (.c (.int .i64 (-1)))⟩,
  ⟨(some 5), none, .mv (.c (.int .i64 0))⟩]
abbrev x14r6 : List XOper := [
  ⟨(some 31), none, .load true 3 (.t 7)⟩,
  ⟨(some 32), none, .load true 3 (.t 6)⟩,
  ⟨(some 33), none, .call (.c (.fn (.func 38) [] [])) [(.t 31), (.t 32)]⟩,
  ⟨(some 30), none, .mv (.t 33)⟩]
abbrev x14r7 : List XOper := [
  ⟨(some 4), none, .mv (.c (.int .i64 1))⟩,
  ⟨(some 5), none, .mv (.c (.int .i64 0))⟩]
abbrev x14r8 : List XOper := [
  ⟨(some 4), none, .mv (.c (.int .i64 0))⟩,
  ⟨(some 5), none, .mv (.c (.int .i64 0))⟩]
abbrev x14b : XCode :=
  (.seq (.reg 0 x14r0 none)
  (.seq (.seq (.reg 1 x14r1 none)
  (.cond (.t 15)
    (.seq (.reg 2 x14r2 none)
    .ret)
    .skip))
  (.seq (.reg 3 x14r3 (some ⟨[(4, 6), (4, 8), (1, 10), (3, 10), (4, 10), (6, 10), (8, 10), (9, 10), (1, 11), (3, 11), (4, 11), (6, 11), (8, 11), (9, 11), (10, 11)]⟩))
  (.seq (.block 0
    (.seq (.reg 4 x14r4 none)
    (.cond (.t 26)
      (.seq (.reg 5 x14r5 none)
      .ret)
      (.seq (.reg 6 x14r6 none)
      (.cond (.t 30)
        (.seq (.reg 7 x14r7 none)
        .ret)
        .skip)))))
  (.seq (.reg 8 x14r8 none)
  .ret)))))
def x14 : XFunc := ⟨34, 2, [.tmp 4, .tmp 5], x14b⟩
theorem x14_ok : chkF Tryz.prog Tryz.f14 x14 = true := by kernel_rfl
abbrev x28r0 : List XOper := [
  ⟨(some 4), none, .alloc [(.int .i64 0), (.int .i64 0)]⟩]
abbrev x28r1 : List XOper := [
  ⟨(some 8), none, .load true 6 (.t 0)⟩,
  ⟨(some 9), none, .call (.c (.fn (.func 30) [] [])) [(.t 8)]⟩,
  ⟨(some 10), none, .load false 1 (.t 1)⟩,
  ⟨(some 11), none, .load false 1 (.t 2)⟩,
  ⟨(some 12), none, .load false 1 (.t 3)⟩,
  ⟨(some 13), none, .call (.c (.fn (.func 29) [] [])) [(.t 9), (.t 10), (.t 11), (.t 12)]⟩]
abbrev x28r2 : List XOper := [
  ⟨(some 14), none, .load false 1 (.t 2)⟩,
  ⟨(some 15), none, .load false 1 (.t 1)⟩,
  ⟨(some 16), none, .bin .sub (.t 14) (.t 15)⟩,
  ⟨(some 17), none, .conv .u64 (.t 16)⟩,
  ⟨(some 18), none, .load false 1 (.t 3)⟩,
  ⟨(some 19), none, .conv .u64 (.t 18)⟩,
  ⟨(some 20), none, .fa 0 (.t 0)⟩,
  ⟨(some 21), none, .load false 1 (.t 20)⟩,
  ⟨(some 22), none, .mnx true (.t 21) [(.c (.int .i64 1))]⟩,
  ⟨(some 23), none, .conv .u64 (.t 22)⟩,
  ⟨(some 5), none, .mv (.t 17)⟩,
  ⟨(some 6), none, .mv (.t 19)⟩,
  ⟨(some 7), none, .mv (.t 23)⟩]
abbrev x28r3 : List XOper := [
  ⟨(some 24), none, .load true 6 (.t 0)⟩,
  ⟨(some 25), none, .call (.c (.fn (.func 32) [] [])) [(.t 24)]⟩,
  ⟨(some 26), none, .mv (.t 5)⟩,
  ⟨(some 27), none, .mv (.t 5)⟩,
  ⟨(some 28), none, .mv (.t 7)⟩,
  ⟨(some 29), none, .mv (.t 7)⟩,
  ⟨(some 30), none, .bin .sub (.t 29) (.c (.int .u64 1))⟩,
  ⟨(some 31), none, .mv (.t 6)⟩,
  ⟨(some 32), none, .mv (.t 6)⟩,
  ⟨(some 33), none, .mkslice 1 (.int .u64 0) 6 [(0, (.t 26)), (1, (.t 27)), (2, (.t 28)), (3, (.t 30)), (4, (.t 31)), (5, (.t 32))]⟩,
  ⟨(some 34), none, .call (.c (.fn (.func 31) [] [])) [(.t 25), (.c (.int .u64 36)), (.t 33)]⟩,
  ⟨none, none, .store 2 (.t 4) (.t 34)⟩]
abbrev x28b : XCode :=
  (.seq (.reg 0 x28r0 none)
  (.seq (.reg 1 x28r1 (some ⟨[(1, 2), (1, 3), (1, 4)]⟩))
  (.seq (.reg 2 x28r2 (some ⟨[]⟩))
  (.seq (.reg 3 x28r3 none)
  .ret))))
def x28 : XFunc := ⟨35, 4, [.cell 4 true 2], x28b⟩
theorem x28_ok : chkF Tryz.prog Tryz.f28 x28 = true := by kernel_rfl
theorem x28_eq : x28.body = x28b ∧ x28.res = [.cell 4 true 2] ∧ x28.np = 4 := ⟨rfl, rfl, rfl⟩
abbrev x29r0 : List XOper := [
  ⟨(some 8), none, .mv (.t 0)⟩,
  ⟨(some 9), none, .mv (.t 8)⟩,
  ⟨(some 10), (some (9, true)), .mv (.t 1)⟩,
  ⟨(some 11), (some (9, true)), .bin .geq (.t 10) (.c (.int .i64 (-1000000)))⟩,
  ⟨(some 12), none, .pick (.t 9) (.t 11) (.c (.bool false))⟩,
  ⟨(some 13), none, .mv (.t 12)⟩,
  ⟨(some 14), (some (13, true)), .mv (.t 2)⟩,
  ⟨(some 15), (some (13, true)), .bin .leq (.t 14) (.c (.int .i64 1000000))⟩,
  ⟨(some 16), none, .pick (.t 13) (.t 15) (.c (.bool false))⟩,
  ⟨(some 17), none, .mv (.t 16)⟩,
  ⟨(some 18), (some (17, true)), .mv (.t 1)⟩,
  ⟨(some 19), (some (17, true)), .mv (.t 2)⟩,
  ⟨(some 20), (some (17, true)), .bin .lss (.t 18) (.t 19)⟩,
  ⟨(some 21), none, .pick (.t 17) (.t 20) (.c (.bool false))⟩,
  ⟨(some 22), none, .call (.c (.fn (.func 54) [] [])) [(.t 21), (.c (.int .i64 1))]⟩]
abbrev x29r1 : List XOper := [
  ⟨(some 23), none, .mv (.t 3)⟩,
  ⟨(some 24), none, .bin .geq (.t 23) (.c (.int .i64 1))⟩,
  ⟨(some 25), none, .mv (.t 24)⟩,
  ⟨(some 26), (some (25, true)), .mv (.t 3)⟩,
  ⟨(some 27), (some (25, true)), .bin .leq (.t 26) (.c (.int .i64 1000))⟩,
  ⟨(some 28), none, .pick (.t 25) (.t 27) (.c (.bool false))⟩,
  ⟨(some 29), none, .call (.c (.fn (.func 54) [] [])) [(.t 28), (.c (.int .i64 3))]⟩]
abbrev x29b : XCode :=
  (.seq (.reg 0 x29r0 none)
  (.reg 1 x29r1 none))
def x29 : XFunc := ⟨30, 4, [], x29b⟩
theorem x29_ok : chkF Tryz.prog Tryz.f29 x29 = true := by kernel_rfl
theorem x29_eq : x29.body = x29b ∧ x29.res = [] ∧ x29.np = 4 := ⟨rfl, rfl, rfl⟩
abbrev x31r0 : List XOper := [
  ⟨(some 3), none, .box (.t 0)⟩,
  ⟨(some 6), none, .alloc [(.int .i64 0), (.int .i64 0)]⟩]
abbrev x31r1 : List XOper := [
  ⟨(some 16), none, .build [(.int .u64 0), (.int .u64 0)] [(1, 1, (.c (.int .u64 1)))]⟩,
  ⟨(some 7), none, .alloc [(.int .u64 0), (.int .u64 0)]⟩,
  ⟨none, none, .store 2 (.t 7) (.t 16)⟩]
abbrev x31r2 : List XOper := [
  ⟨(some 17), none, .mv (.t 2)⟩,
  ⟨(some 18), none, .lenV (.t 17)⟩,
  ⟨(some 19), none, .mv (.c (.int .i64 0))⟩]
abbrev x31r3 : List XOper := [
  ⟨(some 20), none, .bin .lss (.t 19) (.t 18)⟩]
abbrev x31r4 : List XOper := [
  ⟨(some 21), none, .iaS 1 (.t 17) (.t 19)⟩,
  ⟨(some 22), none, .load false 1 (.t 21)⟩,
  ⟨(some 9), none, .mv (.t 22)⟩]
abbrev x31r5 : List XOper := [
  ⟨(some 24), none, .load true 2 (.t 7)⟩,
  ⟨(some 25), none, .mv (.t 9)⟩,
  ⟨(some 26), none, .build [(.int .u64 0), (.int .u64 0)] [(1, 1, (.t 25))]⟩,
  ⟨(some 27), none, .call (.c (.fn (.func 9) [] [])) [(.t 24), (.t 26)]⟩,
  ⟨(some 23), none, .mv (.t 27)⟩,
  ⟨(some 28), none, .ext (.t 23) 0⟩,
  ⟨(some 29), none, .ext (.t 23) 1⟩,
  ⟨none, none, .store 2 (.t 7) (.t 28)⟩]
abbrev x31r6 : List XOper := [
  ⟨(some 30), none, .bin .add (.t 19) (.c (.int .i64 1))⟩,
  ⟨(some 19), none, .mv (.t 30)⟩]
abbrev x31l3 : XCode :=
  (.seq (.reg 3 x31r3 none)
  (.seq (.cond (.t 20)
    .skip
    (.exit 0))
  (.seq (.block 1
    (.seq (.reg 4 x31r4 none)
    (.reg 5 x31r5 none)))
  (.reg 6 x31r6 none))))
abbrev x31r7 : List XOper := [
  ⟨(some 32), none, .load true 2 (.t 3)⟩,
  ⟨(some 33), none, .mv (.t 1)⟩,
  ⟨(some 34), none, .build [(.int .u64 0), (.int .u64 0)] [(1, 1, (.t 33))]⟩,
  ⟨(some 35), none, .call (.c (.fn (.func 9) [] [])) [(.t 32), (.t 34)]⟩,
  ⟨(some 31), none, .mv (.t 35)⟩,
  ⟨(some 36), none, .ext (.t 31) 0⟩,
  ⟨(some 37), none, .ext (.t 31) 1⟩,
  ⟨(some 10), none, .alloc [(.int .u64 0), (.int .u64 0)]⟩,
  ⟨none, none, .store 2 (.t 10) (.t 36)⟩,
  ⟨(some 11), none, .mv (.t 37)⟩]
abbrev x31r8 : List XOper := [
  ⟨(some 39), none, .load true 2 (.t 7)⟩,
  ⟨(some 40), none, .load true 2 (.t 10)⟩,
  ⟨(some 41), none, .call (.c (.fn (.func 58) [] [])) [(.t 39), (.t 40)]⟩,
  ⟨(some 38), none, .mv (.t 41)⟩,
  ⟨(some 42), none, .ext (.t 38) 0⟩,
  ⟨(some 43), none, .ext (.t 38) 1⟩,
  ⟨(some 44), none, .ext (.t 38) 2⟩,
  ⟨(some 12), none, .alloc [(.int .u64 0), (.int .u64 0)]⟩,
  ⟨(some 13), none, .alloc [(.int .u64 0), (.int .u64 0)]⟩,
  ⟨none, none, .store 2 (.t 12) (.t 42)⟩,
  ⟨none, none, .store 2 (.t 13) (.t 43)⟩,
  ⟨(some 14), none, .mv (.t 44)⟩]
abbrev x31r9 : List XOper := [
  ⟨(some 45), none, .mv (.t 14)⟩,
  ⟨(some 46), none, .bin .eql (.t 45) (.c (.int .i64 0))⟩,
  ⟨(some 47), none, .call (.c (.fn (.func 54) [] [])) [(.t 46), (.c (.int .i64 6))]⟩]
abbrev x31r10 : List XOper := [
  ⟨(some 48), none, .load true 2 (.t 12)⟩,
  ⟨(some 15), none, .alloc [(.int .u64 0), (.int .u64 0)]⟩,
  ⟨none, none, .store 2 (.t 15) (.t 48)⟩]
abbrev x31r11 : List XOper := [
  ⟨(some 49), none, .load true 2 (.t 13)⟩,
  ⟨(some 50), none, .build [(.int .u64 0), (.int .u64 0)] []⟩,
  ⟨(some 51), none, .eqA true [0, 0] (.t 49) (.t 50)⟩]
abbrev x31r12 : List XOper := [
  ⟨(some 53), none, .load true 2 (.t 12)⟩,
  ⟨(some 54), none, .build [(.int .u64 0), (.int .u64 0)] [(1, 1, (.c (.int .u64 1)))]⟩,
  ⟨(some 55), none, .call (.c (.fn (.func 10) [] [])) [(.t 53), (.t 54)]⟩,
  ⟨(some 52), none, .mv (.t 55)⟩,
  ⟨(some 56), none, .ext (.t 52) 0⟩,
  ⟨(some 57), none, .ext (.t 52) 1⟩,
  ⟨none, none, .store 2 (.t 15) (.t 56)⟩]
abbrev x31r13 : List XOper := [
  ⟨(some 58), none, .load true 2 (.t 12)⟩,
  ⟨(some 59), none, .call (.c (.fn (.func 59) [] [])) [(.t 58)]⟩,
  ⟨(some 60), none, .conv .i64 (.t 59)⟩,
  ⟨(some 61), none, .load true 2 (.t 15)⟩,
  ⟨(some 62), none, .call (.c (.fn (.func 60) [] [])) [(.t 61)]⟩,
  ⟨(some 63), none, .fld false 1 1 (.t 62)⟩,
  ⟨(some 64), none, .conv .i64 (.t 63)⟩,
  ⟨(some 65), none, .build [(.int .i64 0), (.int .i64 0)] [(0, 1, (.t 60)), (1, 1, (.t 64))]⟩,
  ⟨none, none, .store 2 (.t 6) (.t 65)⟩]
abbrev x31b : XCode :=
  (.seq (.reg 0 x31r0 none)
  (.seq (.reg 1 x31r1 none)
  (.seq (.seq (.reg 2 x31r2 none)
  (.block 0
    (.loop x31l3)))
  (.seq (.reg 7 x31r7 none)
  (.seq (.reg 8 x31r8 none)
  (.seq (.reg 9 x31r9 none)
  (.seq (.reg 10 x31r10 none)
  (.seq (.seq (.reg 11 x31r11 none)
  (.cond (.t 51)
    (.reg 12 x31r12 none)
    .skip))
  (.seq (.reg 13 x31r13 (some ⟨[(1, 3)]⟩))
  .ret)))))))))
def x31 : XFunc := ⟨66, 3, [.cell 6 true 2], x31b⟩
theorem x31_ok : chkF Tryz.prog Tryz.f31 x31 = true := by kernel_rfl
theorem x31_eq : x31.body = x31b ∧ x31.res = [.cell 6 true 2] ∧ x31.np = 3 := ⟨rfl, rfl, rfl⟩
abbrev x32r0 : List XOper := [
  ⟨(some 1), none, .box (.t 0)⟩,
  ⟨(some 2), none, .alloc [(.int .u64 0), (.int .u64 0)]⟩]
abbrev x32r1 : List XOper := [
  ⟨(some 5), none, .fa 0 (.t 1)⟩,
  ⟨(some 6), none, .load false 1 (.t 5)⟩,
  ⟨(some 7), none, .bin .geq (.t 6) (.c (.int .i64 2))⟩,
  ⟨(some 8), none, .call (.c (.fn (.func 54) [] [])) [(.t 7), (.c (.int .i64 12))]⟩]
abbrev x32r2 : List XOper := [
  ⟨(some 9), none, .fa 0 (.t 1)⟩,
  ⟨(some 10), none, .load false 1 (.t 9)⟩,
  ⟨(some 11), none, .bin .leq (.t 10) (.c (.int .i64 1000))⟩,
  ⟨(some 12), none, .call (.c (.fn (.func 54) [] [])) [(.t 11), (.c (.int .i64 2))]⟩]
abbrev x32r3 : List XOper := [
  ⟨(some 14), none, .load true 6 (.t 1)⟩,
  ⟨(some 15), none, .call (.c (.fn (.func 61) [] [])) [(.t 14)]⟩,
  ⟨(some 13), none, .mv (.t 15)⟩,
  ⟨(some 16), none, .ext (.t 13) 0⟩,
  ⟨(some 17), none, .ext (.t 13) 1⟩,
  ⟨(some 3), none, .alloc [(.int .u64 0), (.int .u64 0)]⟩,
  ⟨none, none, .store 2 (.t 3) (.t 16)⟩,
  ⟨(some 4), none, .mv (.t 17)⟩]
abbrev x32r4 : List XOper := [
  ⟨(some 18), none, .load true 2 (.t 3)⟩,
  ⟨none, none, .store 2 (.t 2) (.t 18)⟩]
abbrev x32b : XCode :=
  (.seq (.reg 0 x32r0 none)
  (.seq (.reg 1 x32r1 none)
  (.seq (.reg 2 x32r2 none)
  (.seq (.reg 3 x32r3 none)
  (.seq (.reg 4 x32r4 none)
  .ret)))))
def x32 : XFunc := ⟨19, 1, [.cell 2 true 2], x32b⟩
theorem x32_ok : chkF Tryz.prog Tryz.f32 x32 = true := by kernel_rfl
theorem x32_eq : x32.body = x32b ∧ x32.res = [.cell 2 true 2] ∧ x32.np = 1 := ⟨rfl, rfl, rfl⟩
abbrev x33r0 : List XOper := [
  ⟨(some 4), none, .alloc [(.int .i64 0), (.int .i64 0)]⟩]
abbrev x33r1 : List XOper := [
  ⟨(some 10), none, .load true 6 (.t 0)⟩,
  ⟨(some 11), none, .call (.c (.fn (.func 30) [] [])) [(.t 10)]⟩,
  ⟨(some 12), none, .load false 1 (.t 1)⟩,
  ⟨(some 13), none, .load false 1 (.t 2)⟩,
  ⟨(some 14), none, .load false 1 (.t 3)⟩,
  ⟨(some 15), none, .call (.c (.fn (.func 29) [] [])) [(.t 11), (.t 12), (.t 13), (.t 14)]⟩]
abbrev x33r2 : List XOper := [
  ⟨(some 16), none, .load false 1 (.t 2)⟩,
  ⟨(some 17), none, .fa 0 (.t 0)⟩,
  ⟨(some 18), none, .load false 1 (.t 17)⟩,
  ⟨(some 19), none, .bin .mul (.t 16) (.t 18)⟩,
  ⟨(some 20), none, .fa 1 (.t 0)⟩,
  ⟨(some 21), none, .load false 1 (.t 20)⟩,
  ⟨(some 22), none, .bin .sub (.t 19) (.t 21)⟩,
  ⟨(some 23), none, .fa 1 (.t 0)⟩,
  ⟨(some 24), none, .load false 1 (.t 23)⟩,
  ⟨(some 25), none, .load false 1 (.t 1)⟩,
  ⟨(some 26), none, .fa 0 (.t 0)⟩,
  ⟨(some 27), none, .load false 1 (.t 26)⟩,
  ⟨(some 28), none, .bin .mul (.t 25) (.t 27)⟩,
  ⟨(some 29), none, .bin .sub (.t 24) (.t 28)⟩,
  ⟨(some 30), none, .mnx false (.t 22) [(.t 29)]⟩,
  ⟨(some 5), none, .mv (.t 30)⟩]
abbrev x33r3 : List XOper := [
  ⟨(some 31), none, .mv (.t 5)⟩,
  ⟨(some 32), none, .mv (.t 5)⟩,
  ⟨(some 33), none, .un .neg (.t 32)⟩,
  ⟨(some 34), none, .mnx true (.t 31) [(.t 33)]⟩,
  ⟨(some 35), none, .conv .u64 (.t 34)⟩,
  ⟨(some 36), none, .load false 1 (.t 3)⟩,
  ⟨(some 37), none, .conv .u64 (.t 36)⟩,
  ⟨(some 38), none, .fa 0 (.t 0)⟩,
  ⟨(some 39), none, .load false 1 (.t 38)⟩,
  ⟨(some 40), none, .mnx true (.t 39) [(.c (.int .i64 1))]⟩,
  ⟨(some 41), none, .conv .u64 (.t 40)⟩,
  ⟨(some 6), none, .mv (.t 35)⟩,
  ⟨(some 7), none, .mv (.t 37)⟩,
  ⟨(some 8), none, .mv (.t 41)⟩]
abbrev x33r4 : List XOper := [
  ⟨(some 42), none, .load true 6 (.t 0)⟩,
  ⟨(some 43), none, .call (.c (.fn (.func 32) [] [])) [(.t 42)]⟩,
  ⟨(some 44), none, .mv (.t 8)⟩,
  ⟨(some 45), none, .bin .mul (.c (.int .u64 9)) (.t 44)⟩,
  ⟨(some 46), none, .mv (.t 6)⟩,
  ⟨(some 47), none, .mv (.t 6)⟩,
  ⟨(some 48), none, .mv (.t 8)⟩,
  ⟨(some 49), none, .bin .sub (.t 48) (.c (.int .u64 1))⟩,
  ⟨(some 50), none, .mv (.t 7)⟩,
  ⟨(some 51), none, .mv (.t 7)⟩,
  ⟨(some 52), none, .mkslice 1 (.int .u64 0) 5 [(0, (.t 46)), (1, (.t 47)), (2, (.t 49)), (3, (.t 50)), (4, (.t 51))]⟩,
  ⟨(some 53), none, .call (.c (.fn (.func 31) [] [])) [(.t 43), (.t 45), (.t 52)]⟩,
  ⟨(some 9), none, .alloc [(.int .i64 0), (.int .i64 0)]⟩,
  ⟨none, none, .store 2 (.t 9) (.t 53)⟩]
abbrev x33r5 : List XOper := [
  ⟨(some 54), none, .mv (.t 5)⟩,
  ⟨(some 55), none, .bin .lss (.t 54) (.c (.int .i64 0))⟩]
abbrev x33r6 : List XOper := [
  ⟨(some 56), none, .fa 1 (.t 9)⟩,
  ⟨(some 57), none, .load false 1 (.t 56)⟩,
  ⟨(some 58), none, .un .neg (.t 57)⟩,
  ⟨(some 59), none, .fa 0 (.t 9)⟩,
  ⟨(some 60), none, .load false 1 (.t 59)⟩,
  ⟨(some 61), none, .un .neg (.t 60)⟩,
  ⟨(some 62), none, .build [(.int .i64 0), (.int .i64 0)] [(0, 1, (.t 58)), (1, 1, (.t 61))]⟩,
  ⟨none, none, .store 2 (.t 4) (.t 62)⟩]
abbrev x33r7 : List XOper := [
  ⟨(some 63), none, .load true 2 (.t 9)⟩,
  ⟨none, none, .store 2 (.t 4) (.t 63)⟩]
abbrev x33b : XCode :=
  (.seq (.reg 0 x33r0 none)
  (.seq (.reg 1 x33r1 (some ⟨[(1, 2), (1, 3), (1, 4)]⟩))
  (.seq (.reg 2 x33r2 none)
  (.seq (.reg 3 x33r3 (some ⟨[]⟩))
  (.seq (.reg 4 x33r4 none)
  (.seq (.seq (.reg 5 x33r5 none)
  (.cond (.t 55)
    (.seq (.reg 6 x33r6 none)
    .ret)
    .skip))
  (.seq (.reg 7 x33r7 none)
  .ret)))))))
def x33 : XFunc := ⟨64, 4, [.cell 4 true 2], x33b⟩
theorem x33_ok : chkF Tryz.prog Tryz.f33 x33 = true := by kernel_rfl
theorem x33_eq : x33.body = x33b ∧ x33.res = [.cell 4 true 2] ∧ x33.np = 4 := ⟨rfl, rfl, rfl⟩
abbrev x34r0 : List XOper := [
  ⟨(some 2), none, .box (.t 0)⟩,
  ⟨(some 3), none, .box (.t 1)⟩,
  ⟨(some 4), none, .alloc [(.int .i64 0), (.int .i64 0)]⟩,
  ⟨(some 5), none, .mv (.c (.int .i64 0))⟩]
abbrev x34r1 : List XOper := [
  ⟨(some 14), none, .fa 1 (.t 2)⟩,
  ⟨(some 15), none, .load true 2 (.t 14)⟩,
  ⟨(some 16), none, .load true 2 (.t 3)⟩,
  ⟨(some 17), none, .call (.c (.fn (.func 62) [] [])) [(.t 15), (.t 16)]⟩,
  ⟨(some 13), none, .mv (.t 17)⟩,
  ⟨(some 18), none, .ext (.t 13) 0⟩,
  ⟨(some 19), none, .ext (.t 13) 1⟩,
  ⟨(some 20), none, .ext (.t 13) 2⟩,
  ⟨(some 6), none, .alloc [(.int .u64 0), (.int .u64 0)]⟩,
  ⟨(some 7), none, .alloc [(.int .u64 0), (.int .u64 0)]⟩,
  ⟨none, none, .store 2 (.t 6) (.t 18)⟩,
  ⟨none, none, .store 2 (.t 7) (.t 19)⟩,
  ⟨(some 8), none, .mv (.t 20)⟩]
abbrev x34r2 : List XOper := [
  ⟨(some 22), none, .fa 0 (.t 2)⟩,
  ⟨(some 23), none, .load false 1 (.t 22)⟩,
  ⟨(some 24), none, .load true 2 (.t 6)⟩,
  ⟨(some 25), none, .build [(.bool false), (.int .u64 0), (.int .u64 0)] [(0, 1, (.t 23)), (1, 2, (.t 24))]⟩,
  ⟨(some 26), none, .build [(.bool false), (.int .u64 0), (.int .u64 0)] [(0, 3, (.t 25))]⟩,
  ⟨(some 27), none, .call (.c (.fn (.func 63) [] [])) [(.t 26)]⟩,
  ⟨(some 21), none, .mv (.t 27)⟩,
  ⟨(some 28), none, .ext (.t 21) 0⟩,
  ⟨(some 29), none, .ext (.t 21) 1⟩,
  ⟨(some 9), none, .mv (.t 28)⟩,
  ⟨(some 10), none, .mv (.t 29)⟩]
abbrev x34r3 : List XOper := [
  ⟨(some 31), none, .load true 2 (.t 7)⟩,
  ⟨(some 32), none, .build [(.bool false), (.int .u64 0), (.int .u64 0)] [(0, 1, (.c (.bool false))), (1, 2, (.t 31))]⟩,
  ⟨(some 33), none, .build [(.bool false), (.int .u64 0), (.int .u64 0)] [(0, 3, (.t 32))]⟩,
  ⟨(some 34), none, .call (.c (.fn (.func 63) [] [])) [(.t 33)]⟩,
  ⟨(some 30), none, .mv (.t 34)⟩,
  ⟨(some 35), none, .ext (.t 30) 0⟩,
  ⟨(some 36), none, .ext (.t 30) 1⟩,
  ⟨(some 11), none, .mv (.t 35)⟩,
  ⟨(some 12), none, .mv (.t 36)⟩]
abbrev x34r4 : List XOper := [
  ⟨(some 37), none, .mv (.t 10)⟩,
  ⟨(some 38), none, .un .not (.t 37)⟩,
  ⟨(some 39), none, .mv (.t 38)⟩,
  ⟨(some 40), (some (39, false)), .mv (.t 12)⟩,
  ⟨(some 41), (some (39, false)), .un .not (.t 40)⟩,
  ⟨(some 42), none, .pick (.t 39) (.c (.bool true)) (.t 41)⟩]
abbrev x34r5 : List XOper := [
  ⟨(some 43), none, .build [(.int .i64 0), (.int .i64 0)] []⟩,
  ⟨none, none, .store 2 (.t 4) (.t 43)⟩,
  ⟨(some 5), none, .mv (.c (.int .i64 5))⟩]
abbrev x34r6 : List XOper := [
  ⟨(some 44), none, .mv (.t 9)⟩,
  ⟨(some 45), none, .mv (.t 11)⟩,
  ⟨(some 46), none, .build [(.int .i64 0), (.int .i64 0)] [(0, 1, (.t 44)), (1, 1, (.t 45))]⟩,
  ⟨none, none, .store 2 (.t 4) (.t 46)⟩,
  ⟨(some 5), none, .mv (.c (.int .i64 0))⟩]
abbrev x34b : XCode :=
  (.seq (.reg 0 x34r0 none)
  (.seq (.reg 1 x34r1 none)
  (.seq (.reg 2 x34r2 none)
  (.seq (.reg 3 x34r3 none)
  (.seq (.seq (.reg 4 x34r4 none)
  (.cond (.t 42)
    (.seq (.reg 5 x34r5 none)
    .ret)
    .skip))
  (.seq (.reg 6 x34r6 none)
  .ret))))))
def x34 : XFunc := ⟨47, 2, [.cell 4 true 2, .tmp 5], x34b⟩
theorem x34_ok : chkF Tryz.prog Tryz.f34 x34 = true := by kernel_rfl
theorem x34_eq : x34.body = x34b ∧ x34.res = [.cell 4 true 2, .tmp 5] ∧ x34.np = 2 := ⟨rfl, rfl, rfl⟩
abbrev x35r0 : List XOper := [
  ⟨(some 2), none, .mv (.c (.int .u64 0))⟩]
abbrev x35r1 : List XOper := [
  ⟨(some 3), none, .mv (.t 0)⟩,
  ⟨(some 4), none, .bin .lss (.t 3) (.c (.int .i64 0))⟩]
abbrev x35r2 : List XOper := [
  ⟨(some 5), none, .mv (.t 0)⟩,
  ⟨(some 6), none, .conv .u64 (.t 5)⟩,
  ⟨(some 7), none, .un .neg (.t 6)⟩,
  ⟨(some 2), none, .mv (.t 7)⟩]
abbrev x35r3 : List XOper := [
  ⟨(some 8), none, .mv (.t 0)⟩,
  ⟨(some 9), none, .conv .u64 (.t 8)⟩,
  ⟨(some 2), none, .mv (.t 9)⟩]
abbrev x35b : XCode :=
  (.seq (.reg 0 x35r0 none)
  (.seq (.seq (.reg 1 x35r1 none)
  (.cond (.t 4)
    (.seq (.reg 2 x35r2 none)
    .ret)
    .skip))
  (.seq (.reg 3 x35r3 none)
  .ret)))
def x35 : XFunc := ⟨10, 1, [.tmp 2], x35b⟩
theorem x35_ok : chkF Tryz.prog Tryz.f35 x35 = true := by kernel_rfl
theorem x35_eq : x35.body = x35b ∧ x35.res = [.tmp 2] ∧ x35.np = 1 := ⟨rfl, rfl, rfl⟩
abbrev x36r0 : List XOper := [
  ⟨(some 1), none, .box (.t 0)⟩,
  ⟨(some 2), none, .mv (.c (.bool false))⟩]
abbrev x36r1 : List XOper := [
  ⟨(some 3), none, .fa 1 (.t 1)⟩,
  ⟨(some 4), none, .load false 1 (.t 3)⟩,
  ⟨(some 5), none, .bin .geq (.t 4) (.c (.int .i64 1))⟩,
  ⟨(some 6), none, .mv (.t 5)⟩,
  ⟨(some 7), (some (6, true)), .fa 0 (.t 1)⟩,
  ⟨(some 8), (some (6, true)), .load false 1 (.t 7)⟩,
  ⟨(some 9), (some (6, true)), .call (.c (.fn (.func 35) [] [])) [(.t 8)]⟩,
  ⟨(some 10), (some (6, true)), .build [(.int .u64 0), (.int .u64 0)] [(1, 1, (.t 9))]⟩,
  ⟨(some 11), (some (6, true)), .fa 1 (.t 1)⟩,
  ⟨(some 12), (some (6, true)), .load false 1 (.t 11)⟩,
  ⟨(some 13), (some (6, true)), .call (.c (.fn (.func 35) [] [])) [(.t 12)]⟩,
  ⟨(some 14), (some (6, true)), .build [(.int .u64 0), (.int .u64 0)] [(1, 1, (.t 13))]⟩,
  ⟨(some 15), (some (6, true)), .call (.c (.fn (.func 64) [] [])) [(.t 10), (.t 14)]⟩,
  ⟨(some 16), (some (6, true)), .build [(.int .u64 0), (.int .u64 0)] [(1, 1, (.c (.int .u64 1)))]⟩,
  ⟨(some 17), (some (6, true)), .eqA false [0, 0] (.t 15) (.t 16)⟩,
  ⟨(some 18), none, .pick (.t 6) (.t 17) (.c (.bool false))⟩,
  ⟨(some 2), none, .mv (.t 18)⟩]
abbrev x36b : XCode :=
  (.seq (.reg 0 x36r0 none)
  (.seq (.reg 1 x36r1 (some ⟨[(6, 9)]⟩))
  .ret))
def x36 : XFunc := ⟨19, 1, [.tmp 2], x36b⟩
theorem x36_ok : chkF Tryz.prog Tryz.f36 x36 = true := by kernel_rfl
abbrev x37r0 : List XOper := [
  ⟨(some 4), none, .alloc [(.bool false), (.int .u64 0), (.int .u64 0)]⟩]
abbrev x37r1 : List XOper := [
  ⟨(some 5), none, .mv (.t 0)⟩,
  ⟨(some 6), none, .bin .lss (.t 5) (.c (.int .i64 0))⟩,
  ⟨(some 7), none, .mv (.t 1)⟩,
  ⟨(some 8), none, .bin .lss (.t 7) (.c (.int .i64 0))⟩,
  ⟨(some 9), none, .eqB true (.t 6) (.t 8)⟩,
  ⟨(some 10), none, .mv (.t 0)⟩,
  ⟨(some 11), none, .call (.c (.fn (.func 35) [] [])) [(.t 10)]⟩,
  ⟨(some 12), none, .mv (.t 1)⟩,
  ⟨(some 13), none, .call (.c (.fn (.func 35) [] [])) [(.t 12)]⟩,
  ⟨(some 14), none, .call (.c (.fn (.func 24) [] [])) [(.t 11), (.t 13)]⟩,
  ⟨(some 15), none, .build [(.bool false), (.int .u64 0), (.int .u64 0)] [(0, 1, (.t 9)), (1, 2, (.t 14))]⟩,
  ⟨none, none, .store 3 (.t 4) (.t 15)⟩]
abbrev x37b : XCode :=
  (.seq (.reg 0 x37r0 none)
  (.seq (.reg 1 x37r1 none)
  .ret))
def x37 : XFunc := ⟨16, 2, [.cell 4 true 3], x37b⟩
theorem x37_ok : chkF Tryz.prog Tryz.f37 x37 = true := by kernel_rfl
abbrev x38r0 : List XOper := [
  ⟨(some 2), none, .box (.t 0)⟩,
  ⟨(some 3), none, .box (.t 1)⟩,
  ⟨(some 4), none, .mv (.c (.bool false))⟩]
abbrev x38r1 : List XOper := [
  ⟨(some 6), none, .build [(.int .u64 0), (.int .u64 0)] []⟩,
  ⟨(some 5), none, .alloc [(.int .u64 0), (.int .u64 0)]⟩,
  ⟨none, none, .store 2 (.t 5) (.t 6)⟩]
abbrev x38r2 : List XOper := [
  ⟨(some 7), none, .fa 0 (.t 2)⟩,
  ⟨(some 8), none, .load false 1 (.t 7)⟩,
  ⟨(some 9), none, .mv (.t 8)⟩,
  ⟨(some 10), (some (9, true)), .fa 1 (.t 2)⟩,
  ⟨(some 11), (some (9, true)), .load true 2 (.t 10)⟩,
  ⟨(some 12), (some (9, true)), .load true 2 (.t 5)⟩,
  ⟨(some 13), (some (9, true)), .eqA true [0, 0] (.t 11) (.t 12)⟩,
  ⟨(some 14), none, .pick (.t 9) (.t 13) (.c (.bool false))⟩,
  ⟨(some 15), none, .fa 0 (.t 3)⟩,
  ⟨(some 16), none, .load false 1 (.t 15)⟩,
  ⟨(some 17), none, .mv (.t 16)⟩,
  ⟨(some 18), (some (17, true)), .fa 1 (.t 3)⟩,
  ⟨(some 19), (some (17, true)), .load true 2 (.t 18)⟩,
  ⟨(some 20), (some (17, true)), .load true 2 (.t 5)⟩,
  ⟨(some 21), (some (17, true)), .eqA true [0, 0] (.t 19) (.t 20)⟩,
  ⟨(some 22), none, .pick (.t 17) (.t 21) (.c (.bool false))⟩,
  ⟨(some 23), none, .fa 0 (.t 2)⟩,
  ⟨none, none, .store 1 (.t 23) (.t 14)⟩,
  ⟨(some 24), none, .fa 0 (.t 3)⟩,
  ⟨none, none, .store 1 (.t 24) (.t 22)⟩]
abbrev x38r3 : List XOper := [
  ⟨(some 26), none, .fa 0 (.t 2)⟩,
  ⟨(some 27), none, .load false 1 (.t 26)⟩,
  ⟨(some 28), none, .fa 0 (.t 3)⟩,
  ⟨(some 29), none, .load false 1 (.t 28)⟩,
  ⟨(some 30), none, .eqB true (.t 27) (.t 29)⟩,
  ⟨(some 25), none, .mv (.t 30)⟩]
abbrev x38r4 : List XOper := [
  ⟨(some 31), none, .fa 0 (.t 2)⟩,
  ⟨(some 32), none, .load false 1 (.t 31)⟩,
  ⟨(some 4), none, .mv (.t 32)⟩]
abbrev x38r5 : List XOper := [
  ⟨(some 34), none, .fa 0 (.t 2)⟩,
  ⟨(some 35), none, .load false 1 (.t 34)⟩,
  ⟨(some 33), none, .mv (.t 35)⟩]
abbrev x38r6 : List XOper := [
  ⟨(some 36), none, .fa 1 (.t 3)⟩,
  ⟨(some 37), none, .load true 2 (.t 36)⟩,
  ⟨(some 38), none, .fa 1 (.t 2)⟩,
  ⟨(some 39), none, .load true 2 (.t 38)⟩,
  ⟨(some 40), none, .call (.c (.fn (.func 55) [] [])) [(.t 37), (.t 39)]⟩,
  ⟨(some 4), none, .mv (.t 40)⟩]
abbrev x38r7 : List XOper := [
  ⟨(some 41), none, .fa 1 (.t 2)⟩,
  ⟨(some 42), none, .load true 2 (.t 41)⟩,
  ⟨(some 43), none, .fa 1 (.t 3)⟩,
  ⟨(some 44), none, .load true 2 (.t 43)⟩,
  ⟨(some 45), none, .call (.c (.fn (.func 55) [] [])) [(.t 42), (.t 44)]⟩,
  ⟨(some 4), none, .mv (.t 45)⟩]
abbrev x38b : XCode :=
  (.seq (.reg 0 x38r0 none)
  (.seq (.reg 1 x38r1 none)
  (.seq (.reg 2 x38r2 (some ⟨[(12, 17), (13, 17)]⟩))
  (.seq (.block 0
    (.seq (.reg 3 x38r3 none)
    (.cond (.t 25)
      (.seq (.reg 4 x38r4 none)
      .ret)
      (.seq (.reg 5 x38r5 none)
      (.cond (.t 33)
        (.seq (.reg 6 x38r6 none)
        .ret)
        .skip)))))
  (.seq (.reg 7 x38r7 none)
  .ret)))))
def x38 : XFunc := ⟨46, 2, [.tmp 4], x38b⟩
theorem x38_ok : chkF Tryz.prog Tryz.f38 x38 = true := by kernel_rfl
abbrev x54r0 : List XOper := [
  ⟨(some 4), none, .mv (.t 0)⟩,
  ⟨(some 5), none, .un .not (.t 4)⟩]
abbrev x54r1 : List XOper := [
  ⟨(some 6), none, .mv (.t 1)⟩,
  ⟨(some 7), none, .build [(.int .i64 0)] [(0, 1, (.t 6))]⟩,
  ⟨(some 8), none, .mki 120 (.t 7)⟩,
  ⟨none, none, .bad⟩]
abbrev x54b : XCode :=
  (.seq (.reg 0 x54r0 none)
  (.cond (.t 5)
    (.reg 1 x54r1 none)
    .skip))
def x54 : XFunc := ⟨9, 2, [], x54b⟩
theorem x54_ok : chkF Tryz.prog Tryz.f54 x54 = true := by kernel_rfl
theorem x54_eq : x54.body = x54b ∧ x54.res = [] ∧ x54.np = 2 := ⟨rfl, rfl, rfl⟩
abbrev x62r0 : List XOper := [
  ⟨(some 2), none, .box (.t 0)⟩,
  ⟨(some 3), none, .box (.t 1)⟩,
  ⟨(some 4), none, .alloc [(.int .u64 0), (.int .u64 0)]⟩,
  ⟨(some 5), none, .alloc [(.int .u64 0), (.int .u64 0)]⟩,
  ⟨(some 6), none, .mv (.c (.int .i64 0))⟩]
abbrev x62r1 : List XOper := [
  ⟨(some 14), none, .load true 2 (.t 3)⟩,
  ⟨(some 15), none, .build [(.int .u64 0), (.int .u64 0)] []⟩,
  ⟨(some 16), none, .eqA false [0, 0] (.t 14) (.t 15)⟩]
abbrev x62r2 : List XOper := [
  ⟨(some 17), none, .build [(.int .u64 0), (.int .u64 0)] []⟩,
  ⟨(some 18), none, .build [(.int .u64 0), (.int .u64 0)] []⟩,
  ⟨none, none, .store 2 (.t 4) (.t 17)⟩,
  ⟨none, none, .store 2 (.t 5) (.t 18)⟩,
  ⟨(some 6), none, .mv (.c (.int .i64 4))⟩]
abbrev x62r3 : List XOper := [
  ⟨(some 19), none, .load true 2 (.t 2)⟩,
  ⟨(some 20), none, .load true 2 (.t 3)⟩,
  ⟨(some 21), none, .call (.c (.fn (.func 64) [] [])) [(.t 19), (.t 20)]⟩,
  ⟨(some 7), none, .alloc [(.int .u64 0), (.int .u64 0)]⟩,
  ⟨none, none, .store 2 (.t 7) (.t 21)⟩]
abbrev x62r4 : List XOper := [
  ⟨(some 23), none, .load true 2 (.t 2)⟩,
  ⟨(some 24), none, .load true 2 (.t 7)⟩,
  ⟨(some 25), none, .call (.c (.fn (.func 58) [] [])) [(.t 23), (.t 24)]⟩,
  ⟨(some 22), none, .mv (.t 25)⟩,
  ⟨(some 26), none, .ext (.t 22) 0⟩,
  ⟨(some 27), none, .ext (.t 22) 1⟩,
  ⟨(some 28), none, .ext (.t 22) 2⟩,
  ⟨(some 8), none, .alloc [(.int .u64 0), (.int .u64 0)]⟩,
  ⟨(some 9), none, .alloc [(.int .u64 0), (.int .u64 0)]⟩,
  ⟨none, none, .store 2 (.t 8) (.t 26)⟩,
  ⟨none, none, .store 2 (.t 9) (.t 27)⟩,
  ⟨(some 10), none, .mv (.t 28)⟩]
abbrev x62r5 : List XOper := [
  ⟨(some 30), none, .load true 2 (.t 3)⟩,
  ⟨(some 31), none, .load true 2 (.t 7)⟩,
  ⟨(some 32), none, .call (.c (.fn (.func 58) [] [])) [(.t 30), (.t 31)]⟩,
  ⟨(some 29), none, .mv (.t 32)⟩,
  ⟨(some 33), none, .ext (.t 29) 0⟩,
  ⟨(some 34), none, .ext (.t 29) 1⟩,
  ⟨(some 35), none, .ext (.t 29) 2⟩,
  ⟨(some 11), none, .alloc [(.int .u64 0), (.int .u64 0)]⟩,
  ⟨(some 12), none, .alloc [(.int .u64 0), (.int .u64 0)]⟩,
  ⟨none, none, .store 2 (.t 11) (.t 33)⟩,
  ⟨none, none, .store 2 (.t 12) (.t 34)⟩,
  ⟨(some 13), none, .mv (.t 35)⟩]
abbrev x62r6 : List XOper := [
  ⟨(some 36), none, .load true 2 (.t 8)⟩,
  ⟨(some 37), none, .load true 2 (.t 11)⟩,
  ⟨none, none, .store 2 (.t 4) (.t 36)⟩,
  ⟨none, none, .store 2 (.t 5) (.t 37)⟩,
  ⟨(some 6), none, .mv (.c (.int .i64 0))⟩]
abbrev x62b : XCode :=
  (.seq (.reg 0 x62r0 none)
  (.seq (.seq (.reg 1 x62r1 none)
  (.cond (.t 16)
    (.seq (.reg 2 x62r2 none)
    .ret)
    .skip))
  (.seq (.reg 3 x62r3 none)
  (.seq (.reg 4 x62r4 none)
  (.seq (.reg 5 x62r5 none)
  (.seq (.reg 6 x62r6 (some ⟨[(1, 2)]⟩))
  .ret))))))
def x62 : XFunc := ⟨38, 2, [.cell 4 true 2, .cell 5 true 2, .tmp 6], x62b⟩
theorem x62_ok : chkF Tryz.prog Tryz.f62 x62 = true := by kernel_rfl
theorem x62_eq : x62.body = x62b ∧ x62.res = [.cell 4 true 2, .cell 5 true 2, .tmp 6] ∧ x62.np = 2 := ⟨rfl, rfl, rfl⟩
abbrev x63r0 : List XOper := [
  ⟨(some 1), none, .box (.t 0)⟩,
  ⟨(some 2), none, .mv (.c (.int .i64 0))⟩,
  ⟨(some 3), none, .mv (.c (.bool false))⟩]
abbrev x63r1 : List XOper := [
  ⟨(some 5), none, .fa 0 (.t 1)⟩,
  ⟨(some 6), none, .fa 1 (.t 5)⟩,
  ⟨(some 7), none, .fa 0 (.t 6)⟩,
  ⟨(some 8), none, .load false 1 (.t 7)⟩,
  ⟨(some 9), none, .bin .gtr (.t 8) (.c (.int .u64 0))⟩,
  ⟨(some 4), none, .mv (.t 9)⟩]
abbrev x63r2 : List XOper := [
  ⟨(some 2), none, .mv (.c (.int .i64 0))⟩,
  ⟨(some 3), none, .mv (.c (.bool false))⟩]
abbrev x63r3 : List XOper := [
  ⟨(some 11), none, .fa 0 (.t 1)⟩,
  ⟨(some 12), none, .fa 1 (.t 11)⟩,
  ⟨(some 13), none, .fa 1 (.t 12)⟩,
  ⟨(some 14), none, .load false 1 (.t 13)⟩,
  ⟨(some 15), none, .bin .leq (.t 14) (.c (.int .u64 9223372036854775807))⟩,
  ⟨(some 16), none, .mv (.t 15)⟩,
  ⟨(some 17), (some (16, true)), .fa 0 (.t 1)⟩,
  ⟨(some 18), (some (16, true)), .fa 0 (.t 17)⟩,
  ⟨(some 19), (some (16, true)), .load false 1 (.t 18)⟩,
  ⟨(some 20), none, .pick (.t 16) (.t 19) (.c (.bool false))⟩,
  ⟨(some 10), none, .mv (.t 20)⟩]
abbrev x63r4 : List XOper := [
  ⟨(some 21), none, .fa 0 (.t 1)⟩,
  ⟨(some 22), none, .fa 1 (.t 21)⟩,
  ⟨(some 23), none, .fa 1 (.t 22)⟩,
  ⟨(some 24), none, .load false 1 (.t 23)⟩,
  ⟨(some 25), none, .conv .i64 (.t 24)⟩,
  ⟨(some 26), none, .un .neg (.t 25)⟩,
  ⟨(some 2), none, .mv (.t 26)⟩,
  ⟨(some 3), none, .mv (.c (.bool true))⟩]
abbrev x63r5 : List XOper := [
  ⟨(some 28), none, .fa 0 (.t 1)⟩,
  ⟨(some 29), none, .fa 1 (.t 28)⟩,
  ⟨(some 30), none, .fa 1 (.t 29)⟩,
  ⟨(some 31), none, .load false 1 (.t 30)⟩,
  ⟨(some 32), none, .bin .leq (.t 31) (.c (.int .u64 9223372036854775807))⟩,
  ⟨(some 27), none, .mv (.t 32)⟩]
abbrev x63r6 : List XOper := [
  ⟨(some 33), none, .fa 0 (.t 1)⟩,
  ⟨(some 34), none, .fa 1 (.t 33)⟩,
  ⟨(some 35), none, .fa 1 (.t 34)⟩,
  ⟨(some 36), none, .load false 1 (.t 35)⟩,
  ⟨(some 37), none, .conv .i64 (.t 36)⟩,
  ⟨(some 2), none, .mv (.t 37)⟩,
  ⟨(some 3), none, .mv (.c (.bool true))⟩]
abbrev x63r7 : List XOper := [
  ⟨(some 38), none, .fa 0 (.t 1)⟩,
  ⟨(some 39), none, .fa 0 (.t 38)⟩,
  ⟨(some 40), none, .load false 1 (.t 39)⟩,
  ⟨(some 41), none, .mv (.t 40)⟩,
  ⟨(some 42), (some (41, true)), .fa 0 (.t 1)⟩,
  ⟨(some 43), (some (41, true)), .fa 1 (.t 42)⟩,
  ⟨(some 44), (some (41, true)), .fa 1 (.t 43)⟩,
  ⟨(some 45), (some (41, true)), .load false 1 (.t 44)⟩,
  ⟨(some 46), (some (41, true)), .bin .eql (.t 45) (.c (.int .u64 9223372036854775808))⟩,
  ⟨(some 47), none, .pick (.t 41) (.t 46) (.c (.bool false))⟩,
  ⟨(some 2), none, .mv (.c (.int .i64 (-9223372036854775808)))⟩,
  ⟨(some 3), none, .mv (.t 47)⟩]
abbrev x63b : XCode :=
  (.seq (.reg 0 x63r0 none)
  (.seq (.block 0
    (.seq (.reg 1 x63r1 none)
    (.cond (.t 4)
      (.seq (.reg 2 x63r2 none)
      .ret)
      (.seq (.reg 3 x63r3 none)
      (.cond (.t 10)
        (.seq (.reg 4 x63r4 none)
        .ret)
        (.seq (.reg 5 x63r5 none)
        (.cond (.t 27)
          (.seq (.reg 6 x63r6 none)
          .ret)
          .skip)))))))
  (.seq (.reg 7 x63r7 (some ⟨[]⟩))
  .ret)))
def x63 : XFunc := ⟨48, 1, [.tmp 2, .tmp 3], x63b⟩
theorem x63_ok : chkF Tryz.prog Tryz.f63 x63 = true := by kernel_rfl
theorem x63_eq : x63.body = x63b ∧ x63.res = [.tmp 2, .tmp 3] ∧ x63.np = 1 := ⟨rfl, rfl, rfl⟩
abbrev x87r0 : List XOper := [
  ⟨(some 2), none, .box (.t 0)⟩,
  ⟨(some 3), none, .box (.t 1)⟩,
  ⟨(some 4), none, .mv (.c .nilf)⟩]
abbrev x87r1 : List XOper := [
  ⟨(some 5), none, .mkf (.func 115) [] [(.t 2), (.t 3)]⟩,
  ⟨(some 4), none, .mv (.t 5)⟩]
abbrev x87b : XCode :=
  (.seq (.reg 0 x87r0 none)
  (.seq (.reg 1 x87r1 none)
  .ret))
def x87 : XFunc := ⟨6, 2, [.tmp 4], x87b⟩
theorem x87_ok : chkF Tryz.prog Tryz.f87 x87 = true := by kernel_rfl
abbrev x115r0 : List XOper := [
  ⟨(some 8), none, .load true 2 (.t 1)⟩,
  ⟨(some 9), none, .load true 2 (.t 2)⟩,
  ⟨(some 10), none, .call (.c (.fn (.func 58) [] [])) [(.t 8), (.t 9)]⟩,
  ⟨(some 7), none, .mv (.t 10)⟩,
  ⟨(some 11), none, .ext (.t 7) 0⟩,
  ⟨(some 12), none, .ext (.t 7) 1⟩,
  ⟨(some 13), none, .ext (.t 7) 2⟩,
  ⟨(some 4), none, .alloc [(.int .u64 0), (.int .u64 0)]⟩,
  ⟨(some 5), none, .alloc [(.int .u64 0), (.int .u64 0)]⟩,
  ⟨none, none, .store 2 (.t 4) (.t 11)⟩,
  ⟨none, none, .store 2 (.t 5) (.t 12)⟩,
  ⟨(some 6), none, .mv (.t 13)⟩]
abbrev x115r1 : List XOper := [
  ⟨(some 14), none, .mv (.t 6)⟩,
  ⟨(some 15), none, .bin .neq (.t 14) (.c (.int .i64 0))⟩,
  ⟨(some 16), none, .mv (.t 15)⟩,
  ⟨(some 17), (some (16, false)), .mv (.t 0)⟩,
  ⟨(some 18), (some (16, false)), .load true 2 (.t 2)⟩,
  ⟨(some 19), (some (16, false)), .call (.t 17) [(.t 18)]⟩,
  ⟨(some 20), (some (16, false)), .un .not (.t 19)⟩,
  ⟨(some 21), none, .pick (.t 16) (.c (.bool true)) (.t 20)⟩]
abbrev x115r2 : List XOper := [
  ⟨(some 22), none, .load true 2 (.t 2)⟩,
  ⟨(some 23), none, .load true 2 (.t 5)⟩,
  ⟨none, none, .store 2 (.t 1) (.t 22)⟩,
  ⟨none, none, .store 2 (.t 2) (.t 23)⟩]
abbrev x115b : XCode :=
  (.scope
    (.seq .skip
    (.seq (.reg 0 x115r0 none)
    (.seq (.seq (.reg 1 x115r1 none)
    (.cond (.t 21)
      .ret
      .skip))
    (.seq (.reg 2 x115r2 (some ⟨[(1, 2)]⟩))
    .bad)))))
def x115 : XFunc := ⟨24, 3, [], x115b⟩
theorem x115_ok : chkF Tryz.prog Tryz.f115 x115 = true := by kernel_rfl
abbrev x5r0 : List XOper := [
  ⟨(some 6), none, .mv (.c (.bool false))⟩]
abbrev x5r1 : List XOper := [
  ⟨(some 29), none, .mv (.t 1)⟩,
  ⟨(some 30), none, .bin .rem (.t 29) (.c (.int .i64 9))⟩,
  ⟨(some 31), none, .bin .add (.t 30) (.c (.int .i64 9))⟩,
  ⟨(some 32), none, .bin .rem (.t 31) (.c (.int .i64 9))⟩,
  ⟨(some 33), none, .bin .add (.c (.int .i64 2)) (.t 32)⟩,
  ⟨(some 1), none, .mv (.t 33)⟩]
abbrev x5r2 : List XOper := [
  ⟨(some 34), none, .mv (.t 0)⟩,
  ⟨(some 35), none, .mv (.t 1)⟩,
  ⟨(some 36), none, .bin .mul (.c (.int .i64 10)) (.t 35)⟩,
  ⟨(some 37), none, .call (.c (.fn (.func 6) [] [])) [(.t 34), (.t 36)]⟩,
  ⟨(some 0), none, .mv (.t 37)⟩]
abbrev x5r3 : List XOper := [
  ⟨(some 38), none, .mv (.t 0)⟩,
  ⟨(some 39), none, .mv (.t 0)⟩,
  ⟨(some 40), none, .lenV (.t 39)⟩,
  ⟨(some 41), none, .mv (.t 1)⟩,
  ⟨(some 42), none, .bin .quo (.t 40) (.t 41)⟩,
  ⟨(some 43), none, .mv (.t 1)⟩,
  ⟨(some 44), none, .bin .mul (.t 42) (.t 43)⟩,
  ⟨(some 45), none, .slV 1 (.t 38) none (some (.t 44)) none⟩,
  ⟨(some 0), none, .mv (.t 45)⟩]
abbrev x5r4 : List XOper := [
  ⟨(some 47), none, .mv (.t 1)⟩,
  ⟨(some 48), none, .call (.c (.fn (.func 15) [] [])) [(.t 47)]⟩,
  ⟨(some 46), none, .mv (.t 48)⟩,
  ⟨(some 49), none, .ext (.t 46) 0⟩,
  ⟨(some 50), none, .ext (.t 46) 1⟩,
  ⟨(some 7), none, .alloc [(.int .i64 0), (.int .i64 0), (.int .i64 0), (.int .i64 0), (.int .i64 0)]⟩,
  ⟨none, none, .store 5 (.t 7) (.t 49)⟩,
  ⟨(some 8), none, .mv (.t 50)⟩]
abbrev x5r5 : List XOper := [
  ⟨(some 9), none, .mv (.c (.int .i64 0))⟩]
abbrev x5r6 : List XOper := [
  ⟨(some 51), none, .mv (.t 9)⟩,
  ⟨(some 52), none, .mv (.t 1)⟩,
  ⟨(some 53), none, .bin .add (.t 51) (.t 52)⟩,
  ⟨(some 54), none, .mv (.t 0)⟩,
  ⟨(some 55), none, .lenV (.t 54)⟩,
  ⟨(some 56), none, .bin .leq (.t 53) (.t 55)⟩]
abbrev x5r8 : List XOper := [
  ⟨(some 61), none, .load true 5 (.t 7)⟩,
  ⟨(some 62), none, .mv (.t 0)⟩,
  ⟨(some 63), none, .mv (.t 9)⟩,
  ⟨(some 64), none, .mv (.t 9)⟩,
  ⟨(some 65), none, .mv (.t 1)⟩,
  ⟨(some 66), none, .bin .add (.t 64) (.t 65)⟩,
  ⟨(some 67), none, .slV 1 (.t 62) (some (.t 63)) (some (.t 66)) none⟩,
  ⟨(some 68), none, .call (.c (.fn (.func 16) [] [])) [(.t 61), (.t 67)]⟩,
  ⟨(some 60), none, .mv (.t 68)⟩,
  ⟨(some 69), none, .ext (.t 60) 0⟩,
  ⟨(some 70), none, .ext (.t 60) 1⟩,
  ⟨(some 10), none, .alloc [(.int .i64 0), (.int .i64 0), (.int .i64 0), (.int .i64 0), (.int .i64 0)]⟩,
  ⟨none, none, .store 5 (.t 10) (.t 69)⟩,
  ⟨(some 11), none, .mv (.t 70)⟩]
abbrev x5r9 : List XOper := [
  ⟨(some 71), none, .mv (.t 11)⟩,
  ⟨(some 72), none, .bin .neq (.t 71) (.c (.int .i64 0))⟩]
abbrev x5r10 : List XOper := [
  ⟨(some 6), none, .mv (.c (.bool false))⟩]
abbrev x5r11 : List XOper := [
  ⟨(some 73), none, .load true 5 (.t 10)⟩,
  ⟨none, none, .store 5 (.t 7) (.t 73)⟩]
abbrev x5r7 : List XOper := [
  ⟨(some 57), none, .mv (.t 9)⟩,
  ⟨(some 58), none, .mv (.t 1)⟩,
  ⟨(some 59), none, .bin .add (.t 57) (.t 58)⟩,
  ⟨(some 9), none, .mv (.t 59)⟩]
abbrev x5l6 : XCode :=
  (.seq (.seq (.reg 6 x5r6 none)
  (.cond (.t 56)
    .skip
    (.exit 0)))
  (.seq (.block 1
    (.seq (.reg 8 x5r8 (some ⟨[(0, 11), (7, 11)]⟩))
    (.seq (.seq (.reg 9 x5r9 none)
    (.cond (.t 72)
      (.seq (.reg 10 x5r10 none)
      .ret)
      .skip))
    (.reg 11 x5r11 none))))
  (.reg 7 x5r7 none)))
abbrev x5r12 : List XOper := [
  ⟨(some 75), none, .mv (.t 0)⟩,
  ⟨(some 76), none, .call (.c (.fn (.func 7) [] [])) [(.t 75)]⟩,
  ⟨(some 74), none, .mv (.t 76)⟩,
  ⟨(some 77), none, .ext (.t 74) 0⟩,
  ⟨(some 78), none, .ext (.t 74) 1⟩,
  ⟨(some 12), none, .alloc [(.int .i64 0), (.int .i64 0), (.int .u64 0), (.int .u64 0), (.int .i64 0), (.int .i64 0)]⟩,
  ⟨none, none, .store 6 (.t 12) (.t 77)⟩,
  ⟨(some 13), none, .mv (.t 78)⟩]
abbrev x5r13 : List XOper := [
  ⟨(some 79), none, .mv (.t 8)⟩,
  ⟨(some 80), none, .bin .neq (.t 79) (.c (.int .i64 0))⟩,
  ⟨(some 81), none, .mv (.t 80)⟩,
  ⟨(some 82), (some (81, false)), .mv (.t 13)⟩,
  ⟨(some 83), (some (81, false)), .bin .neq (.t 82) (.c (.int .i64 0))⟩,
  ⟨(some 84), none, .pick (.t 81) (.c (.bool true)) (.t 83)⟩,
  ⟨(some 85), none, .mv (.t 84)⟩,
  ⟨(some 86), (some (85, false)), .fa 1 (.t 12)⟩,
  ⟨(some 87), (some (85, false)), .load false 1 (.t 86)⟩,
  ⟨(some 88), (some (85, false)), .fa 2 (.t 7)⟩,
  ⟨(some 89), (some (85, false)), .load false 1 (.t 88)⟩,
  ⟨(some 90), (some (85, false)), .bin .neq (.t 87) (.t 89)⟩,
  ⟨(some 91), none, .pick (.t 85) (.c (.bool true)) (.t 90)⟩,
  ⟨(some 92), none, .mv (.t 91)⟩,
  ⟨(some 93), (some (92, false)), .fa 0 (.t 12)⟩,
  ⟨(some 94), (some (92, false)), .load false 1 (.t 93)⟩,
  ⟨(some 95), (some (92, false)), .fa 1 (.t 7)⟩,
  ⟨(some 96), (some (92, false)), .load false 1 (.t 95)⟩,
  ⟨(some 97), (some (92, false)), .mv (.t 1)⟩,
  ⟨(some 98), (some (92, false)), .bin .mul (.t 96) (.t 97)⟩,
  ⟨(some 99), (some (92, false)), .bin .neq (.t 94) (.t 98)⟩,
  ⟨(some 100), none, .pick (.t 92) (.c (.bool true)) (.t 99)⟩,
  ⟨(some 101), none, .mv (.t 100)⟩,
  ⟨(some 102), (some (101, false)), .call (.c (.fn (.func 8) [] [])) []⟩,
  ⟨(some 103), (some (101, false)), .un .not (.t 102)⟩,
  ⟨(some 104), none, .pick (.t 101) (.c (.bool true)) (.t 103)⟩]
abbrev x5r14 : List XOper := [
  ⟨(some 6), none, .mv (.c (.bool false))⟩]
abbrev x5r15 : List XOper := [
  ⟨(some 106), none, .load true 5 (.t 7)⟩,
  ⟨(some 107), none, .call (.c (.fn (.func 17) [] [])) [(.t 106), (.c (.int .i64 0))]⟩,
  ⟨(some 105), none, .mv (.t 107)⟩,
  ⟨(some 108), none, .ext (.t 105) 0⟩,
  ⟨(some 109), none, .ext (.t 105) 1⟩,
  ⟨(some 14), none, .alloc [(.int .i64 0), (.int .i64 0), (.int .i64 0), (.int .u64 0), (.int .u64 0)]⟩,
  ⟨none, none, .store 5 (.t 14) (.t 108)⟩,
  ⟨(some 15), none, .mv (.t 109)⟩]
abbrev x5r16 : List XOper := [
  ⟨(some 110), none, .fa 1 (.t 7)⟩,
  ⟨(some 111), none, .load false 1 (.t 110)⟩,
  ⟨(some 112), none, .bin .lss (.t 111) (.c (.int .i64 2))⟩]
abbrev x5r17 : List XOper := [
  ⟨(some 113), none, .mv (.t 15)⟩,
  ⟨(some 114), none, .bin .eql (.t 113) (.c (.int .i64 12))⟩,
  ⟨(some 6), none, .mv (.t 114)⟩]
abbrev x5r18 : List XOper := [
  ⟨(some 116), none, .fa 0 (.t 14)⟩,
  ⟨(some 117), none, .load false 1 (.t 116)⟩,
  ⟨(some 118), none, .fa 1 (.t 14)⟩,
  ⟨(some 119), none, .load false 1 (.t 118)⟩,
  ⟨(some 120), none, .call (.c (.fn (.func 13) [] [])) [(.t 117), (.t 119)]⟩,
  ⟨(some 115), none, .mv (.t 120)⟩,
  ⟨(some 121), none, .ext (.t 115) 0⟩,
  ⟨(some 122), none, .ext (.t 115) 1⟩,
  ⟨(some 16), none, .alloc [(.int .i64 0), (.int .i64 0)]⟩,
  ⟨none, none, .store 2 (.t 16) (.t 121)⟩,
  ⟨(some 17), none, .mv (.t 122)⟩]
abbrev x5r19 : List XOper := [
  ⟨(some 124), none, .fa 1 (.t 12)⟩,
  ⟨(some 125), none, .load false 1 (.t 124)⟩,
  ⟨(some 126), none, .fa 0 (.t 12)⟩,
  ⟨(some 127), none, .load false 1 (.t 126)⟩,
  ⟨(some 128), none, .call (.c (.fn (.func 13) [] [])) [(.t 125), (.t 127)]⟩,
  ⟨(some 123), none, .mv (.t 128)⟩,
  ⟨(some 129), none, .ext (.t 123) 0⟩,
  ⟨(some 130), none, .ext (.t 123) 1⟩,
  ⟨(some 18), none, .alloc [(.int .i64 0), (.int .i64 0)]⟩,
  ⟨none, none, .store 2 (.t 18) (.t 129)⟩,
  ⟨(some 19), none, .mv (.t 130)⟩]
abbrev x5r20 : List XOper := [
  ⟨(some 131), none, .mv (.t 15)⟩,
  ⟨(some 132), none, .bin .neq (.t 131) (.c (.int .i64 0))⟩,
  ⟨(some 133), none, .mv (.t 132)⟩,
  ⟨(some 134), (some (133, false)), .mv (.t 17)⟩,
  ⟨(some 135), (some (133, false)), .bin .neq (.t 134) (.c (.int .i64 0))⟩,
  ⟨(some 136), none, .pick (.t 133) (.c (.bool true)) (.t 135)⟩,
  ⟨(some 137), none, .mv (.t 136)⟩,
  ⟨(some 138), (some (137, false)), .mv (.t 19)⟩,
  ⟨(some 139), (some (137, false)), .bin .neq (.t 138) (.c (.int .i64 0))⟩,
  ⟨(some 140), none, .pick (.t 137) (.c (.bool true)) (.t 139)⟩,
  ⟨(some 141), none, .mv (.t 140)⟩,
  ⟨(some 142), (some (141, false)), .load true 2 (.t 16)⟩,
  ⟨(some 143), (some (141, false)), .load true 2 (.t 18)⟩,
  ⟨(some 144), (some (141, false)), .eqA true [0, 0] (.t 142) (.t 143)⟩,
  ⟨(some 145), none, .pick (.t 141) (.c (.bool true)) (.t 144)⟩]
abbrev x5r21 : List XOper := [
  ⟨(some 6), none, .mv (.c (.bool false))⟩]
abbrev x5r22 : List XOper := [
  ⟨(some 146), none, .fa 1 (.t 12)⟩,
  ⟨(some 147), none, .load false 1 (.t 146)⟩,
  ⟨(some 148), none, .fa 0 (.t 12)⟩,
  ⟨(some 149), none, .load false 1 (.t 148)⟩,
  ⟨(some 150), none, .bin .rem (.t 147) (.t 149)⟩,
  ⟨(some 151), none, .bin .neq (.t 150) (.c (.int .i64 0))⟩]
abbrev x5r23 : List XOper := [
  ⟨(some 6), none, .mv (.c (.bool true))⟩]
abbrev x5r24 : List XOper := [
  ⟨(some 152), none, .fa 1 (.t 12)⟩,
  ⟨(some 153), none, .load false 1 (.t 152)⟩,
  ⟨(some 154), none, .fa 0 (.t 12)⟩,
  ⟨(some 155), none, .load false 1 (.t 154)⟩,
  ⟨(some 156), none, .bin .quo (.t 153) (.t 155)⟩,
  ⟨(some 20), none, .mv (.t 156)⟩]
abbrev x5r25 : List XOper := [
  ⟨(some 157), none, .mv (.t 2)⟩,
  ⟨(some 158), none, .bin .rem (.t 157) (.c (.int .i64 1000))⟩,
  ⟨(some 159), none, .bin .add (.t 158) (.c (.int .i64 1000))⟩,
  ⟨(some 160), none, .bin .rem (.t 159) (.c (.int .i64 1000))⟩,
  ⟨(some 161), none, .bin .add (.c (.int .i64 1)) (.t 160)⟩,
  ⟨(some 2), none, .mv (.t 161)⟩]
abbrev x5r26 : List XOper := [
  ⟨(some 163), none, .load true 5 (.t 7)⟩,
  ⟨(some 164), none, .mv (.t 20)⟩,
  ⟨(some 165), none, .mv (.t 2)⟩,
  ⟨(some 166), none, .bin .sub (.t 164) (.t 165)⟩,
  ⟨(some 167), none, .mv (.t 20)⟩,
  ⟨(some 168), none, .mv (.t 2)⟩,
  ⟨(some 169), none, .bin .add (.t 167) (.t 168)⟩,
  ⟨(some 170), none, .call (.c (.fn (.func 18) [] [])) [(.t 163), (.t 166), (.t 169), (.c (.int .i64 1000))]⟩,
  ⟨(some 162), none, .mv (.t 170)⟩,
  ⟨(some 171), none, .ext (.t 162) 0⟩,
  ⟨(some 172), none, .ext (.t 162) 1⟩,
  ⟨(some 21), none, .alloc [(.int .i64 0), (.int .i64 0)]⟩,
  ⟨none, none, .store 2 (.t 21) (.t 171)⟩,
  ⟨(some 22), none, .mv (.t 172)⟩]
abbrev x5r27 : List XOper := [
  ⟨(some 174), none, .load true 5 (.t 7)⟩,
  ⟨(some 175), none, .mv (.t 20)⟩,
  ⟨(some 176), none, .mv (.t 2)⟩,
  ⟨(some 177), none, .bin .sub (.t 175) (.t 176)⟩,
  ⟨(some 178), none, .mv (.t 20)⟩,
  ⟨(some 179), none, .mv (.t 2)⟩,
  ⟨(some 180), none, .bin .add (.t 178) (.t 179)⟩,
  ⟨(some 181), none, .call (.c (.fn (.func 19) [] [])) [(.t 174), (.t 177), (.t 180), (.c (.int .i64 1000))]⟩,
  ⟨(some 173), none, .mv (.t 181)⟩,
  ⟨(some 182), none, .ext (.t 173) 0⟩,
  ⟨(some 183), none, .ext (.t 173) 1⟩,
  ⟨(some 23), none, .alloc [(.int .i64 0), (.int .i64 0)]⟩,
  ⟨none, none, .store 2 (.t 23) (.t 182)⟩,
  ⟨(some 24), none, .mv (.t 183)⟩]
abbrev x5r28 : List XOper := [
  ⟨(some 185), none, .load true 6 (.t 12)⟩,
  ⟨(some 186), none, .mv (.t 20)⟩,
  ⟨(some 187), none, .mv (.t 2)⟩,
  ⟨(some 188), none, .bin .sub (.t 186) (.t 187)⟩,
  ⟨(some 189), none, .mv (.t 20)⟩,
  ⟨(some 190), none, .mv (.t 2)⟩,
  ⟨(some 191), none, .bin .add (.t 189) (.t 190)⟩,
  ⟨(some 192), none, .call (.c (.fn (.func 11) [] [])) [(.t 185), (.t 188), (.t 191), (.c (.int .i64 1000))]⟩,
  ⟨(some 184), none, .mv (.t 192)⟩,
  ⟨(some 193), none, .ext (.t 184) 0⟩,
  ⟨(some 194), none, .ext (.t 184) 1⟩,
  ⟨(some 25), none, .alloc [(.int .i64 0), (.int .i64 0)]⟩,
  ⟨none, none, .store 2 (.t 25) (.t 193)⟩,
  ⟨(some 26), none, .mv (.t 194)⟩]
abbrev x5r29 : List XOper := [
  ⟨(some 196), none, .load true 6 (.t 12)⟩,
  ⟨(some 197), none, .mv (.t 20)⟩,
  ⟨(some 198), none, .mv (.t 2)⟩,
  ⟨(some 199), none, .bin .sub (.t 197) (.t 198)⟩,
  ⟨(some 200), none, .mv (.t 20)⟩,
  ⟨(some 201), none, .mv (.t 2)⟩,
  ⟨(some 202), none, .bin .add (.t 200) (.t 201)⟩,
  ⟨(some 203), none, .call (.c (.fn (.func 12) [] [])) [(.t 196), (.t 199), (.t 202), (.c (.int .i64 1000))]⟩,
  ⟨(some 195), none, .mv (.t 203)⟩,
  ⟨(some 204), none, .ext (.t 195) 0⟩,
  ⟨(some 205), none, .ext (.t 195) 1⟩,
  ⟨(some 27), none, .alloc [(.int .i64 0), (.int .i64 0)]⟩,
  ⟨none, none, .store 2 (.t 27) (.t 204)⟩,
  ⟨(some 28), none, .mv (.t 205)⟩]
abbrev x5r30 : List XOper := [
  ⟨(some 206), none, .mv (.t 22)⟩,
  ⟨(some 207), none, .mv (.t 24)⟩,
  ⟨(some 208), none, .bin .eql (.t 206) (.t 207)⟩,
  ⟨(some 209), none, .mv (.t 208)⟩,
  ⟨(some 210), (some (209, true)), .load true 2 (.t 21)⟩,
  ⟨(some 211), (some (209, true)), .load true 2 (.t 23)⟩,
  ⟨(some 212), (some (209, true)), .eqA false [0, 0] (.t 210) (.t 211)⟩,
  ⟨(some 213), none, .pick (.t 209) (.t 212) (.c (.bool false))⟩,
  ⟨(some 214), none, .mv (.t 213)⟩,
  ⟨(some 215), (some (214, true)), .mv (.t 26)⟩,
  ⟨(some 216), (some (214, true)), .mv (.t 28)⟩,
  ⟨(some 217), (some (214, true)), .bin .eql (.t 215) (.t 216)⟩,
  ⟨(some 218), none, .pick (.t 214) (.t 217) (.c (.bool false))⟩,
  ⟨(some 219), none, .mv (.t 218)⟩,
  ⟨(some 220), (some (219, true)), .load true 2 (.t 25)⟩,
  ⟨(some 221), (some (219, true)), .load true 2 (.t 27)⟩,
  ⟨(some 222), (some (219, true)), .eqA false [0, 0] (.t 220) (.t 221)⟩,
  ⟨(some 223), none, .pick (.t 219) (.t 222) (.c (.bool false))⟩,
  ⟨(some 6), none, .mv (.t 223)⟩]
abbrev x5b : XCode :=
  (.seq (.reg 0 x5r0 none)
  (.seq (.reg 1 x5r1 none)
  (.seq (.reg 2 x5r2 none)
  (.seq (.reg 3 x5r3 none)
  (.seq (.reg 4 x5r4 none)
  (.seq (.seq (.reg 5 x5r5 none)
  (.block 0
    (.loop x5l6)))
  (.seq (.reg 12 x5r12 none)
  (.seq (.seq (.reg 13 x5r13 none)
  (.cond (.t 104)
    (.seq (.reg 14 x5r14 none)
    .ret)
    .skip))
  (.seq (.reg 15 x5r15 none)
  (.seq (.seq (.reg 16 x5r16 none)
  (.cond (.t 112)
    (.seq (.reg 17 x5r17 none)
    .ret)
    .skip))
  (.seq (.reg 18 x5r18 none)
  (.seq (.reg 19 x5r19 none)
  (.seq (.seq (.reg 20 x5r20 none)
  (.cond (.t 145)
    (.seq (.reg 21 x5r21 none)
    .ret)
    .skip))
  (.seq (.seq (.reg 22 x5r22 none)
  (.cond (.t 151)
    (.seq (.reg 23 x5r23 none)
    .ret)
    .skip))
  (.seq (.reg 24 x5r24 none)
  (.seq (.reg 25 x5r25 none)
  (.seq (.reg 26 x5r26 none)
  (.seq (.reg 27 x5r27 none)
  (.seq (.reg 28 x5r28 none)
  (.seq (.reg 29 x5r29 none)
  (.seq (.reg 30 x5r30 none)
  .ret)))))))))))))))))))))
def x5 : XFunc := ⟨224, 3, [.tmp 6], x5b⟩
theorem x5_ok : chkF Tryz.prog Tryz.f5 x5 = true := by kernel_rfl
theorem x5_eq : x5.body = x5b ∧ x5.res = [.tmp 6] ∧ x5.np = 3 := ⟨rfl, rfl, rfl⟩
abbrev x15r0 : List XOper := [
  ⟨(some 2), none, .alloc [(.int .i64 0), (.int .i64 0), (.int .i64 0), (.int .i64 0), (.int .i64 0)]⟩,
  ⟨(some 3), none, .mv (.c (.int .i64 0))⟩]
abbrev x15r1 : List XOper := [
  ⟨(some 4), none, .mv (.t 0)⟩,
  ⟨(some 5), none, .bin .lss (.t 4) (.c (.int .i64 1))⟩,
  ⟨(some 6), none, .mv (.t 5)⟩,
  ⟨(some 7), (some (6, false)), .mv (.t 0)⟩,
  ⟨(some 8), (some (6, false)), .bin .gtr (.t 7) (.c (.int .i64 10))⟩,
  ⟨(some 9), none, .pick (.t 6) (.c (.bool true)) (.t 8)⟩]
abbrev x15r2 : List XOper := [
  ⟨(some 10), none, .build [(.int .i64 0), (.int .i64 0), (.int .i64 0), (.int .i64 0), (.int .i64 0)] []⟩,
  ⟨none, none, .store 5 (.t 2) (.t 10)⟩,
  ⟨(some 3), none, .mv (.c (.int .i64 1))⟩]
abbrev x15r3 : List XOper := [
  ⟨(some 11), none, .mv (.t 0)⟩,
  ⟨(some 12), none, .build [(.int .i64 0), (.int .i64 0), (.int .i64 0), (.int .i64 0), (.int .i64 0)] [(0, 1, (.t 11))]⟩,
  ⟨none, none, .store 5 (.t 2) (.t 12)⟩,
  ⟨(some 3), none, .mv (.c (.int .i64 0))⟩]
abbrev x15b : XCode :=
  (.seq (.reg 0 x15r0 none)
  (.seq (.seq (.reg 1 x15r1 none)
  (.cond (.t 9)
    (.seq (.reg 2 x15r2 none)
    .ret)
    .skip))
  (.seq (.reg 3 x15r3 none)
  .ret)))
def x15 : XFunc := ⟨13, 1, [.cell 2 true 5, .tmp 3], x15b⟩
theorem x15_ok : chkF Tryz.prog Tryz.f15 x15 = true := by kernel_rfl
theorem x15_eq : x15.body = x15b ∧ x15.res = [.cell 2 true 5, .tmp 3] ∧ x15.np = 1 := ⟨rfl, rfl, rfl⟩
abbrev x16r0 : List XOper := [
  ⟨(some 2), none, .box (.t 0)⟩,
  ⟨(some 4), none, .alloc [(.int .i64 0), (.int .i64 0), (.int .i64 0), (.int .i64 0), (.int .i64 0)]⟩,
  ⟨(some 5), none, .mv (.c (.int .i64 0))⟩]
abbrev x16r1 : List XOper := [
  ⟨(some 9), none, .load true 5 (.t 2)⟩,
  ⟨(some 10), none, .call (.c (.fn (.func 39) [] [])) [(.t 9)]⟩,
  ⟨(some 11), none, .un .not (.t 10)⟩,
  ⟨(some 12), none, .mv (.t 11)⟩,
  ⟨(some 13), (some (12, false)), .mv (.t 1)⟩,
  ⟨(some 14), (some (12, false)), .lenV (.t 13)⟩,
  ⟨(some 15), (some (12, false)), .fa 0 (.t 2)⟩,
  ⟨(some 16), (some (12, false)), .load false 1 (.t 15)⟩,
  ⟨(some 17), (some (12, false)), .bin .neq (.t 14) (.t 16)⟩,
  ⟨(some 18), none, .pick (.t 12) (.c (.bool true)) (.t 17)⟩,
  ⟨(some 19), none, .mv (.t 18)⟩,
  ⟨(some 20), (some (19, false)), .mv (.t 1)⟩,
  ⟨(some 21), (some (19, false)), .call (.c (.fn (.func 40) [] [])) [(.t 20), (.c (.fn (.func 41) [] []))]⟩,
  ⟨(some 22), none, .pick (.t 19) (.c (.bool true)) (.t 21)⟩,
  ⟨(some 8), none, .mv (.t 22)⟩]
abbrev x16r2 : List XOper := [
  ⟨(some 23), none, .build [(.int .i64 0), (.int .i64 0), (.int .i64 0), (.int .i64 0), (.int .i64 0)] []⟩,
  ⟨none, none, .store 5 (.t 4) (.t 23)⟩,
  ⟨(some 5), none, .mv (.c (.int .i64 1))⟩]
abbrev x16r3 : List XOper := [
  ⟨(some 25), none, .fa 1 (.t 2)⟩,
  ⟨(some 26), none, .load false 1 (.t 25)⟩,
  ⟨(some 27), none, .bin .eql (.t 26) (.c (.int .i64 25))⟩,
  ⟨(some 24), none, .mv (.t 27)⟩]
abbrev x16r4 : List XOper := [
  ⟨(some 28), none, .build [(.int .i64 0), (.int .i64 0), (.int .i64 0), (.int .i64 0), (.int .i64 0)] []⟩,
  ⟨none, none, .store 5 (.t 4) (.t 28)⟩,
  ⟨(some 5), none, .mv (.c (.int .i64 11))⟩]
abbrev x16r5 : List XOper := [
  ⟨(some 29), none, .fa 3 (.t 2)⟩,
  ⟨(some 30), none, .load false 1 (.t 29)⟩,
  ⟨(some 31), none, .load true 5 (.t 2)⟩,
  ⟨(some 32), none, .call (.c (.fn (.func 43) [] [])) [(.t 31)]⟩,
  ⟨(some 33), none, .mv (.t 1)⟩,
  ⟨(some 34), none, .inv "datum/base.reach" (.t 32) [(.t 33)]⟩,
  ⟨(some 35), none, .bin .add (.t 30) (.t 34)⟩,
  ⟨(some 36), none, .fa 3 (.t 2)⟩,
  ⟨none, none, .store 1 (.t 36) (.t 35)⟩]
abbrev x16r6 : List XOper := [
  ⟨(some 37), none, .mv (.t 1)⟩,
  ⟨(some 38), none, .lenV (.t 37)⟩,
  ⟨(some 39), none, .mv (.c (.int .i64 0))⟩]
abbrev x16r7 : List XOper := [
  ⟨(some 40), none, .bin .lss (.t 39) (.t 38)⟩]
abbrev x16r8 : List XOper := [
  ⟨(some 41), none, .iaS 1 (.t 37) (.t 39)⟩,
  ⟨(some 42), none, .load false 1 (.t 41)⟩,
  ⟨(some 7), none, .mv (.t 42)⟩]
abbrev x16r9 : List XOper := [
  ⟨(some 43), none, .fa 2 (.t 2)⟩,
  ⟨(some 44), none, .load false 1 (.t 43)⟩,
  ⟨(some 45), none, .mv (.t 7)⟩,
  ⟨(some 46), none, .bin .add (.t 44) (.t 45)⟩,
  ⟨(some 47), none, .fa 2 (.t 2)⟩,
  ⟨none, none, .store 1 (.t 47) (.t 46)⟩]
abbrev x16r10 : List XOper := [
  ⟨(some 48), none, .mv (.t 7)⟩,
  ⟨(some 49), none, .fa 4 (.t 2)⟩,
  ⟨none, none, .store 1 (.t 49) (.t 48)⟩]
abbrev x16r11 : List XOper := [
  ⟨(some 50), none, .bin .add (.t 39) (.c (.int .i64 1))⟩,
  ⟨(some 39), none, .mv (.t 50)⟩]
abbrev x16l7 : XCode :=
  (.seq (.reg 7 x16r7 none)
  (.seq (.cond (.t 40)
    .skip
    (.exit 1))
  (.seq (.block 2
    (.seq (.reg 8 x16r8 none)
    (.seq (.reg 9 x16r9 none)
    (.reg 10 x16r10 none))))
  (.reg 11 x16r11 none))))
abbrev x16r12 : List XOper := [
  ⟨(some 51), none, .fa 1 (.t 2)⟩,
  ⟨(some 52), none, .load false 1 (.t 51)⟩,
  ⟨(some 53), none, .bin .add (.t 52) (.c (.int .i64 1))⟩,
  ⟨(some 54), none, .fa 1 (.t 2)⟩,
  ⟨none, none, .store 1 (.t 54) (.t 53)⟩]
abbrev x16r13 : List XOper := [
  ⟨(some 55), none, .load true 5 (.t 2)⟩,
  ⟨none, none, .store 5 (.t 4) (.t 55)⟩,
  ⟨(some 5), none, .mv (.c (.int .i64 0))⟩]
abbrev x16b : XCode :=
  (.seq (.reg 0 x16r0 none)
  (.seq (.block 0
    (.seq (.reg 1 x16r1 none)
    (.cond (.t 8)
      (.seq (.reg 2 x16r2 none)
      .ret)
      (.seq (.reg 3 x16r3 none)
      (.cond (.t 24)
        (.seq (.reg 4 x16r4 none)
        .ret)
        .skip)))))
  (.seq (.reg 5 x16r5 (some ⟨[(1, 3), (1, 5)]⟩))
  (.seq (.seq (.reg 6 x16r6 none)
  (.block 1
    (.loop x16l7)))
  (.seq (.reg 12 x16r12 none)
  (.seq (.reg 13 x16r13 none)
  .ret))))))
def x16 : XFunc := ⟨56, 2, [.cell 4 true 5, .tmp 5], x16b⟩
theorem x16_ok : chkF Tryz.prog Tryz.f16 x16 = true := by kernel_rfl
theorem x16_eq : x16.body = x16b ∧ x16.res = [.cell 4 true 5, .tmp 5] ∧ x16.np = 2 := ⟨rfl, rfl, rfl⟩
abbrev x17r0 : List XOper := [
  ⟨(some 2), none, .box (.t 0)⟩,
  ⟨(some 4), none, .alloc [(.int .i64 0), (.int .i64 0), (.int .i64 0), (.int .u64 0), (.int .u64 0)]⟩,
  ⟨(some 5), none, .mv (.c (.int .i64 0))⟩]
abbrev x17r1 : List XOper := [
  ⟨(some 11), none, .load true 5 (.t 2)⟩,
  ⟨(some 12), none, .call (.c (.fn (.func 39) [] [])) [(.t 11)]⟩,
  ⟨(some 13), none, .un .not (.t 12)⟩,
  ⟨(some 14), none, .mv (.t 13)⟩,
  ⟨(some 15), (some (14, false)), .mv (.t 1)⟩,
  ⟨(some 16), (some (14, false)), .fa 0 (.t 2)⟩,
  ⟨(some 17), (some (14, false)), .load false 1 (.t 16)⟩,
  ⟨(some 18), (some (14, false)), .un .neg (.t 17)⟩,
  ⟨(some 19), (some (14, false)), .bin .mul (.t 18) (.c (.int .i64 1000000))⟩,
  ⟨(some 20), (some (14, false)), .bin .lss (.t 15) (.t 19)⟩,
  ⟨(some 21), none, .pick (.t 14) (.c (.bool true)) (.t 20)⟩,
  ⟨(some 22), none, .mv (.t 21)⟩,
  ⟨(some 23), (some (22, false)), .mv (.t 1)⟩,
  ⟨(some 24), (some (22, false)), .fa 0 (.t 2)⟩,
  ⟨(some 25), (some (22, false)), .load false 1 (.t 24)⟩,
  ⟨(some 26), (some (22, false)), .bin .mul (.t 25) (.c (.int .i64 1000000))⟩,
  ⟨(some 27), (some (22, false)), .bin .gtr (.t 23) (.t 26)⟩,
  ⟨(some 28), none, .pick (.t 22) (.c (.bool true)) (.t 27)⟩,
  ⟨(some 10), none, .mv (.t 28)⟩]
abbrev x17r2 : List XOper := [
  ⟨(some 29), none, .build [(.int .i64 0), (.int .i64 0), (.int .i64 0), (.int .u64 0), (.int .u64 0)] []⟩,
  ⟨none, none, .store 5 (.t 4) (.t 29)⟩,
  ⟨(some 5), none, .mv (.c (.int .i64 1))⟩]
abbrev x17r3 : List XOper := [
  ⟨(some 31), none, .fa 1 (.t 2)⟩,
  ⟨(some 32), none, .load false 1 (.t 31)⟩,
  ⟨(some 33), none, .bin .lss (.t 32) (.c (.int .i64 2))⟩,
  ⟨(some 30), none, .mv (.t 33)⟩]
abbrev x17r4 : List XOper := [
  ⟨(some 34), none, .build [(.int .i64 0), (.int .i64 0), (.int .i64 0), (.int .u64 0), (.int .u64 0)] []⟩,
  ⟨none, none, .store 5 (.t 4) (.t 34)⟩,
  ⟨(some 5), none, .mv (.c (.int .i64 12))⟩]
abbrev x17r5 : List XOper := [
  ⟨(some 36), none, .load true 5 (.t 2)⟩,
  ⟨(some 37), none, .call (.c (.fn (.func 43) [] [])) [(.t 36)]⟩,
  ⟨(some 38), none, .inv "datum/base.scale" (.t 37) []⟩,
  ⟨(some 35), none, .mv (.t 38)⟩,
  ⟨(some 39), none, .ext (.t 35) 0⟩,
  ⟨(some 40), none, .ext (.t 35) 1⟩,
  ⟨(some 41), none, .ext (.t 35) 2⟩,
  ⟨(some 42), none, .ext (.t 35) 3⟩,
  ⟨(some 6), none, .mv (.t 39)⟩,
  ⟨(some 7), none, .mv (.t 40)⟩,
  ⟨(some 8), none, .mv (.t 41)⟩,
  ⟨(some 9), none, .mv (.t 42)⟩]
abbrev x17r6 : List XOper := [
  ⟨(some 43), none, .mv (.t 6)⟩,
  ⟨(some 44), none, .mv (.t 7)⟩,
  ⟨(some 45), none, .fa 2 (.t 2)⟩,
  ⟨(some 46), none, .load false 1 (.t 45)⟩,
  ⟨(some 47), none, .bin .mul (.t 44) (.t 46)⟩,
  ⟨(some 48), none, .mv (.t 8)⟩,
  ⟨(some 49), none, .mv (.t 1)⟩,
  ⟨(some 50), none, .fa 1 (.t 2)⟩,
  ⟨(some 51), none, .load false 1 (.t 50)⟩,
  ⟨(some 52), none, .bin .mul (.t 49) (.t 51)⟩,
  ⟨(some 53), none, .fa 2 (.t 2)⟩,
  ⟨(some 54), none, .load false 1 (.t 53)⟩,
  ⟨(some 55), none, .bin .sub (.t 52) (.t 54)⟩,
  ⟨(some 56), none, .bin .mul (.t 48) (.t 55)⟩,
  ⟨(some 57), none, .mv (.t 9)⟩,
  ⟨(some 58), none, .conv .u64 (.t 57)⟩,
  ⟨(some 59), none, .mv (.t 9)⟩,
  ⟨(some 60), none, .conv .u64 (.t 59)⟩,
  ⟨(some 61), none, .call (.c (.fn (.func 24) [] [])) [(.t 58), (.t 60)]⟩,
  ⟨(some 62), none, .build [(.int .i64 0), (.int .i64 0), (.int .i64 0), (.int .u64 0), (.int .u64 0)] [(1, 1, (.t 43)), (0, 1, (.t 47)), (2, 1, (.t 56)), (3, 2, (.t 61))]⟩,
  ⟨none, none, .store 5 (.t 4) (.t 62)⟩,
  ⟨(some 5), none, .mv (.c (.int .i64 0))⟩]
abbrev x17b : XCode :=
  (.seq (.reg 0 x17r0 none)
  (.seq (.block 0
    (.seq (.reg 1 x17r1 none)
    (.cond (.t 10)
      (.seq (.reg 2 x17r2 none)
      .ret)
      (.seq (.reg 3 x17r3 none)
      (.cond (.t 30)
        (.seq (.reg 4 x17r4 none)
        .ret)
        .skip)))))
  (.seq (.reg 5 x17r5 none)
  (.seq (.reg 6 x17r6 (some ⟨[(3, 18), (8, 18), (11, 18)]⟩))
  .ret))))
def x17 : XFunc := ⟨63, 2, [.cell 4 true 5, .tmp 5], x17b⟩
theorem x17_ok : chkF Tryz.prog Tryz.f17 x17 = true := by kernel_rfl
theorem x17_eq : x17.body = x17b ∧ x17.res = [.cell 4 true 5, .tmp 5] ∧ x17.np = 2 := ⟨rfl, rfl, rfl⟩
abbrev x39r0 : List XOper := [
  ⟨(some 1), none, .box (.t 0)⟩,
  ⟨(some 2), none, .mv (.c (.bool false))⟩]
abbrev x39r1 : List XOper := [
  ⟨(some 4), none, .fa 0 (.t 1)⟩,
  ⟨(some 5), none, .load false 1 (.t 4)⟩,
  ⟨(some 6), none, .bin .lss (.t 5) (.c (.int .i64 1))⟩,
  ⟨(some 7), none, .mv (.t 6)⟩,
  ⟨(some 8), (some (7, false)), .fa 0 (.t 1)⟩,
  ⟨(some 9), (some (7, false)), .load false 1 (.t 8)⟩,
  ⟨(some 10), (some (7, false)), .bin .gtr (.t 9) (.c (.int .i64 10))⟩,
  ⟨(some 11), none, .pick (.t 7) (.c (.bool true)) (.t 10)⟩,
  ⟨(some 12), none, .mv (.t 11)⟩,
  ⟨(some 13), (some (12, false)), .fa 1 (.t 1)⟩,
  ⟨(some 14), (some (12, false)), .load false 1 (.t 13)⟩,
  ⟨(some 15), (some (12, false)), .bin .lss (.t 14) (.c (.int .i64 0))⟩,
  ⟨(some 16), none, .pick (.t 12) (.c (.bool true)) (.t 15)⟩,
  ⟨(some 17), none, .mv (.t 16)⟩,
  ⟨(some 18), (some (17, false)), .fa 1 (.t 1)⟩,
  ⟨(some 19), (some (17, false)), .load false 1 (.t 18)⟩,
  ⟨(some 20), (some (17, false)), .bin .gtr (.t 19) (.c (.int .i64 25))⟩,
  ⟨(some 21), none, .pick (.t 17) (.c (.bool true)) (.t 20)⟩,
  ⟨(some 22), none, .mv (.t 21)⟩,
  ⟨(some 23), (some (22, false)), .fa 4 (.t 1)⟩,
  ⟨(some 24), (some (22, false)), .load false 1 (.t 23)⟩,
  ⟨(some 25), (some (22, false)), .call (.c (.fn (.func 42) [] [])) [(.t 24)]⟩,
  ⟨(some 26), (some (22, false)), .un .not (.t 25)⟩,
  ⟨(some 27), none, .pick (.t 22) (.c (.bool true)) (.t 26)⟩,
  ⟨(some 28), none, .mv (.t 27)⟩,
  ⟨(some 29), (some (28, false)), .fa 1 (.t 1)⟩,
  ⟨(some 30), (some (28, false)), .load false 1 (.t 29)⟩,
  ⟨(some 31), (some (28, false)), .bin .eql (.t 30) (.c (.int .i64 0))⟩,
  ⟨(some 32), (some (28, false)), .mv (.t 31)⟩,
  ⟨(some 33), (some (32, true)), .fa 4 (.t 1)⟩,
  ⟨(some 34), (some (32, true)), .load false 1 (.t 33)⟩,
  ⟨(some 35), (some (32, true)), .bin .neq (.t 34) (.c (.int .i64 0))⟩,
  ⟨(some 36), (some (28, false)), .pick (.t 32) (.t 35) (.c (.bool false))⟩,
  ⟨(some 37), none, .pick (.t 28) (.c (.bool true)) (.t 36)⟩]
abbrev x39r2 : List XOper := [
  ⟨(some 2), none, .mv (.c (.bool false))⟩]
abbrev x39r3 : List XOper := [
  ⟨(some 38), none, .fa 1 (.t 1)⟩,
  ⟨(some 39), none, .load false 1 (.t 38)⟩,
  ⟨(some 40), none, .fa 0 (.t 1)⟩,
  ⟨(some 41), none, .load false 1 (.t 40)⟩,
  ⟨(some 42), none, .bin .mul (.t 39) (.t 41)⟩,
  ⟨(some 43), none, .bin .mul (.t 42) (.c (.int .i64 1000000))⟩,
  ⟨(some 3), none, .mv (.t 43)⟩]
abbrev x39r4 : List XOper := [
  ⟨(some 44), none, .fa 2 (.t 1)⟩,
  ⟨(some 45), none, .load false 1 (.t 44)⟩,
  ⟨(some 46), none, .fa 2 (.t 1)⟩,
  ⟨(some 47), none, .load false 1 (.t 46)⟩,
  ⟨(some 48), none, .un .neg (.t 47)⟩,
  ⟨(some 49), none, .mnx true (.t 45) [(.t 48)]⟩,
  ⟨(some 50), none, .mv (.t 3)⟩,
  ⟨(some 51), none, .bin .leq (.t 49) (.t 50)⟩,
  ⟨(some 52), none, .mv (.t 51)⟩,
  ⟨(some 53), (some (52, true)), .fa 2 (.t 1)⟩,
  ⟨(some 54), (some (52, true)), .load false 1 (.t 53)⟩,
  ⟨(some 55), (some (52, true)), .mv (.t 3)⟩,
  ⟨(some 56), (some (52, true)), .un .neg (.t 55)⟩,
  ⟨(some 57), (some (52, true)), .bin .geq (.t 54) (.t 56)⟩,
  ⟨(some 58), none, .pick (.t 52) (.t 57) (.c (.bool false))⟩,
  ⟨(some 59), none, .mv (.t 58)⟩,
  ⟨(some 60), (some (59, true)), .fa 3 (.t 1)⟩,
  ⟨(some 61), (some (59, true)), .load false 1 (.t 60)⟩,
  ⟨(some 62), (some (59, true)), .bin .geq (.t 61) (.c (.int .i64 0))⟩,
  ⟨(some 63), none, .pick (.t 59) (.t 62) (.c (.bool false))⟩,
  ⟨(some 64), none, .mv (.t 63)⟩,
  ⟨(some 65), (some (64, true)), .fa 3 (.t 1)⟩,
  ⟨(some 66), (some (64, true)), .load false 1 (.t 65)⟩,
  ⟨(some 67), (some (64, true)), .load true 5 (.t 1)⟩,
  ⟨(some 68), (some (64, true)), .call (.c (.fn (.func 43) [] [])) [(.t 67)]⟩,
  ⟨(some 69), (some (64, true)), .inv "datum/base.steps" (.t 68) []⟩,
  ⟨(some 70), (some (64, true)), .bin .mul (.c (.int .i64 2000000)) (.t 69)⟩,
  ⟨(some 71), (some (64, true)), .bin .leq (.t 66) (.t 70)⟩,
  ⟨(some 72), none, .pick (.t 64) (.t 71) (.c (.bool false))⟩,
  ⟨(some 2), none, .mv (.t 72)⟩]
abbrev x39b : XCode :=
  (.seq (.reg 0 x39r0 none)
  (.seq (.seq (.reg 1 x39r1 none)
  (.cond (.t 37)
    (.seq (.reg 2 x39r2 none)
    .ret)
    .skip))
  (.seq (.reg 3 x39r3 none)
  (.seq (.reg 4 x39r4 (some ⟨[(22, 24), (22, 25)]⟩))
  .ret))))
def x39 : XFunc := ⟨73, 1, [.tmp 2], x39b⟩
theorem x39_ok : chkF Tryz.prog Tryz.f39 x39 = true := by kernel_rfl
theorem x39_eq : x39.body = x39b ∧ x39.res = [.tmp 2] ∧ x39.np = 1 := ⟨rfl, rfl, rfl⟩
abbrev x40r0 : List XOper := [
  ⟨(some 4), none, .mv (.c (.bool false))⟩]
abbrev x40r1 : List XOper := [
  ⟨(some 5), none, .mv (.t 0)⟩,
  ⟨(some 6), none, .mv (.t 1)⟩,
  ⟨(some 7), none, .call (.c (.fn (.func 65) [] [])) [(.t 5), (.t 6)]⟩,
  ⟨(some 8), none, .bin .geq (.t 7) (.c (.int .i64 0))⟩,
  ⟨(some 4), none, .mv (.t 8)⟩]
abbrev x40b : XCode :=
  (.seq (.reg 0 x40r0 none)
  (.seq (.reg 1 x40r1 none)
  .ret))
def x40 : XFunc := ⟨9, 2, [.tmp 4], x40b⟩
theorem x40_ok : chkF Tryz.prog Tryz.f40 x40 = true := by kernel_rfl
theorem x40_eq : x40.body = x40b ∧ x40.res = [.tmp 4] ∧ x40.np = 2 := ⟨rfl, rfl, rfl⟩
abbrev x41r0 : List XOper := [
  ⟨(some 2), none, .mv (.c (.bool false))⟩]
abbrev x41r1 : List XOper := [
  ⟨(some 3), none, .mv (.t 0)⟩,
  ⟨(some 4), none, .call (.c (.fn (.func 42) [] [])) [(.t 3)]⟩,
  ⟨(some 5), none, .un .not (.t 4)⟩,
  ⟨(some 2), none, .mv (.t 5)⟩]
abbrev x41b : XCode :=
  (.seq (.reg 0 x41r0 none)
  (.seq (.reg 1 x41r1 none)
  .ret))
def x41 : XFunc := ⟨6, 1, [.tmp 2], x41b⟩
theorem x41_ok : chkF Tryz.prog Tryz.f41 x41 = true := by kernel_rfl
theorem x41_eq : x41.body = x41b ∧ x41.res = [.tmp 2] ∧ x41.np = 1 := ⟨rfl, rfl, rfl⟩
abbrev x42r0 : List XOper := [
  ⟨(some 2), none, .mv (.c (.bool false))⟩]
abbrev x42r1 : List XOper := [
  ⟨(some 3), none, .mv (.t 0)⟩,
  ⟨(some 4), none, .bin .geq (.t 3) (.c (.int .i64 (-1000000)))⟩,
  ⟨(some 5), none, .mv (.t 4)⟩,
  ⟨(some 6), (some (5, true)), .mv (.t 0)⟩,
  ⟨(some 7), (some (5, true)), .bin .leq (.t 6) (.c (.int .i64 1000000))⟩,
  ⟨(some 8), none, .pick (.t 5) (.t 7) (.c (.bool false))⟩,
  ⟨(some 2), none, .mv (.t 8)⟩]
abbrev x42b : XCode :=
  (.seq (.reg 0 x42r0 none)
  (.seq (.reg 1 x42r1 none)
  .ret))
def x42 : XFunc := ⟨9, 1, [.tmp 2], x42b⟩
theorem x42_ok : chkF Tryz.prog Tryz.f42 x42 = true := by kernel_rfl
theorem x42_eq : x42.body = x42b ∧ x42.res = [.tmp 2] ∧ x42.np = 1 := ⟨rfl, rfl, rfl⟩
abbrev x43r0 : List XOper := [
  ⟨(some 1), none, .box (.t 0)⟩,
  ⟨(some 2), none, .mv (.c .nili)⟩]
abbrev x43r1 : List XOper := [
  ⟨(some 3), none, .fa 0 (.t 1)⟩,
  ⟨(some 4), none, .load false 1 (.t 3)⟩,
  ⟨(some 5), none, .bin .eql (.t 4) (.c (.int .i64 1))⟩]
abbrev x43r2 : List XOper := [
  ⟨(some 6), none, .load true 5 (.t 1)⟩,
  ⟨(some 7), none, .build [(.int .i64 0), (.int .i64 0), (.int .i64 0), (.int .i64 0), (.int .i64 0)] [(0, 5, (.t 6))]⟩,
  ⟨(some 8), none, .mki 141 (.t 7)⟩,
  ⟨(some 2), none, .mv (.t 8)⟩]
abbrev x43r3 : List XOper := [
  ⟨(some 9), none, .load true 5 (.t 1)⟩,
  ⟨(some 10), none, .build [(.int .i64 0), (.int .i64 0), (.int .i64 0), (.int .i64 0), (.int .i64 0)] [(0, 5, (.t 9))]⟩,
  ⟨(some 11), none, .mki 142 (.t 10)⟩,
  ⟨(some 2), none, .mv (.t 11)⟩]
abbrev x43b : XCode :=
  (.seq (.reg 0 x43r0 none)
  (.seq (.seq (.reg 1 x43r1 none)
  (.cond (.t 5)
    (.seq (.reg 2 x43r2 none)
    .ret)
    .skip))
  (.seq (.reg 3 x43r3 none)
  .ret)))
def x43 : XFunc := ⟨12, 1, [.tmp 2], x43b⟩
theorem x43_ok : chkF Tryz.prog Tryz.f43 x43 = true := by kernel_rfl
theorem x43_eq : x43.body = x43b ∧ x43.res = [.tmp 2] ∧ x43.np = 1 := ⟨rfl, rfl, rfl⟩
abbrev x44r0 : List XOper := [
  ⟨(some 4), none, .alloc [(.int .i64 0), (.int .i64 0)]⟩]
abbrev x44r1 : List XOper := [
  ⟨(some 6), none, .load true 5 (.t 0)⟩,
  ⟨(some 7), none, .call (.c (.fn (.func 39) [] [])) [(.t 6)]⟩,
  ⟨(some 8), none, .load false 1 (.t 1)⟩,
  ⟨(some 9), none, .load false 1 (.t 2)⟩,
  ⟨(some 10), none, .load false 1 (.t 3)⟩,
  ⟨(some 11), none, .call (.c (.fn (.func 29) [] [])) [(.t 7), (.t 8), (.t 9), (.t 10)]⟩]
abbrev x44r2 : List XOper := [
  ⟨(some 12), none, .load true 5 (.t 0)⟩,
  ⟨(some 13), none, .call (.c (.fn (.func 45) [] [])) [(.t 12)]⟩,
  ⟨(some 5), none, .mv (.t 13)⟩]
abbrev x44r3 : List XOper := [
  ⟨(some 14), none, .load false 1 (.t 2)⟩,
  ⟨(some 15), none, .load false 1 (.t 1)⟩,
  ⟨(some 16), none, .bin .sub (.t 14) (.t 15)⟩,
  ⟨(some 17), none, .load false 1 (.t 3)⟩,
  ⟨(some 18), none, .bin .mul (.t 16) (.t 17)⟩,
  ⟨(some 19), none, .mv (.t 5)⟩,
  ⟨(some 20), none, .fa 3 (.t 0)⟩,
  ⟨(some 21), none, .load false 1 (.t 20)⟩,
  ⟨(some 22), none, .bin .mul (.c (.int .i64 60000)) (.t 21)⟩,
  ⟨(some 23), none, .call (.c (.fn (.func 46) [] [])) [(.t 18), (.t 19), (.t 22)]⟩,
  ⟨none, none, .store 2 (.t 4) (.t 23)⟩]
abbrev x44b : XCode :=
  (.seq (.reg 0 x44r0 none)
  (.seq (.reg 1 x44r1 (some ⟨[(1, 2), (1, 3), (1, 4)]⟩))
  (.seq (.reg 2 x44r2 none)
  (.seq (.reg 3 x44r3 none)
  .ret))))
def x44 : XFunc := ⟨24, 4, [.cell 4 true 2], x44b⟩
theorem x44_ok : chkF Tryz.prog Tryz.f44 x44 = true := by kernel_rfl
theorem x44_eq : x44.body = x44b ∧ x44.res = [.cell 4 true 2] ∧ x44.np = 4 := ⟨rfl, rfl, rfl⟩
abbrev x45r0 : List XOper := [
  ⟨(some 1), none, .box (.t 0)⟩,
  ⟨(some 2), none, .mv (.c (.int .i64 0))⟩]
abbrev x45r1 : List XOper := [
  ⟨(some 7), none, .fa 1 (.t 1)⟩,
  ⟨(some 8), none, .load false 1 (.t 7)⟩,
  ⟨(some 9), none, .bin .geq (.t 8) (.c (.int .i64 2))⟩,
  ⟨(some 10), none, .call (.c (.fn (.func 54) [] [])) [(.t 9), (.c (.int .i64 12))]⟩]
abbrev x45r2 : List XOper := [
  ⟨(some 11), none, .fa 3 (.t 1)⟩,
  ⟨(some 12), none, .load false 1 (.t 11)⟩,
  ⟨(some 13), none, .bin .gtr (.t 12) (.c (.int .i64 0))⟩,
  ⟨(some 14), none, .call (.c (.fn (.func 54) [] [])) [(.t 13), (.c (.int .i64 6))]⟩]
abbrev x45r3 : List XOper := [
  ⟨(some 15), none, .fa 0 (.t 1)⟩,
  ⟨(some 16), none, .load false 1 (.t 15)⟩,
  ⟨(some 17), none, .fa 1 (.t 1)⟩,
  ⟨(some 18), none, .load false 1 (.t 17)⟩,
  ⟨(some 3), none, .mv (.t 16)⟩,
  ⟨(some 4), none, .mv (.t 18)⟩]
abbrev x45r4 : List XOper := [
  ⟨(some 19), none, .mv (.t 3)⟩,
  ⟨(some 20), none, .bin .eql (.t 19) (.c (.int .i64 1))⟩]
abbrev x45r5 : List XOper := [
  ⟨(some 21), none, .mv (.t 4)⟩,
  ⟨(some 22), none, .bin .sub (.t 21) (.c (.int .i64 1))⟩,
  ⟨(some 3), none, .mv (.c (.int .i64 2))⟩,
  ⟨(some 4), none, .mv (.t 22)⟩]
abbrev x45r6 : List XOper := [
  ⟨(some 24), none, .mv (.t 3)⟩,
  ⟨(some 25), none, .call (.c (.fn (.func 66) [] [])) [(.c (.int .i64 3)), (.t 24)]⟩,
  ⟨(some 23), none, .mv (.t 25)⟩,
  ⟨(some 26), none, .ext (.t 23) 0⟩,
  ⟨(some 27), none, .ext (.t 23) 1⟩,
  ⟨(some 5), none, .mv (.t 26)⟩,
  ⟨(some 6), none, .mv (.t 27)⟩]
abbrev x45r7 : List XOper := [
  ⟨(some 28), none, .mv (.t 5)⟩,
  ⟨(some 29), none, .mv (.t 4)⟩,
  ⟨(some 30), none, .bin .mul (.t 28) (.t 29)⟩,
  ⟨(some 2), none, .mv (.t 30)⟩]
abbrev x45b : XCode :=
  (.seq (.reg 0 x45r0 none)
  (.seq (.reg 1 x45r1 none)
  (.seq (.reg 2 x45r2 none)
  (.seq (.reg 3 x45r3 (some ⟨[]⟩))
  (.seq (.seq (.reg 4 x45r4 none)
  (.cond (.t 20)
    (.reg 5 x45r5 none)
    .skip))
  (.seq (.reg 6 x45r6 none)
  (.seq (.reg 7 x45r7 none)
  .ret)))))))
def x45 : XFunc := ⟨31, 1, [.tmp 2], x45b⟩
theorem x45_ok : chkF Tryz.prog Tryz.f45 x45 = true := by kernel_rfl
theorem x45_eq : x45.body = x45b ∧ x45.res = [.tmp 2] ∧ x45.np = 1 := ⟨rfl, rfl, rfl⟩
abbrev x46r0 : List XOper := [
  ⟨(some 6), none, .alloc [(.int .i64 0), (.int .i64 0)]⟩]
abbrev x46r1 : List XOper := [
  ⟨(some 12), none, .mv (.t 0)⟩,
  ⟨(some 13), none, .mv (.t 1)⟩,
  ⟨(some 14), none, .mv (.t 2)⟩,
  ⟨(some 15), none, .call (.c (.fn (.func 67) [] [])) [(.t 12), (.t 13), (.t 14), (.c (.int .i64 0))]⟩,
  ⟨(some 11), none, .mv (.t 15)⟩,
  ⟨(some 16), none, .ext (.t 11) 0⟩,
  ⟨(some 17), none, .ext (.t 11) 1⟩,
  ⟨(some 7), none, .mv (.t 16)⟩,
  ⟨(some 8), none, .mv (.t 17)⟩]
abbrev x46r2 : List XOper := [
  ⟨(some 19), none, .mv (.t 0)⟩,
  ⟨(some 20), none, .mv (.t 1)⟩,
  ⟨(some 21), none, .mv (.t 2)⟩,
  ⟨(some 22), none, .call (.c (.fn (.func 67) [] [])) [(.t 19), (.t 20), (.t 21), (.c (.int .i64 1))]⟩,
  ⟨(some 18), none, .mv (.t 22)⟩,
  ⟨(some 23), none, .ext (.t 18) 0⟩,
  ⟨(some 24), none, .ext (.t 18) 1⟩,
  ⟨(some 9), none, .mv (.t 23)⟩,
  ⟨(some 10), none, .mv (.t 24)⟩]
abbrev x46r3 : List XOper := [
  ⟨(some 25), none, .mv (.t 8)⟩,
  ⟨(some 26), none, .bin .eql (.t 25) (.c (.int .i64 0))⟩,
  ⟨(some 27), none, .mv (.t 8)⟩,
  ⟨(some 28), none, .call (.c (.fn (.func 54) [] [])) [(.t 26), (.t 27)]⟩]
abbrev x46r4 : List XOper := [
  ⟨(some 29), none, .mv (.t 10)⟩,
  ⟨(some 30), none, .bin .eql (.t 29) (.c (.int .i64 0))⟩,
  ⟨(some 31), none, .mv (.t 10)⟩,
  ⟨(some 32), none, .call (.c (.fn (.func 54) [] [])) [(.t 30), (.t 31)]⟩]
abbrev x46r5 : List XOper := [
  ⟨(some 33), none, .mv (.t 7)⟩,
  ⟨(some 34), none, .mv (.t 9)⟩,
  ⟨(some 35), none, .build [(.int .i64 0), (.int .i64 0)] [(0, 1, (.t 33)), (1, 1, (.t 34))]⟩,
  ⟨none, none, .store 2 (.t 6) (.t 35)⟩]
abbrev x46b : XCode :=
  (.seq (.reg 0 x46r0 none)
  (.seq (.reg 1 x46r1 none)
  (.seq (.reg 2 x46r2 none)
  (.seq (.reg 3 x46r3 none)
  (.seq (.reg 4 x46r4 none)
  (.seq (.reg 5 x46r5 none)
  .ret))))))
def x46 : XFunc := ⟨36, 3, [.cell 6 true 2], x46b⟩
theorem x46_ok : chkF Tryz.prog Tryz.f46 x46 = true := by kernel_rfl
theorem x46_eq : x46.body = x46b ∧ x46.res = [.cell 6 true 2] ∧ x46.np = 3 := ⟨rfl, rfl, rfl⟩
abbrev x47r0 : List XOper := [
  ⟨(some 4), none, .alloc [(.int .i64 0), (.int .i64 0)]⟩]
abbrev x47r1 : List XOper := [
  ⟨(some 8), none, .load true 5 (.t 0)⟩,
  ⟨(some 9), none, .call (.c (.fn (.func 39) [] [])) [(.t 8)]⟩,
  ⟨(some 10), none, .load false 1 (.t 1)⟩,
  ⟨(some 11), none, .load false 1 (.t 2)⟩,
  ⟨(some 12), none, .load false 1 (.t 3)⟩,
  ⟨(some 13), none, .call (.c (.fn (.func 29) [] [])) [(.t 9), (.t 10), (.t 11), (.t 12)]⟩]
abbrev x47r2 : List XOper := [
  ⟨(some 14), none, .load true 5 (.t 0)⟩,
  ⟨(some 15), none, .call (.c (.fn (.func 45) [] [])) [(.t 14)]⟩,
  ⟨(some 5), none, .mv (.t 15)⟩]
abbrev x47r3 : List XOper := [
  ⟨(some 16), none, .fa 1 (.t 0)⟩,
  ⟨(some 17), none, .load false 1 (.t 16)⟩,
  ⟨(some 18), none, .fa 0 (.t 0)⟩,
  ⟨(some 19), none, .load false 1 (.t 18)⟩,
  ⟨(some 20), none, .bin .mul (.t 17) (.t 19)⟩,
  ⟨(some 6), none, .mv (.t 20)⟩]
abbrev x47r4 : List XOper := [
  ⟨(some 21), none, .load false 1 (.t 2)⟩,
  ⟨(some 22), none, .mv (.t 6)⟩,
  ⟨(some 23), none, .bin .mul (.t 21) (.t 22)⟩,
  ⟨(some 24), none, .fa 2 (.t 0)⟩,
  ⟨(some 25), none, .load false 1 (.t 24)⟩,
  ⟨(some 26), none, .bin .sub (.t 23) (.t 25)⟩,
  ⟨(some 27), none, .fa 2 (.t 0)⟩,
  ⟨(some 28), none, .load false 1 (.t 27)⟩,
  ⟨(some 29), none, .load false 1 (.t 1)⟩,
  ⟨(some 30), none, .mv (.t 6)⟩,
  ⟨(some 31), none, .bin .mul (.t 29) (.t 30)⟩,
  ⟨(some 32), none, .bin .sub (.t 28) (.t 31)⟩,
  ⟨(some 33), none, .mnx false (.t 26) [(.t 32)]⟩,
  ⟨(some 7), none, .mv (.t 33)⟩]
abbrev x47r5 : List XOper := [
  ⟨(some 34), none, .mv (.t 7)⟩,
  ⟨(some 35), none, .load false 1 (.t 3)⟩,
  ⟨(some 36), none, .bin .mul (.t 34) (.t 35)⟩,
  ⟨(some 37), none, .mv (.t 5)⟩,
  ⟨(some 38), none, .fa 3 (.t 0)⟩,
  ⟨(some 39), none, .load false 1 (.t 38)⟩,
  ⟨(some 40), none, .bin .mul (.c (.int .i64 30000)) (.t 39)⟩,
  ⟨(some 41), none, .mv (.t 6)⟩,
  ⟨(some 42), none, .bin .mul (.t 40) (.t 41)⟩,
  ⟨(some 43), none, .call (.c (.fn (.func 46) [] [])) [(.t 36), (.t 37), (.t 42)]⟩,
  ⟨none, none, .store 2 (.t 4) (.t 43)⟩]
abbrev x47b : XCode :=
  (.seq (.reg 0 x47r0 none)
  (.seq (.reg 1 x47r1 (some ⟨[(1, 2), (1, 3), (1, 4)]⟩))
  (.seq (.reg 2 x47r2 none)
  (.seq (.reg 3 x47r3 none)
  (.seq (.reg 4 x47r4 none)
  (.seq (.reg 5 x47r5 none)
  .ret))))))
def x47 : XFunc := ⟨44, 4, [.cell 4 true 2], x47b⟩
theorem x47_ok : chkF Tryz.prog Tryz.f47 x47 = true := by kernel_rfl
theorem x47_eq : x47.body = x47b ∧ x47.res = [.cell 4 true 2] ∧ x47.np = 4 := ⟨rfl, rfl, rfl⟩
abbrev x65r0 : List XOper := [
  ⟨(some 4), none, .mv (.c (.int .i64 0))⟩]
abbrev x65r1 : List XOper := [
  ⟨(some 6), none, .mv (.t 0)⟩,
  ⟨(some 7), none, .lenV (.t 6)⟩,
  ⟨(some 8), none, .mv (.c (.int .i64 0))⟩]
abbrev x65r2 : List XOper := [
  ⟨(some 9), none, .bin .lss (.t 8) (.t 7)⟩]
abbrev x65r3 : List XOper := [
  ⟨(some 10), none, .mv (.t 8)⟩,
  ⟨(some 5), none, .mv (.t 10)⟩]
abbrev x65r4 : List XOper := [
  ⟨(some 11), none, .mv (.t 1)⟩,
  ⟨(some 12), none, .mv (.t 0)⟩,
  ⟨(some 13), none, .mv (.t 5)⟩,
  ⟨(some 14), none, .iaS 1 (.t 12) (.t 13)⟩,
  ⟨(some 15), none, .load false 1 (.t 14)⟩,
  ⟨(some 16), none, .call (.t 11) [(.t 15)]⟩]
abbrev x65r5 : List XOper := [
  ⟨(some 17), none, .mv (.t 5)⟩,
  ⟨(some 4), none, .mv (.t 17)⟩]
abbrev x65r6 : List XOper := [
  ⟨(some 18), none, .bin .add (.t 8) (.c (.int .i64 1))⟩,
  ⟨(some 8), none, .mv (.t 18)⟩]
abbrev x65l2 : XCode :=
  (.seq (.reg 2 x65r2 none)
  (.seq (.cond (.t 9)
    .skip
    (.exit 0))
  (.seq (.block 1
    (.seq (.reg 3 x65r3 none)
    (.seq (.reg 4 x65r4 none)
    (.cond (.t 16)
      (.seq (.reg 5 x65r5 none)
      .ret)
      .skip))))
  (.reg 6 x65r6 none))))
abbrev x65r7 : List XOper := [
  ⟨(some 4), none, .mv (.c (.int .i64 (-1)))⟩]
abbrev x65b : XCode :=
  (.seq (.reg 0 x65r0 none)
  (.seq (.seq (.reg 1 x65r1 none)
  (.block 0
    (.loop x65l2)))
  (.seq (.reg 7 x65r7 none)
  .ret)))
def x65 : XFunc := ⟨19, 2, [.tmp 4], x65b⟩
theorem x65_ok : chkF Tryz.prog Tryz.f65 x65 = true := by kernel_rfl
theorem x65_eq : x65.body = x65b ∧ x65.res = [.tmp 4] ∧ x65.np = 2 := ⟨rfl, rfl, rfl⟩
def xf : FuncId → Option XFunc
  | 3 => some x3
  | 6 => some x6
  | 7 => some x7
  | 9 => some x9
  | 10 => some x10
  | 20 => some x20
  | 21 => some x21
  | 22 => some x22
  | 24 => some x24
  | 26 => some x26
  | 48 => some x48
  | 52 => some x52
  | 55 => some x55
  | 58 => some x58
  | 80 => some x80
  | 81 => some x81
  | 82 => some x82
  | 88 => some x88
  | 89 => some x89
  | 91 => some x91
  | 93 => some x93
  | 94 => some x94
  | 95 => some x95
  | 118 => some x118
  | 119 => some x119
  | 188 => some x188
  | 419 => some x419
  | 30 => some x30
  | 56 => some x56
  | 57 => some x57
  | 59 => some x59
  | 60 => some x60
  | 61 => some x61
  | 84 => some x84
  | 85 => some x85
  | 86 => some x86
  | 4 => some x4
  | 13 => some x13
  | 14 => some x14
  | 28 => some x28
  | 29 => some x29
  | 31 => some x31
  | 32 => some x32
  | 33 => some x33
  | 34 => some x34
  | 35 => some x35
  | 36 => some x36
  | 37 => some x37
  | 38 => some x38
  | 54 => some x54
  | 62 => some x62
  | 63 => some x63
  | 87 => some x87
  | 115 => some x115
  | 5 => some x5
  | 15 => some x15
  | 16 => some x16
  | 17 => some x17
  | 39 => some x39
  | 40 => some x40
  | 41 => some x41
  | 42 => some x42
  | 43 => some x43
  | 44 => some x44
  | 45 => some x45
  | 46 => some x46
  | 47 => some x47
  | 65 => some x65
  | _ => none
def C0 : Cfg := ⟨fun _ => none, xf, fun _ => none, fun _ => none, fun _ => none, fun _ _ => none⟩
set_option maxRecDepth 100000 in
theorem ok0 : CfgOk Tryz.prog C0 := by
  refine ⟨(fun g F h => by cases h), (fun g x h => ?_), by kernel_rfl, (fun g F h => by cases h), (fun g F h => by cases h), (fun g q h => by cases h), (fun t m g h => by cases h)⟩
  change xf g = some x at h
  unfold xf at h
  split at h
  · cases h; exact ⟨Tryz.f3, Tryz.func3, x3_ok⟩
  · cases h; exact ⟨Tryz.f6, Tryz.func6, x6_ok⟩
  · cases h; exact ⟨Tryz.f7, Tryz.func7, x7_ok⟩
  · cases h; exact ⟨Tryz.f9, Tryz.func9, x9_ok⟩
  · cases h; exact ⟨Tryz.f10, Tryz.func10, x10_ok⟩
  · cases h; exact ⟨Tryz.f20, Tryz.func20, x20_ok⟩
  · cases h; exact ⟨Tryz.f21, Tryz.func21, x21_ok⟩
  · cases h; exact ⟨Tryz.f22, Tryz.func22, x22_ok⟩
  · cases h; exact ⟨Tryz.f24, Tryz.func24, x24_ok⟩
  · cases h; exact ⟨Tryz.f26, Tryz.func26, x26_ok⟩
  · cases h; exact ⟨Tryz.f48, Tryz.func48, x48_ok⟩
  · cases h; exact ⟨Tryz.f52, Tryz.func52, x52_ok⟩
  · cases h; exact ⟨Tryz.f55, Tryz.func55, x55_ok⟩
  · cases h; exact ⟨Tryz.f58, Tryz.func58, x58_ok⟩
  · cases h; exact ⟨Tryz.f80, Tryz.func80, x80_ok⟩
  · cases h; exact ⟨Tryz.f81, Tryz.func81, x81_ok⟩
  · cases h; exact ⟨Tryz.f82, Tryz.func82, x82_ok⟩
  · cases h; exact ⟨Tryz.f88, Tryz.func88, x88_ok⟩
  · cases h; exact ⟨Tryz.f89, Tryz.func89, x89_ok⟩
  · cases h; exact ⟨Tryz.f91, Tryz.func91, x91_ok⟩
  · cases h; exact ⟨Tryz.f93, Tryz.func93, x93_ok⟩
  · cases h; exact ⟨Tryz.f94, Tryz.func94, x94_ok⟩
  · cases h; exact ⟨Tryz.f95, Tryz.func95, x95_ok⟩
  · cases h; exact ⟨Tryz.f118, Tryz.func118, x118_ok⟩
  · cases h; exact ⟨Tryz.f119, Tryz.func119, x119_ok⟩
  · cases h; exact ⟨Tryz.f188, Tryz.func188, x188_ok⟩
  · cases h; exact ⟨Tryz.f419, Tryz.func419, x419_ok⟩
  · cases h; exact ⟨Tryz.f30, Tryz.func30, x30_ok⟩
  · cases h; exact ⟨Tryz.f56, Tryz.func56, x56_ok⟩
  · cases h; exact ⟨Tryz.f57, Tryz.func57, x57_ok⟩
  · cases h; exact ⟨Tryz.f59, Tryz.func59, x59_ok⟩
  · cases h; exact ⟨Tryz.f60, Tryz.func60, x60_ok⟩
  · cases h; exact ⟨Tryz.f61, Tryz.func61, x61_ok⟩
  · cases h; exact ⟨Tryz.f84, Tryz.func84, x84_ok⟩
  · cases h; exact ⟨Tryz.f85, Tryz.func85, x85_ok⟩
  · cases h; exact ⟨Tryz.f86, Tryz.func86, x86_ok⟩
  · cases h; exact ⟨Tryz.f4, Tryz.func4, x4_ok⟩
  · cases h; exact ⟨Tryz.f13, Tryz.func13, x13_ok⟩
  · cases h; exact ⟨Tryz.f14, Tryz.func14, x14_ok⟩
  · cases h; exact ⟨Tryz.f28, Tryz.func28, x28_ok⟩
  · cases h; exact ⟨Tryz.f29, Tryz.func29, x29_ok⟩
  · cases h; exact ⟨Tryz.f31, Tryz.func31, x31_ok⟩
  · cases h; exact ⟨Tryz.f32, Tryz.func32, x32_ok⟩
  · cases h; exact ⟨Tryz.f33, Tryz.func33, x33_ok⟩
  · cases h; exact ⟨Tryz.f34, Tryz.func34, x34_ok⟩
  · cases h; exact ⟨Tryz.f35, Tryz.func35, x35_ok⟩
  · cases h; exact ⟨Tryz.f36, Tryz.func36, x36_ok⟩
  · cases h; exact ⟨Tryz.f37, Tryz.func37, x37_ok⟩
  · cases h; exact ⟨Tryz.f38, Tryz.func38, x38_ok⟩
  · cases h; exact ⟨Tryz.f54, Tryz.func54, x54_ok⟩
  · cases h; exact ⟨Tryz.f62, Tryz.func62, x62_ok⟩
  · cases h; exact ⟨Tryz.f63, Tryz.func63, x63_ok⟩
  · cases h; exact ⟨Tryz.f87, Tryz.func87, x87_ok⟩
  · cases h; exact ⟨Tryz.f115, Tryz.func115, x115_ok⟩
  · cases h; exact ⟨Tryz.f5, Tryz.func5, x5_ok⟩
  · cases h; exact ⟨Tryz.f15, Tryz.func15, x15_ok⟩
  · cases h; exact ⟨Tryz.f16, Tryz.func16, x16_ok⟩
  · cases h; exact ⟨Tryz.f17, Tryz.func17, x17_ok⟩
  · cases h; exact ⟨Tryz.f39, Tryz.func39, x39_ok⟩
  · cases h; exact ⟨Tryz.f40, Tryz.func40, x40_ok⟩
  · cases h; exact ⟨Tryz.f41, Tryz.func41, x41_ok⟩
  · cases h; exact ⟨Tryz.f42, Tryz.func42, x42_ok⟩
  · cases h; exact ⟨Tryz.f43, Tryz.func43, x43_ok⟩
  · cases h; exact ⟨Tryz.f44, Tryz.func44, x44_ok⟩
  · cases h; exact ⟨Tryz.f45, Tryz.func45, x45_ok⟩
  · cases h; exact ⟨Tryz.f46, Tryz.func46, x46_ok⟩
  · cases h; exact ⟨Tryz.f47, Tryz.func47, x47_ok⟩
  · cases h; exact ⟨Tryz.f65, Tryz.func65, x65_ok⟩
  · cases h
end Go.Proofs.YtkonpbcnekcjjaaGreatDoor
namespace Go.Proofs.YtkonpbcnekcjjaaGreatDoor
open Go Go.Xec
attribute [local go_sem] tm0 ne_eq not_false_eq_true List.length_append List.length_replicate List.replicate_succ List.replicate_zero Int.cast_ofNat_Int not_true_eq_false decide_true decide_false ite_self beq_self_eq_true Bool.true_beq Bool.false_beq Bool.not_true Bool.not_false
attribute [local go_sem_proc] Nat.reduceAdd Nat.reduceMul Nat.reduceSub Nat.reduceLeDiff Nat.reduceLT Nat.reduceEqDiff Int.reduceLT Int.reduceLE Int.reduceAdd Int.reduceSub Int.reduceMul Int.reduceToNat Int.reducePow Int.reduceNe Int.reduceMod Int.reduceDiv Int.reduceEq Nat.reducePow Int.reduceNeg
abbrev U (n : Int) : Prop := 0 ≤ n ∧ n < 18446744073709551616
abbrev W (h l : Int) : AVal := .agg [.int .u64 h, .int .u64 l]
abbrev val (h l : Int) : Int := h * 18446744073709551616 + l
abbrev enc (n : Int) : AVal := W (n / 18446744073709551616) (n % 18446744073709551616)
abbrev big : Int := 340282366920938463463374607431768211456
noncomputable def F52 : List AVal → Option AVal
  | [.int .u64 a, .int .u64 b] => if U a ∧ U b then some (.tup [.int .u64 (a * b / 18446744073709551616), .int .u64 (a * b % 18446744073709551616)]) else none
  | _ => none
theorem F52_eq {a b : Int} (ha : U a) (hb : U b) : F52 [.int .u64 a, .int .u64 b] = some (.tup [.int .u64 (a * b / 18446744073709551616), .int .u64 (a * b % 18446744073709551616)]) := if_pos ⟨ha, hb⟩
theorem mul_bound {x y m : Int} (h0 : 0 ≤ x) (h1 : x ≤ m) (h2 : 0 ≤ y) (h3 : y ≤ m) : 0 ≤ x * y ∧ x * y ≤ m * m :=
  ⟨Int.mul_nonneg h0 h2, Int.mul_le_mul h1 h3 h2 (by omega)⟩
set_option maxRecDepth 10000
theorem step52 {a b : Int} (ha : U a) (hb : U b) : pureF C0 1 52 [.int .u64 a, .int .u64 b] = some (.tup [.int .u64 (a * b / 18446744073709551616), .int .u64 (a * b % 18446744073709551616)]) := by
  refine pureF_of (x := x52) rfl rfl ?_
  rw [x52_eq.1, x52_eq.2.1]
  simp only [x52b, go_sem, ↓reduceIte, dropK_eq, and_self, Bool.and_self, binA_and32, binA_shr]
  refine Ends_plain rfl ?_
  have e1 : a = a / 4294967296 * 4294967296 + a % 4294967296 := by omega
  have e2 : b = b / 4294967296 * 4294967296 + b % 4294967296 := by omega
  have h1 : 0 ≤ a / 4294967296 ∧ a / 4294967296 ≤ 4294967295 := by omega
  have h2 : 0 ≤ a % 4294967296 ∧ a % 4294967296 ≤ 4294967295 := by omega
  have h3 : 0 ≤ b / 4294967296 ∧ b / 4294967296 ≤ 4294967295 := by omega
  have h4 : 0 ≤ b % 4294967296 ∧ b % 4294967296 ≤ 4294967295 := by omega
  generalize a / 4294967296 = a1 at *
  generalize a % 4294967296 = a0 at *
  generalize b / 4294967296 = b1 at *
  generalize b % 4294967296 = b0 at *
  have p11 := mul_bound h1.1 h1.2 h3.1 h3.2
  have p10 := mul_bound h1.1 h1.2 h4.1 h4.2
  have p01 := mul_bound h2.1 h2.2 h3.1 h3.2
  have p00 := mul_bound h2.1 h2.2 h4.1 h4.2
  have e3 : a * b = a1 * b1 * 18446744073709551616 + (a1 * b0 + a0 * b1) * 4294967296 + a0 * b0 := by
    rw [e1, e2]
    simp only [Int.add_mul, Int.mul_add, Int.mul_comm, Int.mul_left_comm, Int.mul_assoc, Int.reduceMul]
    omega
  rw [e3]
  generalize a1 * b1 = q11 at *
  generalize a1 * b0 = q10 at *
  generalize a0 * b1 = q01 at *
  generalize a0 * b0 = q00 at *
  clear e1 e2 e3 ha hb
  congr 2
  · congr 1
    omega
theorem sound52 : Sound Tryz.prog 52 F52 := sound_at ok0 0 fun xs r h => by
  unfold F52 at h
  split at h
  · split at h
    · rename_i hc
      cases h
      exact step52 hc.1 hc.2
    · cases h
  · cases h
theorem sound25 : Sound Tryz.prog 25 F_add64 := sound_add64 Tryz.func25 (by kernel_rfl) (by kernel_rfl) (by kernel_rfl) (by kernel_rfl)
theorem sound114 : Sound Tryz.prog 114 F_sub64 := sound_sub64 Tryz.func114 (by kernel_rfl) (by kernel_rfl) (by kernel_rfl) (by
  intro x y c hc w
  have : c = 0 ∨ c = 1 := by omega
  rcases this with rfl | rfl <;> rfl)
noncomputable def C1 : Cfg := ((C0.add 52 F52).add 25 F_add64).add 114 F_sub64
theorem ok1 : CfgOk Tryz.prog C1 := ((ok0.add sound52).add sound25).add sound114
theorem C1_52 : C1.Γ 52 = some F52 := rfl
noncomputable def F24 : List AVal → Option AVal
  | [.int .u64 a, .int .u64 b] => if U a ∧ U b then some (enc (a * b)) else none
  | _ => none
theorem F24_eq {a b : Int} (ha : U a) (hb : U b) : F24 [.int .u64 a, .int .u64 b] = some (enc (a * b)) := if_pos ⟨ha, hb⟩
theorem step24 {a b : Int} (ha : U a) (hb : U b) : pureF C1 1 24 [.int .u64 a, .int .u64 b] = some (enc (a * b)) := by
  refine pureF_of (x := x24) rfl rfl ?_
  rw [x24_eq.1, x24_eq.2.1]
  simp only [x24b, go_sem, ↓reduceIte, dropK_eq, callX_known C1_52, F52_eq ha hb]
  exact Ends_plain rfl rfl
theorem sound24 : Sound Tryz.prog 24 F24 := sound_at ok1 0 fun xs r h => by
  unfold F24 at h
  split at h
  · split at h
    · rename_i hc
      cases h
      exact step24 hc.1 hc.2
    · cases h
  · cases h
noncomputable def F26 : List AVal → Option AVal
  | [.agg [.int .u64 h, .int .u64 l]] => some (.agg [.int .u64 l, .int .u64 h])
  | _ => none
theorem F26_eq {h l : Int} : F26 [W h l] = some (.agg [.int .u64 l, .int .u64 h]) := rfl
theorem step26 (h l : Int) : pureF C1 1 26 [W h l] = some (.agg [.int .u64 l, .int .u64 h]) := by
  refine pureF_of (x := x26) rfl rfl ?_
  rw [x26_eq.1, x26_eq.2.1]
  simp only [x26b, go_sem, ↓reduceIte, dropK_eq]
  exact Ends_plain rfl rfl
theorem sound26 : Sound Tryz.prog 26 F26 := sound_at ok1 0 fun xs r h => by
  unfold F26 at h
  split at h
  · cases h
    exact step26 _ _
  · cases h
noncomputable def F55 : List AVal → Option AVal
  | [.agg [.int .u64 ah, .int .u64 al], .agg [.int .u64 bh, .int .u64 bl]] => if U al ∧ U bl then some (.bool (decide (val ah al < val bh bl))) else none
  | _ => none
theorem F55_eq {ah al bh bl : Int} (h1 : U al) (h2 : U bl) : F55 [W ah al, W bh bl] = some (.bool (decide (val ah al < val bh bl))) := if_pos ⟨h1, h2⟩
theorem step55 {ah al bh bl : Int} (h1 : U al) (h2 : U bl) : pureF C1 1 55 [W ah al, W bh bl] = some (.bool (decide (val ah al < val bh bl))) := by
  refine pureF_of (x := x55) rfl rfl ?_
  rw [x55_eq.1, x55_eq.2.1]
  simp only [x55b, go_sem, ↓reduceIte, dropK_eq]
  repeat' (first | refine Ends_plain rfl ?_ | (first | refine Gd_split_t (fun h => ?_) (fun h => ?_) | refine Gd_split_f (fun h => ?_) (fun h => ?_) | refine Cd_split (fun h => ?_) (fun h => ?_)) <;> simp only [*, go_sem, ↓reduceIte, dropK_eq])
  all_goals
    congr 1
    simp only [decide_eq_true_eq, decide_eq_false_iff_not, val] at *
  · exact (decide_eq_true (by omega)).symm
  · exact decide_eq_decide.2 (by omega)
  · exact (decide_eq_false (by omega)).symm
theorem sound55 : Sound Tryz.prog 55 F55 := sound_at ok1 0 fun xs r h => by
  unfold F55 at h
  split at h
  · split at h
    · rename_i hc
      cases h
      exact step55 hc.1 hc.2
    · cases h
  · cases h
noncomputable def C2 : Cfg := ((C1.add 24 F24).add 26 F26).add 55 F55
theorem ok2 : CfgOk Tryz.prog C2 := ((ok1.add sound24).add sound26).add sound55
theorem C2_24 : C2.Γ 24 = some F24 := rfl
theorem C2_26 : C2.Γ 26 = some F26 := rfl
theorem C2_25 : C2.Γ 25 = some F_add64 := rfl
theorem C2_114 : C2.Γ 114 = some F_sub64 := rfl
theorem tWb {h h' l l' : Int} {b b' : Bool} (e1 : h = h') (e2 : l = l') (e3 : b = b') : AVal.tup [W h l, .bool b] = .tup [W h' l', .bool b'] := by
  subst e1; subst e2; subst e3; rfl
noncomputable def F10 : List AVal → Option AVal
  | [.agg [.int .u64 ah, .int .u64 al], .agg [.int .u64 bh, .int .u64 bl]] => if U ah ∧ U al ∧ U bh ∧ U bl then
      some (.tup [enc ((val ah al + val bh bl) % big), .bool (decide (big ≤ val ah al + val bh bl))]) else none
  | _ => none
theorem F10_eq {ah al bh bl : Int} (h1 : U ah) (h2 : U al) (h3 : U bh) (h4 : U bl) : F10 [W ah al, W bh bl] = some (.tup [enc ((val ah al + val bh bl) % big), .bool (decide (big ≤ val ah al + val bh bl))]) := if_pos ⟨h1, h2, h3, h4⟩
theorem step10 {ah al bh bl : Int} (h1 : U ah) (h2 : U al) (h3 : U bh) (h4 : U bl) : pureF C2 1 10 [W ah al, W bh bl] = some (.tup [enc ((val ah al + val bh bl) % big), .bool (decide (big ≤ val ah al + val bh bl))]) := by
  refine pureF_of (x := x10) rfl rfl ?_
  rw [x10_eq.1, x10_eq.2.1]
  simp (disch := first | omega | simp only [go_sem, ↓reduceIte, dropK_eq]) only [x10b, x10l5, go_sem, ↓reduceIte, dropK_eq, callX_known C2_25, callX_known C2_26, ft_call C2_25, ft_call C2_26, F26_eq, F_add64_eq, ↓Ev_loop, ↓EvN_step]
  refine Ends_plain rfl (tWb ?_ ?_ (decide_eq_decide.2 ?_)) <;> simp only [val, big] <;> omega
theorem sound10 : Sound Tryz.prog 10 F10 := sound_at ok2 0 fun xs r h => by
  unfold F10 at h
  split at h
  · split at h
    · rename_i hc
      cases h
      exact step10 hc.1 hc.2.1 hc.2.2.1 hc.2.2.2
    · cases h
  · cases h
noncomputable def F80 : List AVal → Option AVal
  | [.agg [.int .u64 ah, .int .u64 al], .agg [.int .u64 bh, .int .u64 bl]] => if U ah ∧ U al ∧ U bh ∧ U bl then
      some (.tup [enc ((val ah al - val bh bl) % big), .bool (decide (val ah al < val bh bl))]) else none
  | _ => none
theorem F80_eq {ah al bh bl : Int} (h1 : U ah) (h2 : U al) (h3 : U bh) (h4 : U bl) : F80 [W ah al, W bh bl] = some (.tup [enc ((val ah al - val bh bl) % big), .bool (decide (val ah al < val bh bl))]) := if_pos ⟨h1, h2, h3, h4⟩
theorem step80 {ah al bh bl : Int} (h1 : U ah) (h2 : U al) (h3 : U bh) (h4 : U bl) : pureF C2 1 80 [W ah al, W bh bl] = some (.tup [enc ((val ah al - val bh bl) % big), .bool (decide (val ah al < val bh bl))]) := by
  refine pureF_of (x := x80) rfl rfl ?_
  rw [x80_eq.1, x80_eq.2.1]
  simp (disch := first | omega | simp only [go_sem, ↓reduceIte, dropK_eq]) only [x80b, x80l5, go_sem, ↓reduceIte, dropK_eq, callX_known C2_114, callX_known C2_26, ft_call C2_114, ft_call C2_26, F26_eq, F_sub64_eq, ↓Ev_loop, ↓EvN_step]
  refine Ends_plain rfl (tWb ?_ ?_ (decide_eq_decide.2 ?_)) <;> simp only [val, big] <;> (repeat' split) <;> omega
theorem sound80 : Sound Tryz.prog 80 F80 := sound_at ok2 0 fun xs r h => by
  unfold F80 at h
  split at h
  · split at h
    · rename_i hc
      cases h
      exact step80 hc.1 hc.2.1 hc.2.2.1 hc.2.2.2
    · cases h
  · cases h
noncomputable def F9 : List AVal → Option AVal
  | [.agg [.int .u64 ah, .int .u64 al], .agg [.int .u64 bh, .int .u64 bl]] => if U ah ∧ U al ∧ U bh ∧ U bl then
      some (.tup [enc ((val ah al * val bh bl) % big), .bool (decide (big ≤ val ah al * val bh bl))]) else none
  | _ => none
theorem F9_eq {ah al bh bl : Int} (h1 : U ah) (h2 : U al) (h3 : U bh) (h4 : U bl) : F9 [W ah al, W bh bl] = some (.tup [enc ((val ah al * val bh bl) % big), .bool (decide (big ≤ val ah al * val bh bl))]) := if_pos ⟨h1, h2, h3, h4⟩
theorem mul_pos1 {x y : Int} (h : 0 ≤ x) (h' : 0 ≤ y) : (0 < x ∧ 0 < y ∧ 1 ≤ x * y) ∨ ((x = 0 ∨ y = 0) ∧ x * y = 0) := by
  rcases Int.lt_or_eq_of_le h with h1 | h1
  · rcases Int.lt_or_eq_of_le h' with h2 | h2
    · exact .inl ⟨h1, h2, Int.mul_pos h1 h2⟩
    · subst h2; exact .inr ⟨.inr rfl, by simp⟩
  · subst h1; exact .inr ⟨.inl rfl, by simp⟩
theorem step9 {ah al bh bl : Int} (h1 : U ah) (h2 : U al) (h3 : U bh) (h4 : U bl) : pureF C2 1 9 [W ah al, W bh bl] = some (.tup [enc ((val ah al * val bh bl) % big), .bool (decide (big ≤ val ah al * val bh bl))]) := by
  refine pureF_of (x := x9) rfl rfl ?_
  rw [x9_eq.1, x9_eq.2.1]
  have p11 : 0 ≤ ah * bh ∧ ah * bh ≤ 18446744073709551615 * 18446744073709551615 := mul_bound h1.1 (by omega) h3.1 (by omega)
  have p10 : 0 ≤ ah * bl ∧ ah * bl ≤ 18446744073709551615 * 18446744073709551615 := mul_bound h1.1 (by omega) h4.1 (by omega)
  have p01 : 0 ≤ al * bh ∧ al * bh ≤ 18446744073709551615 * 18446744073709551615 := mul_bound h2.1 (by omega) h3.1 (by omega)
  have p00 : 0 ≤ al * bl ∧ al * bl ≤ 18446744073709551615 * 18446744073709551615 := mul_bound h2.1 (by omega) h4.1 (by omega)
  have pz := mul_pos1 h1.1 h3.1
  simp (disch := first | omega | simp only [go_sem, ↓reduceIte, dropK_eq]) only [x9b, x9l4, go_sem, ↓reduceIte, dropK_eq, callX_known C2_25, callX_known C2_24, ft_call C2_25, ft_call C2_24, F_add64_eq, F24_eq, ↓Ev_loop, ↓EvN_step]
  repeat' (first | refine Ends_plain rfl ?_ | (first | refine Gd_split_t (fun h => ?_) (fun h => ?_) | refine Gd_split_f (fun h => ?_) (fun h => ?_) | refine Cd_split (fun h => ?_) (fun h => ?_)) <;> simp (disch := first | omega | simp only [go_sem, ↓reduceIte, dropK_eq]) only [h, go_sem, ↓reduceIte, dropK_eq, callX_known C2_25, callX_known C2_24, ft_call C2_25, ft_call C2_24, F_add64_eq, F24_eq, ↓Ev_loop, ↓EvN_step])
  all_goals
    have e : val ah al * val bh bl = ah * bh * big + (ah * bl + al * bh) * 18446744073709551616 + al * bl := by
      simp only [val, big, Int.add_mul, Int.mul_add, Int.mul_comm, Int.mul_left_comm, Int.mul_assoc, Int.reduceMul]
      omega
    rw [e]
    generalize ah * bh = q11 at *
    generalize ah * bl = q10 at *
    generalize al * bh = q01 at *
    generalize al * bl = q00 at *
    simp only [decide_eq_true_eq, decide_eq_false_iff_not] at *
    clear e
    refine tWb ?_ ?_ ?_
    · simp only [big]; omega
    · simp only [big]; omega
    · simp only [big]
      first
        | exact (decide_eq_true (by omega)).symm
        | exact (decide_eq_false (by omega)).symm
        | exact decide_eq_decide.2 (by omega)
theorem sound9 : Sound Tryz.prog 9 F9 := sound_at ok2 0 fun xs r h => by
  unfold F9 at h
  split at h
  · split at h
    · rename_i hc
      cases h
      exact step9 hc.1 hc.2.1 hc.2.2.1 hc.2.2.2
    · cases h
  · cases h
set_option maxRecDepth 10000
theorem mnx_min {k : IntKind} {a b : Int} : mnxA false (.int k a) [.int k b] = some (.int k (min a b)) := by
  simp only [mnxA, Bool.false_eq_true, if_false]
  refine congrArg (fun z => some (AVal.int k z)) ?_
  split <;> omega
theorem val_enc (q : Int) : val (q / 18446744073709551616) (q % 18446744073709551616) = q := by unfold val; omega
theorem U_hi {q : Int} (h : 0 ≤ q ∧ q < big) : U (q / 18446744073709551616) := by unfold U; unfold big at h; omega
theorem U_lo (q : Int) : U (q % 18446744073709551616) := by unfold U; omega
theorem F10_q {p q : Int} (hp : 0 ≤ p ∧ p < big) (hq : 0 ≤ q ∧ q < big) (h : p + q < big) : F10 [enc p, enc q] = some (.tup [enc (p + q), .bool false]) := by
  rw [F10_eq (U_hi hp) (U_lo p) (U_hi hq) (U_lo q), val_enc, val_enc, Int.emod_eq_of_lt (by omega) h, decide_eq_false (by omega)]
noncomputable def C3 : Cfg := (((C2.add 10 F10).add 80 F80).add 9 F9)
theorem ok3 : CfgOk Tryz.prog C3 := ((ok2.add sound10).add sound80).add sound9
abbrev inM (x : Int) : Prop := -1000000 ≤ x ∧ x ≤ 1000000
noncomputable def F20 : List AVal → Option AVal := pureF C3 1 20
theorem sound20 : Sound Tryz.prog 20 F20 := sound_self ok3 1 20
theorem F20_eq {x : Int} (h : inM x) : F20 [.int .i64 x] = some (.bool true) := by
  have d1 : decide (-1000000 ≤ x) = true := decide_eq_true h.1
  have d2 : decide (x ≤ 1000000) = true := decide_eq_true h.2
  unfold F20
  refine pureF_of (x := x20) rfl rfl ?_
  rw [x20_eq.1, x20_eq.2.1]
  simp (disch := first | omega | simp only [*, go_sem, ↓reduceIte, dropK_eq]) only [x20b, go_sem, ↓reduceIte, dropK_eq, d1, d2]
  exact Ends_plain rfl rfl
noncomputable def F48 : List AVal → Option AVal := pureF C3 1 48
theorem sound48 : Sound Tryz.prog 48 F48 := sound_self ok3 1 48
theorem F48_eq {x : Int} (h : inM x) : F48 [.int .i64 x] = some (.int .u64 (max x (-x))) := by
  have m1 : mnxA true (.int .i64 x) [.int .i64 (0 - x)] = some (.int .i64 (max x (-x))) := by rw [mnx_max, Int.zero_sub]
  have h1 := h.1
  have h2 := h.2
  have h3 : 0 ≤ max x (-x) ∧ max x (-x) ≤ 1000000 := by omega
  have h4 := h3.1
  have h5 := h3.2
  unfold F48
  refine pureF_of (x := x48) rfl rfl ?_
  rw [x48_eq.1, x48_eq.2.1]
  generalize max x (-x) = m at *
  simp (disch := first | omega | simp only [*, go_sem, ↓reduceIte, dropK_eq]) only [x48b, go_sem, ↓reduceIte, dropK_eq, m1]
  exact Ends_plain rfl (by rw [Int.emod_eq_of_lt (by omega) (by omega)])
noncomputable def C4 : Cfg := (C3.add 20 F20).add 48 F48
theorem ok4 : CfgOk Tryz.prog C4 := (ok3.add sound20).add sound48
structure Stt where
  n : Int
  s : Int
  q : Int
  lo : Int
  hi : Int
abbrev StC (t : Stt) : List AVal := [.int .i64 t.n, .int .i64 t.s, .int .u64 (t.q / 18446744073709551616), .int .u64 (t.q % 18446744073709551616), .int .i64 t.lo, .int .i64 t.hi]
abbrev StK (t : Stt) : AVal := .agg (StC t)
def one1 (x : Int) : Stt := ⟨1, x, x * x, x, x⟩
theorem sq_max (x : Int) : max x (-x) * max x (-x) = x * x := by
  rcases Int.le_total 0 x with h | h
  · rw [Int.max_eq_left (by omega)]
  · rw [Int.max_eq_right (by omega), Int.neg_mul_neg]
noncomputable def F22 : List AVal → Option AVal := pureF C4 1 22
theorem sound22 : Sound Tryz.prog 22 F22 := sound_self ok4 1 22
theorem F22_eq {x : Int} (h : inM x) : F22 [.int .i64 x] = some (StK (one1 x)) := by
  have e48 := F48_eq h
  have hu : U (max x (-x)) := by unfold U; have := h.1; have := h.2; omega
  have e24 := F24_eq hu hu
  rw [sq_max] at e24
  unfold F22
  refine pureF_of (x := x22) rfl rfl ?_
  rw [x22_eq.1, x22_eq.2.1]
  simp (disch := first | omega | simp only [*, go_sem, ↓reduceIte, dropK_eq]) only [x22b, go_sem, ↓reduceIte, dropK_eq, callX_known (C := C4) (g := 48) rfl, ft_call (C := C4) (g := 48) rfl, callX_known (C := C4) (g := 24) rfl, ft_call (C := C4) (g := 24) rfl, e48, e24]
  exact Ends_plain rfl rfl
def join2 (a b : Stt) : Stt := if a.n = 0 then b else if b.n = 0 then a else ⟨a.n + b.n, a.s + b.s, a.q + b.q, min a.lo b.lo, max a.hi b.hi⟩
abbrev stB (t : Stt) : Prop := (0 ≤ t.n ∧ t.n ≤ 1000000) ∧ (-1000000000000 ≤ t.s ∧ t.s ≤ 1000000000000) ∧ (0 ≤ t.q ∧ t.q ≤ 1000000000000000000)
noncomputable def F21 : List AVal → Option AVal := pureF C4 1 21
theorem sound21 : Sound Tryz.prog 21 F21 := sound_self ok4 1 21
theorem F21_eq {a b : Stt} (ha : stB a) (hb : stB b) : F21 [StK a, StK b] = some (StK (join2 a b)) := by
  obtain ⟨⟨a1, a2⟩, ⟨a3, a4⟩, a5, a6⟩ := ha
  obtain ⟨⟨b1, b2⟩, ⟨b3, b4⟩, b5, b6⟩ := hb
  have e10 := F10_q (p := a.q) (q := b.q) (by unfold big; omega) (by unfold big; omega) (by unfold big; omega)
  have m1 : mnxA false (.int .i64 a.lo) [.int .i64 b.lo] = some (.int .i64 (min a.lo b.lo)) := mnx_min
  have m2 : mnxA true (.int .i64 a.hi) [.int .i64 b.hi] = some (.int .i64 (max a.hi b.hi)) := mnx_max
  unfold join2
  unfold F21
  refine pureF_of (x := x21) rfl rfl ?_
  rw [x21_eq.1, x21_eq.2.1]
  by_cases h1 : a.n = 0
  · have d1 := decide_eq_true h1
    rw [if_pos h1]
    clear h1
    simp (disch := first | omega | simp only [*, go_sem, ↓reduceIte, dropK_eq]) only [x21b, go_sem, ↓reduceIte, dropK_eq, callX_known (C := C4) (g := 10) rfl, ft_call (C := C4) (g := 10) rfl, e10, d1]
    exact Ends_plain rfl rfl
  have d1 := decide_eq_false h1
  rw [if_neg h1]
  by_cases h2 : b.n = 0
  · have d2 := decide_eq_true h2
    rw [if_pos h2]
    clear h2
    simp (disch := first | omega | simp only [*, go_sem, ↓reduceIte, dropK_eq]) only [x21b, go_sem, ↓reduceIte, dropK_eq, callX_known (C := C4) (g := 10) rfl, ft_call (C := C4) (g := 10) rfl, e10, d1, d2]
    exact Ends_plain rfl rfl
  have d2 := decide_eq_false h2
  rw [if_neg h2]
  clear h1 h2
  simp (disch := first | omega | simp only [*, go_sem, ↓reduceIte, dropK_eq]) only [x21b, go_sem, ↓reduceIte, dropK_eq, callX_known (C := C4) (g := 10) rfl, ft_call (C := C4) (g := 10) rfl, e10, d1, d2, m1, m2]
  exact Ends_plain rfl rfl
noncomputable def C5 : Cfg := (C4.add 21 F21).add 22 F22
theorem ok5 : CfgOk Tryz.prog C5 := (ok4.add sound21).add sound22
abbrev St0 : Stt := ⟨0, 0, 0, 0, 0⟩
def ofL (l : List Int) : Stt := l.foldl (fun t x => join2 t (one1 x)) St0
theorem ofL_snoc (l : List Int) (x : Int) : ofL (l ++ [x]) = join2 (ofL l) (one1 x) := by simp [ofL]
def sumL (l : List Int) : Int := l.foldl (· + ·) 0
def sqL (l : List Int) : Int := l.foldl (fun a x => a + x * x) 0
theorem sumL_snoc (l : List Int) (x : Int) : sumL (l ++ [x]) = sumL l + x := by simp [sumL]
theorem sqL_snoc (l : List Int) (x : Int) : sqL (l ++ [x]) = sqL l + x * x := by simp [sqL]
theorem snoc_ind {α : Type} {p : List α → Prop} (h0 : p []) (hs : ∀ l x, p l → p (l ++ [x])) (l : List α) : p l := by
  have : ∀ n (l : List α), l.length = n → p l := by
    intro n
    induction n with
    | zero => intro l hl; rw [List.length_eq_zero_iff.1 hl]; exact h0
    | succ n ih =>
      intro l hl
      have hne : l ≠ [] := by intro h; rw [h] at hl; simp at hl
      rw [← List.dropLast_concat_getLast hne]
      exact hs _ _ (ih _ (by simp [hl]))
  exact this _ l rfl
theorem ofL_eq {l : List Int} : (ofL l).n = l.length ∧ (ofL l).s = sumL l ∧ (ofL l).q = sqL l := by
  induction l using snoc_ind with
  | h0 => exact ⟨rfl, rfl, rfl⟩
  | hs l x ih =>
    obtain ⟨h1, h2, h3⟩ := ih
    rw [ofL_snoc, sumL_snoc, sqL_snoc]
    unfold join2
    by_cases h : (ofL l).n = 0
    · rw [if_pos h]
      have : l = [] := by rw [h1] at h; exact List.length_eq_zero_iff.1 (by omega)
      subst this
      refine ⟨rfl, ?_, ?_⟩
      · show x = 0 + x; omega
      · show x * x = 0 + x * x; omega
    · rw [if_neg h, if_neg (show ¬ (one1 x).n = 0 by show ¬ (1 : Int) = 0; decide)]
      simp only [h1, h2, h3, one1, List.length_append, List.length_cons, List.length_nil]
      refine ⟨by omega, ?_⟩
      first | exact ⟨rfl, rfl⟩ | trivial
theorem sq_le {x : Int} (h : inM x) : 0 ≤ x * x ∧ x * x ≤ 1000000000000 := by
  rcases Int.le_total 0 x with h1 | h1
  · exact ⟨Int.mul_nonneg h1 h1, Int.mul_le_mul (c := (1000000 : Int)) (d := 1000000) h.2 h.2 h1 (by omega)⟩
  · rw [← Int.neg_mul_neg]
    have := h.1
    exact ⟨Int.mul_nonneg (by omega) (by omega), Int.mul_le_mul (c := (1000000 : Int)) (d := 1000000) (by omega) (by omega) (by omega) (by omega)⟩
theorem ofL_bnd {l : List Int} (h : ∀ x ∈ l, inM x) (hl : l.length ≤ 1000000) : (-(l.length * 1000000 : Int) ≤ sumL l ∧ sumL l ≤ l.length * 1000000) ∧ (0 ≤ sqL l ∧ sqL l ≤ l.length * 1000000000000) := by
  induction l using snoc_ind with
  | h0 => decide
  | hs l x ih =>
    have h1 := h x (by simp)
    obtain ⟨⟨i1, i2⟩, i3, i4⟩ := ih (fun y hy => h y (by simp [hy])) (by simp at hl; omega)
    have h2 := sq_le h1
    rw [sumL_snoc, sqL_snoc, List.length_append, List.length_cons, List.length_nil]
    refine ⟨⟨?_, ?_⟩, ?_, ?_⟩ <;> omega
theorem ofL_stB {l : List Int} (h : ∀ x ∈ l, inM x) (hl : l.length ≤ 1000000) : stB (ofL l) := by
  obtain ⟨h1, h2, h3⟩ := ofL_eq (l := l)
  obtain ⟨⟨i1, i2⟩, i3, i4⟩ := ofL_bnd h hl
  unfold stB
  rw [h1, h2, h3]
  refine ⟨⟨?_, ?_⟩, ⟨?_, ?_⟩, ?_, ?_⟩ <;> omega
end Go.Proofs.YtkonpbcnekcjjaaGreatDoor
