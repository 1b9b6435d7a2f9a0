/-
  Laid together: part 3.
-/
import Derived.Test.YtldineoabbodpaaGreatDoorZL2
set_option linter.unusedVariables false
set_option linter.unusedSimpArgs false
namespace Go.Xec
open Go
attribute [go_sem ↓] Ev_seq Ev_cond Ev_block Ev_scope Ev_skip Ev_ret Ev_exit Ev_reg0 Ev_reg1 Ev_reg2 Ro_cons Ro_consG Ro_nil RoF_cons RoF_consG RoF_nil
  op_mv op_pick op_alloc op_box op_build op_mkslice op_load op_store op_bin op_eqB op_eqN op_eqA op_nilChk op_un op_conv op_fa op_fld op_iaA op_iaS op_ixA op_ixS op_slV op_lenS op_lenV op_mnx op_ext op_mkf op_mki op_app op_call op_rngS op_nxtS op_mkM op_lkp op_mset op_inv op_tas
  Bd_map Bd_bind updT_eq upd_eq arg_t arg_c putO_some putO_none resL_tmp resL_cell
attribute [go_sem] tasA_ifc tasA_nili taiA_ifc taiA_nili Bd_some Bd_if Cd_true Cd_false Gd_tt Gd_tf Gd_ft Gd_ff Gd_undef Nx_nrm Nx_ext Nx_ret Bx_nrm Bx_ret Bx_ext
  Fin_nrm Fin_ret resL_nil one_one one_two one_nil Option.getD_some Option.getD_none List.getElem?_cons_zero List.getElem?_cons_succ
  pickA_true pickA_false List.map_cons List.map_nil Option.map_some Option.map_none Option.bind_some ldA_ptr ldA_pvo cs_var0
theorem Gd_split_t {b : Bool} {A B : Unit → Prop} (hA : b = true → A ()) (hB : b = false → B ()) : Gd (.bool b) true A B := Gd_split hA hB
theorem Gd_split_f {b : Bool} {A B : Unit → Prop} (hA : b = true → B ()) (hB : b = false → A ()) : Gd (.bool b) false A B := Gd_split hB hA
theorem site_eq (fid rid i : Nat) : site fid rid i = (fid * 1000 + rid) * 1000 + i := rfl
def Cfg.add (C : Cfg) (g : FuncId) (F : List AVal → Option AVal) : Cfg := ⟨fun h => if h = g then some F else C.Γ h, C.xf, C.Γn, C.Γm, C.Γa, C.μ⟩
theorem Cfg.add_Γ (C : Cfg) (g : FuncId) (F : List AVal → Option AVal) (h : FuncId) : (C.add g F).Γ h = if h = g then some F else C.Γ h := rfl
theorem CfgOk.add {P : Program} {C : Cfg} (ok : CfgOk P C) {g : FuncId} {F : List AVal → Option AVal} (h : Sound P g F) : CfgOk P (C.add g F) := by
  refine ⟨fun g' F' hg => ?_, ok.xf, ok.mixed, ok.Γn, ok.Γm, ok.Γa, ok.μ⟩
  rw [Cfg.add_Γ] at hg
  split at hg
  · rename_i e; subst e; cases hg; exact h
  · exact ok.Γ g' F' hg
def Cfg.addN (C : Cfg) (g : FuncId) (F : List AVal → Option (Option (Nat × List AVal))) : Cfg := ⟨C.Γ, C.xf, fun h => if h = g then some F else C.Γn h, C.Γm, C.Γa, C.μ⟩
theorem CfgOk.addN {P : Program} {C : Cfg} (ok : CfgOk P C) {g : FuncId} {F : List AVal → Option (Option (Nat × List AVal))} (h : SoundN P g F) : CfgOk P (C.addN g F) := by
  refine ⟨ok.Γ, ok.xf, ok.mixed, fun g' F' hg => ?_, ok.Γm, ok.Γa, ok.μ⟩
  simp only [Cfg.addN] at hg
  split at hg
  · rename_i e; subst e; cases hg; exact h
  · exact ok.Γn g' F' hg
theorem sound_at {P : Program} {C : Cfg} (ok : CfgOk P C) (d : Nat) {f : FuncId} {F : List AVal → Option AVal} (hF : ∀ xs r, F xs = some r → pureF C (d + 1) f xs = some r) : Sound P f F := sound_of ok (d + 1) hF
mutual
def plain : Nat → AVal → Bool
  | d, .agg xs => match d with
    | 0 => false
    | d + 1 => plainL d xs
  | d, .tup xs => match d with
    | 0 => false
    | d + 1 => plainL d xs
  | _, .sl .. => false
  | _, .ptr .. => false
  | _, .fn .. => false
  | _, .mp .. => false
  | _, .ifc .. => false
  | _, _ => true
def plainL : Nat → List AVal → Bool
  | _, [] => true
  | d, x :: xs => plain d x && plainL d xs
end
mutual
theorem lend_plain (h : Heap) : ∀ (x : AVal) (d : Nat), plain d x = true → (lend d x).run h = some (x, [])
  | .agg xs, 0, hp => by simp [plain] at hp
  | .agg xs, d + 1, hp => by
    simp only [plain] at hp
    simp only [lend, Rd.run_bind, lendL_plain h xs d hp, Option.bind_some, Rd.run]
  | .tup xs, 0, hp => by simp [plain] at hp
  | .tup xs, d + 1, hp => by
    simp only [plain] at hp
    simp only [lend, Rd.run_bind, lendL_plain h xs d hp, Option.bind_some, Rd.run]
  | .undef, d, _ => by simp [lend, Rd.run]
  | .any, d, _ => by simp [lend, Rd.run]
  | .bool _, d, _ => by simp [lend, Rd.run]
  | .int _ _, d, _ => by simp [lend, Rd.run]
  | .str _, d, _ => by simp [lend, Rd.run]
  | .nilp, d, _ => by simp [lend, Rd.run]
  | .pvo .., d, _ => by simp [lend, Rd.run]
  | .nils, d, _ => by simp [lend, Rd.run]
  | .emp, d, _ => by simp [lend, Rd.run]
  | .slc .., d, _ => by simp [lend, Rd.run]
  | .nili, d, _ => by simp [lend, Rd.run]
  | .nilf, d, _ => by simp [lend, Rd.run]
  | .sl .., d, hp => by cases d <;> simp [plain] at hp
  | .ptr .., d, hp => by cases d <;> simp [plain] at hp
  | .mp .., d, hp => by cases d <;> simp [plain] at hp
  | .fn .., d, hp => by cases d <;> simp [plain] at hp
  | .ifc .., d, hp => by cases d <;> simp [plain] at hp
theorem lendL_plain (h : Heap) : ∀ (xs : List AVal) (d : Nat), plainL d xs = true → (lendL d xs).run h = some (xs, [])
  | [], d, _ => by simp [lendL, Rd.run]
  | x :: xs, d, hp => by
    simp only [plainL, Bool.and_eq_true] at hp
    simp only [lendL, Rd.run_bind, lend_plain h x d hp.1, lendL_plain h xs d hp.2, Option.bind_some, Rd.run, List.append_nil]
end
theorem Ends_plain {v r : AVal} {h : Heap} (hp : plain freeze v = true) (hr : v = r) : Ends v h r := by
  subst hr
  unfold Ends
  rw [lend_plain h v freeze hp]
  rfl
mutual
theorem lend_plain_eq : ∀ (x : AVal) (d : Nat), plain d x = true → lend d x = .ret (x, [])
  | .agg xs, 0, hp => by simp [plain] at hp
  | .agg xs, d + 1, hp => by
    simp only [plain] at hp
    simp only [lend, lendL_plain_eq xs d hp, Rd.bind]
  | .tup xs, 0, hp => by simp [plain] at hp
  | .tup xs, d + 1, hp => by
    simp only [plain] at hp
    simp only [lend, lendL_plain_eq xs d hp, Rd.bind]
  | .undef, d, _ => by simp [lend]
  | .any, d, _ => by simp [lend]
  | .bool _, d, _ => by simp [lend]
  | .int _ _, d, _ => by simp [lend]
  | .str _, d, _ => by simp [lend]
  | .nilp, d, _ => by simp [lend]
  | .pvo .., d, _ => by simp [lend]
  | .nils, d, _ => by simp [lend]
  | .emp, d, _ => by simp [lend]
  | .slc .., d, _ => by simp [lend]
  | .nili, d, _ => by simp [lend]
  | .nilf, d, _ => by simp [lend]
  | .sl .., d, hp => by cases d <;> simp [plain] at hp
  | .ptr .., d, hp => by cases d <;> simp [plain] at hp
  | .mp .., d, hp => by cases d <;> simp [plain] at hp
  | .fn .., d, hp => by cases d <;> simp [plain] at hp
  | .ifc .., d, hp => by cases d <;> simp [plain] at hp
theorem lendL_plain_eq : ∀ (xs : List AVal) (d : Nat), plainL d xs = true → lendL d xs = .ret (xs, [])
  | [], d, _ => by simp [lendL]
  | x :: xs, d, hp => by
    simp only [plainL, Bool.and_eq_true] at hp
    simp only [lendL, lend_plain_eq x d hp.1, lendL_plain_eq xs d hp.2, Rd.bind, List.append_nil]
end
theorem call_plain {C : Cfg} {inl : Inl} {g : FuncId} {F : List AVal → Option AVal} {xs : List AVal} {r : AVal} {hp : Heap} {nc : Nat} (hg : C.Γ g = some F) (hl : plainL freeze xs = true) (hr : F xs = some r) :
    callX C inl (.fn (.func g) [] []) xs hp nc = some (r, hp, nc) := call_known hg (lendL_plain hp xs freeze hl) hr
theorem cellsOf_agg (xs : List AVal) : cellsOf (.agg xs) = xs := rfl
theorem cellsOf_int (k : IntKind) (n : Int) : cellsOf (.int k n) = [.int k n] := rfl
theorem cellsOf_bool (b : Bool) : cellsOf (.bool b) = [.bool b] := rfl
theorem cellsOf_str (s : ByteArray) : cellsOf (.str s) = [.str s] := rfl
theorem cellsOf_nils : cellsOf .nils = [.nils] := rfl
theorem cellsOf_emp : cellsOf .emp = [.emp] := rfl
theorem cellsOf_slc (es : Nat) (xs : List AVal) : cellsOf (.slc es xs) = [.slc es xs] := rfl
theorem cellsOf_sl (k : Key) (g es off len : Nat) : cellsOf (.sl k g es off len) = [.sl k g es off len] := rfl
theorem cellsOf_ptr (k : Key) (g i es off : Nat) : cellsOf (.ptr k g i es off) = [.ptr k g i es off] := rfl
theorem isSc_int (k : IntKind) (n : Int) : isSc (.int k n) = true := rfl
theorem isSc_bool (b : Bool) : isSc (.bool b) = true := rfl
theorem isSc_str (s : ByteArray) : isSc (.str s) = true := rfl
theorem isSc_nils : isSc .nils = true := rfl
theorem isSc_emp : isSc .emp = true := rfl
theorem isSc_slc (es : Nat) (xs : List AVal) : isSc (.slc es xs) = true := rfl
theorem isSc_sl (k : Key) (g es off len : Nat) : isSc (.sl k g es off len) = true := rfl
theorem isSc_ptr (k : Key) (g i es off : Nat) : isSc (.ptr k g i es off) = true := rfl
theorem faA_ptr (off : Nat) (k : Key) (g i es o : Nat) : faA off (.ptr k g i es o) = some (.ptr k g i es (o + off)) := rfl
theorem faA_pvo (off : Nat) (cs : List AVal) (o : Nat) : faA off (.pvo cs o) = some (.pvo cs (o + off)) := rfl
theorem extA_tup (xs : List AVal) (i : Nat) : extA (.tup xs) i = xs[i]? := rfl
theorem fldA_agg (agg : Bool) (n off : Nat) (cs : List AVal) : fldA agg n off (.agg cs) = takeV agg n off cs := rfl
theorem iaAA_ptr (n es : Nat) (k : Key) (g i es0 o : Nat) (kd : IntKind) (j : Int) : iaAA n es (.ptr k g i es0 o) (.int kd j) = if 0 ≤ j ∧ j < n then some (.ptr k g i es0 (o + j.toNat * es)) else none := rfl
theorem ixAA_agg (agg : Bool) (n es : Nat) (cs : List AVal) (kd : IntKind) (j : Int) : ixAA agg n es (.agg cs) (.int kd j) = if 0 ≤ j ∧ j < n then takeV agg es (j.toNat * es) cs else none := rfl
theorem fillA_nil (cs : List AVal) : fillA cs [] = some cs := rfl
theorem fillA_cons (cs : List AVal) (off n : Nat) (x : AVal) (r : List (Nat × Nat × AVal)) : fillA cs ((off, n, x) :: r) = if (cellsOf x).length = n ∧ off + n ≤ cs.length ∧ (cellsOf x).all isSc = true then fillA (splice cs off (cellsOf x)) r else none := rfl
theorem fillE_nil (es : Nat) (xs : List AVal) : fillE es xs [] = some xs := rfl
theorem fillE_cons (es : Nat) (xs : List AVal) (i : Nat) (x : AVal) (r : List (Nat × AVal)) : fillE es xs ((i, x) :: r) = if (cellsOf x).length = es ∧ i < xs.length ∧ (cellsOf x).all isSc = true then fillE es (xs.set i x) r else none := rfl
theorem splice_eq (cs : List AVal) (off : Nat) (new : List AVal) : splice cs off new = cs.take off ++ (new ++ cs.drop (off + new.length)) := rfl
theorem unA_not (b : Bool) : unA .not (.bool b) = some (.bool !b) := rfl
theorem unA_neg (k : IntKind) (n : Int) : unA .neg (.int k n) = some (.int k (k.wrap (0 - n))) := rfl
theorem convA_int (k k' : IntKind) (n : Int) : convA k (.int k' n) = some (.int k (k.wrap n)) := rfl
theorem eqBA_bool (neg a b : Bool) : eqBA neg (.bool a) (.bool b) = some (.bool (if neg then !(a == b) else a == b)) := rfl
theorem eqAA_agg (neg : Bool) (ks : List Nat) (xs ys : List AVal) : eqAA neg ks (.agg xs) (.agg ys) = (eqCells ks xs ys).map fun b => .bool (if neg then !b else b) := rfl
theorem eqCells_nil : eqCells [] [] [] = some true := rfl
theorem eqCells_cons (k : Nat) (ks : List Nat) (x y : AVal) (xs ys : List AVal) : eqCells (k :: ks) (x :: xs) (y :: ys) = (eq1 k x y).bind fun a => (eqCells ks xs ys).map fun b => a && b := by
  simp only [eqCells]
  cases eq1 k x y with
  | none => rfl
  | some a => cases eqCells ks xs ys <;> rfl
theorem eq1_int (k : IntKind) (a b : Int) : eq1 0 (.int k a) (.int k b) = some (decide (a = b)) := by simp only [eq1, if_true]; rfl
theorem eq1_bool (a b : Bool) : eq1 1 (.bool a) (.bool b) = some (a == b) := rfl
theorem eq1_str (a b : ByteArray) : eq1 2 (.str a) (.str b) = some (a.toList == b.toList) := rfl
theorem nilA_nils : nilA 0 .nils = some true := rfl
theorem nilA_emp : nilA 0 .emp = some false := rfl
theorem nilA_slc (es : Nat) (xs : List AVal) : nilA 0 (.slc es xs) = some false := rfl
theorem nilA_sl (k : Key) (g es off len : Nat) : nilA 0 (.sl k g es off len) = some false := rfl
theorem nilA_ptr (k : Key) (g i es off : Nat) : nilA 2 (.ptr k g i es off) = some false := rfl
theorem remake_agg (xs cs : List AVal) : remake (.agg xs) cs = .agg cs := rfl
theorem remake_int (k : IntKind) (n : Int) (cs : List AVal) : remake (.int k n) cs = cs.headD .undef := rfl
theorem remake_bool (b : Bool) (cs : List AVal) : remake (.bool b) cs = cs.headD .undef := rfl
attribute [go_sem] List.isEmpty_cons nilA_nils nilA_emp nilA_slc nilA_sl nilA_ptr cellsOf_agg cellsOf_int cellsOf_bool cellsOf_str cellsOf_nils cellsOf_emp cellsOf_slc cellsOf_sl cellsOf_ptr isSc_int isSc_bool isSc_str isSc_nils isSc_emp isSc_slc isSc_sl isSc_ptr faA_ptr faA_pvo extA_tup fldA_agg iaAA_ptr ixAA_agg
  fillA_nil fillA_cons fillE_nil fillE_cons splice_eq unA_not unA_neg convA_int eqBA_bool eqAA_agg eqCells_nil eqCells_cons eq1_int eq1_bool eq1_str remake_agg remake_int remake_bool takeV_agg takeV_one site_eq
  List.length_cons List.length_nil List.all_cons List.all_nil List.take_succ_cons List.take_zero List.drop_succ_cons List.drop_zero List.nil_append List.cons_append List.set_cons_zero List.set_cons_succ List.headD_cons Prod.mk.injEq List.append_nil and_true true_and and_false false_and and_self Bool.and_self Bool.and_true Bool.true_and Bool.and_false Bool.false_and List.getElem?_nil Bool.not_true Bool.not_false
def lendV (d : Nat) (v : AVal) (hp : Heap) : Option AVal := ((lend d v).run hp).map (·.1)
def lendVL (d : Nat) (xs : List AVal) (hp : Heap) : Option (List AVal) := ((lendL d xs).run hp).map (·.1)
theorem Ends_eq (v : AVal) (hp : Heap) (r : AVal) : Ends v hp r = (lendV 64 v hp = some r) := rfl
theorem lendV_plain {d : Nat} {v : AVal} {hp : Heap} (h : plain d v = true) : lendV d v hp = some v := by
  unfold lendV; rw [lend_plain hp v d h]; rfl
theorem lendVL_plain {d : Nat} {xs : List AVal} {hp : Heap} (h : plainL d xs = true) : lendVL d xs hp = some xs := by
  unfold lendVL; rw [lendL_plain hp xs d h]; rfl
theorem lendV_sl (d : Nat) (k : Key) (g es off len : Nat) (hp : Heap) : lendV (d + 1) (.sl k g es off len) hp = (hp k).bind fun b => (b.els g es off len).bind fun xs => (lendVL d xs hp).map fun ys => .slc es ys := by
  simp only [lendV, lendVL, lend, Rd.run]
  cases hp k with
  | none => rfl
  | some b =>
    simp only [Option.bind_some]
    cases b.els g es off len with
    | none => rfl
    | some xs =>
      simp only [Option.bind_some, Rd.run_bind]
      cases (lendL d xs).run hp <;> rfl
theorem lendV_agg (d : Nat) (xs : List AVal) (hp : Heap) : lendV (d + 1) (.agg xs) hp = (lendVL d xs hp).map .agg := by
  simp only [lendV, lendVL, lend, Rd.run_bind]
  cases (lendL d xs).run hp <;> rfl
theorem lendV_tup (d : Nat) (xs : List AVal) (hp : Heap) : lendV (d + 1) (.tup xs) hp = (lendVL d xs hp).map .tup := by
  simp only [lendV, lendVL, lend, Rd.run_bind]
  cases (lendL d xs).run hp <;> rfl
theorem lendV_ifc (d : Nat) (t : TypeId) (v : AVal) (hp : Heap) : lendV (d + 1) (.ifc t v) hp = (lendV d v hp).map (.ifc t) := by
  simp only [lendV, lend, Rd.run_bind]
  cases (lend d v).run hp <;> rfl
theorem lendVL_nil (d : Nat) (hp : Heap) : lendVL d [] hp = some [] := by simp [lendVL, lendL, Rd.run]
theorem lendVL_cons (d : Nat) (x : AVal) (xs : List AVal) (hp : Heap) : lendVL d (x :: xs) hp = (lendV d x hp).bind fun y => (lendVL d xs hp).map fun ys => y :: ys := by
  simp only [lendV, lendVL, lendL, Rd.run_bind]
  cases (lend d x).run hp with
  | none => rfl
  | some a =>
    simp only [Option.bind_some, Option.map_some]
    cases (lendL d xs).run hp <;> rfl
attribute [go_sem] lendV_plain lendV_sl lendV_agg lendV_tup lendV_ifc lendVL_nil lendVL_cons
def memK (k : Key) : List Key → Bool
  | [] => false
  | k' :: l => decide (k = k') || memK k l
theorem contains_memK (k : Key) (l : List Key) : l.contains k = memK k l := by
  induction l with
  | nil => rfl
  | cons k' l ih =>
    simp only [List.contains_cons, memK, ih]
    congr 1
    rw [Bool.eq_iff_iff]
    simp
theorem disj_nil (l : List Key) : disj [] l = true := rfl
theorem disj_cons (k : Key) (ks l : List Key) : disj (k :: ks) l = (!memK k l && disj ks l) := by
  simp only [disj, List.all_cons, contains_memK]
theorem memK_nil (k : Key) : memK k [] = false := rfl
theorem memK_cons (k k' : Key) (l : List Key) : memK k (k' :: l) = (decide (k = k') || memK k l) := rfl
theorem apartF_ck1 {p : Key → Prop} {w : List Key} {k : Key} (h : p k) : apartF (.cl p, w) (.kn [k], []) = true := by simp [apartF, h]
theorem apartF_some (rx wx ry wy : List Key) : apartF (.kn rx, wx) (.kn ry, wy) = (disj wx (ry ++ wy) && disj wy rx) := rfl
noncomputable def hotP (a b : Option Foot) : Bool := match a, b with
  | some x, some y => apartF x y
  | _, _ => false
theorem hotP_some (x y : Foot) : hotP (some x) (some y) = apartF x y := rfl
theorem hotOk_nil (fs : List Foot) : hotOk fs [] = true := rfl
theorem hotOk_cons (fs : List Foot) (i j : Nat) (hot : List (Nat × Nat)) : hotOk fs ((i, j) :: hot) = (hotP fs[i]? fs[j]? && hotOk fs hot) := by
  simp only [hotOk, List.all_cons, hotP]
  rfl
section
variable {C : Cfg} {key : Key} {tm : Nat → AVal} {hp hp' : Heap}
def ftV (C : Cfg) (key : Key) (op : XOp) (tm : Nat → AVal) (hp hp' : Heap) : Foot := footP (rdOf C key op (arg tm)) hp hp'
theorem ftV_eq (op : XOp) : footP (rdOf C key op (arg tm)) hp hp' = ftV C key op tm hp hp' := rfl
def ftP (x : AVal) : Foot := match x with
  | .ptr k .. => (.kn [k], [])
  | _ => (.kn [], [])
theorem ftP_ptr (k : Key) (g i es off : Nat) : ftP (.ptr k g i es off) = (.kn [k], []) := rfl
theorem ftP_pvo (cs : List AVal) (off : Nat) : ftP (.pvo cs off) = (.kn [], []) := rfl
theorem ft_load (agg : Bool) (n : Nat) (x : XArg) : ftV C key (.load agg n x) tm hp hp' = ftP (arg tm x) := by
  simp only [ftV, rdOf, opR, footP, Rd.run_bind]
  cases h : arg tm x with
  | ptr k g i es off =>
    simp only [loadR, Rd.bind, Rd.reads, Rd.run, ftP]
    cases hp k with
    | none => rfl
    | some b => simp only; cases (b.cs g i es).bind (takeV agg n off) <;> rfl
  | pvo cs off => simp only [loadR, ftP]; cases takeV agg n off cs <;> rfl
  | _ => rfl
theorem ft_alloc (cells : List AVal) : ftV C key (.alloc cells) tm hp hp' = (.kn [], [key]) := rfl
theorem ft_call {g : FuncId} {F : List AVal → Option AVal} (hg : C.Γ g = some F) (xs : List XArg) (hl : plainL freeze (xs.map (arg tm)) = true) : ftV C key (.call (.c (.fn (.func g) [] [])) xs) tm hp hp' = (.kn [], []) := by
  have e : lendL freeze (xs.map (arg tm)) = .ret (xs.map (arg tm), []) := lendL_plain_eq _ _ hl
  simp only [ftV, rdOf, arg, target, List.nil_append, List.append_nil, hg, footP, callR, e, Rd.bind]
  cases F (xs.map (arg tm)) with
  | none => rfl
  | some v => simp only [Rd.reads, Rd.run, List.map_nil, ite_self]
def ftS (n : Nat) (x y : AVal) (hp : Heap) : Foot := match x with
  | .ptr k .. => if (cellsOf y).length = n ∧ (cellsOf y).all isSc = true then (.kn [k], if (stA n x y hp).isSome = true then [k] else []) else (.kn [], [])
  | _ => (.kn [], [])
theorem ftS_ptr (n : Nat) (k : Key) (g i es off : Nat) (y : AVal) : ftS n (.ptr k g i es off) y hp = if (cellsOf y).length = n ∧ (cellsOf y).all isSc = true then (.kn [k], if (stA n (.ptr k g i es off) y hp).isSome = true then [k] else []) else (.kn [], []) := rfl
theorem ft_get {k : Key} {f : Option Blk → Rd Outp} (hf : ∀ b, f b = .fail ∨ ∃ z, f b = .ret (.undef, [(k, z)])) :
    footP (.inl (.get k f)) hp hp' = (.kn [k], if (((Rd.get k f).run hp).map fun r => applyW hp r.2).isSome = true then [k] else []) := by
  rcases hf (hp k) with h | ⟨z, h⟩ <;> simp [footP, Rd.reads, Rd.run, h]
theorem ft_store (n : Nat) (x y : XArg) : ftV C key (.store n x y) tm hp hp' = ftS n (arg tm x) (arg tm y) hp := by
  simp only [ftV, rdOf, opR]
  cases h : arg tm x with
  | ptr k g i es off =>
    simp only [ftS, stA, storeR]
    split
    · refine ft_get fun b => ?_
      cases b with
      | none => exact .inl rfl
      | some b =>
        cases b with
        | obj a => exact .inl rfl
        | var cells =>
          simp only
          split
          · exact .inr ⟨_, rfl⟩
          · exact .inl rfl
        | row g' es' elems =>
          simp only
          split
          · cases elems[i]? with
            | none => exact .inl rfl
            | some e =>
              simp only
              split
              · exact .inr ⟨_, rfl⟩
              · exact .inl rfl
          · exact .inl rfl
    · rfl
  | _ => rfl
theorem ft_ofO {op : XOp} {o : Option AVal} (h : rdOf C key op (arg tm) = .inl ((Rd.ofO o).bind fun v => .ret (v, []))) : ftV C key op tm hp hp' = (.kn [], []) := by
  rw [ftV, h]; cases o <;> rfl
theorem ft_inl {g : FuncId} (hg : C.Γ g = none) (xs : List XArg) (fs cs : List AVal) : ftV C key (.call (.c (.fn (.func g) fs cs)) xs) tm hp hp' = (.cl fun k => hp' k = hp k, []) := by
  simp only [ftV, rdOf, arg, target, hg, footP]
theorem ft_mv (x : XArg) : ftV C key (.mv x) tm hp hp' = (.kn [], []) := rfl
theorem ft_bin (op : BinOp) (x y : XArg) : ftV C key (.bin op x y) tm hp hp' = (.kn [], []) := ft_ofO rfl
theorem ft_un (op : UnOp) (x : XArg) : ftV C key (.un op x) tm hp hp' = (.kn [], []) := ft_ofO rfl
theorem ft_fa (off : Nat) (x : XArg) : ftV C key (.fa off x) tm hp hp' = (.kn [], []) := ft_ofO rfl
theorem ft_iaS (es : Nat) (x i : XArg) : ftV C key (.iaS es x i) tm hp hp' = (.kn [], []) := ft_ofO rfl
theorem ft_mnx (m : Bool) (x : XArg) (xs : List XArg) : ftV C key (.mnx m x xs) tm hp hp' = (.kn [], []) := ft_ofO rfl
theorem ft_mkf (f : Fn) (a b : List XArg) : ftV C key (.mkf f a b) tm hp hp' = (.kn [], []) := rfl
theorem ft_mki (t : TypeId) (x : XArg) : ftV C key (.mki t x) tm hp hp' = (.kn [], []) := rfl
theorem ft_pick (x y z : XArg) : ftV C key (.pick x y z) tm hp hp' = (.kn [], []) := by
  simp only [ftV, rdOf, opR, footP]; cases arg tm x <;> rfl
theorem ft_build (zero : List AVal) (parts : List (Nat × Nat × XArg)) : ftV C key (.build zero parts) tm hp hp' = (.kn [], []) := by
  simp only [ftV, rdOf, opR, footP]; split <;> rfl
theorem ft_eqB (neg : Bool) (x y : XArg) : ftV C key (.eqB neg x y) tm hp hp' = (.kn [], []) := by
  simp only [ftV, rdOf, opR, footP]; split <;> rfl
theorem ft_eqA (neg : Bool) (ks : List Nat) (x y : XArg) : ftV C key (.eqA neg ks x y) tm hp hp' = (.kn [], []) := by
  simp only [ftV, rdOf, opR, footP]
  split
  · rename_i xs ys _ _
    cases eqCells ks xs ys <;> rfl
  · rfl
theorem ft_nilChk (x : XArg) : ftV C key (.nilChk x) tm hp hp' = (.kn [], []) := by
  simp only [ftV, rdOf, opR, footP]; split <;> rfl
theorem ft_conv (k : IntKind) (x : XArg) : ftV C key (.conv k x) tm hp hp' = (.kn [], []) := by
  simp only [ftV, rdOf, opR, footP]; split <;> rfl
theorem ft_fld (agg : Bool) (n off : Nat) (x : XArg) : ftV C key (.fld agg n off x) tm hp hp' = (.kn [], []) := by
  simp only [ftV, rdOf, opR, footP]
  split
  · rename_i cs _
    cases takeV agg n off cs <;> rfl
  · rfl
theorem ft_ext (x : XArg) (i : Nat) : ftV C key (.ext x i) tm hp hp' = (.kn [], []) := by
  simp only [ftV, rdOf, opR, footP]
  split
  · rename_i xs _
    cases xs[i]? <;> rfl
  · rfl
end
attribute [go_sem ↓] ftV_eq ft_load ft_alloc ft_store ft_mv ft_bin ft_un ft_fa ft_iaS ft_mnx ft_mkf ft_mki ft_pick ft_build ft_eqB ft_eqA ft_nilChk ft_conv ft_fld ft_ext
attribute [go_sem] disj_nil disj_cons memK_nil memK_cons apartF_some apartF_ck1 hotP_some hotOk_nil hotOk_cons ftP_ptr ftP_pvo ftS_ptr Hk_true Option.isSome_some Option.isSome_none Bool.or_false Bool.false_or Bool.or_true Bool.true_or decide_true decide_false
section
variable {hp : Heap} {key : Key}
def elemsA (es : Nat) (x : AVal) (hp : Heap) : Option (List AVal) := (elemsR es x).run hp
theorem elemsA_nils (es : Nat) : elemsA es .nils hp = some [] := rfl
theorem elemsA_emp (es : Nat) : elemsA es .emp hp = some [] := rfl
theorem elemsA_slc (es : Nat) (xs : List AVal) : elemsA es (.slc es xs) hp = some xs := by simp [elemsA, elemsR, Rd.run]
theorem elemsA_sl (es : Nat) (k : Key) (g off len : Nat) : elemsA es (.sl k g es off len) hp = (hp k).bind fun b => b.els g es off len := by
  simp only [elemsA, elemsR, if_true, Rd.run]
  cases hp k with
  | none => rfl
  | some b => simp [Rd.run_ofO]
theorem els_row (g es off len : Nat) (elems : List AVal) : (Blk.row g es elems).els g es off len = if off + len ≤ elems.length then some ((elems.drop off).take len) else none := by
  simp [Blk.els]
def lendA (xs : List AVal) (hp : Heap) : Option (List AVal × List Key) := (lendL freeze xs).run hp
theorem lendA_plain {xs : List AVal} (h : plainL freeze xs = true) : lendA xs hp = some (xs, []) := lendL_plain hp xs freeze h
theorem appA_nils (es bytes : Nat) (y : AVal) : appA es bytes key .nils y hp = (elemsA es y hp).bind fun new0 => (lendA new0 hp).bind fun r =>
    if r.1.isEmpty = true then some (.nils, applyW hp (r.2.map fun k => (k, none))) else
    if r.1.length * bytes ≤ 140737488355328 then some (.sl key 0 es 0 r.1.length, applyW hp (r.2.map (fun k => (k, none)) ++ [(key, some (.row 0 es r.1))])) else none := by
  simp only [appA, appR, Rd.run_bind, elemsA, lendA]
  cases (elemsR es y).run hp with
  | none => rfl
  | some new0 =>
    simp only [Option.bind_some]
    cases (lendL freeze new0).run hp with
    | none => rfl
    | some r =>
      simp only [Option.bind_some]
      split
      · rfl
      · split <;> rfl
def grown (es bytes : Nat) (k : Key) (g off len : Nat) (new : List AVal) (ks : List Key) (b : Blk) (hp : Heap) : Option (AVal × Heap) :=
  match b with
  | .row g' es'' elems =>
    if g = g' ∧ es'' = es ∧ off + len = elems.length ∧ (len + new.length) * bytes ≤ 140737488355328 ∧ new.all (fun e => (cellsOf e).all isSc) = true then
      some (.sl k (g + 1) es 0 (len + new.length), applyW hp (ks.map (fun k => (k, none)) ++ [(k, some (.row (g + 1) es (elems.drop off ++ new)))]))
    else none
  | _ => none
theorem grown_row {es bytes : Nat} {k : Key} {g off len : Nat} {new elems : List AVal} {ks : List Key} : grown es bytes k g off len new ks (.row g es elems) hp =
    if off + len = elems.length ∧ (len + new.length) * bytes ≤ 140737488355328 ∧ new.all (fun e => (cellsOf e).all isSc) = true then
      some (.sl k (g + 1) es 0 (len + new.length), applyW hp (ks.map (fun k => (k, none)) ++ [(k, some (.row (g + 1) es (elems.drop off ++ new)))]))
    else none := by simp [grown]
theorem appA_sl (es bytes : Nat) (k : Key) (g off len : Nat) (y : AVal) : appA es bytes key (.sl k g es off len) y hp = (elemsA es y hp).bind fun new0 => (lendA new0 hp).bind fun r =>
    if r.2.contains k = false then (hp k).bind fun b => grown es bytes k g off len r.1 r.2 b hp else none := by
  simp only [appA, appR, Rd.run_bind, elemsA, lendA]
  cases (elemsR es y).run hp with
  | none => rfl
  | some new0 =>
    simp only [Option.bind_some]
    cases (lendL freeze new0).run hp with
    | none => rfl
    | some r =>
      simp only [Option.bind_some, true_and]
      split
      · simp only [Rd.run]
        cases hp k with
        | none => rfl
        | some b =>
          cases b with
          | var => rfl
          | obj => rfl
          | row g' es' elems =>
            simp only [Option.bind_some, grown]
            split <;> rfl
      · rfl
theorem applyW_nil : applyW hp [] = hp := rfl
theorem applyW_cons (k : Key) (b : Option Blk) (ws : Wr) : applyW hp ((k, b) :: ws) = applyW (upd hp k b) ws := rfl
theorem mkSA_int (es bytes : Nat) (k k' : IntKind) (l c : Int) : mkSA es bytes (.int k l) (.int k' c) = if 0 ≤ l ∧ l ≤ c ∧ bytes * c ≤ 281474976710656 then some l.toNat else none := rfl
theorem lenVA_sl (k : Key) (g es off len : Nat) : lenVA (.sl k g es off len) = some (.int .i64 len) := rfl
theorem lenVA_slc (es : Nat) (xs : List AVal) : lenVA (.slc es xs) = some (.int .i64 xs.length) := rfl
theorem lenVA_nils : lenVA .nils = some (.int .i64 0) := rfl
theorem lenVA_emp : lenVA .emp = some (.int .i64 0) := rfl
theorem iaSA_sl (es : Nat) (k : Key) (g off len : Nat) (kd : IntKind) (j : Int) : iaSA es (.sl k g es off len) (.int kd j) = if 0 ≤ j ∧ j < len then some (.ptr k g (off + j.toNat) es 0) else none := by simp [iaSA]
theorem iaSA_slc (es : Nat) (xs : List AVal) (kd : IntKind) (j : Int) : iaSA es (.slc es xs) (.int kd j) = if 0 ≤ j then (xs[j.toNat]?).map fun x => .pvo (cellsOf x) 0 else none := by simp [iaSA]
theorem stA_ptr (n : Nat) (k : Key) (g i es off : Nat) (y : AVal) : stA n (.ptr k g i es off) y hp = if (cellsOf y).length = n ∧ (cellsOf y).all isSc = true then
    (hp k).bind fun b => match b with
      | .var cells => if g = 0 ∧ i * es + off + n ≤ cells.length then some (upd hp k (some (.var (splice cells (i * es + off) (cellsOf y))))) else none
      | .row g' es' elems => if g = g' ∧ es = es' then (elems[i]?).bind fun e => if off + n ≤ (cellsOf e).length then some (upd hp k (some (.row g' es' (elems.set i (remake e (splice (cellsOf e) off (cellsOf y))))))) else none else none
      | .obj _ => none
    else none := by
  simp only [stA, storeR]
  split
  · simp only [Rd.run]
    cases hp k with
    | none => rfl
    | some b =>
      cases b with
      | obj => rfl
      | var cells => simp only [Option.bind_some]; split <;> rfl
      | row g' es' elems =>
        simp only [Option.bind_some]
        split
        · cases elems[i]? with
          | none => rfl
          | some e => simp only [Option.bind_some]; split <;> rfl
        · rfl
  · rfl
theorem callX_known {C : Cfg} {inl : Inl} {g : FuncId} {F : List AVal → Option AVal} {xs : List AVal} {nc : Nat} (hg : C.Γ g = some F) (hl : plainL freeze xs = true) :
    callX C inl (.fn (.func g) [] []) xs hp nc = (F xs).map fun r => (r, hp, nc) := by
  cases hr : F xs with
  | some r => exact call_plain hg hl hr
  | none => simp only [callX, target, List.nil_append, List.append_nil, hg, runP, callR, Rd.run_bind, lendL_plain hp xs freeze hl, Option.bind_some, hr, Rd.run, Option.map_none]
theorem plain_int (d : Nat) (k : IntKind) (n : Int) : plain d (.int k n) = true := by cases d <;> rfl
theorem plain_bool (d : Nat) (b : Bool) : plain d (.bool b) = true := by cases d <;> rfl
theorem plain_str (d : Nat) (s : ByteArray) : plain d (.str s) = true := by cases d <;> rfl
theorem plain_slc (d es : Nat) (xs : List AVal) : plain d (.slc es xs) = true := by cases d <;> rfl
theorem plain_pvo (d : Nat) (cs : List AVal) (off : Nat) : plain d (.pvo cs off) = true := by cases d <;> rfl
theorem plain_nils (d : Nat) : plain d .nils = true := by cases d <;> rfl
theorem plain_emp (d : Nat) : plain d .emp = true := by cases d <;> rfl
theorem plain_agg (d : Nat) (xs : List AVal) : plain (d + 1) (.agg xs) = plainL d xs := by simp only [plain]
theorem plain_tup (d : Nat) (xs : List AVal) : plain (d + 1) (.tup xs) = plainL d xs := by simp only [plain]
theorem plainL_nil (d : Nat) : plainL d [] = true := by simp only [plainL]
theorem plainL_cons (d : Nat) (x : AVal) (xs : List AVal) : plainL d (x :: xs) = (plain d x && plainL d xs) := by simp only [plainL]
theorem freeze_eq : freeze = 64 := rfl
end
attribute [go_sem] mkSA_int lendA_plain contains_memK elemsA_nils elemsA_emp elemsA_slc elemsA_sl els_row appA_nils appA_sl grown_row applyW_nil applyW_cons lenVA_sl lenVA_slc lenVA_nils lenVA_emp iaSA_sl iaSA_slc stA_ptr
  plain_int plain_bool plain_str plain_pvo plain_slc plain_nils plain_emp plain_agg plain_tup plainL_nil plainL_cons freeze_eq
theorem Rd.reads_bind {α β : Type} (h : Heap) : ∀ (r : Rd α) (f : α → Rd β), (r.bind f).reads h = r.reads h ++ (match r.run h with | some a => (f a).reads h | none => [])
  | .ret a, f => by simp [Rd.bind, Rd.reads, Rd.run]
  | .fail, f => by simp [Rd.bind, Rd.reads, Rd.run]
  | .get k g, f => by
    simp only [Rd.bind, Rd.reads, Rd.run, List.cons_append]
    rw [Rd.reads_bind h (g (h k)) f]
mutual
theorem lend_reads (h : Heap) : ∀ (d : Nat) (x y : AVal) (ks : List Key), (lend d x).run h = some (y, ks) → (lend d x).reads h = ks
  | 0, .sl .., y, ks, e => by simp [lend, Rd.run] at e
  | d + 1, .sl k g es off len, y, ks, e => by
    simp only [lend, Rd.run, Rd.reads] at e ⊢
    cases hb : h k with
    | none => rw [hb] at e; simp [Rd.run] at e
    | some b =>
      rw [hb] at e
      simp only at e ⊢
      cases hx : b.els g es off len with
      | none => rw [hx] at e; simp [Rd.run] at e
      | some xs =>
        rw [hx] at e
        simp only [Rd.run_bind] at e
        simp only [Rd.reads_bind]
        cases hr : (lendL d xs).run h with
        | none => rw [hr] at e; simp at e
        | some r =>
          rw [hr] at e
          simp only [Option.bind_some, Rd.run, Option.some.injEq, Prod.mk.injEq] at e
          rw [lendL_reads h d xs r.1 r.2 hr, ← e.2]
          simp [Rd.reads]
  | 0, .agg xs, y, ks, e => by simp [lend, Rd.run] at e
  | d + 1, .agg xs, y, ks, e => by
    simp only [lend, Rd.run_bind] at e
    simp only [lend, Rd.reads_bind]
    cases hr : (lendL d xs).run h with
    | none => rw [hr] at e; simp at e
    | some r =>
      rw [hr] at e
      simp only [Option.bind_some, Rd.run, Option.some.injEq, Prod.mk.injEq] at e
      rw [lendL_reads h d xs r.1 r.2 hr, ← e.2]
      simp [Rd.reads]
  | 0, .tup xs, y, ks, e => by simp [lend, Rd.run] at e
  | d + 1, .tup xs, y, ks, e => by
    simp only [lend, Rd.run_bind] at e
    simp only [lend, Rd.reads_bind]
    cases hr : (lendL d xs).run h with
    | none => rw [hr] at e; simp at e
    | some r =>
      rw [hr] at e
      simp only [Option.bind_some, Rd.run, Option.some.injEq, Prod.mk.injEq] at e
      rw [lendL_reads h d xs r.1 r.2 hr, ← e.2]
      simp [Rd.reads]
  | 0, .fn .., y, ks, e => by simp [lend, Rd.run] at e
  | d + 1, .fn f a b, y, ks, e => by
    simp only [lend, Rd.run_bind] at e
    simp only [lend, Rd.reads_bind]
    cases hr : (lendL d a).run h with
    | none => rw [hr] at e; simp at e
    | some r =>
      rw [hr] at e
      simp only [Option.bind_some, Rd.run_bind] at e
      cases hq : (lendL d b).run h with
      | none => rw [hq] at e; simp at e
      | some q =>
        rw [hq] at e
        simp only [Option.bind_some, Rd.run, Option.some.injEq, Prod.mk.injEq] at e
        simp only [hq]
        rw [lendL_reads h d a r.1 r.2 hr, lendL_reads h d b q.1 q.2 hq, ← e.2]
        simp [Rd.reads]
  | 0, .ifc .., y, ks, e => by simp [lend, Rd.run] at e
  | d + 1, .ifc t v, y, ks, e => by
    simp only [lend, Rd.run_bind] at e
    simp only [lend, Rd.reads_bind]
    cases hr : (lend d v).run h with
    | none => rw [hr] at e; simp at e
    | some r =>
      rw [hr] at e
      simp only [Option.bind_some, Rd.run, Option.some.injEq, Prod.mk.injEq] at e
      rw [lend_reads h d v r.1 r.2 hr, ← e.2]
      simp [Rd.reads]
  | 0, .ptr .., y, ks, e => by simp [lend, Rd.run] at e
  | d + 1, .ptr k g i es off, y, ks, e => by
    simp only [lend, Rd.run, Rd.reads] at e ⊢
    cases hb : h k with
    | none => rw [hb] at e; simp [Rd.run] at e
    | some b =>
      rw [hb] at e
      cases b with
      | row => simp [Rd.run] at e
      | obj => simp [Rd.run] at e
      | var cells =>
        simp only at e ⊢
        by_cases hg : g = 0
        · rw [if_pos hg] at e ⊢
          simp only [Rd.run_bind] at e
          simp only [Rd.reads_bind]
          cases hr : (lendL d cells).run h with
          | none => rw [hr] at e; simp at e
          | some r =>
            rw [hr] at e
            simp only [Option.bind_some, Rd.run, Option.some.injEq, Prod.mk.injEq] at e
            rw [lendL_reads h d cells r.1 r.2 hr, ← e.2]
            simp [Rd.reads]
        · rw [if_neg hg] at e
          simp [Rd.run] at e
  | d, .mp .., y, ks, e => by simp [lend, Rd.run] at e
  | d, .undef, y, ks, e => by simp [lend, Rd.run] at e; simp [lend, Rd.reads, ← e.2]
  | d, .any, y, ks, e => by simp [lend, Rd.run] at e; simp [lend, Rd.reads, ← e.2]
  | d, .bool _, y, ks, e => by simp [lend, Rd.run] at e; simp [lend, Rd.reads, ← e.2]
  | d, .int _ _, y, ks, e => by simp [lend, Rd.run] at e; simp [lend, Rd.reads, ← e.2]
  | d, .str _, y, ks, e => by simp [lend, Rd.run] at e; simp [lend, Rd.reads, ← e.2]
  | d, .nilp, y, ks, e => by simp [lend, Rd.run] at e; simp [lend, Rd.reads, ← e.2]
  | d, .pvo .., y, ks, e => by simp [lend, Rd.run] at e; simp [lend, Rd.reads, ← e.2]
  | d, .nils, y, ks, e => by simp [lend, Rd.run] at e; simp [lend, Rd.reads, ← e.2]
  | d, .emp, y, ks, e => by simp [lend, Rd.run] at e; simp [lend, Rd.reads, ← e.2]
  | d, .slc .., y, ks, e => by simp [lend, Rd.run] at e; simp [lend, Rd.reads, ← e.2]
  | d, .nili, y, ks, e => by simp [lend, Rd.run] at e; simp [lend, Rd.reads, ← e.2]
  | d, .nilf, y, ks, e => by simp [lend, Rd.run] at e; simp [lend, Rd.reads, ← e.2]
theorem lendL_reads (h : Heap) : ∀ (d : Nat) (xs ys : List AVal) (ks : List Key), (lendL d xs).run h = some (ys, ks) → (lendL d xs).reads h = ks
  | d, [], ys, ks, e => by simp [lendL, Rd.run] at e; simp [lendL, Rd.reads, ← e.2]
  | d, x :: xs, ys, ks, e => by
    simp only [lendL, Rd.run_bind] at e
    simp only [lendL, Rd.reads_bind]
    cases hr : (lend d x).run h with
    | none => rw [hr] at e; simp at e
    | some r =>
      rw [hr] at e
      simp only [Option.bind_some, Rd.run_bind] at e
      cases hq : (lendL d xs).run h with
      | none => rw [hq] at e; simp at e
      | some q =>
        rw [hq] at e
        simp only [Option.bind_some, Rd.run, Option.some.injEq, Prod.mk.injEq] at e
        simp only [hq]
        rw [lend_reads h d x r.1 r.2 hr, lendL_reads h d xs q.1 q.2 hq, ← e.2]
        simp [Rd.reads]
end
section
variable {hp : Heap}
def lendX (d : Nat) (x : AVal) (hp : Heap) : Option (AVal × List Key) := (lend d x).run hp
def lendXL (d : Nat) (xs : List AVal) (hp : Heap) : Option (List AVal × List Key) := (lendL d xs).run hp
theorem lendX_plain {d : Nat} {v : AVal} (h : plain d v = true) : lendX d v hp = some (v, []) := lend_plain hp v d h
theorem lendXL_plain {d : Nat} {xs : List AVal} (h : plainL d xs = true) : lendXL d xs hp = some (xs, []) := lendL_plain hp xs d h
theorem lendX_sl (d : Nat) (k : Key) (g es off len : Nat) : lendX (d + 1) (.sl k g es off len) hp = (hp k).bind fun b => (b.els g es off len).bind fun xs => (lendXL d xs hp).map fun r => (.slc es r.1, k :: r.2) := by
  simp only [lendX, lendXL, lend, Rd.run]
  cases hp k with
  | none => rfl
  | some b =>
    simp only [Option.bind_some]
    cases b.els g es off len with
    | none => rfl
    | some xs =>
      simp only [Option.bind_some, Rd.run_bind]
      cases (lendL d xs).run hp <;> rfl
theorem lendX_agg (d : Nat) (xs : List AVal) : lendX (d + 1) (.agg xs) hp = (lendXL d xs hp).map fun r => (.agg r.1, r.2) := by
  simp only [lendX, lendXL, lend, Rd.run_bind]
  cases (lendL d xs).run hp <;> rfl
def ptrX (d off : Nat) (k : Key) (b : Blk) (hp : Heap) : Option (AVal × List Key) := match b with
  | .var cells => (lendXL d cells hp).map fun r => (.pvo r.1 off, k :: r.2)
  | _ => none
theorem ptrX_var (d off : Nat) (k : Key) (cells : List AVal) : ptrX d off k (.var cells) hp = (lendXL d cells hp).map fun r => (.pvo r.1 off, k :: r.2) := rfl
theorem lendX_ptr (d : Nat) (k : Key) (i es off : Nat) : lendX (d + 1) (.ptr k 0 i es off) hp = (hp k).bind fun b => ptrX d (i * es + off) k b hp := by
  simp only [lendX, lend, Rd.run]
  cases hp k with
  | none => rfl
  | some b =>
    cases b with
    | row => rfl
    | obj => rfl
    | var cells =>
      simp only [Option.bind_some, if_true, Rd.run_bind, ptrX, lendXL]
      cases (lendL d cells).run hp <;> rfl
theorem lendX_fn (d : Nat) (f : Fn) (a b : List AVal) : lendX (d + 1) (.fn f a b) hp = (lendXL d a hp).bind fun r => (lendXL d b hp).map fun q => (.fn f r.1 q.1, r.2 ++ q.2) := by
  simp only [lendX, lendXL, lend, Rd.run_bind]
  cases (lendL d a).run hp with
  | none => rfl
  | some r =>
    simp only [Option.bind_some, Rd.run_bind]
    cases (lendL d b).run hp <;> rfl
theorem lendXL_cons (d : Nat) (x : AVal) (xs : List AVal) : lendXL d (x :: xs) hp = (lendX d x hp).bind fun y => (lendXL d xs hp).map fun ys => (y.1 :: ys.1, y.2 ++ ys.2) := by
  simp only [lendX, lendXL, lendL, Rd.run_bind]
  cases (lend d x).run hp with
  | none => rfl
  | some a =>
    simp only [Option.bind_some]
    cases (lendL d xs).run hp <;> rfl
def dropK (v : AVal) (ks : List Key) (hp : Heap) : Heap := applyW hp (if hasRef v = true then ks.map fun k => (k, none) else [])
theorem dropK_eq (v : AVal) (ks : List Key) : dropK v ks hp = applyW hp (if hasRef v = true then ks.map fun k => (k, none) else []) := rfl
theorem callX_names {C : Cfg} {inl : Inl} {g : FuncId} {F : List AVal → Option AVal} {xs : List AVal} {nc : Nat} (hg : C.Γ g = some F) :
    callX C inl (.fn (.func g) [] []) xs hp nc = (lendXL 64 xs hp).bind fun r => (F r.1).map fun v => (v, dropK v r.2 hp, nc) := by
  simp only [callX, target, List.nil_append, List.append_nil, hg, runP, callR, Rd.run_bind, lendXL, freeze, dropK]
  cases (lendL 64 xs).run hp with
  | none => rfl
  | some r =>
    simp only [Option.bind_some]
    cases F r.1 <;> rfl
def nres (key : Key) (r : Option (Option (Nat × List AVal))) (hp : Heap) (nc : Nat) : Option (AVal × Heap × Nat) := match r with
  | some (some p) => if hasRefL p.2 = false then some (.sl key 0 p.1 0 p.2.length, upd hp key (some (.row 0 p.1 p.2)), nc) else none
  | some none => some (.nils, hp, nc)
  | none => none
theorem nres_row (key : Key) (es : Nat) (l : List AVal) (hp : Heap) (nc : Nat) : nres key (some (some (es, l))) hp nc = if hasRefL l = false then some (.sl key 0 es 0 l.length, upd hp key (some (.row 0 es l)), nc) else none := rfl
theorem nres_nil (key : Key) (hp : Heap) (nc : Nat) : nres key (some none) hp nc = some (.nils, hp, nc) := rfl
def nresM (key : Key) (o : Option (List (AVal × AVal × Nat))) (n : Nat) (ks : List Key) (hp : Heap) (nc : Nat) : Option (AVal × Heap × Nat) := match o with
  | some es => if ks.isEmpty = true then some (.mp key, upd hp key (some (.obj (.map es n))), nc) else none
  | none => none
theorem nresM_some (key : Key) (es : List (AVal × AVal × Nat)) (n : Nat) (ks : List Key) (hp : Heap) (nc : Nat) : nresM key (some es) n ks hp nc = if ks.isEmpty = true then some (.mp key, upd hp key (some (.obj (.map es n))), nc) else none := rfl
def nresN (key : Key) (r : Option (Option (Nat × List AVal))) (ks : List Key) (hp : Heap) (nc : Nat) : Option (AVal × Heap × Nat) := match r with
  | some (some p) => if p.1 = 0 then nresM key (entsOf 0 p.2) p.2.length ks hp nc else nres key (some (some p)) hp nc
  | r => nres key r hp nc
theorem nresN_row (key : Key) (es : Nat) (l : List AVal) (ks : List Key) (hp : Heap) (nc : Nat) : nresN key (some (some (es, l))) ks hp nc = if es = 0 then nresM key (entsOf 0 l) l.length ks hp nc else nres key (some (some (es, l))) hp nc := rfl
theorem nresN_nil (key : Key) (ks : List Key) (hp : Heap) (nc : Nat) : nresN key (some none) ks hp nc = some (.nils, hp, nc) := rfl
theorem entsOf_nil (i : Nat) : entsOf i [] = some [] := rfl
theorem entsOf_cons (i : Nat) (k v : AVal) (r : List AVal) : entsOf i (.tup [k, v] :: r) = (entsOf (i + 1) r).map fun es => (k, v, i) :: es := rfl
def callNX (F : List AVal → Option (Option (Nat × List AVal))) (key : Key) (xs : List AVal) (hp : Heap) (nc : Nat) : Option (AVal × Heap × Nat) := (lendXL 64 xs hp).bind fun p => nresN key (F p.1) p.2 hp nc
theorem op_callN {C : Cfg} {inl : Inl} {key : Key} {tm : Nat → AVal} {nc : Nat} {g : FuncId} {F : List AVal → Option (Option (Nat × List AVal))} {xs : List XArg} (hg : C.Γn g = some F) :
    opV C inl key (.callN (.c (.fn (.func g) [] [])) xs) tm hp nc = callNX F key (xs.map (arg tm)) hp nc := by
  simp only [opV, rdOf, arg, target, List.nil_append, List.append_nil, hg, runP, callNR, Rd.run_bind, freeze, callNX, lendXL]
  cases (lendL 64 (xs.map (arg tm))).run hp with
  | none => rfl
  | some r =>
    simp only [Option.bind_some]
    cases F r.1 with
    | none => rfl
    | some q =>
      cases q with
      | none => simp only [nresN, nres, Rd.run, Option.map_some, applyW]
      | some p =>
        simp only [nresN, nres]
        by_cases h0 : p.1 = 0
        · rw [if_pos h0, if_pos h0]
          cases entsOf 0 p.2 with
          | none => rfl
          | some es =>
            simp only [nresM]
            split
            · simp only [Rd.run, Option.map_some, applyW]
            · rfl
        · rw [if_neg h0, if_neg h0]
          split
          · simp only [Rd.run, Option.map_some, applyW]
          · rfl
def ftNM (key : Key) (o : Option (List (AVal × AVal × Nat))) (ks : List Key) : Foot := match o with
  | some _ => if ks.isEmpty = true then (.kn ks, [key]) else (.kn ks, [])
  | none => (.kn ks, [])
theorem ftNM_some (key : Key) (es : List (AVal × AVal × Nat)) (ks : List Key) : ftNM key (some es) ks = if ks.isEmpty = true then (.kn ks, [key]) else (.kn ks, []) := rfl
def ftN (key : Key) (r : Option (Option (Nat × List AVal))) (ks : List Key) : Foot := match r with
  | some (some p) => if p.1 = 0 then ftNM key (entsOf 0 p.2) ks else if hasRefL p.2 = false then (.kn ks, [key]) else (.kn ks, [])
  | _ => (.kn ks, [])
theorem ftN_row (key : Key) (es : Nat) (l : List AVal) (ks : List Key) : ftN key (some (some (es, l))) ks = if es = 0 then ftNM key (entsOf 0 l) ks else if hasRefL l = false then (.kn ks, [key]) else (.kn ks, []) := rfl
theorem ftN_nil (key : Key) (ks : List Key) : ftN key (some none) ks = (.kn ks, []) := rfl
def ftNL (F : List AVal → Option (Option (Nat × List AVal))) (key : Key) (o : Option (List AVal × List Key)) (rd : List Key) : Foot := match o with
  | some r => ftN key (F r.1) r.2
  | none => (.kn rd, [])
theorem ftNL_some (F : List AVal → Option (Option (Nat × List AVal))) (key : Key) (r : List AVal × List Key) (rd : List Key) : ftNL F key (some r) rd = ftN key (F r.1) r.2 := rfl
theorem ft_callN {C : Cfg} {key : Key} {tm : Nat → AVal} {hp' : Heap} {g : FuncId} {F : List AVal → Option (Option (Nat × List AVal))} {xs : List XArg} (hg : C.Γn g = some F) :
    ftV C key (.callN (.c (.fn (.func g) [] [])) xs) tm hp hp' = ftNL F key (lendXL 64 (xs.map (arg tm)) hp) ((lendL freeze (xs.map (arg tm))).reads hp) := by
  simp only [ftV, rdOf, arg, target, List.nil_append, List.append_nil, hg, footP, callNR, Rd.run_bind, Rd.reads_bind]
  cases h : lendXL 64 (xs.map (arg tm)) hp with
  | none =>
    simp only [lendXL] at h
    simp only [freeze, h, ftNL, Option.bind_none]
    simp
  | some p =>
    obtain ⟨ys, ks⟩ := p
    have e := lendL_reads hp 64 _ ys ks h
    simp only [lendXL] at h
    simp only [freeze, e, h, Option.bind_some, ftNL]
    cases F ys with
    | none => simp [ftN, Rd.run, Rd.reads]
    | some q =>
      cases q with
      | none => simp [ftN, Rd.run, Rd.reads]
      | some p =>
        simp only [ftN]
        by_cases h0 : p.1 = 0
        · rw [if_pos h0, if_pos h0]
          cases entsOf 0 p.2 with
          | none => simp [ftNM, Rd.run, Rd.reads]
          | some es =>
            simp only [ftNM]
            split <;> simp [Rd.run, Rd.reads]
        · rw [if_neg h0, if_neg h0]
          split <;> simp [Rd.run, Rd.reads]
def ftC (F : List AVal → Option AVal) (xs : List AVal) (hp : Heap) : Foot := footP (.inl (callR F xs)) hp hp
theorem ftC_names {C : Cfg} {key : Key} {tm : Nat → AVal} {hp' : Heap} {g : FuncId} {F : List AVal → Option AVal} (hg : C.Γ g = some F) (xs : List XArg) : ftV C key (.call (.c (.fn (.func g) [] [])) xs) tm hp hp' = ftC F (xs.map (arg tm)) hp := by
  simp only [ftV, rdOf, arg, target, List.nil_append, List.append_nil, hg, ftC]
  rfl
def ftK (o : Option AVal) (ks : List Key) : Foot := match o with
  | some v => (.kn ks, if hasRef v = true then ks else [])
  | none => (.kn ks, [])
theorem ftK_some (v : AVal) (ks : List Key) : ftK (some v) ks = (.kn ks, if hasRef v = true then ks else []) := rfl
theorem ftC_eq {F : List AVal → Option AVal} {xs ys : List AVal} {ks : List Key} (h : lendXL 64 xs hp = some (ys, ks)) : ftC F xs hp = ftK (F ys) ks := by
  have e := lendL_reads hp 64 xs ys ks h
  simp only [ftC, footP, callR, Rd.run_bind, Rd.reads_bind, freeze]
  rw [e]
  simp only [lendXL] at h
  rw [h]
  simp only [Option.bind_some]
  cases F ys with
  | none => simp [ftK, Rd.reads, Rd.run]
  | some v =>
    simp only [ftK, Rd.reads, Rd.run, List.append_nil]
    split
    · simp [List.map_map, Function.comp_def]
    · rfl
def ftL (F : List AVal → Option AVal) (o : Option (List AVal × List Key)) (rd : List Key) : Foot := match o with
  | some r => ftK (F r.1) r.2
  | none => (.kn rd, [])
theorem ftL_some (F : List AVal → Option AVal) (r : List AVal × List Key) (rd : List Key) : ftL F (some r) rd = ftK (F r.1) r.2 := rfl
theorem ftC_fun (F : List AVal → Option AVal) (xs : List AVal) : ftC F xs hp = ftL F (lendXL 64 xs hp) ((lendL freeze xs).reads hp) := by
  cases h : lendXL 64 xs hp with
  | some r => obtain ⟨ys, ks⟩ := r; rw [ftC_eq h]; rfl
  | none =>
    simp only [ftC, footP, callR, Rd.run_bind, Rd.reads_bind, freeze, ftL]
    simp only [lendXL] at h
    rw [h]
    simp
theorem hasRef_int (k : IntKind) (n : Int) : hasRef (.int k n) = false := rfl
theorem hasRef_bool (b : Bool) : hasRef (.bool b) = false := rfl
theorem hasRef_str (s : ByteArray) : hasRef (.str s) = false := rfl
theorem hasRef_nils : hasRef .nils = false := rfl
theorem hasRef_emp : hasRef .emp = false := rfl
theorem hasRef_slc (es : Nat) (xs : List AVal) : hasRef (.slc es xs) = true := rfl
theorem hasRef_agg (xs : List AVal) : hasRef (.agg xs) = hasRefL xs := rfl
theorem hasRef_tup (xs : List AVal) : hasRef (.tup xs) = hasRefL xs := rfl
theorem hasRefL_nil : hasRefL [] = false := rfl
theorem hasRefL_cons (x : AVal) (xs : List AVal) : hasRefL (x :: xs) = (hasRef x || hasRefL xs) := rfl
end
attribute [go_sem ↓] ftC_fun
attribute [go_sem] nres_row nres_nil nresN_row nresN_nil nresM_some entsOf_nil entsOf_cons ftNM_some List.isEmpty_nil ftN_row ftN_nil ftNL_some
attribute [go_sem ↓] callNX
theorem hasRef_ifc (t : TypeId) (v : AVal) : hasRef (.ifc t v) = hasRef v := rfl
theorem hasRef_nili : hasRef .nili = false := rfl
attribute [go_sem] hasRef_ifc hasRef_nili
attribute [go_sem] ftL_some cs_row Bool.false_eq_true Bool.or_self lendX_plain lendXL_plain lendX_sl lendX_agg lendX_ptr ptrX_var lendX_fn lendXL_cons ftK_some hasRef_int hasRef_bool hasRef_str hasRef_nils hasRef_emp hasRef_slc hasRef_agg hasRef_tup hasRefL_nil hasRefL_cons
theorem plainL_ints (d : Nat) (k : IntKind) : ∀ (l : List Int), plainL d (l.map (AVal.int k)) = true
  | [] => plainL_nil d
  | x :: l => by rw [List.map_cons, plainL_cons, plain_int, plainL_ints d k l]; rfl
theorem Ends_row {k : Key} {g es len : Nat} {hp : Heap} {xs : List AVal} {r : AVal} (hk : hp k = some (.row g es xs)) (hl : len = xs.length) (hpl : plainL 63 xs = true) (hr : r = .slc es xs) : Ends (.sl k g es 0 len) hp r := by
  subst hl; subst hr
  rw [Ends_eq, show (64 : Nat) = 63 + 1 from rfl, lendV_sl, hk]
  simp only [Option.bind_some, els_row, Nat.zero_add, Nat.le_refl, if_true, List.drop_zero, List.take_length, lendVL_plain hpl, Option.map_some]
attribute [go_sem] plainL_ints
theorem wrap_u64 (n : Int) : IntKind.u64.wrap n = n % 18446744073709551616 := by
  simp [IntKind.wrap, IntKind.signed, IntKind.bits]
theorem wrap_u8 (n : Int) : IntKind.u8.wrap n = n % 256 := by
  simp [IntKind.wrap, IntKind.signed, IntKind.bits]
section
variable (k : IntKind) (a b : Int)
theorem binA_add : binA .add (.int k a) (.int k b) = some (.int k (k.wrap (a + b))) := by simp [binA, isShift, intBin]
theorem binA_sub : binA .sub (.int k a) (.int k b) = some (.int k (k.wrap (a - b))) := by simp [binA, isShift, intBin]
theorem binA_mul : binA .mul (.int k a) (.int k b) = some (.int k (k.wrap (a * b))) := by simp [binA, isShift, intBin]
theorem binA_quo (h : b ≠ 0) : binA .quo (.int k a) (.int k b) = some (.int k (k.wrap (a.tdiv b))) := by simp [binA, isShift, intBin, h]
theorem binA_rem (h : b ≠ 0) : binA .rem (.int k a) (.int k b) = some (.int k (a.tmod b)) := by simp [binA, isShift, intBin, h]
theorem binA_eql : binA .eql (.int k a) (.int k b) = some (.bool (decide (a = b))) := by
  simp only [binA, isShift, intBin, if_true, Bool.false_eq_true, if_false]; rfl
theorem binA_neq : binA .neq (.int k a) (.int k b) = some (.bool (decide (a ≠ b))) := by
  simp only [binA, isShift, intBin, if_true, Bool.false_eq_true, if_false]
  congr 2
  by_cases h : a = b <;> simp [h]
theorem binA_lss : binA .lss (.int k a) (.int k b) = some (.bool (decide (a < b))) := by simp [binA, isShift, intBin]
theorem binA_leq : binA .leq (.int k a) (.int k b) = some (.bool (decide (a ≤ b))) := by simp [binA, isShift, intBin]
theorem binA_gtr : binA .gtr (.int k a) (.int k b) = some (.bool (decide (b < a))) := by simp [binA, isShift, intBin]
theorem binA_geq : binA .geq (.int k a) (.int k b) = some (.bool (decide (b ≤ a))) := by simp [binA, isShift, intBin]
theorem binA_and_u64 (m : Nat) (hm : m ≤ 64) : binA .and (.int .u64 a) (.int .u64 (2 ^ m - 1)) = some (.int .u64 (a % 2 ^ m)) := by
  simp only [binA, isShift, intBin, if_true, Bool.false_eq_true, if_false, wrap_u64]
  congr 2
  have h1 : ((BitVec.ofInt 64 a &&& BitVec.ofInt 64 (2 ^ m - 1)).toNat : Int) = a % 2 ^ m := by
    have e1 : BitVec.ofInt 64 ((2 : Int) ^ m - 1) = BitVec.ofNat 64 (2 ^ m - 1) := by
      have e : ((2 : Int) ^ m - 1) = ((2 ^ m - 1 : Nat) : Int) := by
        have : 1 ≤ 2 ^ m := Nat.one_le_two_pow
        rw [Int.natCast_sub this]
        simp
      rw [e]
      simp
    rw [e1, BitVec.toNat_and, BitVec.toNat_ofNat]
    have hlt : 2 ^ m - 1 < 2 ^ 64 := by
      have := Nat.pow_le_pow_right (show 0 < 2 by decide) hm
      have : 1 ≤ 2 ^ m := Nat.one_le_two_pow
      omega
    rw [Nat.mod_eq_of_lt hlt, Nat.and_two_pow_sub_one_eq_mod]
    simp only [BitVec.toNat_ofInt]
    have hp : (2 : Int) ^ 64 = 2 ^ m * 2 ^ (64 - m) := by
      rw [← Int.pow_add]; congr 1; omega
    have h2 : (((a % ((2 ^ 64 : Nat) : Int)).toNat : Nat) : Int) = a % 2 ^ 64 := by
      rw [Int.toNat_of_nonneg (Int.emod_nonneg _ (by decide))]
      rfl
    rw [Int.natCast_emod, h2]
    show a % 2 ^ 64 % ((2 ^ m : Nat) : Int) = _
    rw [Int.natCast_pow]
    show a % 2 ^ 64 % 2 ^ m = _
    rw [hp, Int.emod_emod_of_dvd _ ⟨_, rfl⟩]
  rw [show IntKind.u64.bits = 64 from rfl, h1]
  have hp : (0 : Int) < 2 ^ m := Int.pow_pos (by decide)
  have := Int.emod_nonneg a (Int.ne_of_gt hp)
  have := Int.emod_lt_of_pos a hp
  have h3 : (2 : Int) ^ m ≤ 18446744073709551616 := by
    have := Nat.pow_le_pow_right (show 0 < 2 by decide) hm
    have h4 : ((2 ^ m : Nat) : Int) ≤ ((2 ^ 64 : Nat) : Int) := by exact_mod_cast this
    rw [Int.natCast_pow] at h4
    exact h4
  rw [Int.emod_eq_of_lt (by omega) (by omega)]
theorem binA_and32 : binA .and (.int .u64 a) (.int .u64 4294967295) = some (.int .u64 (a % 4294967296)) := binA_and_u64 a 32 (by decide)
theorem binA_shr : binA .shr (.int .u64 a) (.int .u64 32) = some (.int .u64 (a / 4294967296)) := by
  simp only [binA, isShift, if_true, shiftBin]
  simp [IntKind.bits]
  rw [Int.fdiv_eq_ediv_of_nonneg _ (by decide)]
theorem binA_shr_u64 (h0 : 0 ≤ b) (h1 : b < 64) : binA .shr (.int .u64 a) (.int .u64 b) = some (.int .u64 (a / 2 ^ b.toNat)) := by
  simp only [binA, isShift, if_true, shiftBin, if_neg (Int.not_lt.2 h0)]
  have e : min b.toNat IntKind.u64.bits = b.toNat := by
    have : IntKind.u64.bits = 64 := rfl
    omega
  rw [e, Int.fdiv_eq_ediv_of_nonneg _ (Int.le_of_lt (Int.pow_pos (by decide)))]
end
attribute [go_sem] wrap_i64 binA_quo binA_rem binA_shr_u64 binA_add binA_sub binA_mul binA_eql binA_neq binA_lss binA_leq binA_gtr binA_geq wrap_u64 wrap_u8
abbrev i64s (l : List Int) : List AVal := l.map (AVal.int .i64)
def Rw (a : AVal) (l : List Int) : Prop := (a = .nils ∧ l = []) ∨ (a = .emp ∧ l = []) ∨ a = .slc 1 (i64s l)
theorem Rw.nils : Rw .nils [] := .inl ⟨rfl, rfl⟩
theorem Rw.slc (l : List Int) : Rw (.slc 1 (i64s l)) l := .inr (.inr rfl)
def rwTake (h : Nat) : AVal → AVal
  | .slc es xs => .slc es (xs.take h)
  | x => x
def rwDrop (h : Nat) : AVal → AVal
  | .slc es xs => .slc es (xs.drop h)
  | x => x
section
variable {a : AVal} {l : List Int} {hp : Heap}
theorem Rw.len (h : Rw a l) : lenVA a = some (.int .i64 l.length) := by
  rcases h with ⟨rfl, rfl⟩ | ⟨rfl, rfl⟩ | rfl
  · rfl
  · rfl
  · simp [lenVA]
theorem Rw.elems (h : Rw a l) : elemsA 1 a hp = some (i64s l) := by
  rcases h with ⟨rfl, rfl⟩ | ⟨rfl, rfl⟩ | rfl
  · rfl
  · rfl
  · exact elemsA_slc 1 _
theorem Rw.plain (h : Rw a l) (d : Nat) : plain d a = true := by
  rcases h with ⟨rfl, rfl⟩ | ⟨rfl, rfl⟩ | rfl
  · exact plain_nils d
  · exact plain_emp d
  · exact plain_slc d _ _
theorem Rw.cells (h : Rw a l) : cellsOf a = [a] := by
  rcases h with ⟨rfl, rfl⟩ | ⟨rfl, rfl⟩ | rfl <;> rfl
theorem Rw.sc (h : Rw a l) : isSc a = true := by
  rcases h with ⟨rfl, rfl⟩ | ⟨rfl, rfl⟩ | rfl <;> rfl
theorem Rw.ia (h : Rw a l) {i : Nat} (hi : i < l.length) : iaSA 1 a (.int .i64 i) = some (.pvo [.int .i64 (l.getD i 0)] 0) := by
  rcases h with ⟨rfl, rfl⟩ | ⟨rfl, rfl⟩ | rfl
  · simp at hi
  · simp at hi
  · rw [iaSA_slc]
    simp [List.getElem?_map, List.getElem?_eq_getElem hi, cellsOf]
theorem Rw.take (h : Rw a l) (n : Nat) : Rw (rwTake n a) (l.take n) := by
  rcases h with ⟨rfl, rfl⟩ | ⟨rfl, rfl⟩ | rfl
  · exact .inl ⟨rfl, by simp⟩
  · exact .inr (.inl ⟨rfl, by simp⟩)
  · exact .inr (.inr (by simp [rwTake, List.map_take]))
theorem Rw.sliceTo (h : Rw a l) {n : Nat} (hn : n ≤ l.length) : slVA 1 a none (some (.int .i64 n)) none = some (rwTake n a) := by
  rcases h with ⟨rfl, rfl⟩ | ⟨rfl, rfl⟩ | rfl
  · obtain rfl : n = 0 := by simpa using hn
    rfl
  · obtain rfl : n = 0 := by simpa using hn
    rfl
  · simp [slVA, bnd, rwTake, hn]
end
def wrO (os : List XOper) (t : Nat) : Bool := match os with
  | [] => false
  | o :: os => (match o.dst with | some d => d == t | none => false) || wrO os t
def wrC : XCode → Nat → Bool
  | .skip, _ => false
  | .reg _ ops _, t => wrO ops t
  | .seq a b, t => wrC a t || wrC b t
  | .cond _ a b, t => wrC a t || wrC b t
  | .block _ c, t => wrC c t
  | .scope c, t => wrC c t
  | .loop c, t => wrC c t
  | .exit _, _ => false
  | .ret, _ => false
  | .bad, _ => false
theorem stepO_tm {C : Cfg} {inl : Inl} {key : Key} {o : XOper} {st st' : St} (h : stepO C inl key o st = some st') {t : Nat} (ht : o.dst ≠ some t) : st'.tm t = st.tm t := by
  unfold stepO at h
  cases hp : progO C key o st.tm with
  | none => rw [hp] at h; cases h
  | some p =>
    rw [hp] at h
    simp only at h
    cases hr : runP inl p st.hp st.nc with
    | none => rw [hr] at h; cases h
    | some r =>
      rw [hr] at h
      simp only [Option.map_some, Option.some.injEq] at h
      subst h
      simp only [putO]
      cases hd : o.dst with
      | none => rfl
      | some d =>
        simp only [updT]
        split
        · rename_i e; subst e; exact absurd hd ht
        · rfl
theorem wrO_cons {o : XOper} {os : List XOper} {t : Nat} (h : wrO (o :: os) t = false) : o.dst ≠ some t ∧ wrO os t = false := by
  simp only [wrO, Bool.or_eq_false_iff] at h
  refine ⟨fun e => ?_, h.2⟩
  rw [e] at h
  simp at h
theorem runOps_tm {C : Cfg} {inl : Inl} {fid rid c : Nat} {t : Nat} : ∀ {os : List XOper} {i : Nat} {st st' : St}, wrO os t = false → runOps C inl fid rid c i os st = some st' → st'.tm t = st.tm t
  | [], i, st, st', _, h => by simp only [runOps, Option.some.injEq] at h; subst h; rfl
  | o :: os, i, st, st', hw, h => by
    obtain ⟨h1, h2⟩ := wrO_cons hw
    simp only [runOps] at h
    cases hs : stepO C inl (site fid rid i, c) o st with
    | none => rw [hs] at h; cases h
    | some s =>
      rw [hs] at h
      exact (runOps_tm h2 h).trans (stepO_tm hs h1)
theorem runOpsF_tm {C : Cfg} {inl : Inl} {fid rid c : Nat} {t : Nat} : ∀ {os : List XOper} {i : Nat} {st st' : St} {fs : List Foot}, wrO os t = false → runOpsF C inl fid rid c i os st = some (st', fs) → st'.tm t = st.tm t
  | [], i, st, st', fs, _, h => by simp only [runOpsF, Option.some.injEq, Prod.mk.injEq] at h; rw [← h.1]
  | o :: os, i, st, st', fs, hw, h => by
    obtain ⟨h1, h2⟩ := wrO_cons hw
    simp only [runOpsF] at h
    cases hs : stepO C inl (site fid rid i, c) o st with
    | none => rw [hs] at h; cases h
    | some s =>
      rw [hs] at h
      simp only [Option.bind_some] at h
      cases hq : runOpsF C inl fid rid c (i + 1) os s with
      | none => rw [hq] at h; cases h
      | some q =>
        rw [hq] at h
        simp only [Option.map_some, Option.some.injEq, Prod.mk.injEq] at h
        obtain ⟨q1, q2⟩ := q
        rw [← h.1]
        exact (runOpsF_tm h2 hq).trans (stepO_tm hs h1)
theorem runReg_tm {C : Cfg} {inl : Inl} {fid rid : Nat} {ops : List XOper} {d : Option XDraw} {st st' : St} {t : Nat} (hw : wrO ops t = false) (h : runReg C inl fid rid ops d st = some st') : st'.tm t = st.tm t := by
  unfold runReg at h
  split at h
  · exact (runOps_tm (st := { st with nc := st.nc + 1 }) hw h)
  · split at h
    · exact (runOps_tm (st := { st with nc := st.nc + 1 }) hw h)
    · split at h
      · rename_i hq
        split at h
        · cases h
          exact (runOpsF_tm (st := { st with nc := st.nc + 1 }) hw hq)
        · cases h
      · cases h
theorem iterN_tm {f : St → Res} {t : Nat} (hf : ∀ {s o s'}, f s = some (o, s') → s'.tm t = s.tm t) : ∀ {n : Nat} {st : St} {o : Out} {st' : St}, iterN n f st = some (o, st') → st'.tm t = st.tm t
  | 0, st, o, st', h => by simp [iterN] at h
  | n + 1, st, o, st', h => by
    rw [iterN] at h
    cases hs : f st with
    | none => rw [hs] at h; cases h
    | some r =>
      obtain ⟨o1, s1⟩ := r
      rw [hs] at h
      cases o1 with
      | nrm => exact (iterN_tm hf h).trans (hf hs)
      | ext i => simp only [Option.some.injEq, Prod.mk.injEq] at h; rw [← h.2]; exact hf hs
      | ret => simp only [Option.some.injEq, Prod.mk.injEq] at h; rw [← h.2]; exact hf hs
theorem execC_tm {C : Cfg} {inl : Inl} {fid : Nat} {t : Nat} : ∀ {a : XCode} {st : St} {o : Out} {st' : St}, wrC a t = false → execC C inl fid a st = some (o, st') → st'.tm t = st.tm t
  | .skip, st, o, st', _, h => by simp only [execC, Option.some.injEq, Prod.mk.injEq] at h; rw [← h.2]
  | .exit _, st, o, st', _, h => by simp only [execC, Option.some.injEq, Prod.mk.injEq] at h; rw [← h.2]
  | .ret, st, o, st', _, h => by simp only [execC, Option.some.injEq, Prod.mk.injEq] at h; rw [← h.2]
  | .bad, st, o, st', _, h => by simp [execC] at h
  | .reg id ops d, st, o, st', hw, h => by
    simp only [execC] at h
    cases hr : runReg C inl fid id ops d st with
    | none => rw [hr] at h; cases h
    | some s =>
      rw [hr] at h
      simp only [Option.map_some, Option.some.injEq, Prod.mk.injEq] at h
      rw [← h.2]
      exact runReg_tm hw hr
  | .seq a b, st, o, st', hw, h => by
    simp only [wrC, Bool.or_eq_false_iff] at hw
    simp only [execC] at h
    cases ha : execC C inl fid a st with
    | none => rw [ha] at h; cases h
    | some r =>
      obtain ⟨o1, s1⟩ := r
      rw [ha] at h
      cases o1 with
      | nrm => exact (execC_tm hw.2 h).trans (execC_tm hw.1 ha)
      | ext i => simp only [Option.some.injEq, Prod.mk.injEq] at h; rw [← h.2]; exact execC_tm hw.1 ha
      | ret => simp only [Option.some.injEq, Prod.mk.injEq] at h; rw [← h.2]; exact execC_tm hw.1 ha
  | .cond c a b, st, o, st', hw, h => by
    simp only [wrC, Bool.or_eq_false_iff] at hw
    simp only [execC] at h
    split at h
    · split at h
      · exact execC_tm hw.1 h
      · exact execC_tm hw.2 h
    · cases h
  | .block id a, st, o, st', hw, h => by
    simp only [wrC] at hw
    simp only [execC] at h
    split at h
    · rename_i ha
      split at h
      · simp only [Option.some.injEq, Prod.mk.injEq] at h; rw [← h.2]; exact execC_tm hw ha
      · simp only [Option.some.injEq, Prod.mk.injEq] at h; rw [← h.2]; exact execC_tm hw ha
    · exact execC_tm hw h
  | .scope a, st, o, st', hw, h => by
    simp only [wrC] at hw
    simp only [execC] at h
    exact execC_tm hw h
  | .loop a, st, o, st', hw, h => by
    simp only [wrC] at hw
    simp only [execC] at h
    exact iterN_tm (fun hs => execC_tm hw hs) h
section
variable {C : Cfg} {inl : Inl} {fid : Nat}
theorem Ev.and_tm {a : XCode} {st : St} {Q : Out → St → Prop} (h : Ev (C := C) (inl := inl) fid a st Q) : Ev (C := C) (inl := inl) fid a st fun o s => Q o s ∧ ∀ t, wrC a t = false → s.tm t = st.tm t := by
  unfold Ev Bd at h ⊢
  obtain ⟨r, h1, h2⟩ := h
  exact ⟨r, h1, h2, fun t ht => execC_tm ht h1⟩
theorem Ev_loopW {a : XCode} {Q : Out → St → Prop} {tm0 : Nat → AVal} {hp0 : Heap} {nc0 : Nat} (I : Nat → (Nat → AVal) → Heap → Nat → Prop) {n : Nat}
    (h0 : I n tm0 hp0 nc0) (hn : n < 4611686018427387904)
    (hstep : ∀ n tm hp nc, (∀ t, wrC a t = false → tm t = tm0 t) → I n tm hp nc → Ev (C := C) (inl := inl) fid a ⟨tm, hp, nc⟩ fun o s => Nx o (fun _ => ∃ m, m < n ∧ I m s.tm s.hp s.nc) (fun _ => Q o s)) :
    Ev (C := C) (inl := inl) fid (.loop a) ⟨tm0, hp0, nc0⟩ Q := by
  refine Ev_loop_inv (I := fun n st => (∀ t, wrC a t = false → st.tm t = tm0 t) ∧ I n st.tm st.hp st.nc) ⟨fun t _ => rfl, h0⟩ hn ?_
  rintro n ⟨tm, hp, nc⟩ ⟨hc, hI⟩
  refine (hstep n tm hp nc hc hI).and_tm.mono fun o s h => ?_
  obtain ⟨h, h'⟩ := h
  cases o with
  | nrm =>
    rw [Nx_nrm] at h ⊢
    obtain ⟨m, hm, hI'⟩ := h
    exact ⟨m, hm, fun t ht => (h' t ht).trans (hc t ht), hI'⟩
  | ext i => rw [Nx_ext] at h ⊢; exact h
  | ret => rw [Nx_ret] at h ⊢; exact h
theorem Ev_range {a : XCode} {Q : Out → St → Prop} {tm0 : Nat → AVal} {hp0 : Heap} {nc0 : Nat} (ti len : Nat) (J : Nat → (Nat → AVal) → Heap → Nat → Prop)
    (hn : len < 4611686018427387904) (hi : tm0 ti = .int .i64 0) (h0 : J 0 tm0 hp0 nc0)
    (hstep : ∀ i tm hp nc, i ≤ len → (∀ t, wrC a t = false → tm t = tm0 t) → tm ti = .int .i64 i → J i tm hp nc →
      Ev (C := C) (inl := inl) fid a ⟨tm, hp, nc⟩ fun o s => Nx o (fun _ => i < len ∧ s.tm ti = .int .i64 (i + 1 : Nat) ∧ J (i + 1) s.tm s.hp s.nc) (fun _ => Q o s)) :
    Ev (C := C) (inl := inl) fid (.loop a) ⟨tm0, hp0, nc0⟩ Q := by
  refine Ev_loopW (I := fun n tm hp nc => ∃ i, i ≤ len ∧ n = len - i ∧ tm ti = .int .i64 (i : Nat) ∧ J i tm hp nc) (n := len) ⟨0, by omega, by omega, hi, h0⟩ hn ?_
  rintro n tm hp nc hc ⟨i, hi, rfl, ht, hJ⟩
  refine (hstep i tm hp nc hi hc ht hJ).mono fun o s h => ?_
  cases o with
  | nrm =>
    rw [Nx_nrm] at h ⊢
    obtain ⟨h1, h2, h3⟩ := h
    exact ⟨len - (i + 1), by omega, i + 1, by omega, rfl, h2, h3⟩
  | ext i => rw [Nx_ext] at h ⊢; exact h
  | ret => rw [Nx_ret] at h ⊢; exact h
end
theorem sound_self {P : Program} {C : Cfg} (ok : CfgOk P C) (d : Nat) (f : FuncId) : Sound P f (pureF C d f) := sound_of ok d fun _ _ h => h
theorem liveA_ptr (k : Key) (g i es off : Nat) : liveA (.ptr k g i es off) = true := rfl
theorem liveA_pvo (cs : List AVal) (off : Nat) : liveA (.pvo cs off) = true := rfl
theorem liveA_fn (f : FuncId) (a b : List AVal) : liveA (.fn (.func f) a b) = true := rfl
theorem liveA_ifc (t : TypeId) (v : AVal) : liveA (.ifc t v) = true := rfl
theorem mnx_max {k : IntKind} {a b : Int} : mnxA true (.int k a) [.int k b] = some (.int k (max a b)) := by
  simp only [mnxA, if_true]
  congr 2
  split <;> omega
attribute [go_sem] liveA_ptr liveA_pvo liveA_fn liveA_ifc
section
variable {hp : Heap}
theorem rngSA_str (s : ByteArray) : rngSA (.str s) = some s := rfl
def nxtB (k : Key) (b : Blk) (hp : Heap) : Option (AVal × Heap) := match b with
  | .obj (.iter s pos) => if pos < s.size then some (.tup [.bool true, .int .i64 pos, .int .i32 (Utf8.decode s pos).1], upd hp k (some (.obj (.iter s (pos + (Utf8.decode s pos).2))))) else some (.tup [.bool false], hp)
  | _ => none
theorem nxtB_iter (k : Key) (s : ByteArray) (pos : Nat) : nxtB k (.obj (.iter s pos)) hp = if pos < s.size then some (.tup [.bool true, .int .i64 pos, .int .i32 (Utf8.decode s pos).1], upd hp k (some (.obj (.iter s (pos + (Utf8.decode s pos).2))))) else some (.tup [.bool false], hp) := rfl
theorem nxtSA_ptr (k : Key) (es : Nat) : nxtSA (.ptr k 0 0 es 0) hp = (hp k).bind fun b => nxtB k b hp := by
  simp only [nxtSA, nxtSR, Rd.run]
  cases hp k with
  | none => rfl
  | some b =>
    cases b with
    | var => rfl
    | row => rfl
    | obj a =>
      cases a with
      | map => rfl
      | iter s pos =>
        simp only [Option.bind_some, nxtB]
        split <;> rfl
theorem bytesOf_nil : bytesOf [] = some [] := rfl
theorem bytesOf_cons (n : Int) (r : List AVal) : bytesOf (.int .u8 n :: r) = (bytesOf r).map (UInt8.ofNat n.toNat :: ·) := rfl
theorem b2sA_sl (k : Key) (g es off len : Nat) : b2sA (.sl k g es off len) hp = (elemsA 1 (.sl k g es off len) hp).bind fun ys => (bytesOf ys).map fun s => .str ⟨s.toArray⟩ := rfl
theorem b2sA_slc (es : Nat) (xs : List AVal) : b2sA (.slc es xs) hp = (elemsA 1 (.slc es xs) hp).bind fun ys => (bytesOf ys).map fun s => .str ⟨s.toArray⟩ := rfl
def mapB (b : Blk) : Option (List (AVal × AVal × Nat) × Nat) := match b with
  | .obj (.map es cl) => some (es, cl)
  | _ => none
theorem mapB_map (es : List (AVal × AVal × Nat)) (cl : Nat) : mapB (.obj (.map es cl)) = some (es, cl) := rfl
theorem lkpA_mp (kd : Nat) (c : Bool) (z : AVal) (k : Key) (i : AVal) : lkpA kd c z (.mp k) i hp = (hp k).bind fun b => (mapB b).bind fun m => (findA kd i m.1 0).bind fun r => match r with
    | some (_, v, _) => some (if c then .tup [v, .bool true] else v, hp)
    | none => some (if c then .tup [z, .bool false] else z, hp) := by
  simp only [lkpA, lkpR, Rd.run]
  cases hp k with
  | none => rfl
  | some b =>
    cases b with
    | var => rfl
    | row => rfl
    | obj a =>
      cases a with
      | iter => rfl
      | map es cl =>
        simp only [Option.bind_some, mapB]
        cases findA kd i es 0 with
        | none => rfl
        | some r =>
          cases r with
          | none => rfl
          | some q => obtain ⟨j, v, n⟩ := q; rfl
theorem msetA_mp (kd : Nat) (k : Key) (i v : AVal) : msetA kd (.mp k) i v hp = (hp k).bind fun b => (mapB b).bind fun m => (findA kd i m.1 0).bind fun r => match r with
    | some (j, _, n) => some (.undef, upd hp k (some (.obj (.map (m.1.set j (i, v, n)) m.2))))
    | none => some (.undef, upd hp k (some (.obj (.map (m.1 ++ [(i, v, m.2)]) (m.2 + 1))))) := by
  simp only [msetA, msetR, Rd.run]
  cases hp k with
  | none => rfl
  | some b =>
    cases b with
    | var => rfl
    | row => rfl
    | obj a =>
      cases a with
      | iter => rfl
      | map es cl =>
        simp only [Option.bind_some, mapB]
        cases findA kd i es 0 with
        | none => rfl
        | some r =>
          cases r with
          | none => rfl
          | some q => obtain ⟨j, v, n⟩ := q; rfl
end
def callAX (q : TypeId × TypeId × Nat) (xs : List AVal) (hp : Heap) (nc : Nat) : Option (AVal × Heap × Nat) := ((callAR q.1 q.2.1 q.2.2 xs).run hp).map fun r => (r.1, applyW hp r.2, nc)
theorem callAX_nil (q : TypeId × TypeId × Nat) (v : AVal) (hp : Heap) (nc : Nat) : callAX q [.nili, v] hp nc = some (.bool false, hp, nc) := rfl
attribute [go_sem] callAX_nil
attribute [go_sem] rngSA_str nxtB_iter nxtSA_ptr bytesOf_nil bytesOf_cons b2sA_sl b2sA_slc mapB_map lkpA_mp msetA_mp
def Own (ss : List Nat) (es : Nat) (hp : Heap) (v : AVal) (xs : List AVal) : Prop :=
  (v = .nils ∧ xs = []) ∨ ∃ s c g, s ∈ ss ∧ v = .sl (s, c) g es 0 xs.length ∧ hp (s, c) = some (.row g es xs)
theorem Own.nils (ss : List Nat) (es : Nat) (hp : Heap) : Own ss es hp .nils [] := .inl ⟨rfl, rfl⟩
theorem Own.sl {ss : List Nat} {es : Nat} {hp : Heap} {s c g n : Nat} {xs : List AVal} (hs : s ∈ ss) (hn : n = xs.length) (h : hp (s, c) = some (.row g es xs)) : Own ss es hp (.sl (s, c) g es 0 n) xs :=
  .inr ⟨s, c, g, hs, by rw [hn], h⟩
theorem Own.keep {ss : List Nat} {es : Nat} {hp hp' : Heap} {v : AVal} {xs : List AVal} (h : Own ss es hp v xs) (hk : ∀ k, k.1 ∈ ss → hp' k = hp k) : Own ss es hp' v xs := by
  rcases h with h | ⟨s, c, g, hs, h1, h2⟩
  · exact .inl h
  · exact .inr ⟨s, c, g, hs, h1, (hk _ hs).trans h2⟩
theorem Own.app {ss : List Nat} {es bytes : Nat} {key : Key} {hp : Heap} {v y : AVal} {xs ys : List AVal} (h : Own ss es hp v xs) (hk : key.1 ∈ ss) (he : elemsA es y hp = some ys) (hl : plainL freeze ys = true)
    (hsc : (ys.all fun e => (cellsOf e).all isSc) = true) (hb : (xs.length + ys.length) * bytes ≤ 140737488355328) :
    ∃ v' hp', appA es bytes key v y hp = some (v', hp') ∧ Own ss es hp' v' (xs ++ ys) ∧ ∀ k, k.1 ∉ ss → hp' k = hp k := by
  rcases h with ⟨rfl, rfl⟩ | ⟨s, c, g, hs, rfl, h2⟩
  · rw [appA_nils, he, Option.bind_some, lendA_plain hl, Option.bind_some]
    simp only [List.map_nil, List.nil_append, applyW]
    cases ys with
    | nil => exact ⟨.nils, hp, by simp, Own.nils _ _ _, fun _ _ => rfl⟩
    | cons y0 ys0 =>
      rw [if_neg (by simp), if_pos (by simpa using hb)]
      refine ⟨_, _, rfl, Own.sl (s := key.1) (c := key.2) hk rfl (upd_same _ _ _), fun k hk' => upd_ne _ _ (fun e => hk' (e ▸ hk))⟩
  · rw [appA_sl, he, Option.bind_some, lendA_plain hl, Option.bind_some]
    rw [if_pos (by simp), h2, Option.bind_some, grown_row, if_pos ⟨by simp, hb, hsc⟩]
    simp only [List.map_nil, List.nil_append, applyW, List.drop_zero]
    refine ⟨_, _, rfl, Own.sl hs (by simp) (upd_same _ _ _), fun k hk' => upd_ne _ _ (fun e => hk' (e ▸ hs))⟩
theorem Own.push {ss : List Nat} {es bytes s0 s1 : Nat} {hp : Heap} {v z : AVal} {xs : List AVal} (h : Own ss es hp v xs) (hk : s0 ∈ ss) (hn : s1 ∉ ss) (hl : plain freeze z = true)
    (hsc : (cellsOf z).all isSc = true) (hb : (xs.length + 1) * bytes ≤ 140737488355328) :
    ∃ (V : Nat → Nat → AVal) (H : Nat → Nat → Heap), (∀ c c', appA es bytes (s0, c) v (.sl (s1, c') 0 es 0 1) (upd hp (s1, c') (some (.row 0 es [z]))) = some (V c c', H c c')) ∧
      ∀ c c', Own ss es (H c c') (V c c') (xs ++ [z]) ∧ ∀ k, k.1 ∉ ss → k.1 ≠ s1 → H c c' k = hp k := by
  have := fun c c' => (h.keep (hp' := upd hp (s1, c') (some (.row 0 es [z]))) fun k hk' => upd_ne _ _ (by rintro rfl; exact hn hk')).app (bytes := bytes) (key := (s0, c)) (y := .sl (s1, c') 0 es 0 1) (ys := [z]) hk
    (by rw [elemsA_sl, upd_same]; simp [els_row]) (by rw [plainL_cons, hl, plainL_nil]; rfl) (by simp [hsc]) hb
  refine ⟨fun c c' => (this c c').choose, fun c c' => (this c c').choose_spec.choose, fun c c' => (this c c').choose_spec.choose_spec.1, fun c c' => ⟨(this c c').choose_spec.choose_spec.2.1, fun k h1 h2 => ?_⟩⟩
  exact ((this c c').choose_spec.choose_spec.2.2 k h1).trans (upd_ne _ _ (by rintro rfl; exact h2 rfl))
def sliceOf (es : Nat) (v : AVal) (xs : List AVal) : AVal := match v with
  | .nils => .nils
  | _ => .slc es xs
theorem Own.lend {ss : List Nat} {es : Nat} {hp : Heap} {v : AVal} {xs : List AVal} (h : Own ss es hp v xs) (d : Nat) (hl : plainL d xs = true) : lendV (d + 1) v hp = some (sliceOf es v xs) := by
  rcases h with ⟨rfl, rfl⟩ | ⟨s, c, g, hs, rfl, h2⟩
  · exact lendV_plain (plain_nils _)
  · rw [lendV_sl, h2]
    simp only [Option.bind_some, els_row, Nat.zero_add, Nat.le_refl, if_true, List.drop_zero, List.take_length, lendVL_plain hl, Option.map_some]
    rfl
def rowN (es : Nat) (xs : List AVal) : AVal := match xs with
  | [] => .nils
  | _ => .slc es xs
theorem Own.lendN {ss : List Nat} {es : Nat} {hp : Heap} {v : AVal} {xs : List AVal} (h : Own ss es hp v xs) (h0 : xs = [] → v = .nils) (d : Nat) (hl : plainL d xs = true) {hp' : Heap} (hk : ∀ k, k.1 ∈ ss → hp' k = hp k) : lendV (d + 1) v hp' = some (rowN es xs) := by
  rw [(h.keep hk).lend d hl]
  cases xs with
  | nil => rw [h0 rfl]; rfl
  | cons x l =>
    rcases h with ⟨rfl, h⟩ | ⟨s, c, g, hs, rfl, h2⟩
    · simp at h
    · rfl
theorem Own.lendXs {ss : List Nat} {es : Nat} {hp : Heap} {v : AVal} {xs : List AVal} (h : Own ss es hp v xs) (h0 : xs = [] → v = .nils) (d : Nat) (hl : plainL d xs = true) :
    ∃ ks, (∀ k ∈ ks, k.1 ∈ ss) ∧ ∀ hp', (∀ k, k.1 ∈ ss → hp' k = hp k) → Xec.lendX (d + 1) v hp' = some (rowN es xs, ks) := by
  rcases h with ⟨rfl, rfl⟩ | ⟨s, c, g, hs, rfl, h2⟩
  · exact ⟨[], by simp, fun hp' _ => lendX_plain (plain_nils _)⟩
  · refine ⟨[(s, c)], by simpa using hs, fun hp' hk => ?_⟩
    rw [lendX_sl, hk _ hs, h2]
    simp only [Option.bind_some, els_row, Nat.zero_add, Nat.le_refl, if_true, List.drop_zero, List.take_length, lendXL_plain hl, Option.map_some]
    cases xs with
    | nil => cases h0 rfl
    | cons x l => rfl
theorem wt_ints {b : Nat} {a : AVal} (h : WT (.slice 1 b (.int .i64)) a) : ∃ l, Rw a l ∧ l.length * b ≤ 140737488351232 ∧ ∀ x ∈ l, IntKind.i64.min ≤ x ∧ x ≤ IntKind.i64.max := by
  simp only [WT] at h
  rcases h with rfl | rfl | ⟨xs, rfl, h1, h2⟩
  · exact ⟨[], Rw.nils, by simp, by simp⟩
  · exact ⟨[], .inr (.inl ⟨rfl, rfl⟩), by simp, by simp⟩
  · have : ∃ l : List Int, xs = i64s l ∧ ∀ x ∈ l, IntKind.i64.min ≤ x ∧ x ≤ IntKind.i64.max := by
      clear h2
      induction xs with
      | nil => exact ⟨[], rfl, by simp⟩
      | cons x xs ih =>
        obtain ⟨n, rfl, hn⟩ := h1 x (by simp)
        obtain ⟨l, rfl, hl⟩ := ih fun y hy => h1 y (by simp [hy])
        refine ⟨n :: l, rfl, ?_⟩
        intro y hy
        rcases List.mem_cons.1 hy with rfl | hy
        · exact hn
        · exact hl y hy
    obtain ⟨l, rfl, hl⟩ := this
    exact ⟨l, Rw.slc l, by simpa using h2, hl⟩
end Go.Xec
namespace Go.Xec
open Go Go.RowKit Go.Sort
def bs (l : List UInt8) : ByteArray := ⟨l.toArray⟩
abbrev sv (l : List UInt8) : AVal := .str (bs l)
theorem bs_mk (l : List UInt8) : (ByteArray.mk l.toArray) = bs l := rfl
theorem bs_size (l : List UInt8) : (bs l).size = l.length := by simp [bs, ByteArray.size]
theorem bs_data (l : List UInt8) : (bs l).data.toList = l := by simp [bs]
theorem bs_inj {l m : List UInt8} : bs l = bs m ↔ l = m := by
  constructor
  · intro h
    have := congrArg (fun s : ByteArray => s.data.toList) h
    simpa [bs] using this
  · rintro rfl; rfl
theorem bs_eq (l m : List UInt8) : ((bs l).toList == (bs m).toList) = decide (l = m) := by
  rw [Bool.eq_iff_iff, Lib.bytes_beq_iff, bs_inj, decide_eq_true_eq]
section
variable (l m : List UInt8)
theorem str_eql : binA .eql (sv l) (sv m) = some (.bool (decide (l = m))) := by simp only [binA, strBin, bs_eq]
theorem str_neq : binA .neq (sv l) (sv m) = some (.bool (decide (¬ l = m))) := by
  simp only [binA, strBin, bs_eq]
  congr 2
  by_cases h : l = m <;> simp [h]
end
theorem decode_get (l : List UInt8) {i : Nat} (h : i < l.length) : (bs l).get! i = l.getD i 0 := by
  have : (bs l).get! i = (bs l).data.getD i default := by
    simp [ByteArray.get!, getElem!_def, Array.getD_eq_getD_getElem?]
    cases (bs l).data[i]? <;> rfl
  rw [this]
  simp [bs, Array.getD_eq_getD_getElem?, List.getD_eq_getElem?_getD, List.getElem?_eq_getElem h]
theorem decode_low (l : List UInt8) {i : Nat} (h : i < l.length) (hb : (l.getD i 0).toNat < 128) : Utf8.decode (bs l) i = ((l.getD i 0).toNat, 1) := by
  unfold Utf8.decode
  simp only [Nat.add_zero, decode_get l h]
  rw [if_pos hb]
theorem decode_high (l : List UInt8) {i : Nat} (h : i < l.length) (hb : 128 ≤ (l.getD i 0).toNat) : 128 ≤ (Utf8.decode (bs l) i).1 := by
  unfold Utf8.decode
  simp only [Nat.add_zero, decode_get l h]
  rw [if_neg (by omega)]
  split
  · split
    · simp only; omega
    · simp [Utf8.runeError]
  · split
    · split
      · rename_i hc; simp only [Bool.and_eq_true, decide_eq_true_eq] at hc; simp only; omega
      · simp [Utf8.runeError]
    · split
      · split
        · rename_i hc; simp only [Bool.and_eq_true, decide_eq_true_eq] at hc; simp only; omega
        · simp [Utf8.runeError]
      · simp [Utf8.runeError]
def Rg (es : Nat) {α : Type} (enc : α → AVal) (a : AVal) (l : List α) : Prop := (a = .nils ∧ l = []) ∨ (a = .emp ∧ l = []) ∨ a = .slc es (l.map enc)
section
variable {es : Nat} {α : Type} {enc : α → AVal} {a : AVal} {l : List α} {hp : Heap}
theorem Rg.nils : Rg es enc .nils [] := .inl ⟨rfl, rfl⟩
theorem Rg.slc (l : List α) : Rg es enc (.slc es (l.map enc)) l := .inr (.inr rfl)
theorem Rg.len (h : Rg es enc a l) : lenVA a = some (.int .i64 l.length) := by
  rcases h with ⟨rfl, rfl⟩ | ⟨rfl, rfl⟩ | rfl
  · rfl
  · rfl
  · simp [lenVA]
theorem Rg.plain (h : Rg es enc a l) (d : Nat) : plain d a = true := by
  rcases h with ⟨rfl, rfl⟩ | ⟨rfl, rfl⟩ | rfl
  · exact plain_nils d
  · exact plain_emp d
  · exact plain_slc d _ _
theorem Rg.cells (h : Rg es enc a l) : cellsOf a = [a] := by
  rcases h with ⟨rfl, rfl⟩ | ⟨rfl, rfl⟩ | rfl <;> rfl
theorem Rg.sc (h : Rg es enc a l) : isSc a = true := by
  rcases h with ⟨rfl, rfl⟩ | ⟨rfl, rfl⟩ | rfl <;> rfl
theorem Rg.ia (h : Rg es enc a l) {i : Nat} (hi : i < l.length) : iaSA es a (.int .i64 i) = some (.pvo (cellsOf (enc l[i])) 0) := by
  rcases h with ⟨rfl, rfl⟩ | ⟨rfl, rfl⟩ | rfl
  · simp at hi
  · simp at hi
  · rw [iaSA_slc]
    simp [List.getElem?_map, List.getElem?_eq_getElem hi]
theorem Rg.drop (h : Rg es enc a l) (n : Nat) : Rg es enc (rwDrop n a) (l.drop n) := by
  rcases h with ⟨rfl, rfl⟩ | ⟨rfl, rfl⟩ | rfl
  · exact .inl ⟨rfl, by simp⟩
  · exact .inr (.inl ⟨rfl, by simp⟩)
  · exact .inr (.inr (by simp [rwDrop, List.map_drop]))
theorem Rg.sliceFrom (h : Rg es enc a l) {n : Nat} (hn : n ≤ l.length) : slVA es a (some (.int .i64 n)) none none = some (rwDrop n a) := by
  rcases h with ⟨rfl, rfl⟩ | ⟨rfl, rfl⟩ | rfl
  · obtain rfl : n = 0 := by simpa using hn
    rfl
  · obtain rfl : n = 0 := by simpa using hn
    rfl
  · simp [slVA, bnd, rwDrop, hn]
    rw [List.take_of_length_le (by simp)]
theorem rowN_rg (l : List α) : Rg es enc (rowN es (l.map enc)) l := by
  cases l with
  | nil => exact Rg.nils
  | cons => exact Rg.slc _
end
theorem plainL_map {α : Type} {enc : α → AVal} (d : Nat) (h : ∀ x, Xec.plain d (enc x) = true) : ∀ (l : List α), plainL d (l.map enc) = true
  | [] => plainL_nil d
  | x :: l => by rw [List.map_cons, plainL_cons, h x, plainL_map d h l]; rfl
theorem all_map {α : Type} {enc : α → AVal} (h : ∀ x, (cellsOf (enc x)).all isSc = true) (l : List α) : ((l.map enc).all fun e => (cellsOf e).all isSc) = true := by
  rw [List.all_map, List.all_eq_true]
  exact fun x _ => h x
theorem take_next {α : Type} {l : List α} {i : Nat} (hi : i < l.length) : l.take (i + 1) = l.take i ++ [l[i]] := by
  rw [List.take_add_one, List.getElem?_eq_getElem hi]; rfl
theorem sound_calls {P : Program} {f : FuncId} {fn : Func} {F : List AVal → Option AVal} (hf : P.funcs[f]? = some fn) (hname : (fn.name == "runtime.NumGoroutine") = false) (hb : fn.body.isSome = true)
    (h : ∀ as0 r, F as0 = some r → ∀ (w : World) (S : Nat → Prop) (vs : List Value), (∀ b, S b → b < w.heap.size) → Laid P w → VL (ctx0 w S) as0 vs →
      Calls P f vs.toArray w fun e w' => ∃ v, e = .returned v ∧ w.heap.size ≤ w'.heap.size ∧ (∀ b, b < w.heap.size → w'.heap[b]? = w.heap[b]?) ∧ SameEnv w w' ∧ V (ctx0 w' fun b => S b ∨ (w.heap.size ≤ b ∧ b < w'.heap.size)) r v) : Sound P f F := by
  intro as0 r hr w S vs hS hL hl
  refine .inl ⟨?_, h as0 r hr w S vs hS hL hl⟩
  cases hbb : fn.body with
  | none => rw [hbb] at hb; cases hb
  | some c =>
    simp only [callFunc, Sem.run_bind, run_program, Result.andThen_ok, hf, hname, hbb]
    simp
theorem env_below {w w' : World} (h : Below w.heap.size w w') : w.heap.size ≤ w'.heap.size ∧ (∀ b, b < w.heap.size → w'.heap[b]? = w.heap[b]?) ∧ SameEnv w w' :=
  ⟨h.size, h.block, h.os, h.tape, h.output⟩
theorem VL_1 {x : Ctx} {a : AVal} {vs : List Value} (h : VL x [a] vs) : ∃ u, vs = [u] ∧ V x a u := by
  simp only [VL] at h
  obtain ⟨u, _, rfl, hu, rfl⟩ := h
  exact ⟨u, rfl, hu⟩
theorem VL_2 {x : Ctx} {a b : AVal} {vs : List Value} (h : VL x [a, b] vs) : ∃ u v, vs = [u, v] ∧ V x a u ∧ V x b v := by
  simp only [VL] at h
  obtain ⟨u, _, rfl, hu, v, _, rfl, hv, rfl⟩ := h
  exact ⟨u, v, rfl, hu, hv⟩
attribute [go_sem] bs_mk bs_size str_eql str_neq
end Go.Xec
