/-
  Laid together: part 3.
-/
import Derived.Test.YtldineoabbodpaaGreatDoorZS2
set_option linter.unusedVariables false
set_option linter.unusedSimpArgs false
namespace Go.Xec
open Go
attribute [go_sem ↓] Ev_seq Ev_cond Ev_block Ev_scope Ev_skip Ev_ret Ev_exit Ev_reg0 Ev_reg1 Ev_reg2 Ro_cons Ro_consG Ro_nil RoF_cons RoF_consG RoF_nil
  op_mv op_pick op_alloc op_box op_build op_mkslice op_load op_store op_bin op_eqB op_eqN op_eqA op_nilChk op_un op_conv op_fa op_fld op_iaA op_iaS op_ixA op_ixS op_slV op_lenS op_lenV op_mnx op_ext op_mkf op_mki op_app op_call op_rngS op_nxtS op_mkM op_lkp op_mset op_inv op_tas
  Bd_map Bd_bind updT_eq upd_eq arg_t arg_c putO_some putO_none resL_tmp resL_cell
attribute [go_sem] tasA_ifc tasA_nili taiA_ifc taiA_nili Bd_some Bd_if Cd_true Cd_false Gd_tt Gd_tf Gd_ft Gd_ff Gd_undef Nx_nrm Nx_ext Nx_ret Bx_nrm Bx_ret Bx_ext
  Fin_nrm Fin_ret resL_nil one_one one_two one_nil Option.getD_some Option.getD_none List.getElem?_cons_zero List.getElem?_cons_succ
  pickA_true pickA_false List.map_cons List.map_nil Option.map_some Option.map_none Option.bind_some ldA_ptr ldA_pvo cs_var0
theorem Gd_split_t {b : Bool} {A B : Unit → Prop} (hA : b = true → A ()) (hB : b = false → B ()) : Gd (.bool b) true A B := Gd_split hA hB
theorem Gd_split_f {b : Bool} {A B : Unit → Prop} (hA : b = true → B ()) (hB : b = false → A ()) : Gd (.bool b) false A B := Gd_split hB hA
theorem site_eq (fid rid i : Nat) : site fid rid i = (fid * 1000 + rid) * 1000 + i := rfl
def Cfg.add (C : Cfg) (g : FuncId) (F : List AVal → Option AVal) : Cfg := ⟨fun h => if h = g then some F else C.Γ h, C.xf, C.Γn, C.Γm, C.Γa, C.μ⟩
theorem Cfg.add_Γ (C : Cfg) (g : FuncId) (F : List AVal → Option AVal) (h : FuncId) : (C.add g F).Γ h = if h = g then some F else C.Γ h := rfl
theorem CfgOk.add {P : Program} {C : Cfg} (ok : CfgOk P C) {g : FuncId} {F : List AVal → Option AVal} (h : Sound P g F) : CfgOk P (C.add g F) := by
  refine ⟨fun g' F' hg => ?_, ok.xf, ok.mixed, ok.Γn, ok.Γm, ok.Γa, ok.μ⟩
  rw [Cfg.add_Γ] at hg
  split at hg
  · rename_i e; subst e; cases hg; exact h
  · exact ok.Γ g' F' hg
def Cfg.addN (C : Cfg) (g : FuncId) (F : List AVal → Option (Option (Nat × List AVal))) : Cfg := ⟨C.Γ, C.xf, fun h => if h = g then some F else C.Γn h, C.Γm, C.Γa, C.μ⟩
theorem CfgOk.addN {P : Program} {C : Cfg} (ok : CfgOk P C) {g : FuncId} {F : List AVal → Option (Option (Nat × List AVal))} (h : SoundN P g F) : CfgOk P (C.addN g F) := by
  refine ⟨ok.Γ, ok.xf, ok.mixed, fun g' F' hg => ?_, ok.Γm, ok.Γa, ok.μ⟩
  simp only [Cfg.addN] at hg
  split at hg
  · rename_i e; subst e; cases hg; exact h
  · exact ok.Γn g' F' hg
theorem sound_at {P : Program} {C : Cfg} (ok : CfgOk P C) (d : Nat) {f : FuncId} {F : List AVal → Option AVal} (hF : ∀ xs r, F xs = some r → pureF C (d + 1) f xs = some r) : Sound P f F := sound_of ok (d + 1) hF
mutual
def plain : Nat → AVal → Bool
  | d, .agg xs => match d with
    | 0 => false
    | d + 1 => plainL d xs
  | d, .tup xs => match d with
    | 0 => false
    | d + 1 => plainL d xs
  | _, .sl .. => false
  | _, .ptr .. => false
  | _, .fn .. => false
  | _, .mp .. => false
  | _, .ifc .. => false
  | _, _ => true
def plainL : Nat → List AVal → Bool
  | _, [] => true
  | d, x :: xs => plain d x && plainL d xs
end
mutual
theorem lend_plain (h : Heap) : ∀ (x : AVal) (d : Nat), plain d x = true → (lend d x).run h = some (x, [])
  | .agg xs, 0, hp => by simp [plain] at hp
  | .agg xs, d + 1, hp => by
    simp only [plain] at hp
    simp only [lend, Rd.run_bind, lendL_plain h xs d hp, Option.bind_some, Rd.run]
  | .tup xs, 0, hp => by simp [plain] at hp
  | .tup xs, d + 1, hp => by
    simp only [plain] at hp
    simp only [lend, Rd.run_bind, lendL_plain h xs d hp, Option.bind_some, Rd.run]
  | .undef, d, _ => by simp [lend, Rd.run]
  | .any, d, _ => by simp [lend, Rd.run]
  | .bool _, d, _ => by simp [lend, Rd.run]
  | .int _ _, d, _ => by simp [lend, Rd.run]
  | .str _, d, _ => by simp [lend, Rd.run]
  | .nilp, d, _ => by simp [lend, Rd.run]
  | .pvo .., d, _ => by simp [lend, Rd.run]
  | .nils, d, _ => by simp [lend, Rd.run]
  | .emp, d, _ => by simp [lend, Rd.run]
  | .slc .., d, _ => by simp [lend, Rd.run]
  | .nili, d, _ => by simp [lend, Rd.run]
  | .nilf, d, _ => by simp [lend, Rd.run]
  | .sl .., d, hp => by cases d <;> simp [plain] at hp
  | .ptr .., d, hp => by cases d <;> simp [plain] at hp
  | .mp .., d, hp => by cases d <;> simp [plain] at hp
  | .fn .., d, hp => by cases d <;> simp [plain] at hp
  | .ifc .., d, hp => by cases d <;> simp [plain] at hp
theorem lendL_plain (h : Heap) : ∀ (xs : List AVal) (d : Nat), plainL d xs = true → (lendL d xs).run h = some (xs, [])
  | [], d, _ => by simp [lendL, Rd.run]
  | x :: xs, d, hp => by
    simp only [plainL, Bool.and_eq_true] at hp
    simp only [lendL, Rd.run_bind, lend_plain h x d hp.1, lendL_plain h xs d hp.2, Option.bind_some, Rd.run, List.append_nil]
end
theorem Ends_plain {v r : AVal} {h : Heap} (hp : plain freeze v = true) (hr : v = r) : Ends v h r := by
  subst hr
  unfold Ends
  rw [lend_plain h v freeze hp]
  rfl
mutual
theorem lend_plain_eq : ∀ (x : AVal) (d : Nat), plain d x = true → lend d x = .ret (x, [])
  | .agg xs, 0, hp => by simp [plain] at hp
  | .agg xs, d + 1, hp => by
    simp only [plain] at hp
    simp only [lend, lendL_plain_eq xs d hp, Rd.bind]
  | .tup xs, 0, hp => by simp [plain] at hp
  | .tup xs, d + 1, hp => by
    simp only [plain] at hp
    simp only [lend, lendL_plain_eq xs d hp, Rd.bind]
  | .undef, d, _ => by simp [lend]
  | .any, d, _ => by simp [lend]
  | .bool _, d, _ => by simp [lend]
  | .int _ _, d, _ => by simp [lend]
  | .str _, d, _ => by simp [lend]
  | .nilp, d, _ => by simp [lend]
  | .pvo .., d, _ => by simp [lend]
  | .nils, d, _ => by simp [lend]
  | .emp, d, _ => by simp [lend]
  | .slc .., d, _ => by simp [lend]
  | .nili, d, _ => by simp [lend]
  | .nilf, d, _ => by simp [lend]
  | .sl .., d, hp => by cases d <;> simp [plain] at hp
  | .ptr .., d, hp => by cases d <;> simp [plain] at hp
  | .mp .., d, hp => by cases d <;> simp [plain] at hp
  | .fn .., d, hp => by cases d <;> simp [plain] at hp
  | .ifc .., d, hp => by cases d <;> simp [plain] at hp
theorem lendL_plain_eq : ∀ (xs : List AVal) (d : Nat), plainL d xs = true → lendL d xs = .ret (xs, [])
  | [], d, _ => by simp [lendL]
  | x :: xs, d, hp => by
    simp only [plainL, Bool.and_eq_true] at hp
    simp only [lendL, lend_plain_eq x d hp.1, lendL_plain_eq xs d hp.2, Rd.bind, List.append_nil]
end
theorem call_plain {C : Cfg} {inl : Inl} {g : FuncId} {F : List AVal → Option AVal} {xs : List AVal} {r : AVal} {hp : Heap} {nc : Nat} (hg : C.Γ g = some F) (hl : plainL freeze xs = true) (hr : F xs = some r) :
    callX C inl (.fn (.func g) [] []) xs hp nc = some (r, hp, nc) := call_known hg (lendL_plain hp xs freeze hl) hr
theorem cellsOf_agg (xs : List AVal) : cellsOf (.agg xs) = xs := rfl
theorem cellsOf_int (k : IntKind) (n : Int) : cellsOf (.int k n) = [.int k n] := rfl
theorem cellsOf_bool (b : Bool) : cellsOf (.bool b) = [.bool b] := rfl
theorem cellsOf_str (s : ByteArray) : cellsOf (.str s) = [.str s] := rfl
theorem cellsOf_nils : cellsOf .nils = [.nils] := rfl
theorem cellsOf_emp : cellsOf .emp = [.emp] := rfl
theorem cellsOf_slc (es : Nat) (xs : List AVal) : cellsOf (.slc es xs) = [.slc es xs] := rfl
theorem cellsOf_sl (k : Key) (g es off len : Nat) : cellsOf (.sl k g es off len) = [.sl k g es off len] := rfl
theorem cellsOf_ptr (k : Key) (g i es off : Nat) : cellsOf (.ptr k g i es off) = [.ptr k g i es off] := rfl
theorem isSc_int (k : IntKind) (n : Int) : isSc (.int k n) = true := rfl
theorem isSc_bool (b : Bool) : isSc (.bool b) = true := rfl
theorem isSc_str (s : ByteArray) : isSc (.str s) = true := rfl
theorem isSc_nils : isSc .nils = true := rfl
theorem isSc_emp : isSc .emp = true := rfl
theorem isSc_slc (es : Nat) (xs : List AVal) : isSc (.slc es xs) = true := rfl
theorem isSc_sl (k : Key) (g es off len : Nat) : isSc (.sl k g es off len) = true := rfl
theorem isSc_ptr (k : Key) (g i es off : Nat) : isSc (.ptr k g i es off) = true := rfl
theorem faA_ptr (off : Nat) (k : Key) (g i es o : Nat) : faA off (.ptr k g i es o) = some (.ptr k g i es (o + off)) := rfl
theorem faA_pvo (off : Nat) (cs : List AVal) (o : Nat) : faA off (.pvo cs o) = some (.pvo cs (o + off)) := rfl
theorem extA_tup (xs : List AVal) (i : Nat) : extA (.tup xs) i = xs[i]? := rfl
theorem fldA_agg (agg : Bool) (n off : Nat) (cs : List AVal) : fldA agg n off (.agg cs) = takeV agg n off cs := rfl
theorem iaAA_ptr (n es : Nat) (k : Key) (g i es0 o : Nat) (kd : IntKind) (j : Int) : iaAA n es (.ptr k g i es0 o) (.int kd j) = if 0 ≤ j ∧ j < n then some (.ptr k g i es0 (o + j.toNat * es)) else none := rfl
theorem ixAA_agg (agg : Bool) (n es : Nat) (cs : List AVal) (kd : IntKind) (j : Int) : ixAA agg n es (.agg cs) (.int kd j) = if 0 ≤ j ∧ j < n then takeV agg es (j.toNat * es) cs else none := rfl
theorem fillA_nil (cs : List AVal) : fillA cs [] = some cs := rfl
theorem fillA_cons (cs : List AVal) (off n : Nat) (x : AVal) (r : List (Nat × Nat × AVal)) : fillA cs ((off, n, x) :: r) = if (cellsOf x).length = n ∧ off + n ≤ cs.length ∧ (cellsOf x).all isSc = true then fillA (splice cs off (cellsOf x)) r else none := rfl
theorem fillE_nil (es : Nat) (xs : List AVal) : fillE es xs [] = some xs := rfl
theorem fillE_cons (es : Nat) (xs : List AVal) (i : Nat) (x : AVal) (r : List (Nat × AVal)) : fillE es xs ((i, x) :: r) = if (cellsOf x).length = es ∧ i < xs.length ∧ (cellsOf x).all isSc = true then fillE es (xs.set i x) r else none := rfl
theorem splice_eq (cs : List AVal) (off : Nat) (new : List AVal) : splice cs off new = cs.take off ++ (new ++ cs.drop (off + new.length)) := rfl
theorem unA_not (b : Bool) : unA .not (.bool b) = some (.bool !b) := rfl
theorem unA_neg (k : IntKind) (n : Int) : unA .neg (.int k n) = some (.int k (k.wrap (0 - n))) := rfl
theorem convA_int (k k' : IntKind) (n : Int) : convA k (.int k' n) = some (.int k (k.wrap n)) := rfl
theorem eqBA_bool (neg a b : Bool) : eqBA neg (.bool a) (.bool b) = some (.bool (if neg then !(a == b) else a == b)) := rfl
theorem eqAA_agg (neg : Bool) (ks : List Nat) (xs ys : List AVal) : eqAA neg ks (.agg xs) (.agg ys) = (eqCells ks xs ys).map fun b => .bool (if neg then !b else b) := rfl
theorem eqCells_nil : eqCells [] [] [] = some true := rfl
theorem eqCells_cons (k : Nat) (ks : List Nat) (x y : AVal) (xs ys : List AVal) : eqCells (k :: ks) (x :: xs) (y :: ys) = (eq1 k x y).bind fun a => (eqCells ks xs ys).map fun b => a && b := by
  simp only [eqCells]
  cases eq1 k x y with
  | none => rfl
  | some a => cases eqCells ks xs ys <;> rfl
theorem eq1_int (k : IntKind) (a b : Int) : eq1 0 (.int k a) (.int k b) = some (decide (a = b)) := by simp only [eq1, if_true]; rfl
theorem eq1_bool (a b : Bool) : eq1 1 (.bool a) (.bool b) = some (a == b) := rfl
theorem eq1_str (a b : ByteArray) : eq1 2 (.str a) (.str b) = some (a.toList == b.toList) := rfl
theorem nilA_nils : nilA 0 .nils = some true := rfl
theorem nilA_emp : nilA 0 .emp = some false := rfl
theorem nilA_slc (es : Nat) (xs : List AVal) : nilA 0 (.slc es xs) = some false := rfl
theorem nilA_sl (k : Key) (g es off len : Nat) : nilA 0 (.sl k g es off len) = some false := rfl
theorem nilA_ptr (k : Key) (g i es off : Nat) : nilA 2 (.ptr k g i es off) = some false := rfl
theorem remake_agg (xs cs : List AVal) : remake (.agg xs) cs = .agg cs := rfl
theorem remake_int (k : IntKind) (n : Int) (cs : List AVal) : remake (.int k n) cs = cs.headD .undef := rfl
theorem remake_bool (b : Bool) (cs : List AVal) : remake (.bool b) cs = cs.headD .undef := rfl
attribute [go_sem] List.isEmpty_cons nilA_nils nilA_emp nilA_slc nilA_sl nilA_ptr cellsOf_agg cellsOf_int cellsOf_bool cellsOf_str cellsOf_nils cellsOf_emp cellsOf_slc cellsOf_sl cellsOf_ptr isSc_int isSc_bool isSc_str isSc_nils isSc_emp isSc_slc isSc_sl isSc_ptr faA_ptr faA_pvo extA_tup fldA_agg iaAA_ptr ixAA_agg
  fillA_nil fillA_cons fillE_nil fillE_cons splice_eq unA_not unA_neg convA_int eqBA_bool eqAA_agg eqCells_nil eqCells_cons eq1_int eq1_bool eq1_str remake_agg remake_int remake_bool takeV_agg takeV_one site_eq
  List.length_cons List.length_nil List.all_cons List.all_nil List.take_succ_cons List.take_zero List.drop_succ_cons List.drop_zero List.nil_append List.cons_append List.set_cons_zero List.set_cons_succ List.headD_cons Prod.mk.injEq List.append_nil and_true true_and and_false false_and and_self Bool.and_self Bool.and_true Bool.true_and Bool.and_false Bool.false_and List.getElem?_nil Bool.not_true Bool.not_false
def lendV (d : Nat) (v : AVal) (hp : Heap) : Option AVal := ((lend d v).run hp).map (·.1)
def lendVL (d : Nat) (xs : List AVal) (hp : Heap) : Option (List AVal) := ((lendL d xs).run hp).map (·.1)
theorem Ends_eq (v : AVal) (hp : Heap) (r : AVal) : Ends v hp r = (lendV 64 v hp = some r) := rfl
theorem lendV_plain {d : Nat} {v : AVal} {hp : Heap} (h : plain d v = true) : lendV d v hp = some v := by
  unfold lendV; rw [lend_plain hp v d h]; rfl
theorem lendVL_plain {d : Nat} {xs : List AVal} {hp : Heap} (h : plainL d xs = true) : lendVL d xs hp = some xs := by
  unfold lendVL; rw [lendL_plain hp xs d h]; rfl
theorem lendV_sl (d : Nat) (k : Key) (g es off len : Nat) (hp : Heap) : lendV (d + 1) (.sl k g es off len) hp = (hp k).bind fun b => (b.els g es off len).bind fun xs => (lendVL d xs hp).map fun ys => .slc es ys := by
  simp only [lendV, lendVL, lend, Rd.run]
  cases hp k with
  | none => rfl
  | some b =>
    simp only [Option.bind_some]
    cases b.els g es off len with
    | none => rfl
    | some xs =>
      simp only [Option.bind_some, Rd.run_bind]
      cases (lendL d xs).run hp <;> rfl
theorem lendV_agg (d : Nat) (xs : List AVal) (hp : Heap) : lendV (d + 1) (.agg xs) hp = (lendVL d xs hp).map .agg := by
  simp only [lendV, lendVL, lend, Rd.run_bind]
  cases (lendL d xs).run hp <;> rfl
theorem lendV_tup (d : Nat) (xs : List AVal) (hp : Heap) : lendV (d + 1) (.tup xs) hp = (lendVL d xs hp).map .tup := by
  simp only [lendV, lendVL, lend, Rd.run_bind]
  cases (lendL d xs).run hp <;> rfl
theorem lendV_ifc (d : Nat) (t : TypeId) (v : AVal) (hp : Heap) : lendV (d + 1) (.ifc t v) hp = (lendV d v hp).map (.ifc t) := by
  simp only [lendV, lend, Rd.run_bind]
  cases (lend d v).run hp <;> rfl
theorem lendVL_nil (d : Nat) (hp : Heap) : lendVL d [] hp = some [] := by simp [lendVL, lendL, Rd.run]
theorem lendVL_cons (d : Nat) (x : AVal) (xs : List AVal) (hp : Heap) : lendVL d (x :: xs) hp = (lendV d x hp).bind fun y => (lendVL d xs hp).map fun ys => y :: ys := by
  simp only [lendV, lendVL, lendL, Rd.run_bind]
  cases (lend d x).run hp with
  | none => rfl
  | some a =>
    simp only [Option.bind_some, Option.map_some]
    cases (lendL d xs).run hp <;> rfl
attribute [go_sem] lendV_plain lendV_sl lendV_agg lendV_tup lendV_ifc lendVL_nil lendVL_cons
def memK (k : Key) : List Key → Bool
  | [] => false
  | k' :: l => decide (k = k') || memK k l
theorem contains_memK (k : Key) (l : List Key) : l.contains k = memK k l := by
  induction l with
  | nil => rfl
  | cons k' l ih =>
    simp only [List.contains_cons, memK, ih]
    congr 1
    rw [Bool.eq_iff_iff]
    simp
theorem disj_nil (l : List Key) : disj [] l = true := rfl
theorem disj_cons (k : Key) (ks l : List Key) : disj (k :: ks) l = (!memK k l && disj ks l) := by
  simp only [disj, List.all_cons, contains_memK]
theorem memK_nil (k : Key) : memK k [] = false := rfl
theorem memK_cons (k k' : Key) (l : List Key) : memK k (k' :: l) = (decide (k = k') || memK k l) := rfl
theorem apartF_ck1 {p : Key → Prop} {w : List Key} {k : Key} (h : p k) : apartF (.cl p, w) (.kn [k], []) = true := by simp [apartF, h]
theorem apartF_some (rx wx ry wy : List Key) : apartF (.kn rx, wx) (.kn ry, wy) = (disj wx (ry ++ wy) && disj wy rx) := rfl
noncomputable def hotP (a b : Option Foot) : Bool := match a, b with
  | some x, some y => apartF x y
  | _, _ => false
theorem hotP_some (x y : Foot) : hotP (some x) (some y) = apartF x y := rfl
theorem hotOk_nil (fs : List Foot) : hotOk fs [] = true := rfl
theorem hotOk_cons (fs : List Foot) (i j : Nat) (hot : List (Nat × Nat)) : hotOk fs ((i, j) :: hot) = (hotP fs[i]? fs[j]? && hotOk fs hot) := by
  simp only [hotOk, List.all_cons, hotP]
  rfl
section
variable {C : Cfg} {key : Key} {tm : Nat → AVal} {hp hp' : Heap}
def ftV (C : Cfg) (key : Key) (op : XOp) (tm : Nat → AVal) (hp hp' : Heap) : Foot := footP (rdOf C key op (arg tm)) hp hp'
theorem ftV_eq (op : XOp) : footP (rdOf C key op (arg tm)) hp hp' = ftV C key op tm hp hp' := rfl
def ftP (x : AVal) : Foot := match x with
  | .ptr k .. => (.kn [k], [])
  | _ => (.kn [], [])
theorem ftP_ptr (k : Key) (g i es off : Nat) : ftP (.ptr k g i es off) = (.kn [k], []) := rfl
theorem ftP_pvo (cs : List AVal) (off : Nat) : ftP (.pvo cs off) = (.kn [], []) := rfl
theorem ft_load (agg : Bool) (n : Nat) (x : XArg) : ftV C key (.load agg n x) tm hp hp' = ftP (arg tm x) := by
  simp only [ftV, rdOf, opR, footP, Rd.run_bind]
  cases h : arg tm x with
  | ptr k g i es off =>
    simp only [loadR, Rd.bind, Rd.reads, Rd.run, ftP]
    cases hp k with
    | none => rfl
    | some b => simp only; cases (b.cs g i es).bind (takeV agg n off) <;> rfl
  | pvo cs off => simp only [loadR, ftP]; cases takeV agg n off cs <;> rfl
  | _ => rfl
theorem ft_alloc (cells : List AVal) : ftV C key (.alloc cells) tm hp hp' = (.kn [], [key]) := rfl
theorem ft_call {g : FuncId} {F : List AVal → Option AVal} (hg : C.Γ g = some F) (xs : List XArg) (hl : plainL freeze (xs.map (arg tm)) = true) : ftV C key (.call (.c (.fn (.func g) [] [])) xs) tm hp hp' = (.kn [], []) := by
  have e : lendL freeze (xs.map (arg tm)) = .ret (xs.map (arg tm), []) := lendL_plain_eq _ _ hl
  simp only [ftV, rdOf, arg, target, List.nil_append, List.append_nil, hg, footP, callR, e, Rd.bind]
  cases F (xs.map (arg tm)) with
  | none => rfl
  | some v => simp only [Rd.reads, Rd.run, List.map_nil, ite_self]
def ftS (n : Nat) (x y : AVal) (hp : Heap) : Foot := match x with
  | .ptr k .. => if (cellsOf y).length = n ∧ (cellsOf y).all isSc = true then (.kn [k], if (stA n x y hp).isSome = true then [k] else []) else (.kn [], [])
  | _ => (.kn [], [])
theorem ftS_ptr (n : Nat) (k : Key) (g i es off : Nat) (y : AVal) : ftS n (.ptr k g i es off) y hp = if (cellsOf y).length = n ∧ (cellsOf y).all isSc = true then (.kn [k], if (stA n (.ptr k g i es off) y hp).isSome = true then [k] else []) else (.kn [], []) := rfl
theorem ft_get {k : Key} {f : Option Blk → Rd Outp} (hf : ∀ b, f b = .fail ∨ ∃ z, f b = .ret (.undef, [(k, z)])) :
    footP (.inl (.get k f)) hp hp' = (.kn [k], if (((Rd.get k f).run hp).map fun r => applyW hp r.2).isSome = true then [k] else []) := by
  rcases hf (hp k) with h | ⟨z, h⟩ <;> simp [footP, Rd.reads, Rd.run, h]
theorem ft_store (n : Nat) (x y : XArg) : ftV C key (.store n x y) tm hp hp' = ftS n (arg tm x) (arg tm y) hp := by
  simp only [ftV, rdOf, opR]
  cases h : arg tm x with
  | ptr k g i es off =>
    simp only [ftS, stA, storeR]
    split
    · refine ft_get fun b => ?_
      cases b with
      | none => exact .inl rfl
      | some b =>
        cases b with
        | obj a => exact .inl rfl
        | var cells =>
          simp only
          split
          · exact .inr ⟨_, rfl⟩
          · exact .inl rfl
        | row g' es' elems =>
          simp only
          split
          · cases elems[i]? with
            | none => exact .inl rfl
            | some e =>
              simp only
              split
              · exact .inr ⟨_, rfl⟩
              · exact .inl rfl
          · exact .inl rfl
    · rfl
  | _ => rfl
theorem ft_ofO {op : XOp} {o : Option AVal} (h : rdOf C key op (arg tm) = .inl ((Rd.ofO o).bind fun v => .ret (v, []))) : ftV C key op tm hp hp' = (.kn [], []) := by
  rw [ftV, h]; cases o <;> rfl
theorem ft_inl {g : FuncId} (hg : C.Γ g = none) (xs : List XArg) (fs cs : List AVal) : ftV C key (.call (.c (.fn (.func g) fs cs)) xs) tm hp hp' = (.cl fun k => hp' k = hp k, []) := by
  simp only [ftV, rdOf, arg, target, hg, footP]
theorem ft_mv (x : XArg) : ftV C key (.mv x) tm hp hp' = (.kn [], []) := rfl
theorem ft_bin (op : BinOp) (x y : XArg) : ftV C key (.bin op x y) tm hp hp' = (.kn [], []) := ft_ofO rfl
theorem ft_un (op : UnOp) (x : XArg) : ftV C key (.un op x) tm hp hp' = (.kn [], []) := ft_ofO rfl
theorem ft_fa (off : Nat) (x : XArg) : ftV C key (.fa off x) tm hp hp' = (.kn [], []) := ft_ofO rfl
theorem ft_iaS (es : Nat) (x i : XArg) : ftV C key (.iaS es x i) tm hp hp' = (.kn [], []) := ft_ofO rfl
theorem ft_mnx (m : Bool) (x : XArg) (xs : List XArg) : ftV C key (.mnx m x xs) tm hp hp' = (.kn [], []) := ft_ofO rfl
theorem ft_mkf (f : Fn) (a b : List XArg) : ftV C key (.mkf f a b) tm hp hp' = (.kn [], []) := rfl
theorem ft_mki (t : TypeId) (x : XArg) : ftV C key (.mki t x) tm hp hp' = (.kn [], []) := rfl
theorem ft_pick (x y z : XArg) : ftV C key (.pick x y z) tm hp hp' = (.kn [], []) := by
  simp only [ftV, rdOf, opR, footP]; cases arg tm x <;> rfl
theorem ft_build (zero : List AVal) (parts : List (Nat × Nat × XArg)) : ftV C key (.build zero parts) tm hp hp' = (.kn [], []) := by
  simp only [ftV, rdOf, opR, footP]; split <;> rfl
theorem ft_eqB (neg : Bool) (x y : XArg) : ftV C key (.eqB neg x y) tm hp hp' = (.kn [], []) := by
  simp only [ftV, rdOf, opR, footP]; split <;> rfl
theorem ft_eqA (neg : Bool) (ks : List Nat) (x y : XArg) : ftV C key (.eqA neg ks x y) tm hp hp' = (.kn [], []) := by
  simp only [ftV, rdOf, opR, footP]
  split
  · rename_i xs ys _ _
    cases eqCells ks xs ys <;> rfl
  · rfl
theorem ft_nilChk (x : XArg) : ftV C key (.nilChk x) tm hp hp' = (.kn [], []) := by
  simp only [ftV, rdOf, opR, footP]; split <;> rfl
theorem ft_conv (k : IntKind) (x : XArg) : ftV C key (.conv k x) tm hp hp' = (.kn [], []) := by
  simp only [ftV, rdOf, opR, footP]; split <;> rfl
theorem ft_fld (agg : Bool) (n off : Nat) (x : XArg) : ftV C key (.fld agg n off x) tm hp hp' = (.kn [], []) := by
  simp only [ftV, rdOf, opR, footP]
  split
  · rename_i cs _
    cases takeV agg n off cs <;> rfl
  · rfl
theorem ft_ext (x : XArg) (i : Nat) : ftV C key (.ext x i) tm hp hp' = (.kn [], []) := by
  simp only [ftV, rdOf, opR, footP]
  split
  · rename_i xs _
    cases xs[i]? <;> rfl
  · rfl
end
attribute [go_sem ↓] ftV_eq ft_load ft_alloc ft_store ft_mv ft_bin ft_un ft_fa ft_iaS ft_mnx ft_mkf ft_mki ft_pick ft_build ft_eqB ft_eqA ft_nilChk ft_conv ft_fld ft_ext
attribute [go_sem] disj_nil disj_cons memK_nil memK_cons apartF_some apartF_ck1 hotP_some hotOk_nil hotOk_cons ftP_ptr ftP_pvo ftS_ptr Hk_true Option.isSome_some Option.isSome_none Bool.or_false Bool.false_or Bool.or_true Bool.true_or decide_true decide_false
section
variable {hp : Heap} {key : Key}
def elemsA (es : Nat) (x : AVal) (hp : Heap) : Option (List AVal) := (elemsR es x).run hp
theorem elemsA_nils (es : Nat) : elemsA es .nils hp = some [] := rfl
theorem elemsA_emp (es : Nat) : elemsA es .emp hp = some [] := rfl
theorem elemsA_slc (es : Nat) (xs : List AVal) : elemsA es (.slc es xs) hp = some xs := by simp [elemsA, elemsR, Rd.run]
theorem elemsA_sl (es : Nat) (k : Key) (g off len : Nat) : elemsA es (.sl k g es off len) hp = (hp k).bind fun b => b.els g es off len := by
  simp only [elemsA, elemsR, if_true, Rd.run]
  cases hp k with
  | none => rfl
  | some b => simp [Rd.run_ofO]
theorem els_row (g es off len : Nat) (elems : List AVal) : (Blk.row g es elems).els g es off len = if off + len ≤ elems.length then some ((elems.drop off).take len) else none := by
  simp [Blk.els]
def lendA (xs : List AVal) (hp : Heap) : Option (List AVal × List Key) := (lendL freeze xs).run hp
theorem lendA_plain {xs : List AVal} (h : plainL freeze xs = true) : lendA xs hp = some (xs, []) := lendL_plain hp xs freeze h
theorem appA_nils (es bytes : Nat) (y : AVal) : appA es bytes key .nils y hp = (elemsA es y hp).bind fun new0 => (lendA new0 hp).bind fun r =>
    if r.1.isEmpty = true then some (.nils, applyW hp (r.2.map fun k => (k, none))) else
    if r.1.length * bytes ≤ 140737488355328 then some (.sl key 0 es 0 r.1.length, applyW hp (r.2.map (fun k => (k, none)) ++ [(key, some (.row 0 es r.1))])) else none := by
  simp only [appA, appR, Rd.run_bind, elemsA, lendA]
  cases (elemsR es y).run hp with
  | none => rfl
  | some new0 =>
    simp only [Option.bind_some]
    cases (lendL freeze new0).run hp with
    | none => rfl
    | some r =>
      simp only [Option.bind_some]
      split
      · rfl
      · split <;> rfl
def grown (es bytes : Nat) (k : Key) (g off len : Nat) (new : List AVal) (ks : List Key) (b : Blk) (hp : Heap) : Option (AVal × Heap) :=
  match b with
  | .row g' es'' elems =>
    if g = g' ∧ es'' = es ∧ off + len = elems.length ∧ (len + new.length) * bytes ≤ 140737488355328 ∧ new.all (fun e => (cellsOf e).all isSc) = true then
      some (.sl k (g + 1) es 0 (len + new.length), applyW hp (ks.map (fun k => (k, none)) ++ [(k, some (.row (g + 1) es (elems.drop off ++ new)))]))
    else none
  | _ => none
theorem grown_row {es bytes : Nat} {k : Key} {g off len : Nat} {new elems : List AVal} {ks : List Key} : grown es bytes k g off len new ks (.row g es elems) hp =
    if off + len = elems.length ∧ (len + new.length) * bytes ≤ 140737488355328 ∧ new.all (fun e => (cellsOf e).all isSc) = true then
      some (.sl k (g + 1) es 0 (len + new.length), applyW hp (ks.map (fun k => (k, none)) ++ [(k, some (.row (g + 1) es (elems.drop off ++ new)))]))
    else none := by simp [grown]
theorem appA_sl (es bytes : Nat) (k : Key) (g off len : Nat) (y : AVal) : appA es bytes key (.sl k g es off len) y hp = (elemsA es y hp).bind fun new0 => (lendA new0 hp).bind fun r =>
    if r.2.contains k = false then (hp k).bind fun b => grown es bytes k g off len r.1 r.2 b hp else none := by
  simp only [appA, appR, Rd.run_bind, elemsA, lendA]
  cases (elemsR es y).run hp with
  | none => rfl
  | some new0 =>
    simp only [Option.bind_some]
    cases (lendL freeze new0).run hp with
    | none => rfl
    | some r =>
      simp only [Option.bind_some, true_and]
      split
      · simp only [Rd.run]
        cases hp k with
        | none => rfl
        | some b =>
          cases b with
          | var => rfl
          | obj => rfl
          | row g' es' elems =>
            simp only [Option.bind_some, grown]
            split <;> rfl
      · rfl
theorem applyW_nil : applyW hp [] = hp := rfl
theorem applyW_cons (k : Key) (b : Option Blk) (ws : Wr) : applyW hp ((k, b) :: ws) = applyW (upd hp k b) ws := rfl
theorem mkSA_int (es bytes : Nat) (k k' : IntKind) (l c : Int) : mkSA es bytes (.int k l) (.int k' c) = if 0 ≤ l ∧ l ≤ c ∧ bytes * c ≤ 281474976710656 then some l.toNat else none := rfl
theorem lenVA_sl (k : Key) (g es off len : Nat) : lenVA (.sl k g es off len) = some (.int .i64 len) := rfl
theorem lenVA_slc (es : Nat) (xs : List AVal) : lenVA (.slc es xs) = some (.int .i64 xs.length) := rfl
theorem lenVA_nils : lenVA .nils = some (.int .i64 0) := rfl
theorem lenVA_emp : lenVA .emp = some (.int .i64 0) := rfl
theorem iaSA_sl (es : Nat) (k : Key) (g off len : Nat) (kd : IntKind) (j : Int) : iaSA es (.sl k g es off len) (.int kd j) = if 0 ≤ j ∧ j < len then some (.ptr k g (off + j.toNat) es 0) else none := by simp [iaSA]
theorem iaSA_slc (es : Nat) (xs : List AVal) (kd : IntKind) (j : Int) : iaSA es (.slc es xs) (.int kd j) = if 0 ≤ j then (xs[j.toNat]?).map fun x => .pvo (cellsOf x) 0 else none := by simp [iaSA]
theorem stA_ptr (n : Nat) (k : Key) (g i es off : Nat) (y : AVal) : stA n (.ptr k g i es off) y hp = if (cellsOf y).length = n ∧ (cellsOf y).all isSc = true then
    (hp k).bind fun b => match b with
      | .var cells => if g = 0 ∧ i * es + off + n ≤ cells.length then some (upd hp k (some (.var (splice cells (i * es + off) (cellsOf y))))) else none
      | .row g' es' elems => if g = g' ∧ es = es' then (elems[i]?).bind fun e => if off + n ≤ (cellsOf e).length then some (upd hp k (some (.row g' es' (elems.set i (remake e (splice (cellsOf e) off (cellsOf y))))))) else none else none
      | .obj _ => none
    else none := by
  simp only [stA, storeR]
  split
  · simp only [Rd.run]
    cases hp k with
    | none => rfl
    | some b =>
      cases b with
      | obj => rfl
      | var cells => simp only [Option.bind_some]; split <;> rfl
      | row g' es' elems =>
        simp only [Option.bind_some]
        split
        · cases elems[i]? with
          | none => rfl
          | some e => simp only [Option.bind_some]; split <;> rfl
        · rfl
  · rfl
theorem callX_known {C : Cfg} {inl : Inl} {g : FuncId} {F : List AVal → Option AVal} {xs : List AVal} {nc : Nat} (hg : C.Γ g = some F) (hl : plainL freeze xs = true) :
    callX C inl (.fn (.func g) [] []) xs hp nc = (F xs).map fun r => (r, hp, nc) := by
  cases hr : F xs with
  | some r => exact call_plain hg hl hr
  | none => simp only [callX, target, List.nil_append, List.append_nil, hg, runP, callR, Rd.run_bind, lendL_plain hp xs freeze hl, Option.bind_some, hr, Rd.run, Option.map_none]
theorem plain_int (d : Nat) (k : IntKind) (n : Int) : plain d (.int k n) = true := by cases d <;> rfl
theorem plain_bool (d : Nat) (b : Bool) : plain d (.bool b) = true := by cases d <;> rfl
theorem plain_str (d : Nat) (s : ByteArray) : plain d (.str s) = true := by cases d <;> rfl
theorem plain_slc (d es : Nat) (xs : List AVal) : plain d (.slc es xs) = true := by cases d <;> rfl
theorem plain_pvo (d : Nat) (cs : List AVal) (off : Nat) : plain d (.pvo cs off) = true := by cases d <;> rfl
theorem plain_nils (d : Nat) : plain d .nils = true := by cases d <;> rfl
theorem plain_emp (d : Nat) : plain d .emp = true := by cases d <;> rfl
theorem plain_agg (d : Nat) (xs : List AVal) : plain (d + 1) (.agg xs) = plainL d xs := by simp only [plain]
theorem plain_tup (d : Nat) (xs : List AVal) : plain (d + 1) (.tup xs) = plainL d xs := by simp only [plain]
theorem plainL_nil (d : Nat) : plainL d [] = true := by simp only [plainL]
theorem plainL_cons (d : Nat) (x : AVal) (xs : List AVal) : plainL d (x :: xs) = (plain d x && plainL d xs) := by simp only [plainL]
theorem freeze_eq : freeze = 64 := rfl
end
attribute [go_sem] mkSA_int lendA_plain contains_memK elemsA_nils elemsA_emp elemsA_slc elemsA_sl els_row appA_nils appA_sl grown_row applyW_nil applyW_cons lenVA_sl lenVA_slc lenVA_nils lenVA_emp iaSA_sl iaSA_slc stA_ptr
  plain_int plain_bool plain_str plain_pvo plain_slc plain_nils plain_emp plain_agg plain_tup plainL_nil plainL_cons freeze_eq
theorem Rd.reads_bind {α β : Type} (h : Heap) : ∀ (r : Rd α) (f : α → Rd β), (r.bind f).reads h = r.reads h ++ (match r.run h with | some a => (f a).reads h | none => [])
  | .ret a, f => by simp [Rd.bind, Rd.reads, Rd.run]
  | .fail, f => by simp [Rd.bind, Rd.reads, Rd.run]
  | .get k g, f => by
    simp only [Rd.bind, Rd.reads, Rd.run, List.cons_append]
    rw [Rd.reads_bind h (g (h k)) f]
mutual
theorem lend_reads (h : Heap) : ∀ (d : Nat) (x y : AVal) (ks : List Key), (lend d x).run h = some (y, ks) → (lend d x).reads h = ks
  | 0, .sl .., y, ks, e => by simp [lend, Rd.run] at e
  | d + 1, .sl k g es off len, y, ks, e => by
    simp only [lend, Rd.run, Rd.reads] at e ⊢
    cases hb : h k with
    | none => rw [hb] at e; simp [Rd.run] at e
    | some b =>
      rw [hb] at e
      simp only at e ⊢
      cases hx : b.els g es off len with
      | none => rw [hx] at e; simp [Rd.run] at e
      | some xs =>
        rw [hx] at e
        simp only [Rd.run_bind] at e
        simp only [Rd.reads_bind]
        cases hr : (lendL d xs).run h with
        | none => rw [hr] at e; simp at e
        | some r =>
          rw [hr] at e
          simp only [Option.bind_some, Rd.run, Option.some.injEq, Prod.mk.injEq] at e
          rw [lendL_reads h d xs r.1 r.2 hr, ← e.2]
          simp [Rd.reads]
  | 0, .agg xs, y, ks, e => by simp [lend, Rd.run] at e
  | d + 1, .agg xs, y, ks, e => by
    simp only [lend, Rd.run_bind] at e
    simp only [lend, Rd.reads_bind]
    cases hr : (lendL d xs).run h with
    | none => rw [hr] at e; simp at e
    | some r =>
      rw [hr] at e
      simp only [Option.bind_some, Rd.run, Option.some.injEq, Prod.mk.injEq] at e
      rw [lendL_reads h d xs r.1 r.2 hr, ← e.2]
      simp [Rd.reads]
  | 0, .tup xs, y, ks, e => by simp [lend, Rd.run] at e
  | d + 1, .tup xs, y, ks, e => by
    simp only [lend, Rd.run_bind] at e
    simp only [lend, Rd.reads_bind]
    cases hr : (lendL d xs).run h with
    | none => rw [hr] at e; simp at e
    | some r =>
      rw [hr] at e
      simp only [Option.bind_some, Rd.run, Option.some.injEq, Prod.mk.injEq] at e
      rw [lendL_reads h d xs r.1 r.2 hr, ← e.2]
      simp [Rd.reads]
  | 0, .fn .., y, ks, e => by simp [lend, Rd.run] at e
  | d + 1, .fn f a b, y, ks, e => by
    simp only [lend, Rd.run_bind] at e
    simp only [lend, Rd.reads_bind]
    cases hr : (lendL d a).run h with
    | none => rw [hr] at e; simp at e
    | some r =>
      rw [hr] at e
      simp only [Option.bind_some, Rd.run_bind] at e
      cases hq : (lendL d b).run h with
      | none => rw [hq] at e; simp at e
      | some q =>
        rw [hq] at e
        simp only [Option.bind_some, Rd.run, Option.some.injEq, Prod.mk.injEq] at e
        simp only [hq]
        rw [lendL_reads h d a r.1 r.2 hr, lendL_reads h d b q.1 q.2 hq, ← e.2]
        simp [Rd.reads]
  | 0, .ifc .., y, ks, e => by simp [lend, Rd.run] at e
  | d + 1, .ifc t v, y, ks, e => by
    simp only [lend, Rd.run_bind] at e
    simp only [lend, Rd.reads_bind]
    cases hr : (lend d v).run h with
    | none => rw [hr] at e; simp at e
    | some r =>
      rw [hr] at e
      simp only [Option.bind_some, Rd.run, Option.some.injEq, Prod.mk.injEq] at e
      rw [lend_reads h d v r.1 r.2 hr, ← e.2]
      simp [Rd.reads]
  | 0, .ptr .., y, ks, e => by simp [lend, Rd.run] at e
  | d + 1, .ptr k g i es off, y, ks, e => by
    simp only [lend, Rd.run, Rd.reads] at e ⊢
    cases hb : h k with
    | none => rw [hb] at e; simp [Rd.run] at e
    | some b =>
      rw [hb] at e
      cases b with
      | row => simp [Rd.run] at e
      | obj => simp [Rd.run] at e
      | var cells =>
        simp only at e ⊢
        by_cases hg : g = 0
        · rw [if_pos hg] at e ⊢
          simp only [Rd.run_bind] at e
          simp only [Rd.reads_bind]
          cases hr : (lendL d cells).run h with
          | none => rw [hr] at e; simp at e
          | some r =>
            rw [hr] at e
            simp only [Option.bind_some, Rd.run, Option.some.injEq, Prod.mk.injEq] at e
            rw [lendL_reads h d cells r.1 r.2 hr, ← e.2]
            simp [Rd.reads]
        · rw [if_neg hg] at e
          simp [Rd.run] at e
  | d, .mp .., y, ks, e => by simp [lend, Rd.run] at e
  | d, .undef, y, ks, e => by simp [lend, Rd.run] at e; simp [lend, Rd.reads, ← e.2]
  | d, .any, y, ks, e => by simp [lend, Rd.run] at e; simp [lend, Rd.reads, ← e.2]
  | d, .bool _, y, ks, e => by simp [lend, Rd.run] at e; simp [lend, Rd.reads, ← e.2]
  | d, .int _ _, y, ks, e => by simp [lend, Rd.run] at e; simp [lend, Rd.reads, ← e.2]
  | d, .str _, y, ks, e => by simp [lend, Rd.run] at e; simp [lend, Rd.reads, ← e.2]
  | d, .nilp, y, ks, e => by simp [lend, Rd.run] at e; simp [lend, Rd.reads, ← e.2]
  | d, .pvo .., y, ks, e => by simp [lend, Rd.run] at e; simp [lend, Rd.reads, ← e.2]
  | d, .nils, y, ks, e => by simp [lend, Rd.run] at e; simp [lend, Rd.reads, ← e.2]
  | d, .emp, y, ks, e => by simp [lend, Rd.run] at e; simp [lend, Rd.reads, ← e.2]
  | d, .slc .., y, ks, e => by simp [lend, Rd.run] at e; simp [lend, Rd.reads, ← e.2]
  | d, .nili, y, ks, e => by simp [lend, Rd.run] at e; simp [lend, Rd.reads, ← e.2]
  | d, .nilf, y, ks, e => by simp [lend, Rd.run] at e; simp [lend, Rd.reads, ← e.2]
theorem lendL_reads (h : Heap) : ∀ (d : Nat) (xs ys : List AVal) (ks : List Key), (lendL d xs).run h = some (ys, ks) → (lendL d xs).reads h = ks
  | d, [], ys, ks, e => by simp [lendL, Rd.run] at e; simp [lendL, Rd.reads, ← e.2]
  | d, x :: xs, ys, ks, e => by
    simp only [lendL, Rd.run_bind] at e
    simp only [lendL, Rd.reads_bind]
    cases hr : (lend d x).run h with
    | none => rw [hr] at e; simp at e
    | some r =>
      rw [hr] at e
      simp only [Option.bind_some, Rd.run_bind] at e
      cases hq : (lendL d xs).run h with
      | none => rw [hq] at e; simp at e
      | some q =>
        rw [hq] at e
        simp only [Option.bind_some, Rd.run, Option.some.injEq, Prod.mk.injEq] at e
        simp only [hq]
        rw [lend_reads h d x r.1 r.2 hr, lendL_reads h d xs q.1 q.2 hq, ← e.2]
        simp [Rd.reads]
end
section
variable {hp : Heap}
def lendX (d : Nat) (x : AVal) (hp : Heap) : Option (AVal × List Key) := (lend d x).run hp
def lendXL (d : Nat) (xs : List AVal) (hp : Heap) : Option (List AVal × List Key) := (lendL d xs).run hp
theorem lendX_plain {d : Nat} {v : AVal} (h : plain d v = true) : lendX d v hp = some (v, []) := lend_plain hp v d h
theorem lendXL_plain {d : Nat} {xs : List AVal} (h : plainL d xs = true) : lendXL d xs hp = some (xs, []) := lendL_plain hp xs d h
theorem lendX_sl (d : Nat) (k : Key) (g es off len : Nat) : lendX (d + 1) (.sl k g es off len) hp = (hp k).bind fun b => (b.els g es off len).bind fun xs => (lendXL d xs hp).map fun r => (.slc es r.1, k :: r.2) := by
  simp only [lendX, lendXL, lend, Rd.run]
  cases hp k with
  | none => rfl
  | some b =>
    simp only [Option.bind_some]
    cases b.els g es off len with
    | none => rfl
    | some xs =>
      simp only [Option.bind_some, Rd.run_bind]
      cases (lendL d xs).run hp <;> rfl
theorem lendX_agg (d : Nat) (xs : List AVal) : lendX (d + 1) (.agg xs) hp = (lendXL d xs hp).map fun r => (.agg r.1, r.2) := by
  simp only [lendX, lendXL, lend, Rd.run_bind]
  cases (lendL d xs).run hp <;> rfl
def ptrX (d off : Nat) (k : Key) (b : Blk) (hp : Heap) : Option (AVal × List Key) := match b with
  | .var cells => (lendXL d cells hp).map fun r => (.pvo r.1 off, k :: r.2)
  | _ => none
theorem ptrX_var (d off : Nat) (k : Key) (cells : List AVal) : ptrX d off k (.var cells) hp = (lendXL d cells hp).map fun r => (.pvo r.1 off, k :: r.2) := rfl
theorem lendX_ptr (d : Nat) (k : Key) (i es off : Nat) : lendX (d + 1) (.ptr k 0 i es off) hp = (hp k).bind fun b => ptrX d (i * es + off) k b hp := by
  simp only [lendX, lend, Rd.run]
  cases hp k with
  | none => rfl
  | some b =>
    cases b with
    | row => rfl
    | obj => rfl
    | var cells =>
      simp only [Option.bind_some, if_true, Rd.run_bind, ptrX, lendXL]
      cases (lendL d cells).run hp <;> rfl
theorem lendX_fn (d : Nat) (f : Fn) (a b : List AVal) : lendX (d + 1) (.fn f a b) hp = (lendXL d a hp).bind fun r => (lendXL d b hp).map fun q => (.fn f r.1 q.1, r.2 ++ q.2) := by
  simp only [lendX, lendXL, lend, Rd.run_bind]
  cases (lendL d a).run hp with
  | none => rfl
  | some r =>
    simp only [Option.bind_some, Rd.run_bind]
    cases (lendL d b).run hp <;> rfl
theorem lendXL_cons (d : Nat) (x : AVal) (xs : List AVal) : lendXL d (x :: xs) hp = (lendX d x hp).bind fun y => (lendXL d xs hp).map fun ys => (y.1 :: ys.1, y.2 ++ ys.2) := by
  simp only [lendX, lendXL, lendL, Rd.run_bind]
  cases (lend d x).run hp with
  | none => rfl
  | some a =>
    simp only [Option.bind_some]
    cases (lendL d xs).run hp <;> rfl
def dropK (v : AVal) (ks : List Key) (hp : Heap) : Heap := applyW hp (if hasRef v = true then ks.map fun k => (k, none) else [])
theorem dropK_eq (v : AVal) (ks : List Key) : dropK v ks hp = applyW hp (if hasRef v = true then ks.map fun k => (k, none) else []) := rfl
theorem callX_names {C : Cfg} {inl : Inl} {g : FuncId} {F : List AVal → Option AVal} {xs : List AVal} {nc : Nat} (hg : C.Γ g = some F) :
    callX C inl (.fn (.func g) [] []) xs hp nc = (lendXL 64 xs hp).bind fun r => (F r.1).map fun v => (v, dropK v r.2 hp, nc) := by
  simp only [callX, target, List.nil_append, List.append_nil, hg, runP, callR, Rd.run_bind, lendXL, freeze, dropK]
  cases (lendL 64 xs).run hp with
  | none => rfl
  | some r =>
    simp only [Option.bind_some]
    cases F r.1 <;> rfl
def nres (key : Key) (r : Option (Option (Nat × List AVal))) (hp : Heap) (nc : Nat) : Option (AVal × Heap × Nat) := match r with
  | some (some p) => if hasRefL p.2 = false then some (.sl key 0 p.1 0 p.2.length, upd hp key (some (.row 0 p.1 p.2)), nc) else none
  | some none => some (.nils, hp, nc)
  | none => none
theorem nres_row (key : Key) (es : Nat) (l : List AVal) (hp : Heap) (nc : Nat) : nres key (some (some (es, l))) hp nc = if hasRefL l = false then some (.sl key 0 es 0 l.length, upd hp key (some (.row 0 es l)), nc) else none := rfl
theorem nres_nil (key : Key) (hp : Heap) (nc : Nat) : nres key (some none) hp nc = some (.nils, hp, nc) := rfl
def nresM (key : Key) (o : Option (List (AVal × AVal × Nat))) (n : Nat) (ks : List Key) (hp : Heap) (nc : Nat) : Option (AVal × Heap × Nat) := match o with
  | some es => if ks.isEmpty = true then some (.mp key, upd hp key (some (.obj (.map es n))), nc) else none
  | none => none
theorem nresM_some (key : Key) (es : List (AVal × AVal × Nat)) (n : Nat) (ks : List Key) (hp : Heap) (nc : Nat) : nresM key (some es) n ks hp nc = if ks.isEmpty = true then some (.mp key, upd hp key (some (.obj (.map es n))), nc) else none := rfl
def nresN (key : Key) (r : Option (Option (Nat × List AVal))) (ks : List Key) (hp : Heap) (nc : Nat) : Option (AVal × Heap × Nat) := match r with
  | some (some p) => if p.1 = 0 then nresM key (entsOf 0 p.2) p.2.length ks hp nc else nres key (some (some p)) hp nc
  | r => nres key r hp nc
theorem nresN_row (key : Key) (es : Nat) (l : List AVal) (ks : List Key) (hp : Heap) (nc : Nat) : nresN key (some (some (es, l))) ks hp nc = if es = 0 then nresM key (entsOf 0 l) l.length ks hp nc else nres key (some (some (es, l))) hp nc := rfl
theorem nresN_nil (key : Key) (ks : List Key) (hp : Heap) (nc : Nat) : nresN key (some none) ks hp nc = some (.nils, hp, nc) := rfl
theorem entsOf_nil (i : Nat) : entsOf i [] = some [] := rfl
theorem entsOf_cons (i : Nat) (k v : AVal) (r : List AVal) : entsOf i (.tup [k, v] :: r) = (entsOf (i + 1) r).map fun es => (k, v, i) :: es := rfl
def callNX (F : List AVal → Option (Option (Nat × List AVal))) (key : Key) (xs : List AVal) (hp : Heap) (nc : Nat) : Option (AVal × Heap × Nat) := (lendXL 64 xs hp).bind fun p => nresN key (F p.1) p.2 hp nc
theorem op_callN {C : Cfg} {inl : Inl} {key : Key} {tm : Nat → AVal} {nc : Nat} {g : FuncId} {F : List AVal → Option (Option (Nat × List AVal))} {xs : List XArg} (hg : C.Γn g = some F) :
    opV C inl key (.callN (.c (.fn (.func g) [] [])) xs) tm hp nc = callNX F key (xs.map (arg tm)) hp nc := by
  simp only [opV, rdOf, arg, target, List.nil_append, List.append_nil, hg, runP, callNR, Rd.run_bind, freeze, callNX, lendXL]
  cases (lendL 64 (xs.map (arg tm))).run hp with
  | none => rfl
  | some r =>
    simp only [Option.bind_some]
    cases F r.1 with
    | none => rfl
    | some q =>
      cases q with
      | none => simp only [nresN, nres, Rd.run, Option.map_some, applyW]
      | some p =>
        simp only [nresN, nres]
        by_cases h0 : p.1 = 0
        · rw [if_pos h0, if_pos h0]
          cases entsOf 0 p.2 with
          | none => rfl
          | some es =>
            simp only [nresM]
            split
            · simp only [Rd.run, Option.map_some, applyW]
            · rfl
        · rw [if_neg h0, if_neg h0]
          split
          · simp only [Rd.run, Option.map_some, applyW]
          · rfl
def ftNM (key : Key) (o : Option (List (AVal × AVal × Nat))) (ks : List Key) : Foot := match o with
  | some _ => if ks.isEmpty = true then (.kn ks, [key]) else (.kn ks, [])
  | none => (.kn ks, [])
theorem ftNM_some (key : Key) (es : List (AVal × AVal × Nat)) (ks : List Key) : ftNM key (some es) ks = if ks.isEmpty = true then (.kn ks, [key]) else (.kn ks, []) := rfl
def ftN (key : Key) (r : Option (Option (Nat × List AVal))) (ks : List Key) : Foot := match r with
  | some (some p) => if p.1 = 0 then ftNM key (entsOf 0 p.2) ks else if hasRefL p.2 = false then (.kn ks, [key]) else (.kn ks, [])
  | _ => (.kn ks, [])
theorem ftN_row (key : Key) (es : Nat) (l : List AVal) (ks : List Key) : ftN key (some (some (es, l))) ks = if es = 0 then ftNM key (entsOf 0 l) ks else if hasRefL l = false then (.kn ks, [key]) else (.kn ks, []) := rfl
theorem ftN_nil (key : Key) (ks : List Key) : ftN key (some none) ks = (.kn ks, []) := rfl
def ftNL (F : List AVal → Option (Option (Nat × List AVal))) (key : Key) (o : Option (List AVal × List Key)) (rd : List Key) : Foot := match o with
  | some r => ftN key (F r.1) r.2
  | none => (.kn rd, [])
theorem ftNL_some (F : List AVal → Option (Option (Nat × List AVal))) (key : Key) (r : List AVal × List Key) (rd : List Key) : ftNL F key (some r) rd = ftN key (F r.1) r.2 := rfl
theorem ft_callN {C : Cfg} {key : Key} {tm : Nat → AVal} {hp' : Heap} {g : FuncId} {F : List AVal → Option (Option (Nat × List AVal))} {xs : List XArg} (hg : C.Γn g = some F) :
    ftV C key (.callN (.c (.fn (.func g) [] [])) xs) tm hp hp' = ftNL F key (lendXL 64 (xs.map (arg tm)) hp) ((lendL freeze (xs.map (arg tm))).reads hp) := by
  simp only [ftV, rdOf, arg, target, List.nil_append, List.append_nil, hg, footP, callNR, Rd.run_bind, Rd.reads_bind]
  cases h : lendXL 64 (xs.map (arg tm)) hp with
  | none =>
    simp only [lendXL] at h
    simp only [freeze, h, ftNL, Option.bind_none]
    simp
  | some p =>
    obtain ⟨ys, ks⟩ := p
    have e := lendL_reads hp 64 _ ys ks h
    simp only [lendXL] at h
    simp only [freeze, e, h, Option.bind_some, ftNL]
    cases F ys with
    | none => simp [ftN, Rd.run, Rd.reads]
    | some q =>
      cases q with
      | none => simp [ftN, Rd.run, Rd.reads]
      | some p =>
        simp only [ftN]
        by_cases h0 : p.1 = 0
        · rw [if_pos h0, if_pos h0]
          cases entsOf 0 p.2 with
          | none => simp [ftNM, Rd.run, Rd.reads]
          | some es =>
            simp only [ftNM]
            split <;> simp [Rd.run, Rd.reads]
        · rw [if_neg h0, if_neg h0]
          split <;> simp [Rd.run, Rd.reads]
def ftC (F : List AVal → Option AVal) (xs : List AVal) (hp : Heap) : Foot := footP (.inl (callR F xs)) hp hp
theorem ftC_names {C : Cfg} {key : Key} {tm : Nat → AVal} {hp' : Heap} {g : FuncId} {F : List AVal → Option AVal} (hg : C.Γ g = some F) (xs : List XArg) : ftV C key (.call (.c (.fn (.func g) [] [])) xs) tm hp hp' = ftC F (xs.map (arg tm)) hp := by
  simp only [ftV, rdOf, arg, target, List.nil_append, List.append_nil, hg, ftC]
  rfl
def ftK (o : Option AVal) (ks : List Key) : Foot := match o with
  | some v => (.kn ks, if hasRef v = true then ks else [])
  | none => (.kn ks, [])
theorem ftK_some (v : AVal) (ks : List Key) : ftK (some v) ks = (.kn ks, if hasRef v = true then ks else []) := rfl
theorem ftC_eq {F : List AVal → Option AVal} {xs ys : List AVal} {ks : List Key} (h : lendXL 64 xs hp = some (ys, ks)) : ftC F xs hp = ftK (F ys) ks := by
  have e := lendL_reads hp 64 xs ys ks h
  simp only [ftC, footP, callR, Rd.run_bind, Rd.reads_bind, freeze]
  rw [e]
  simp only [lendXL] at h
  rw [h]
  simp only [Option.bind_some]
  cases F ys with
  | none => simp [ftK, Rd.reads, Rd.run]
  | some v =>
    simp only [ftK, Rd.reads, Rd.run, List.append_nil]
    split
    · simp [List.map_map, Function.comp_def]
    · rfl
def ftL (F : List AVal → Option AVal) (o : Option (List AVal × List Key)) (rd : List Key) : Foot := match o with
  | some r => ftK (F r.1) r.2
  | none => (.kn rd, [])
theorem ftL_some (F : List AVal → Option AVal) (r : List AVal × List Key) (rd : List Key) : ftL F (some r) rd = ftK (F r.1) r.2 := rfl
theorem ftC_fun (F : List AVal → Option AVal) (xs : List AVal) : ftC F xs hp = ftL F (lendXL 64 xs hp) ((lendL freeze xs).reads hp) := by
  cases h : lendXL 64 xs hp with
  | some r => obtain ⟨ys, ks⟩ := r; rw [ftC_eq h]; rfl
  | none =>
    simp only [ftC, footP, callR, Rd.run_bind, Rd.reads_bind, freeze, ftL]
    simp only [lendXL] at h
    rw [h]
    simp
theorem hasRef_int (k : IntKind) (n : Int) : hasRef (.int k n) = false := rfl
theorem hasRef_bool (b : Bool) : hasRef (.bool b) = false := rfl
theorem hasRef_str (s : ByteArray) : hasRef (.str s) = false := rfl
theorem hasRef_nils : hasRef .nils = false := rfl
theorem hasRef_emp : hasRef .emp = false := rfl
theorem hasRef_slc (es : Nat) (xs : List AVal) : hasRef (.slc es xs) = true := rfl
theorem hasRef_agg (xs : List AVal) : hasRef (.agg xs) = hasRefL xs := rfl
theorem hasRef_tup (xs : List AVal) : hasRef (.tup xs) = hasRefL xs := rfl
theorem hasRefL_nil : hasRefL [] = false := rfl
theorem hasRefL_cons (x : AVal) (xs : List AVal) : hasRefL (x :: xs) = (hasRef x || hasRefL xs) := rfl
end
attribute [go_sem ↓] ftC_fun
attribute [go_sem] nres_row nres_nil nresN_row nresN_nil nresM_some entsOf_nil entsOf_cons ftNM_some List.isEmpty_nil ftN_row ftN_nil ftNL_some
attribute [go_sem ↓] callNX
theorem hasRef_ifc (t : TypeId) (v : AVal) : hasRef (.ifc t v) = hasRef v := rfl
theorem hasRef_nili : hasRef .nili = false := rfl
attribute [go_sem] hasRef_ifc hasRef_nili
attribute [go_sem] ftL_some cs_row Bool.false_eq_true Bool.or_self lendX_plain lendXL_plain lendX_sl lendX_agg lendX_ptr ptrX_var lendX_fn lendXL_cons ftK_some hasRef_int hasRef_bool hasRef_str hasRef_nils hasRef_emp hasRef_slc hasRef_agg hasRef_tup hasRefL_nil hasRefL_cons
theorem plainL_ints (d : Nat) (k : IntKind) : ∀ (l : List Int), plainL d (l.map (AVal.int k)) = true
  | [] => plainL_nil d
  | x :: l => by rw [List.map_cons, plainL_cons, plain_int, plainL_ints d k l]; rfl
theorem Ends_row {k : Key} {g es len : Nat} {hp : Heap} {xs : List AVal} {r : AVal} (hk : hp k = some (.row g es xs)) (hl : len = xs.length) (hpl : plainL 63 xs = true) (hr : r = .slc es xs) : Ends (.sl k g es 0 len) hp r := by
  subst hl; subst hr
  rw [Ends_eq, show (64 : Nat) = 63 + 1 from rfl, lendV_sl, hk]
  simp only [Option.bind_some, els_row, Nat.zero_add, Nat.le_refl, if_true, List.drop_zero, List.take_length, lendVL_plain hpl, Option.map_some]
attribute [go_sem] plainL_ints
theorem wrap_u64 (n : Int) : IntKind.u64.wrap n = n % 18446744073709551616 := by
  simp [IntKind.wrap, IntKind.signed, IntKind.bits]
theorem wrap_u8 (n : Int) : IntKind.u8.wrap n = n % 256 := by
  simp [IntKind.wrap, IntKind.signed, IntKind.bits]
section
variable (k : IntKind) (a b : Int)
theorem binA_add : binA .add (.int k a) (.int k b) = some (.int k (k.wrap (a + b))) := by simp [binA, isShift, intBin]
theorem binA_sub : binA .sub (.int k a) (.int k b) = some (.int k (k.wrap (a - b))) := by simp [binA, isShift, intBin]
theorem binA_mul : binA .mul (.int k a) (.int k b) = some (.int k (k.wrap (a * b))) := by simp [binA, isShift, intBin]
theorem binA_quo (h : b ≠ 0) : binA .quo (.int k a) (.int k b) = some (.int k (k.wrap (a.tdiv b))) := by simp [binA, isShift, intBin, h]
theorem binA_rem (h : b ≠ 0) : binA .rem (.int k a) (.int k b) = some (.int k (a.tmod b)) := by simp [binA, isShift, intBin, h]
theorem binA_eql : binA .eql (.int k a) (.int k b) = some (.bool (decide (a = b))) := by
  simp only [binA, isShift, intBin, if_true, Bool.false_eq_true, if_false]; rfl
theorem binA_neq : binA .neq (.int k a) (.int k b) = some (.bool (decide (a ≠ b))) := by
  simp only [binA, isShift, intBin, if_true, Bool.false_eq_true, if_false]
  congr 2
  by_cases h : a = b <;> simp [h]
theorem binA_lss : binA .lss (.int k a) (.int k b) = some (.bool (decide (a < b))) := by simp [binA, isShift, intBin]
theorem binA_leq : binA .leq (.int k a) (.int k b) = some (.bool (decide (a ≤ b))) := by simp [binA, isShift, intBin]
theorem binA_gtr : binA .gtr (.int k a) (.int k b) = some (.bool (decide (b < a))) := by simp [binA, isShift, intBin]
theorem binA_geq : binA .geq (.int k a) (.int k b) = some (.bool (decide (b ≤ a))) := by simp [binA, isShift, intBin]
theorem binA_and_u64 (m : Nat) (hm : m ≤ 64) : binA .and (.int .u64 a) (.int .u64 (2 ^ m - 1)) = some (.int .u64 (a % 2 ^ m)) := by
  simp only [binA, isShift, intBin, if_true, Bool.false_eq_true, if_false, wrap_u64]
  congr 2
  have h1 : ((BitVec.ofInt 64 a &&& BitVec.ofInt 64 (2 ^ m - 1)).toNat : Int) = a % 2 ^ m := by
    have e1 : BitVec.ofInt 64 ((2 : Int) ^ m - 1) = BitVec.ofNat 64 (2 ^ m - 1) := by
      have e : ((2 : Int) ^ m - 1) = ((2 ^ m - 1 : Nat) : Int) := by
        have : 1 ≤ 2 ^ m := Nat.one_le_two_pow
        rw [Int.natCast_sub this]
        simp
      rw [e]
      simp
    rw [e1, BitVec.toNat_and, BitVec.toNat_ofNat]
    have hlt : 2 ^ m - 1 < 2 ^ 64 := by
      have := Nat.pow_le_pow_right (show 0 < 2 by decide) hm
      have : 1 ≤ 2 ^ m := Nat.one_le_two_pow
      omega
    rw [Nat.mod_eq_of_lt hlt, Nat.and_two_pow_sub_one_eq_mod]
    simp only [BitVec.toNat_ofInt]
    have hp : (2 : Int) ^ 64 = 2 ^ m * 2 ^ (64 - m) := by
      rw [← Int.pow_add]; congr 1; omega
    have h2 : (((a % ((2 ^ 64 : Nat) : Int)).toNat : Nat) : Int) = a % 2 ^ 64 := by
      rw [Int.toNat_of_nonneg (Int.emod_nonneg _ (by decide))]
      rfl
    rw [Int.natCast_emod, h2]
    show a % 2 ^ 64 % ((2 ^ m : Nat) : Int) = _
    rw [Int.natCast_pow]
    show a % 2 ^ 64 % 2 ^ m = _
    rw [hp, Int.emod_emod_of_dvd _ ⟨_, rfl⟩]
  rw [show IntKind.u64.bits = 64 from rfl, h1]
  have hp : (0 : Int) < 2 ^ m := Int.pow_pos (by decide)
  have := Int.emod_nonneg a (Int.ne_of_gt hp)
  have := Int.emod_lt_of_pos a hp
  have h3 : (2 : Int) ^ m ≤ 18446744073709551616 := by
    have := Nat.pow_le_pow_right (show 0 < 2 by decide) hm
    have h4 : ((2 ^ m : Nat) : Int) ≤ ((2 ^ 64 : Nat) : Int) := by exact_mod_cast this
    rw [Int.natCast_pow] at h4
    exact h4
  rw [Int.emod_eq_of_lt (by omega) (by omega)]
theorem binA_and32 : binA .and (.int .u64 a) (.int .u64 4294967295) = some (.int .u64 (a % 4294967296)) := binA_and_u64 a 32 (by decide)
theorem binA_shr : binA .shr (.int .u64 a) (.int .u64 32) = some (.int .u64 (a / 4294967296)) := by
  simp only [binA, isShift, if_true, shiftBin]
  simp [IntKind.bits]
  rw [Int.fdiv_eq_ediv_of_nonneg _ (by decide)]
theorem binA_shr_u64 (h0 : 0 ≤ b) (h1 : b < 64) : binA .shr (.int .u64 a) (.int .u64 b) = some (.int .u64 (a / 2 ^ b.toNat)) := by
  simp only [binA, isShift, if_true, shiftBin, if_neg (Int.not_lt.2 h0)]
  have e : min b.toNat IntKind.u64.bits = b.toNat := by
    have : IntKind.u64.bits = 64 := rfl
    omega
  rw [e, Int.fdiv_eq_ediv_of_nonneg _ (Int.le_of_lt (Int.pow_pos (by decide)))]
end
attribute [go_sem] wrap_i64 binA_quo binA_rem binA_shr_u64 binA_add binA_sub binA_mul binA_eql binA_neq binA_lss binA_leq binA_gtr binA_geq wrap_u64 wrap_u8
abbrev i64s (l : List Int) : List AVal := l.map (AVal.int .i64)
def Rw (a : AVal) (l : List Int) : Prop := (a = .nils ∧ l = []) ∨ (a = .emp ∧ l = []) ∨ a = .slc 1 (i64s l)
theorem Rw.nils : Rw .nils [] := .inl ⟨rfl, rfl⟩
theorem Rw.slc (l : List Int) : Rw (.slc 1 (i64s l)) l := .inr (.inr rfl)
def rwTake (h : Nat) : AVal → AVal
  | .slc es xs => .slc es (xs.take h)
  | x => x
def rwDrop (h : Nat) : AVal → AVal
  | .slc es xs => .slc es (xs.drop h)
  | x => x
section
variable {a : AVal} {l : List Int} {hp : Heap}
theorem Rw.len (h : Rw a l) : lenVA a = some (.int .i64 l.length) := by
  rcases h with ⟨rfl, rfl⟩ | ⟨rfl, rfl⟩ | rfl
  · rfl
  · rfl
  · simp [lenVA]
theorem Rw.elems (h : Rw a l) : elemsA 1 a hp = some (i64s l) := by
  rcases h with ⟨rfl, rfl⟩ | ⟨rfl, rfl⟩ | rfl
  · rfl
  · rfl
  · exact elemsA_slc 1 _
theorem Rw.plain (h : Rw a l) (d : Nat) : plain d a = true := by
  rcases h with ⟨rfl, rfl⟩ | ⟨rfl, rfl⟩ | rfl
  · exact plain_nils d
  · exact plain_emp d
  · exact plain_slc d _ _
theorem Rw.cells (h : Rw a l) : cellsOf a = [a] := by
  rcases h with ⟨rfl, rfl⟩ | ⟨rfl, rfl⟩ | rfl <;> rfl
theorem Rw.sc (h : Rw a l) : isSc a = true := by
  rcases h with ⟨rfl, rfl⟩ | ⟨rfl, rfl⟩ | rfl <;> rfl
theorem Rw.ia (h : Rw a l) {i : Nat} (hi : i < l.length) : iaSA 1 a (.int .i64 i) = some (.pvo [.int .i64 (l.getD i 0)] 0) := by
  rcases h with ⟨rfl, rfl⟩ | ⟨rfl, rfl⟩ | rfl
  · simp at hi
  · simp at hi
  · rw [iaSA_slc]
    simp [List.getElem?_map, List.getElem?_eq_getElem hi, cellsOf]
theorem Rw.take (h : Rw a l) (n : Nat) : Rw (rwTake n a) (l.take n) := by
  rcases h with ⟨rfl, rfl⟩ | ⟨rfl, rfl⟩ | rfl
  · exact .inl ⟨rfl, by simp⟩
  · exact .inr (.inl ⟨rfl, by simp⟩)
  · exact .inr (.inr (by simp [rwTake, List.map_take]))
theorem Rw.sliceTo (h : Rw a l) {n : Nat} (hn : n ≤ l.length) : slVA 1 a none (some (.int .i64 n)) none = some (rwTake n a) := by
  rcases h with ⟨rfl, rfl⟩ | ⟨rfl, rfl⟩ | rfl
  · obtain rfl : n = 0 := by simpa using hn
    rfl
  · obtain rfl : n = 0 := by simpa using hn
    rfl
  · simp [slVA, bnd, rwTake, hn]
end
def wrO (os : List XOper) (t : Nat) : Bool := match os with
  | [] => false
  | o :: os => (match o.dst with | some d => d == t | none => false) || wrO os t
def wrC : XCode → Nat → Bool
  | .skip, _ => false
  | .reg _ ops _, t => wrO ops t
  | .seq a b, t => wrC a t || wrC b t
  | .cond _ a b, t => wrC a t || wrC b t
  | .block _ c, t => wrC c t
  | .scope c, t => wrC c t
  | .loop c, t => wrC c t
  | .exit _, _ => false
  | .ret, _ => false
  | .bad, _ => false
theorem stepO_tm {C : Cfg} {inl : Inl} {key : Key} {o : XOper} {st st' : St} (h : stepO C inl key o st = some st') {t : Nat} (ht : o.dst ≠ some t) : st'.tm t = st.tm t := by
  unfold stepO at h
  cases hp : progO C key o st.tm with
  | none => rw [hp] at h; cases h
  | some p =>
    rw [hp] at h
    simp only at h
    cases hr : runP inl p st.hp st.nc with
    | none => rw [hr] at h; cases h
    | some r =>
      rw [hr] at h
      simp only [Option.map_some, Option.some.injEq] at h
      subst h
      simp only [putO]
      cases hd : o.dst with
      | none => rfl
      | some d =>
        simp only [updT]
        split
        · rename_i e; subst e; exact absurd hd ht
        · rfl
theorem wrO_cons {o : XOper} {os : List XOper} {t : Nat} (h : wrO (o :: os) t = false) : o.dst ≠ some t ∧ wrO os t = false := by
  simp only [wrO, Bool.or_eq_false_iff] at h
  refine ⟨fun e => ?_, h.2⟩
  rw [e] at h
  simp at h
theorem runOps_tm {C : Cfg} {inl : Inl} {fid rid c : Nat} {t : Nat} : ∀ {os : List XOper} {i : Nat} {st st' : St}, wrO os t = false → runOps C inl fid rid c i os st = some st' → st'.tm t = st.tm t
  | [], i, st, st', _, h => by simp only [runOps, Option.some.injEq] at h; subst h; rfl
  | o :: os, i, st, st', hw, h => by
    obtain ⟨h1, h2⟩ := wrO_cons hw
    simp only [runOps] at h
    cases hs : stepO C inl (site fid rid i, c) o st with
    | none => rw [hs] at h; cases h
    | some s =>
      rw [hs] at h
      exact (runOps_tm h2 h).trans (stepO_tm hs h1)
theorem runOpsF_tm {C : Cfg} {inl : Inl} {fid rid c : Nat} {t : Nat} : ∀ {os : List XOper} {i : Nat} {st st' : St} {fs : List Foot}, wrO os t = false → runOpsF C inl fid rid c i os st = some (st', fs) → st'.tm t = st.tm t
  | [], i, st, st', fs, _, h => by simp only [runOpsF, Option.some.injEq, Prod.mk.injEq] at h; rw [← h.1]
  | o :: os, i, st, st', fs, hw, h => by
    obtain ⟨h1, h2⟩ := wrO_cons hw
    simp only [runOpsF] at h
    cases hs : stepO C inl (site fid rid i, c) o st with
    | none => rw [hs] at h; cases h
    | some s =>
      rw [hs] at h
      simp only [Option.bind_some] at h
      cases hq : runOpsF C inl fid rid c (i + 1) os s with
      | none => rw [hq] at h; cases h
      | some q =>
        rw [hq] at h
        simp only [Option.map_some, Option.some.injEq, Prod.mk.injEq] at h
        obtain ⟨q1, q2⟩ := q
        rw [← h.1]
        exact (runOpsF_tm h2 hq).trans (stepO_tm hs h1)
theorem runReg_tm {C : Cfg} {inl : Inl} {fid rid : Nat} {ops : List XOper} {d : Option XDraw} {st st' : St} {t : Nat} (hw : wrO ops t = false) (h : runReg C inl fid rid ops d st = some st') : st'.tm t = st.tm t := by
  unfold runReg at h
  split at h
  · exact (runOps_tm (st := { st with nc := st.nc + 1 }) hw h)
  · split at h
    · exact (runOps_tm (st := { st with nc := st.nc + 1 }) hw h)
    · split at h
      · rename_i hq
        split at h
        · cases h
          exact (runOpsF_tm (st := { st with nc := st.nc + 1 }) hw hq)
        · cases h
      · cases h
theorem iterN_tm {f : St → Res} {t : Nat} (hf : ∀ {s o s'}, f s = some (o, s') → s'.tm t = s.tm t) : ∀ {n : Nat} {st : St} {o : Out} {st' : St}, iterN n f st = some (o, st') → st'.tm t = st.tm t
  | 0, st, o, st', h => by simp [iterN] at h
  | n + 1, st, o, st', h => by
    rw [iterN] at h
    cases hs : f st with
    | none => rw [hs] at h; cases h
    | some r =>
      obtain ⟨o1, s1⟩ := r
      rw [hs] at h
      cases o1 with
      | nrm => exact (iterN_tm hf h).trans (hf hs)
      | ext i => simp only [Option.some.injEq, Prod.mk.injEq] at h; rw [← h.2]; exact hf hs
      | ret => simp only [Option.some.injEq, Prod.mk.injEq] at h; rw [← h.2]; exact hf hs
theorem execC_tm {C : Cfg} {inl : Inl} {fid : Nat} {t : Nat} : ∀ {a : XCode} {st : St} {o : Out} {st' : St}, wrC a t = false → execC C inl fid a st = some (o, st') → st'.tm t = st.tm t
  | .skip, st, o, st', _, h => by simp only [execC, Option.some.injEq, Prod.mk.injEq] at h; rw [← h.2]
  | .exit _, st, o, st', _, h => by simp only [execC, Option.some.injEq, Prod.mk.injEq] at h; rw [← h.2]
  | .ret, st, o, st', _, h => by simp only [execC, Option.some.injEq, Prod.mk.injEq] at h; rw [← h.2]
  | .bad, st, o, st', _, h => by simp [execC] at h
  | .reg id ops d, st, o, st', hw, h => by
    simp only [execC] at h
    cases hr : runReg C inl fid id ops d st with
    | none => rw [hr] at h; cases h
    | some s =>
      rw [hr] at h
      simp only [Option.map_some, Option.some.injEq, Prod.mk.injEq] at h
      rw [← h.2]
      exact runReg_tm hw hr
  | .seq a b, st, o, st', hw, h => by
    simp only [wrC, Bool.or_eq_false_iff] at hw
    simp only [execC] at h
    cases ha : execC C inl fid a st with
    | none => rw [ha] at h; cases h
    | some r =>
      obtain ⟨o1, s1⟩ := r
      rw [ha] at h
      cases o1 with
      | nrm => exact (execC_tm hw.2 h).trans (execC_tm hw.1 ha)
      | ext i => simp only [Option.some.injEq, Prod.mk.injEq] at h; rw [← h.2]; exact execC_tm hw.1 ha
      | ret => simp only [Option.some.injEq, Prod.mk.injEq] at h; rw [← h.2]; exact execC_tm hw.1 ha
  | .cond c a b, st, o, st', hw, h => by
    simp only [wrC, Bool.or_eq_false_iff] at hw
    simp only [execC] at h
    split at h
    · split at h
      · exact execC_tm hw.1 h
      · exact execC_tm hw.2 h
    · cases h
  | .block id a, st, o, st', hw, h => by
    simp only [wrC] at hw
    simp only [execC] at h
    split at h
    · rename_i ha
      split at h
      · simp only [Option.some.injEq, Prod.mk.injEq] at h; rw [← h.2]; exact execC_tm hw ha
      · simp only [Option.some.injEq, Prod.mk.injEq] at h; rw [← h.2]; exact execC_tm hw ha
    · exact execC_tm hw h
  | .scope a, st, o, st', hw, h => by
    simp only [wrC] at hw
    simp only [execC] at h
    exact execC_tm hw h
  | .loop a, st, o, st', hw, h => by
    simp only [wrC] at hw
    simp only [execC] at h
    exact iterN_tm (fun hs => execC_tm hw hs) h
section
variable {C : Cfg} {inl : Inl} {fid : Nat}
theorem Ev.and_tm {a : XCode} {st : St} {Q : Out → St → Prop} (h : Ev (C := C) (inl := inl) fid a st Q) : Ev (C := C) (inl := inl) fid a st fun o s => Q o s ∧ ∀ t, wrC a t = false → s.tm t = st.tm t := by
  unfold Ev Bd at h ⊢
  obtain ⟨r, h1, h2⟩ := h
  exact ⟨r, h1, h2, fun t ht => execC_tm ht h1⟩
theorem Ev_loopW {a : XCode} {Q : Out → St → Prop} {tm0 : Nat → AVal} {hp0 : Heap} {nc0 : Nat} (I : Nat → (Nat → AVal) → Heap → Nat → Prop) {n : Nat}
    (h0 : I n tm0 hp0 nc0) (hn : n < 4611686018427387904)
    (hstep : ∀ n tm hp nc, (∀ t, wrC a t = false → tm t = tm0 t) → I n tm hp nc → Ev (C := C) (inl := inl) fid a ⟨tm, hp, nc⟩ fun o s => Nx o (fun _ => ∃ m, m < n ∧ I m s.tm s.hp s.nc) (fun _ => Q o s)) :
    Ev (C := C) (inl := inl) fid (.loop a) ⟨tm0, hp0, nc0⟩ Q := by
  refine Ev_loop_inv (I := fun n st => (∀ t, wrC a t = false → st.tm t = tm0 t) ∧ I n st.tm st.hp st.nc) ⟨fun t _ => rfl, h0⟩ hn ?_
  rintro n ⟨tm, hp, nc⟩ ⟨hc, hI⟩
  refine (hstep n tm hp nc hc hI).and_tm.mono fun o s h => ?_
  obtain ⟨h, h'⟩ := h
  cases o with
  | nrm =>
    rw [Nx_nrm] at h ⊢
    obtain ⟨m, hm, hI'⟩ := h
    exact ⟨m, hm, fun t ht => (h' t ht).trans (hc t ht), hI'⟩
  | ext i => rw [Nx_ext] at h ⊢; exact h
  | ret => rw [Nx_ret] at h ⊢; exact h
theorem Ev_range {a : XCode} {Q : Out → St → Prop} {tm0 : Nat → AVal} {hp0 : Heap} {nc0 : Nat} (ti len : Nat) (J : Nat → (Nat → AVal) → Heap → Nat → Prop)
    (hn : len < 4611686018427387904) (hi : tm0 ti = .int .i64 0) (h0 : J 0 tm0 hp0 nc0)
    (hstep : ∀ i tm hp nc, i ≤ len → (∀ t, wrC a t = false → tm t = tm0 t) → tm ti = .int .i64 i → J i tm hp nc →
      Ev (C := C) (inl := inl) fid a ⟨tm, hp, nc⟩ fun o s => Nx o (fun _ => i < len ∧ s.tm ti = .int .i64 (i + 1 : Nat) ∧ J (i + 1) s.tm s.hp s.nc) (fun _ => Q o s)) :
    Ev (C := C) (inl := inl) fid (.loop a) ⟨tm0, hp0, nc0⟩ Q := by
  refine Ev_loopW (I := fun n tm hp nc => ∃ i, i ≤ len ∧ n = len - i ∧ tm ti = .int .i64 (i : Nat) ∧ J i tm hp nc) (n := len) ⟨0, by omega, by omega, hi, h0⟩ hn ?_
  rintro n tm hp nc hc ⟨i, hi, rfl, ht, hJ⟩
  refine (hstep i tm hp nc hi hc ht hJ).mono fun o s h => ?_
  cases o with
  | nrm =>
    rw [Nx_nrm] at h ⊢
    obtain ⟨h1, h2, h3⟩ := h
    exact ⟨len - (i + 1), by omega, i + 1, by omega, rfl, h2, h3⟩
  | ext i => rw [Nx_ext] at h ⊢; exact h
  | ret => rw [Nx_ret] at h ⊢; exact h
theorem Ev_rangeH {a : XCode} {Q : Out → St → Prop} {tm0 : Nat → AVal} {hp0 : Heap} {nc0 : Nat} (ti len : Nat) (J : Nat → (Nat → AVal) → Prop)
    (hn : len < 4611686018427387904) (hi : tm0 ti = .int .i64 0) (h0 : J 0 tm0)
    (hstep : ∀ i tm nc, i ≤ len → (∀ t, wrC a t = false → tm t = tm0 t) → tm ti = .int .i64 i → J i tm →
      Ev (C := C) (inl := inl) fid a ⟨tm, hp0, nc⟩ fun o s => Nx o (fun _ => i < len ∧ s.tm ti = .int .i64 (i + 1 : Nat) ∧ s.hp = hp0 ∧ J (i + 1) s.tm) (fun _ => Q o s)) :
    Ev (C := C) (inl := inl) fid (.loop a) ⟨tm0, hp0, nc0⟩ Q := by
  refine Ev_range (J := fun i tm hp nc => hp = hp0 ∧ J i tm) ti len hn hi ⟨rfl, h0⟩ ?_
  rintro i tm hp nc hi hc ht ⟨rfl, hJ⟩
  exact hstep i tm nc hi hc ht hJ
end
theorem sound_self {P : Program} {C : Cfg} (ok : CfgOk P C) (d : Nat) (f : FuncId) : Sound P f (pureF C d f) := sound_of ok d fun _ _ h => h
theorem liveA_ptr (k : Key) (g i es off : Nat) : liveA (.ptr k g i es off) = true := rfl
theorem liveA_pvo (cs : List AVal) (off : Nat) : liveA (.pvo cs off) = true := rfl
theorem liveA_fn (f : FuncId) (a b : List AVal) : liveA (.fn (.func f) a b) = true := rfl
theorem liveA_ifc (t : TypeId) (v : AVal) : liveA (.ifc t v) = true := rfl
theorem mnx_max {k : IntKind} {a b : Int} : mnxA true (.int k a) [.int k b] = some (.int k (max a b)) := by
  simp only [mnxA, if_true]
  congr 2
  split <;> omega
attribute [go_sem] liveA_ptr liveA_pvo liveA_fn liveA_ifc
section
variable {hp : Heap}
theorem rngSA_str (s : ByteArray) : rngSA (.str s) = some s := rfl
def nxtB (k : Key) (b : Blk) (hp : Heap) : Option (AVal × Heap) := match b with
  | .obj (.iter s pos) => if pos < s.size then some (.tup [.bool true, .int .i64 pos, .int .i32 (Utf8.decode s pos).1], upd hp k (some (.obj (.iter s (pos + (Utf8.decode s pos).2))))) else some (.tup [.bool false], hp)
  | _ => none
theorem nxtB_iter (k : Key) (s : ByteArray) (pos : Nat) : nxtB k (.obj (.iter s pos)) hp = if pos < s.size then some (.tup [.bool true, .int .i64 pos, .int .i32 (Utf8.decode s pos).1], upd hp k (some (.obj (.iter s (pos + (Utf8.decode s pos).2))))) else some (.tup [.bool false], hp) := rfl
theorem nxtSA_ptr (k : Key) (es : Nat) : nxtSA (.ptr k 0 0 es 0) hp = (hp k).bind fun b => nxtB k b hp := by
  simp only [nxtSA, nxtSR, Rd.run]
  cases hp k with
  | none => rfl
  | some b =>
    cases b with
    | var => rfl
    | row => rfl
    | obj a =>
      cases a with
      | map => rfl
      | iter s pos =>
        simp only [Option.bind_some, nxtB]
        split <;> rfl
theorem bytesOf_nil : bytesOf [] = some [] := rfl
theorem bytesOf_cons (n : Int) (r : List AVal) : bytesOf (.int .u8 n :: r) = (bytesOf r).map (UInt8.ofNat n.toNat :: ·) := rfl
theorem b2sA_sl (k : Key) (g es off len : Nat) : b2sA (.sl k g es off len) hp = (elemsA 1 (.sl k g es off len) hp).bind fun ys => (bytesOf ys).map fun s => .str ⟨s.toArray⟩ := rfl
theorem b2sA_slc (es : Nat) (xs : List AVal) : b2sA (.slc es xs) hp = (elemsA 1 (.slc es xs) hp).bind fun ys => (bytesOf ys).map fun s => .str ⟨s.toArray⟩ := rfl
def mapB (b : Blk) : Option (List (AVal × AVal × Nat) × Nat) := match b with
  | .obj (.map es cl) => some (es, cl)
  | _ => none
theorem mapB_map (es : List (AVal × AVal × Nat)) (cl : Nat) : mapB (.obj (.map es cl)) = some (es, cl) := rfl
theorem lkpA_mp (kd : Nat) (c : Bool) (z : AVal) (k : Key) (i : AVal) : lkpA kd c z (.mp k) i hp = (hp k).bind fun b => (mapB b).bind fun m => (findA kd i m.1 0).bind fun r => match r with
    | some (_, v, _) => some (if c then .tup [v, .bool true] else v, hp)
    | none => some (if c then .tup [z, .bool false] else z, hp) := by
  simp only [lkpA, lkpR, Rd.run]
  cases hp k with
  | none => rfl
  | some b =>
    cases b with
    | var => rfl
    | row => rfl
    | obj a =>
      cases a with
      | iter => rfl
      | map es cl =>
        simp only [Option.bind_some, mapB]
        cases findA kd i es 0 with
        | none => rfl
        | some r =>
          cases r with
          | none => rfl
          | some q => obtain ⟨j, v, n⟩ := q; rfl
theorem msetA_mp (kd : Nat) (k : Key) (i v : AVal) : msetA kd (.mp k) i v hp = (hp k).bind fun b => (mapB b).bind fun m => (findA kd i m.1 0).bind fun r => match r with
    | some (j, _, n) => some (.undef, upd hp k (some (.obj (.map (m.1.set j (i, v, n)) m.2))))
    | none => some (.undef, upd hp k (some (.obj (.map (m.1 ++ [(i, v, m.2)]) (m.2 + 1))))) := by
  simp only [msetA, msetR, Rd.run]
  cases hp k with
  | none => rfl
  | some b =>
    cases b with
    | var => rfl
    | row => rfl
    | obj a =>
      cases a with
      | iter => rfl
      | map es cl =>
        simp only [Option.bind_some, mapB]
        cases findA kd i es 0 with
        | none => rfl
        | some r =>
          cases r with
          | none => rfl
          | some q => obtain ⟨j, v, n⟩ := q; rfl
end
def callAX (q : TypeId × TypeId × Nat) (xs : List AVal) (hp : Heap) (nc : Nat) : Option (AVal × Heap × Nat) := ((callAR q.1 q.2.1 q.2.2 xs).run hp).map fun r => (r.1, applyW hp r.2, nc)
theorem callAX_nil (q : TypeId × TypeId × Nat) (v : AVal) (hp : Heap) (nc : Nat) : callAX q [.nili, v] hp nc = some (.bool false, hp, nc) := rfl
attribute [go_sem] callAX_nil
attribute [go_sem] rngSA_str nxtB_iter nxtSA_ptr bytesOf_nil bytesOf_cons b2sA_sl b2sA_slc mapB_map lkpA_mp msetA_mp
def Own (ss : List Nat) (es : Nat) (hp : Heap) (v : AVal) (xs : List AVal) : Prop :=
  (v = .nils ∧ xs = []) ∨ ∃ s c g, s ∈ ss ∧ v = .sl (s, c) g es 0 xs.length ∧ hp (s, c) = some (.row g es xs)
theorem Own.nils (ss : List Nat) (es : Nat) (hp : Heap) : Own ss es hp .nils [] := .inl ⟨rfl, rfl⟩
theorem Own.sl {ss : List Nat} {es : Nat} {hp : Heap} {s c g n : Nat} {xs : List AVal} (hs : s ∈ ss) (hn : n = xs.length) (h : hp (s, c) = some (.row g es xs)) : Own ss es hp (.sl (s, c) g es 0 n) xs :=
  .inr ⟨s, c, g, hs, by rw [hn], h⟩
theorem Own.keep {ss : List Nat} {es : Nat} {hp hp' : Heap} {v : AVal} {xs : List AVal} (h : Own ss es hp v xs) (hk : ∀ k, k.1 ∈ ss → hp' k = hp k) : Own ss es hp' v xs := by
  rcases h with h | ⟨s, c, g, hs, h1, h2⟩
  · exact .inl h
  · exact .inr ⟨s, c, g, hs, h1, (hk _ hs).trans h2⟩
theorem Own.app {ss : List Nat} {es bytes : Nat} {key : Key} {hp : Heap} {v y : AVal} {xs ys : List AVal} (h : Own ss es hp v xs) (hk : key.1 ∈ ss) (he : elemsA es y hp = some ys) (hl : plainL freeze ys = true)
    (hsc : (ys.all fun e => (cellsOf e).all isSc) = true) (hb : (xs.length + ys.length) * bytes ≤ 140737488355328) :
    ∃ v' hp', appA es bytes key v y hp = some (v', hp') ∧ Own ss es hp' v' (xs ++ ys) ∧ ∀ k, k.1 ∉ ss → hp' k = hp k := by
  rcases h with ⟨rfl, rfl⟩ | ⟨s, c, g, hs, rfl, h2⟩
  · rw [appA_nils, he, Option.bind_some, lendA_plain hl, Option.bind_some]
    simp only [List.map_nil, List.nil_append, applyW]
    cases ys with
    | nil => exact ⟨.nils, hp, by simp, Own.nils _ _ _, fun _ _ => rfl⟩
    | cons y0 ys0 =>
      rw [if_neg (by simp), if_pos (by simpa using hb)]
      refine ⟨_, _, rfl, Own.sl (s := key.1) (c := key.2) hk rfl (upd_same _ _ _), fun k hk' => upd_ne _ _ (fun e => hk' (e ▸ hk))⟩
  · rw [appA_sl, he, Option.bind_some, lendA_plain hl, Option.bind_some]
    rw [if_pos (by simp), h2, Option.bind_some, grown_row, if_pos ⟨by simp, hb, hsc⟩]
    simp only [List.map_nil, List.nil_append, applyW, List.drop_zero]
    refine ⟨_, _, rfl, Own.sl hs (by simp) (upd_same _ _ _), fun k hk' => upd_ne _ _ (fun e => hk' (e ▸ hs))⟩
theorem Own.push {ss : List Nat} {es bytes s0 s1 : Nat} {hp : Heap} {v z : AVal} {xs : List AVal} (h : Own ss es hp v xs) (hk : s0 ∈ ss) (hn : s1 ∉ ss) (hl : plain freeze z = true)
    (hsc : (cellsOf z).all isSc = true) (hb : (xs.length + 1) * bytes ≤ 140737488355328) :
    ∃ (V : Nat → Nat → AVal) (H : Nat → Nat → Heap), (∀ c c', appA es bytes (s0, c) v (.sl (s1, c') 0 es 0 1) (upd hp (s1, c') (some (.row 0 es [z]))) = some (V c c', H c c')) ∧
      ∀ c c', Own ss es (H c c') (V c c') (xs ++ [z]) ∧ ∀ k, k.1 ∉ ss → k.1 ≠ s1 → H c c' k = hp k := by
  have := fun c c' => (h.keep (hp' := upd hp (s1, c') (some (.row 0 es [z]))) fun k hk' => upd_ne _ _ (by rintro rfl; exact hn hk')).app (bytes := bytes) (key := (s0, c)) (y := .sl (s1, c') 0 es 0 1) (ys := [z]) hk
    (by rw [elemsA_sl, upd_same]; simp [els_row]) (by rw [plainL_cons, hl, plainL_nil]; rfl) (by simp [hsc]) hb
  refine ⟨fun c c' => (this c c').choose, fun c c' => (this c c').choose_spec.choose, fun c c' => (this c c').choose_spec.choose_spec.1, fun c c' => ⟨(this c c').choose_spec.choose_spec.2.1, fun k h1 h2 => ?_⟩⟩
  exact ((this c c').choose_spec.choose_spec.2.2 k h1).trans (upd_ne _ _ (by rintro rfl; exact h2 rfl))
def sliceOf (es : Nat) (v : AVal) (xs : List AVal) : AVal := match v with
  | .nils => .nils
  | _ => .slc es xs
theorem Own.lend {ss : List Nat} {es : Nat} {hp : Heap} {v : AVal} {xs : List AVal} (h : Own ss es hp v xs) (d : Nat) (hl : plainL d xs = true) : lendV (d + 1) v hp = some (sliceOf es v xs) := by
  rcases h with ⟨rfl, rfl⟩ | ⟨s, c, g, hs, rfl, h2⟩
  · exact lendV_plain (plain_nils _)
  · rw [lendV_sl, h2]
    simp only [Option.bind_some, els_row, Nat.zero_add, Nat.le_refl, if_true, List.drop_zero, List.take_length, lendVL_plain hl, Option.map_some]
    rfl
def rowN (es : Nat) (xs : List AVal) : AVal := match xs with
  | [] => .nils
  | _ => .slc es xs
theorem Own.lendN {ss : List Nat} {es : Nat} {hp : Heap} {v : AVal} {xs : List AVal} (h : Own ss es hp v xs) (h0 : xs = [] → v = .nils) (d : Nat) (hl : plainL d xs = true) {hp' : Heap} (hk : ∀ k, k.1 ∈ ss → hp' k = hp k) : lendV (d + 1) v hp' = some (rowN es xs) := by
  rw [(h.keep hk).lend d hl]
  cases xs with
  | nil => rw [h0 rfl]; rfl
  | cons x l =>
    rcases h with ⟨rfl, h⟩ | ⟨s, c, g, hs, rfl, h2⟩
    · simp at h
    · rfl
theorem Own.lendXs {ss : List Nat} {es : Nat} {hp : Heap} {v : AVal} {xs : List AVal} (h : Own ss es hp v xs) (h0 : xs = [] → v = .nils) (d : Nat) (hl : plainL d xs = true) :
    ∃ ks, (∀ k ∈ ks, k.1 ∈ ss) ∧ ∀ hp', (∀ k, k.1 ∈ ss → hp' k = hp k) → Xec.lendX (d + 1) v hp' = some (rowN es xs, ks) := by
  rcases h with ⟨rfl, rfl⟩ | ⟨s, c, g, hs, rfl, h2⟩
  · exact ⟨[], by simp, fun hp' _ => lendX_plain (plain_nils _)⟩
  · refine ⟨[(s, c)], by simpa using hs, fun hp' hk => ?_⟩
    rw [lendX_sl, hk _ hs, h2]
    simp only [Option.bind_some, els_row, Nat.zero_add, Nat.le_refl, if_true, List.drop_zero, List.take_length, lendXL_plain hl, Option.map_some]
    cases xs with
    | nil => cases h0 rfl
    | cons x l => rfl
theorem dropK_ne {ss : List Nat} {ks : List Key} (hk : ∀ k ∈ ks, k.1 ∈ ss) {k : Key} (h : k.1 ∉ ss) (v : AVal) (hp : Heap) : dropK v ks hp k = hp k := by
  unfold dropK
  split
  · rw [applyW_none, if_neg (fun hm => h (hk k hm))]
  · rfl
theorem rowN_rw (l : List Int) : Rw (rowN 1 (i64s l)) l := by
  cases l with
  | nil => exact Rw.nils
  | cons => exact Rw.slc _
theorem wt_ints {b : Nat} {a : AVal} (h : WT (.slice 1 b (.int .i64)) a) : ∃ l, Rw a l ∧ l.length * b ≤ 140737488351232 ∧ ∀ x ∈ l, IntKind.i64.min ≤ x ∧ x ≤ IntKind.i64.max := by
  simp only [WT] at h
  rcases h with rfl | rfl | ⟨xs, rfl, h1, h2⟩
  · exact ⟨[], Rw.nils, by simp, by simp⟩
  · exact ⟨[], .inr (.inl ⟨rfl, rfl⟩), by simp, by simp⟩
  · have : ∃ l : List Int, xs = i64s l ∧ ∀ x ∈ l, IntKind.i64.min ≤ x ∧ x ≤ IntKind.i64.max := by
      clear h2
      induction xs with
      | nil => exact ⟨[], rfl, by simp⟩
      | cons x xs ih =>
        obtain ⟨n, rfl, hn⟩ := h1 x (by simp)
        obtain ⟨l, rfl, hl⟩ := ih fun y hy => h1 y (by simp [hy])
        refine ⟨n :: l, rfl, ?_⟩
        intro y hy
        rcases List.mem_cons.1 hy with rfl | hy
        · exact hn
        · exact hl y hy
    obtain ⟨l, rfl, hl⟩ := this
    exact ⟨l, Rw.slc l, by simpa using h2, hl⟩
end Go.Xec
namespace Go.Xec
open Go Go.RowKit Go.Sort
def bs (l : List UInt8) : ByteArray := ⟨l.toArray⟩
abbrev sv (l : List UInt8) : AVal := .str (bs l)
theorem bs_mk (l : List UInt8) : (ByteArray.mk l.toArray) = bs l := rfl
theorem bs_size (l : List UInt8) : (bs l).size = l.length := by simp [bs, ByteArray.size]
theorem bs_data (l : List UInt8) : (bs l).data.toList = l := by simp [bs]
theorem bs_inj {l m : List UInt8} : bs l = bs m ↔ l = m := by
  constructor
  · intro h
    have := congrArg (fun s : ByteArray => s.data.toList) h
    simpa [bs] using this
  · rintro rfl; rfl
theorem bs_eq (l m : List UInt8) : ((bs l).toList == (bs m).toList) = decide (l = m) := by
  rw [Bool.eq_iff_iff, Lib.bytes_beq_iff, bs_inj, decide_eq_true_eq]
section
variable (l m : List UInt8)
theorem str_eql : binA .eql (sv l) (sv m) = some (.bool (decide (l = m))) := by simp only [binA, strBin, bs_eq]
theorem str_neq : binA .neq (sv l) (sv m) = some (.bool (decide (¬ l = m))) := by
  simp only [binA, strBin, bs_eq]
  congr 2
  by_cases h : l = m <;> simp [h]
end
theorem decode_get (l : List UInt8) {i : Nat} (h : i < l.length) : (bs l).get! i = l.getD i 0 := by
  have : (bs l).get! i = (bs l).data.getD i default := by
    simp [ByteArray.get!, getElem!_def, Array.getD_eq_getD_getElem?]
    cases (bs l).data[i]? <;> rfl
  rw [this]
  simp [bs, Array.getD_eq_getD_getElem?, List.getD_eq_getElem?_getD, List.getElem?_eq_getElem h]
theorem decode_low (l : List UInt8) {i : Nat} (h : i < l.length) (hb : (l.getD i 0).toNat < 128) : Utf8.decode (bs l) i = ((l.getD i 0).toNat, 1) := by
  unfold Utf8.decode
  simp only [Nat.add_zero, decode_get l h]
  rw [if_pos hb]
theorem decode_high (l : List UInt8) {i : Nat} (h : i < l.length) (hb : 128 ≤ (l.getD i 0).toNat) : 128 ≤ (Utf8.decode (bs l) i).1 := by
  unfold Utf8.decode
  simp only [Nat.add_zero, decode_get l h]
  rw [if_neg (by omega)]
  split
  · split
    · simp only; omega
    · simp [Utf8.runeError]
  · split
    · split
      · rename_i hc; simp only [Bool.and_eq_true, decide_eq_true_eq] at hc; simp only; omega
      · simp [Utf8.runeError]
    · split
      · split
        · rename_i hc; simp only [Bool.and_eq_true, decide_eq_true_eq] at hc; simp only; omega
        · simp [Utf8.runeError]
      · simp [Utf8.runeError]
def Rg (es : Nat) {α : Type} (enc : α → AVal) (a : AVal) (l : List α) : Prop := (a = .nils ∧ l = []) ∨ (a = .emp ∧ l = []) ∨ a = .slc es (l.map enc)
section
variable {es : Nat} {α : Type} {enc : α → AVal} {a : AVal} {l : List α} {hp : Heap}
theorem Rg.nils : Rg es enc .nils [] := .inl ⟨rfl, rfl⟩
theorem Rg.slc (l : List α) : Rg es enc (.slc es (l.map enc)) l := .inr (.inr rfl)
theorem Rg.len (h : Rg es enc a l) : lenVA a = some (.int .i64 l.length) := by
  rcases h with ⟨rfl, rfl⟩ | ⟨rfl, rfl⟩ | rfl
  · rfl
  · rfl
  · simp [lenVA]
theorem Rg.plain (h : Rg es enc a l) (d : Nat) : plain d a = true := by
  rcases h with ⟨rfl, rfl⟩ | ⟨rfl, rfl⟩ | rfl
  · exact plain_nils d
  · exact plain_emp d
  · exact plain_slc d _ _
theorem Rg.cells (h : Rg es enc a l) : cellsOf a = [a] := by
  rcases h with ⟨rfl, rfl⟩ | ⟨rfl, rfl⟩ | rfl <;> rfl
theorem Rg.sc (h : Rg es enc a l) : isSc a = true := by
  rcases h with ⟨rfl, rfl⟩ | ⟨rfl, rfl⟩ | rfl <;> rfl
theorem Rg.ia (h : Rg es enc a l) {i : Nat} (hi : i < l.length) : iaSA es a (.int .i64 i) = some (.pvo (cellsOf (enc l[i])) 0) := by
  rcases h with ⟨rfl, rfl⟩ | ⟨rfl, rfl⟩ | rfl
  · simp at hi
  · simp at hi
  · rw [iaSA_slc]
    simp [List.getElem?_map, List.getElem?_eq_getElem hi]
theorem Rg.drop (h : Rg es enc a l) (n : Nat) : Rg es enc (rwDrop n a) (l.drop n) := by
  rcases h with ⟨rfl, rfl⟩ | ⟨rfl, rfl⟩ | rfl
  · exact .inl ⟨rfl, by simp⟩
  · exact .inr (.inl ⟨rfl, by simp⟩)
  · exact .inr (.inr (by simp [rwDrop, List.map_drop]))
theorem Rg.sliceFrom (h : Rg es enc a l) {n : Nat} (hn : n ≤ l.length) : slVA es a (some (.int .i64 n)) none none = some (rwDrop n a) := by
  rcases h with ⟨rfl, rfl⟩ | ⟨rfl, rfl⟩ | rfl
  · obtain rfl : n = 0 := by simpa using hn
    rfl
  · obtain rfl : n = 0 := by simpa using hn
    rfl
  · simp [slVA, bnd, rwDrop, hn]
    rw [List.take_of_length_le (by simp)]
theorem rowN_rg (l : List α) : Rg es enc (rowN es (l.map enc)) l := by
  cases l with
  | nil => exact Rg.nils
  | cons => exact Rg.slc _
end
theorem plainL_map {α : Type} {enc : α → AVal} (d : Nat) (h : ∀ x, Xec.plain d (enc x) = true) : ∀ (l : List α), plainL d (l.map enc) = true
  | [] => plainL_nil d
  | x :: l => by rw [List.map_cons, plainL_cons, h x, plainL_map d h l]; rfl
theorem all_map {α : Type} {enc : α → AVal} (h : ∀ x, (cellsOf (enc x)).all isSc = true) (l : List α) : ((l.map enc).all fun e => (cellsOf e).all isSc) = true := by
  rw [List.all_map, List.all_eq_true]
  exact fun x _ => h x
theorem take_next {α : Type} {l : List α} {i : Nat} (hi : i < l.length) : l.take (i + 1) = l.take i ++ [l[i]] := by
  rw [List.take_add_one, List.getElem?_eq_getElem hi]; rfl
theorem sound_calls {P : Program} {f : FuncId} {fn : Func} {F : List AVal → Option AVal} (hf : P.funcs[f]? = some fn) (hname : (fn.name == "runtime.NumGoroutine") = false) (hb : fn.body.isSome = true)
    (h : ∀ as0 r, F as0 = some r → ∀ (w : World) (S : Nat → Prop) (vs : List Value), (∀ b, S b → b < w.heap.size) → Laid P w → VL (ctx0 w S) as0 vs →
      Calls P f vs.toArray w fun e w' => ∃ v, e = .returned v ∧ w.heap.size ≤ w'.heap.size ∧ (∀ b, b < w.heap.size → w'.heap[b]? = w.heap[b]?) ∧ SameEnv w w' ∧ V (ctx0 w' fun b => S b ∨ (w.heap.size ≤ b ∧ b < w'.heap.size)) r v) : Sound P f F := by
  intro as0 r hr w S vs hS hL hl
  refine .inl ⟨?_, h as0 r hr w S vs hS hL hl⟩
  cases hbb : fn.body with
  | none => rw [hbb] at hb; cases hb
  | some c =>
    simp only [callFunc, Sem.run_bind, run_program, Result.andThen_ok, hf, hname, hbb]
    simp
theorem env_below {w w' : World} (h : Below w.heap.size w w') : w.heap.size ≤ w'.heap.size ∧ (∀ b, b < w.heap.size → w'.heap[b]? = w.heap[b]?) ∧ SameEnv w w' :=
  ⟨h.size, h.block, h.os, h.tape, h.output⟩
theorem VL_1 {x : Ctx} {a : AVal} {vs : List Value} (h : VL x [a] vs) : ∃ u, vs = [u] ∧ V x a u := by
  simp only [VL] at h
  obtain ⟨u, _, rfl, hu, rfl⟩ := h
  exact ⟨u, rfl, hu⟩
theorem VL_2 {x : Ctx} {a b : AVal} {vs : List Value} (h : VL x [a, b] vs) : ∃ u v, vs = [u, v] ∧ V x a u ∧ V x b v := by
  simp only [VL] at h
  obtain ⟨u, _, rfl, hu, v, _, rfl, hv, rfl⟩ := h
  exact ⟨u, v, rfl, hu, hv⟩
attribute [go_sem] bs_mk bs_size str_eql str_neq
end Go.Xec
namespace Go.Proofs.YtldineoabbodpaaGreatDoor
open Go Go.Xec
abbrev x3r0 : List XOper := [
⟨some 8, none, .mv (.c (.bool false))⟩]
abbrev x3r1 : List XOper := [
⟨some 22, none, .mv (.t 0)⟩,
⟨some 23, none, .mv (.t 1)⟩,
⟨some 24, none, .call (.c (.fn (.func 8) [] [])) [(.t 22), (.t 23), (.c (.int .i64 0))]⟩,
⟨some 9, none, .alloc [(.str ⟨#[]⟩), (.int .i64 0), (.int .i64 0), (.int .i64 0), (.int .i64 0), (.int .i64 0), (.int .i64 0), (.int .i64 0), (.int .i64 0), (.int .i64 0), (.int .i64 0), (.int .i64 0), (.int .i64 0), (.int .i64 0)]⟩,
⟨none, none, .store 14 (.t 9) (.t 24)⟩]
abbrev x3r2 : List XOper := [
⟨some 25, none, .mv (.t 2)⟩,
⟨some 26, none, .bin .rem (.t 25) (.c (.int .i64 40))⟩,
⟨some 27, none, .bin .add (.t 26) (.c (.int .i64 40))⟩,
⟨some 28, none, .bin .rem (.t 27) (.c (.int .i64 40))⟩,
⟨some 29, none, .bin .add (.c (.int .i64 1)) (.t 28)⟩,
⟨some 30, none, .fa 6 (.t 9)⟩,
⟨none, none, .store 1 (.t 30) (.t 29)⟩]
abbrev x3r3 : List XOper := [
⟨some 32, none, .load true 14 (.t 9)⟩,
⟨some 33, none, .call (.c (.fn (.func 9) [] [])) [(.t 32)]⟩,
⟨some 31, none, .mv (.t 33)⟩,
⟨some 34, none, .ext (.t 31) 0⟩,
⟨some 35, none, .ext (.t 31) 1⟩,
⟨some 10, none, .alloc [(.str ⟨#[]⟩), (.int .i64 0), (.int .i64 0), (.int .i64 0), (.int .i64 0), (.int .i64 0), (.int .i64 0), (.int .i64 0), (.int .i64 0), (.int .i64 0), (.int .i64 0), (.int .i64 0), (.int .i64 0), (.int .i64 0), (.int .i64 0), (.int .i64 0), (.int .i64 0), (.int .i64 0), (.int .i64 0), .nils, (.int .i64 0), (.int .i64 0), (.int .i64 0), (.int .i64 0), (.int .i64 0), (.int .i64 0), (.int .i64 0), (.int .i64 0), (.int .i64 0), (.int .i64 0), (.int .i64 0), (.int .i64 0), (.int .i64 0), (.int .i64 0), (.int .i64 0), (.int .i64 0), (.int .i64 0), (.int .i64 0), (.int .i64 0), (.int .i64 0), (.int .i64 0), (.int .i64 0), (.int .i64 0), .nils]⟩,
⟨none, none, .store 44 (.t 10) (.t 34)⟩,
⟨some 11, none, .mv (.t 35)⟩]
abbrev x3r4 : List XOper := [
⟨some 36, none, .mv (.t 3)⟩,
⟨some 37, none, .mv (.t 3)⟩,
⟨some 38, none, .lenV (.t 37)⟩,
⟨some 39, none, .mnx false (.t 38) [(.c (.int .i64 80))]⟩,
⟨some 40, none, .slV 1 (.t 36) none (some (.t 39)) none⟩,
⟨some 3, none, .mv (.t 40)⟩]
abbrev x3r5 : List XOper := [
⟨some 42, none, .load true 44 (.t 10)⟩,
⟨some 43, none, .mv (.t 3)⟩,
⟨some 44, none, .call (.c (.fn (.func 10) [] [])) [(.t 42), (.t 43)]⟩,
⟨some 41, none, .mv (.t 44)⟩,
⟨some 45, none, .ext (.t 41) 0⟩,
⟨some 46, none, .ext (.t 41) 1⟩,
⟨some 47, none, .ext (.t 41) 2⟩,
⟨some 12, none, .alloc [(.str ⟨#[]⟩), (.int .i64 0), (.int .i64 0), (.int .i64 0), (.int .i64 0), (.int .i64 0), (.int .i64 0), (.int .i64 0), (.int .i64 0), (.int .i64 0), (.int .i64 0), (.int .i64 0), (.int .i64 0), (.int .i64 0), (.int .i64 0), (.int .i64 0), (.int .i64 0), (.int .i64 0), (.int .i64 0), .nils, (.int .i64 0), (.int .i64 0), (.int .i64 0), (.int .i64 0), (.int .i64 0), (.int .i64 0), (.int .i64 0), (.int .i64 0), (.int .i64 0), (.int .i64 0), (.int .i64 0), (.int .i64 0), (.int .i64 0), (.int .i64 0), (.int .i64 0), (.int .i64 0), (.int .i64 0), (.int .i64 0), (.int .i64 0), (.int .i64 0), (.int .i64 0), (.int .i64 0), (.int .i64 0), .nils]⟩,
⟨none, none, .store 44 (.t 12) (.t 45)⟩,
⟨some 13, none, .mv (.t 46)⟩,
⟨some 14, none, .mv (.t 47)⟩]
abbrev x3r6 : List XOper := [
⟨some 48, none, .mv (.t 11)⟩,
⟨some 49, none, .bin .neq (.t 48) (.c (.int .i64 0))⟩,
⟨some 50, none, .mv (.t 49)⟩,
⟨some 51, some (50, false), .mv (.t 13)⟩,
⟨some 52, some (50, false), .lenV (.t 51)⟩,
⟨some 53, some (50, false), .mv (.t 3)⟩,
⟨some 54, some (50, false), .lenV (.t 53)⟩,
⟨some 55, some (50, false), .bin .neq (.t 52) (.t 54)⟩,
⟨some 56, none, .pick (.t 50) (.c (.bool true)) (.t 55)⟩,
⟨some 57, none, .mv (.t 56)⟩,
⟨some 58, some (57, false), .mv (.t 14)⟩,
⟨some 59, some (57, false), .lenV (.t 58)⟩,
⟨some 60, some (57, false), .mv (.t 3)⟩,
⟨some 61, some (57, false), .lenV (.t 60)⟩,
⟨some 62, some (57, false), .bin .neq (.t 59) (.t 61)⟩,
⟨some 63, none, .pick (.t 57) (.c (.bool true)) (.t 62)⟩,
⟨some 64, none, .mv (.t 63)⟩,
⟨some 65, some (64, false), .call (.c (.fn (.func 11) [] [])) []⟩,
⟨some 66, some (64, false), .un .not (.t 65)⟩,
⟨some 67, none, .pick (.t 64) (.c (.bool true)) (.t 66)⟩]
abbrev x3r7 : List XOper := [
⟨some 8, none, .mv (.c (.bool false))⟩]
abbrev x3r8 : List XOper := [
⟨some 15, none, .mv (.c (.int .i64 0))⟩]
abbrev x3r9 : List XOper := [
⟨some 68, none, .load true 44 (.t 10)⟩,
⟨some 16, none, .alloc [(.str ⟨#[]⟩), (.int .i64 0), (.int .i64 0), (.int .i64 0), (.int .i64 0), (.int .i64 0), (.int .i64 0), (.int .i64 0), (.int .i64 0), (.int .i64 0), (.int .i64 0), (.int .i64 0), (.int .i64 0), (.int .i64 0), (.int .i64 0), (.int .i64 0), (.int .i64 0), (.int .i64 0), (.int .i64 0), .nils, (.int .i64 0), (.int .i64 0), (.int .i64 0), (.int .i64 0), (.int .i64 0), (.int .i64 0), (.int .i64 0), (.int .i64 0), (.int .i64 0), (.int .i64 0), (.int .i64 0), (.int .i64 0), (.int .i64 0), (.int .i64 0), (.int .i64 0), (.int .i64 0), (.int .i64 0), (.int .i64 0), (.int .i64 0), (.int .i64 0), (.int .i64 0), (.int .i64 0), (.int .i64 0), .nils]⟩,
⟨none, none, .store 44 (.t 16) (.t 68)⟩]
abbrev x3r10 : List XOper := [
⟨some 69, none, .mv (.t 3)⟩,
⟨some 70, none, .lenV (.t 69)⟩,
⟨some 71, none, .mv (.c (.int .i64 0))⟩]
abbrev x3r11 : List XOper := [
⟨some 72, none, .bin .lss (.t 71) (.t 70)⟩]
abbrev x3r12 : List XOper := [
⟨some 73, none, .mv (.t 71)⟩,
⟨some 74, none, .iaS 1 (.t 69) (.t 71)⟩,
⟨some 75, none, .load false 1 (.t 74)⟩,
⟨some 17, none, .mv (.t 73)⟩,
⟨some 18, none, .mv (.t 75)⟩]
abbrev x3r13 : List XOper := [
⟨some 77, none, .load true 44 (.t 16)⟩,
⟨some 78, none, .mv (.t 18)⟩,
⟨some 79, none, .call (.c (.fn (.func 12) [] [])) [(.t 77), (.t 78)]⟩,
⟨some 76, none, .mv (.t 79)⟩,
⟨some 80, none, .ext (.t 76) 0⟩,
⟨some 81, none, .ext (.t 76) 1⟩,
⟨some 82, none, .ext (.t 76) 2⟩,
⟨some 19, none, .alloc [(.str ⟨#[]⟩), (.int .i64 0), (.int .i64 0), (.int .i64 0), (.int .i64 0), (.int .i64 0), (.int .i64 0), (.int .i64 0), (.int .i64 0), (.int .i64 0), (.int .i64 0), (.int .i64 0), (.int .i64 0), (.int .i64 0), (.int .i64 0), (.int .i64 0), (.int .i64 0), (.int .i64 0), (.int .i64 0), .nils, (.int .i64 0), (.int .i64 0), (.int .i64 0), (.int .i64 0), (.int .i64 0), (.int .i64 0), (.int .i64 0), (.int .i64 0), (.int .i64 0), (.int .i64 0), (.int .i64 0), (.int .i64 0), (.int .i64 0), (.int .i64 0), (.int .i64 0), (.int .i64 0), (.int .i64 0), (.int .i64 0), (.int .i64 0), (.int .i64 0), (.int .i64 0), (.int .i64 0), (.int .i64 0), .nils]⟩,
⟨some 20, none, .alloc [(.int .i64 0), (.int .i64 0), (.int .i64 0), (.int .i64 0), (.int .i64 0), (.int .i64 0), (.int .i64 0), (.int .i64 0), (.int .i64 0), (.int .i64 0), (.int .i64 0), (.int .i64 0)]⟩,
⟨none, none, .store 44 (.t 19) (.t 80)⟩,
⟨none, none, .store 12 (.t 20) (.t 81)⟩,
⟨some 21, none, .mv (.t 82)⟩]
abbrev x3r14 : List XOper := [
⟨some 83, none, .mv (.t 21)⟩,
⟨some 84, none, .mv (.t 14)⟩,
⟨some 85, none, .mv (.t 17)⟩,
⟨some 86, none, .iaS 1 (.t 84) (.t 85)⟩,
⟨some 87, none, .load false 1 (.t 86)⟩,
⟨some 88, none, .bin .neq (.t 83) (.t 87)⟩,
⟨some 89, none, .mv (.t 88)⟩,
⟨some 90, some (89, false), .load true 12 (.t 20)⟩,
⟨some 91, some (89, false), .mv (.t 13)⟩,
⟨some 92, some (89, false), .mv (.t 17)⟩,
⟨some 93, some (89, false), .iaS 12 (.t 91) (.t 92)⟩,
⟨some 94, some (89, false), .load true 12 (.t 93)⟩,
⟨some 95, some (89, false), .eqA true [0, 0, 0, 0, 0, 0, 0, 0, 0, 0, 0, 0] (.t 90) (.t 94)⟩,
⟨some 96, none, .pick (.t 89) (.c (.bool true)) (.t 95)⟩,
⟨some 97, none, .mv (.t 96)⟩,
⟨some 98, some (97, false), .mv (.t 21)⟩,
⟨some 99, some (97, false), .bin .eql (.t 98) (.c (.int .i64 11))⟩,
⟨some 100, some (97, false), .mv (.t 15)⟩,
⟨some 101, some (97, false), .fa 6 (.t 9)⟩,
⟨some 102, some (97, false), .load false 1 (.t 101)⟩,
⟨some 103, some (97, false), .bin .eql (.t 100) (.t 102)⟩,
⟨some 104, some (97, false), .eqB true (.t 99) (.t 103)⟩,
⟨some 105, none, .pick (.t 97) (.c (.bool true)) (.t 104)⟩]
abbrev x3r15 : List XOper := [
⟨some 8, none, .mv (.c (.bool false))⟩]
abbrev x3r16 : List XOper := [
⟨some 106, none, .mv (.t 21)⟩,
⟨some 107, none, .bin .neq (.t 106) (.c (.int .i64 0))⟩]
abbrev x3r17 : List XOper := [
⟨some 108, none, .mv (.t 21)⟩,
⟨some 109, none, .bin .neq (.t 108) (.c (.int .i64 11))⟩,
⟨some 110, none, .mv (.t 109)⟩,
⟨some 111, some (110, true), .mv (.t 21)⟩,
⟨some 112, some (110, true), .bin .neq (.t 111) (.c (.int .i64 3))⟩,
⟨some 113, none, .pick (.t 110) (.t 112) (.c (.bool false))⟩,
⟨some 114, none, .mv (.t 113)⟩,
⟨some 115, some (114, false), .load true 12 (.t 20)⟩,
⟨some 116, some (114, false), .build [(.int .i64 0), (.int .i64 0), (.int .i64 0), (.int .i64 0), (.int .i64 0), (.int .i64 0), (.int .i64 0), (.int .i64 0), (.int .i64 0), (.int .i64 0), (.int .i64 0), (.int .i64 0)] []⟩,
⟨some 117, some (114, false), .eqA true [0, 0, 0, 0, 0, 0, 0, 0, 0, 0, 0, 0] (.t 115) (.t 116)⟩,
⟨some 118, none, .pick (.t 114) (.c (.bool true)) (.t 117)⟩]
abbrev x3r18 : List XOper := [
⟨some 8, none, .mv (.c (.bool false))⟩]
abbrev x3r19 : List XOper := [
⟨some 119, none, .mv (.t 15)⟩,
⟨some 120, none, .bin .add (.t 119) (.c (.int .i64 1))⟩,
⟨some 15, none, .mv (.t 120)⟩]
abbrev x3r20 : List XOper := [
⟨some 121, none, .load true 44 (.t 19)⟩,
⟨none, none, .store 44 (.t 16) (.t 121)⟩]
abbrev x3r21 : List XOper := [
⟨some 122, none, .fa 14 (.t 19)⟩,
⟨some 123, none, .load false 1 (.t 122)⟩,
⟨some 124, none, .mv (.t 15)⟩,
⟨some 125, none, .bin .neq (.t 123) (.t 124)⟩,
⟨some 126, none, .mv (.t 125)⟩,
⟨some 127, some (126, false), .fa 15 (.t 19)⟩,
⟨some 128, some (126, false), .load false 1 (.t 127)⟩,
⟨some 129, some (126, false), .mv (.t 18)⟩,
⟨some 130, some (126, false), .bin .neq (.t 128) (.t 129)⟩,
⟨some 131, none, .pick (.t 126) (.c (.bool true)) (.t 130)⟩]
abbrev x3r22 : List XOper := [
⟨some 8, none, .mv (.c (.bool false))⟩]
abbrev x3r23 : List XOper := [
⟨some 132, none, .bin .add (.t 71) (.c (.int .i64 1))⟩,
⟨some 71, none, .mv (.t 132)⟩]
abbrev x3l11 : XCode :=
(.seq (.reg 11 x3r11 none)
(.seq (.cond (.t 72)
.skip
(.exit 0))
(.seq (.block 1
(.seq (.reg 12 x3r12 none)
(.seq (.reg 13 x3r13 none)
(.seq (.seq (.reg 14 x3r14 (some ⟨[]⟩))
(.cond (.t 105)
(.seq (.reg 15 x3r15 none)
.ret)
.skip))
(.seq (.seq (.reg 16 x3r16 none)
(.cond (.t 107)
(.seq (.seq (.reg 17 x3r17 none)
(.cond (.t 118)
(.seq (.reg 18 x3r18 none)
.ret)
.skip))
(.exit 1))
.skip))
(.seq (.reg 19 x3r19 none)
(.seq (.reg 20 x3r20 none)
(.seq (.reg 21 x3r21 none)
(.cond (.t 131)
(.seq (.reg 22 x3r22 none)
.ret)
.skip)))))))))
(.reg 23 x3r23 none))))
abbrev x3r24 : List XOper := [
⟨some 133, none, .load true 44 (.t 12)⟩,
⟨some 134, none, .load true 44 (.t 16)⟩,
⟨some 135, none, .call (.c (.fn (.func 13) [] [])) [(.t 133), (.t 134)]⟩,
⟨some 136, none, .mv (.t 135)⟩,
⟨some 137, some (136, true), .mv (.t 15)⟩,
⟨some 138, some (136, true), .fa 6 (.t 9)⟩,
⟨some 139, some (136, true), .load false 1 (.t 138)⟩,
⟨some 140, some (136, true), .bin .leq (.t 137) (.t 139)⟩,
⟨some 141, none, .pick (.t 136) (.t 140) (.c (.bool false))⟩,
⟨some 8, none, .mv (.t 141)⟩]
abbrev x3b : XCode :=
(.seq (.reg 0 x3r0 none)
(.seq (.reg 1 x3r1 none)
(.seq (.reg 2 x3r2 none)
(.seq (.reg 3 x3r3 none)
(.seq (.reg 4 x3r4 none)
(.seq (.reg 5 x3r5 none)
(.seq (.seq (.reg 6 x3r6 none)
(.cond (.t 67)
(.seq (.reg 7 x3r7 none)
.ret)
.skip))
(.seq (.reg 8 x3r8 none)
(.seq (.reg 9 x3r9 none)
(.seq (.seq (.reg 10 x3r10 none)
(.block 0
(.loop x3l11)))
(.seq (.reg 24 x3r24 none)
.ret)))))))))))
def x3 : XFunc := ⟨142, 4, [.tmp 8], x3b⟩
theorem x3_ok : chkF Tryz.prog Tryz.f3 x3 = true := by kernel_rfl
abbrev x4r0 : List XOper := [
⟨some 6, none, .mv (.c (.bool false))⟩]
abbrev x4r1 : List XOper := [
⟨some 18, none, .mv (.t 0)⟩,
⟨some 19, none, .call (.c (.fn (.func 8) [] [])) [(.c (.int .i64 0)), (.c (.int .i64 0)), (.t 18)]⟩,
⟨some 7, none, .alloc [(.str ⟨#[]⟩), (.int .i64 0), (.int .i64 0), (.int .i64 0), (.int .i64 0), (.int .i64 0), (.int .i64 0), (.int .i64 0), (.int .i64 0), (.int .i64 0), (.int .i64 0), (.int .i64 0), (.int .i64 0), (.int .i64 0)]⟩,
⟨none, none, .store 14 (.t 7) (.t 19)⟩]
abbrev x4r2 : List XOper := [
⟨some 20, none, .mv (.t 1)⟩,
⟨some 21, none, .bin .rem (.t 20) (.c (.int .i64 1000000))⟩,
⟨some 1, none, .mv (.t 21)⟩]
abbrev x4r3 : List XOper := [
⟨some 23, none, .load true 14 (.t 7)⟩,
⟨some 24, none, .call (.c (.fn (.func 9) [] [])) [(.t 23)]⟩,
⟨some 22, none, .mv (.t 24)⟩,
⟨some 25, none, .ext (.t 22) 0⟩,
⟨some 26, none, .ext (.t 22) 1⟩,
⟨some 8, none, .alloc [(.str ⟨#[]⟩), (.int .i64 0), (.int .i64 0), (.int .i64 0), (.int .i64 0), (.int .i64 0), (.int .i64 0), (.int .i64 0), (.int .i64 0), (.int .i64 0), (.int .i64 0), (.int .i64 0), (.int .i64 0), (.int .i64 0), (.int .i64 0), (.int .i64 0), (.int .i64 0), (.int .i64 0), (.int .i64 0), .nils, (.int .i64 0), (.int .i64 0), (.int .i64 0), (.int .i64 0), (.int .i64 0), (.int .i64 0), (.int .i64 0), (.int .i64 0), (.int .i64 0), (.int .i64 0), (.int .i64 0), (.int .i64 0), (.int .i64 0), (.int .i64 0), (.int .i64 0), (.int .i64 0), (.int .i64 0), (.int .i64 0), (.int .i64 0), (.int .i64 0), (.int .i64 0), (.int .i64 0), (.int .i64 0), .nils]⟩,
⟨none, none, .store 44 (.t 8) (.t 25)⟩,
⟨some 9, none, .mv (.t 26)⟩]
abbrev x4r4 : List XOper := [
⟨some 27, none, .mv (.t 9)⟩,
⟨some 28, none, .bin .neq (.t 27) (.c (.int .i64 0))⟩,
⟨some 29, none, .mv (.t 28)⟩,
⟨some 30, some (29, false), .call (.c (.fn (.func 11) [] [])) []⟩,
⟨some 31, some (29, false), .un .not (.t 30)⟩,
⟨some 32, none, .pick (.t 29) (.c (.bool true)) (.t 31)⟩]
abbrev x4r5 : List XOper := [
⟨some 6, none, .mv (.c (.bool false))⟩]
abbrev x4r6 : List XOper := [
⟨some 33, none, .fa 5 (.t 7)⟩,
⟨some 34, none, .load false 1 (.t 33)⟩,
⟨some 35, none, .mv (.c (.int .i64 0))⟩]
abbrev x4r7 : List XOper := [
⟨some 36, none, .bin .lss (.t 35) (.t 34)⟩]
abbrev x4r8 : List XOper := [
⟨some 38, none, .load true 44 (.t 8)⟩,
⟨some 39, none, .mv (.t 1)⟩,
⟨some 40, none, .call (.c (.fn (.func 12) [] [])) [(.t 38), (.t 39)]⟩,
⟨some 37, none, .mv (.t 40)⟩,
⟨some 41, none, .ext (.t 37) 0⟩,
⟨some 42, none, .ext (.t 37) 1⟩,
⟨some 43, none, .ext (.t 37) 2⟩,
⟨some 10, none, .alloc [(.str ⟨#[]⟩), (.int .i64 0), (.int .i64 0), (.int .i64 0), (.int .i64 0), (.int .i64 0), (.int .i64 0), (.int .i64 0), (.int .i64 0), (.int .i64 0), (.int .i64 0), (.int .i64 0), (.int .i64 0), (.int .i64 0), (.int .i64 0), (.int .i64 0), (.int .i64 0), (.int .i64 0), (.int .i64 0), .nils, (.int .i64 0), (.int .i64 0), (.int .i64 0), (.int .i64 0), (.int .i64 0), (.int .i64 0), (.int .i64 0), (.int .i64 0), (.int .i64 0), (.int .i64 0), (.int .i64 0), (.int .i64 0), (.int .i64 0), (.int .i64 0), (.int .i64 0), (.int .i64 0), (.int .i64 0), (.int .i64 0), (.int .i64 0), (.int .i64 0), (.int .i64 0), (.int .i64 0), (.int .i64 0), .nils]⟩,
⟨some 11, none, .alloc [(.int .i64 0), (.int .i64 0), (.int .i64 0), (.int .i64 0), (.int .i64 0), (.int .i64 0), (.int .i64 0), (.int .i64 0), (.int .i64 0), (.int .i64 0), (.int .i64 0), (.int .i64 0)]⟩,
⟨none, none, .store 44 (.t 10) (.t 41)⟩,
⟨none, none, .store 12 (.t 11) (.t 42)⟩,
⟨some 12, none, .mv (.t 43)⟩]
abbrev x4r9 : List XOper := [
⟨some 44, none, .mv (.t 12)⟩,
⟨some 45, none, .bin .neq (.t 44) (.c (.int .i64 0))⟩,
⟨some 46, none, .mv (.t 45)⟩,
⟨some 47, some (46, false), .fa 0 (.t 11)⟩,
⟨some 48, some (46, false), .load false 1 (.t 47)⟩,
⟨some 49, some (46, false), .bin .neq (.t 48) (.c (.int .i64 1))⟩,
⟨some 50, none, .pick (.t 46) (.c (.bool true)) (.t 49)⟩]
abbrev x4r10 : List XOper := [
⟨some 6, none, .mv (.c (.bool false))⟩]
abbrev x4r11 : List XOper := [
⟨some 51, none, .load true 44 (.t 10)⟩,
⟨none, none, .store 44 (.t 8) (.t 51)⟩]
abbrev x4r12 : List XOper := [
⟨some 52, none, .bin .add (.t 35) (.c (.int .i64 1))⟩,
⟨some 35, none, .mv (.t 52)⟩]
abbrev x4l7 : XCode :=
(.seq (.reg 7 x4r7 none)
(.seq (.cond (.t 36)
.skip
(.exit 0))
(.seq (.block 1
(.seq (.reg 8 x4r8 none)
(.seq (.seq (.reg 9 x4r9 none)
(.cond (.t 50)
(.seq (.reg 10 x4r10 none)
.ret)
.skip))
(.reg 11 x4r11 none))))
(.reg 12 x4r12 none))))
abbrev x4r13 : List XOper := [
⟨some 53, none, .mv (.t 2)⟩,
⟨some 54, none, .mv (.t 2)⟩,
⟨some 55, none, .lenV (.t 54)⟩,
⟨some 56, none, .mnx false (.t 55) [(.c (.int .i64 30))]⟩,
⟨some 57, none, .slV 1 (.t 53) none (some (.t 56)) none⟩,
⟨some 58, none, .lenV (.t 57)⟩,
⟨some 59, none, .mv (.c (.int .i64 0))⟩]
abbrev x4r14 : List XOper := [
⟨some 60, none, .bin .lss (.t 59) (.t 58)⟩]
abbrev x4r15 : List XOper := [
⟨some 61, none, .iaS 1 (.t 57) (.t 59)⟩,
⟨some 62, none, .load false 1 (.t 61)⟩,
⟨some 14, none, .mv (.t 62)⟩]
abbrev x4r16 : List XOper := [
⟨some 63, none, .mv (.t 14)⟩,
⟨some 64, none, .bin .rem (.t 63) (.c (.int .i64 1000000))⟩,
⟨some 14, none, .mv (.t 64)⟩]
abbrev x4r17 : List XOper := [
⟨some 66, none, .load true 44 (.t 8)⟩,
⟨some 67, none, .mv (.t 14)⟩,
⟨some 68, none, .call (.c (.fn (.func 12) [] [])) [(.t 66), (.t 67)]⟩,
⟨some 65, none, .mv (.t 68)⟩,
⟨some 69, none, .ext (.t 65) 0⟩,
⟨some 70, none, .ext (.t 65) 1⟩,
⟨some 71, none, .ext (.t 65) 2⟩,
⟨some 15, none, .alloc [(.str ⟨#[]⟩), (.int .i64 0), (.int .i64 0), (.int .i64 0), (.int .i64 0), (.int .i64 0), (.int .i64 0), (.int .i64 0), (.int .i64 0), (.int .i64 0), (.int .i64 0), (.int .i64 0), (.int .i64 0), (.int .i64 0), (.int .i64 0), (.int .i64 0), (.int .i64 0), (.int .i64 0), (.int .i64 0), .nils, (.int .i64 0), (.int .i64 0), (.int .i64 0), (.int .i64 0), (.int .i64 0), (.int .i64 0), (.int .i64 0), (.int .i64 0), (.int .i64 0), (.int .i64 0), (.int .i64 0), (.int .i64 0), (.int .i64 0), (.int .i64 0), (.int .i64 0), (.int .i64 0), (.int .i64 0), (.int .i64 0), (.int .i64 0), (.int .i64 0), (.int .i64 0), (.int .i64 0), (.int .i64 0), .nils]⟩,
⟨some 16, none, .alloc [(.int .i64 0), (.int .i64 0), (.int .i64 0), (.int .i64 0), (.int .i64 0), (.int .i64 0), (.int .i64 0), (.int .i64 0), (.int .i64 0), (.int .i64 0), (.int .i64 0), (.int .i64 0)]⟩,
⟨none, none, .store 44 (.t 15) (.t 69)⟩,
⟨none, none, .store 12 (.t 16) (.t 70)⟩,
⟨some 17, none, .mv (.t 71)⟩]
abbrev x4r18 : List XOper := [
⟨some 72, none, .mv (.t 17)⟩,
⟨some 73, none, .bin .neq (.t 72) (.c (.int .i64 0))⟩,
⟨some 74, none, .mv (.t 73)⟩,
⟨some 75, some (74, false), .fa 0 (.t 16)⟩,
⟨some 76, some (74, false), .load false 1 (.t 75)⟩,
⟨some 77, some (74, false), .bin .neq (.t 76) (.c (.int .i64 2))⟩,
⟨some 78, none, .pick (.t 74) (.c (.bool true)) (.t 77)⟩,
⟨some 79, none, .mv (.t 78)⟩,
⟨some 80, some (79, false), .fa 1 (.t 16)⟩,
⟨some 81, some (79, false), .load false 1 (.t 80)⟩,
⟨some 82, some (79, false), .bin .eql (.t 81) (.c (.int .i64 1))⟩,
⟨some 83, some (79, false), .mv (.t 1)⟩,
⟨some 84, some (79, false), .mv (.t 14)⟩,
⟨some 85, some (79, false), .bin .neq (.t 83) (.t 84)⟩,
⟨some 86, some (79, false), .eqB true (.t 82) (.t 85)⟩,
⟨some 87, none, .pick (.t 79) (.c (.bool true)) (.t 86)⟩]
abbrev x4r19 : List XOper := [
⟨some 6, none, .mv (.c (.bool false))⟩]
abbrev x4r20 : List XOper := [
⟨some 88, none, .load true 44 (.t 15)⟩,
⟨none, none, .store 44 (.t 8) (.t 88)⟩]
abbrev x4r21 : List XOper := [
⟨some 89, none, .bin .add (.t 59) (.c (.int .i64 1))⟩,
⟨some 59, none, .mv (.t 89)⟩]
abbrev x4l15 : XCode :=
(.seq (.reg 14 x4r14 none)
(.seq (.cond (.t 60)
.skip
(.exit 2))
(.seq (.block 3
(.seq (.reg 15 x4r15 none)
(.seq (.reg 16 x4r16 none)
(.seq (.reg 17 x4r17 none)
(.seq (.seq (.reg 18 x4r18 none)
(.cond (.t 87)
(.seq (.reg 19 x4r19 none)
.ret)
.skip))
(.reg 20 x4r20 none))))))
(.reg 21 x4r21 none))))
abbrev x4r22 : List XOper := [
⟨some 6, none, .mv (.c (.bool true))⟩]
abbrev x4b : XCode :=
(.seq (.reg 0 x4r0 none)
(.seq (.reg 1 x4r1 none)
(.seq (.reg 2 x4r2 none)
(.seq (.reg 3 x4r3 none)
(.seq (.seq (.reg 4 x4r4 none)
(.cond (.t 32)
(.seq (.reg 5 x4r5 none)
.ret)
.skip))
(.seq (.seq (.reg 6 x4r6 none)
(.block 0
(.loop x4l7)))
(.seq (.seq (.reg 13 x4r13 none)
(.block 2
(.loop x4l15)))
(.seq (.reg 22 x4r22 none)
.ret))))))))
def x4 : XFunc := ⟨90, 3, [.tmp 6], x4b⟩
theorem x4_ok : chkF Tryz.prog Tryz.f4 x4 = true := by kernel_rfl
abbrev x6r0 : List XOper := [
⟨some 8, none, .mv (.c (.bool false))⟩]
abbrev x6r1 : List XOper := [
⟨some 26, none, .mv (.t 0)⟩,
⟨some 27, none, .mv (.t 1)⟩,
⟨some 28, none, .mv (.t 2)⟩,
⟨some 29, none, .call (.c (.fn (.func 8) [] [])) [(.t 26), (.t 27), (.t 28)]⟩,
⟨some 9, none, .alloc [(.str ⟨#[]⟩), (.int .i64 0), (.int .i64 0), (.int .i64 0), (.int .i64 0), (.int .i64 0), (.int .i64 0), (.int .i64 0), (.int .i64 0), (.int .i64 0), (.int .i64 0), (.int .i64 0), (.int .i64 0), (.int .i64 0)]⟩,
⟨none, none, .store 14 (.t 9) (.t 29)⟩]
abbrev x6r2 : List XOper := [
⟨some 31, none, .load true 14 (.t 9)⟩,
⟨some 32, none, .call (.c (.fn (.func 9) [] [])) [(.t 31)]⟩,
⟨some 30, none, .mv (.t 32)⟩,
⟨some 33, none, .ext (.t 30) 0⟩,
⟨some 34, none, .ext (.t 30) 1⟩,
⟨some 10, none, .alloc [(.str ⟨#[]⟩), (.int .i64 0), (.int .i64 0), (.int .i64 0), (.int .i64 0), (.int .i64 0), (.int .i64 0), (.int .i64 0), (.int .i64 0), (.int .i64 0), (.int .i64 0), (.int .i64 0), (.int .i64 0), (.int .i64 0), (.int .i64 0), (.int .i64 0), (.int .i64 0), (.int .i64 0), (.int .i64 0), .nils, (.int .i64 0), (.int .i64 0), (.int .i64 0), (.int .i64 0), (.int .i64 0), (.int .i64 0), (.int .i64 0), (.int .i64 0), (.int .i64 0), (.int .i64 0), (.int .i64 0), (.int .i64 0), (.int .i64 0), (.int .i64 0), (.int .i64 0), (.int .i64 0), (.int .i64 0), (.int .i64 0), (.int .i64 0), (.int .i64 0), (.int .i64 0), (.int .i64 0), (.int .i64 0), .nils]⟩,
⟨none, none, .store 44 (.t 10) (.t 33)⟩,
⟨some 11, none, .mv (.t 34)⟩]
abbrev x6r3 : List XOper := [
⟨some 35, none, .mv (.t 11)⟩,
⟨some 36, none, .bin .neq (.t 35) (.c (.int .i64 0))⟩,
⟨some 37, none, .mv (.t 36)⟩,
⟨some 38, some (37, false), .call (.c (.fn (.func 11) [] [])) []⟩,
⟨some 39, some (37, false), .un .not (.t 38)⟩,
⟨some 40, none, .pick (.t 37) (.c (.bool true)) (.t 39)⟩]
abbrev x6r4 : List XOper := [
⟨some 8, none, .mv (.c (.bool false))⟩]
abbrev x6r5 : List XOper := [
⟨some 12, none, .mv (.c .nils)⟩]
abbrev x6r6 : List XOper := [
⟨some 41, none, .mv (.t 3)⟩,
⟨some 42, none, .mv (.t 3)⟩,
⟨some 43, none, .lenV (.t 42)⟩,
⟨some 44, none, .mnx false (.t 43) [(.c (.int .i64 60))]⟩,
⟨some 45, none, .slV 1 (.t 41) none (some (.t 44)) none⟩,
⟨some 46, none, .lenV (.t 45)⟩,
⟨some 47, none, .mv (.c (.int .i64 0))⟩]
abbrev x6r7 : List XOper := [
⟨some 48, none, .bin .lss (.t 47) (.t 46)⟩]
abbrev x6r8 : List XOper := [
⟨some 49, none, .iaS 1 (.t 45) (.t 47)⟩,
⟨some 50, none, .load false 1 (.t 49)⟩,
⟨some 14, none, .mv (.t 50)⟩]
abbrev x6r9 : List XOper := [
⟨some 51, none, .mv (.t 14)⟩,
⟨some 52, none, .mnx true (.t 51) [(.c (.int .i64 (-1000000)))]⟩,
⟨some 53, none, .mnx false (.t 52) [(.c (.int .i64 1000000))]⟩,
⟨some 14, none, .mv (.t 53)⟩]
abbrev x6r10 : List XOper := [
⟨some 54, none, .fa 1 (.t 9)⟩,
⟨some 55, none, .load false 1 (.t 54)⟩,
⟨some 56, none, .bin .neq (.t 55) (.c (.int .i64 1))⟩]
abbrev x6r11 : List XOper := [
⟨some 57, none, .mv (.t 14)⟩,
⟨some 58, none, .mv (.t 14)⟩,
⟨some 59, none, .un .neg (.t 58)⟩,
⟨some 60, none, .mnx true (.t 57) [(.t 59)]⟩,
⟨some 14, none, .mv (.t 60)⟩]
abbrev x6r12 : List XOper := [
⟨some 61, none, .fa 2 (.t 9)⟩,
⟨some 62, none, .load false 1 (.t 61)⟩,
⟨some 63, none, .bin .gtr (.t 62) (.c (.int .i64 0))⟩,
⟨some 64, none, .mv (.t 63)⟩,
⟨some 65, some (64, true), .fa 1 (.t 9)⟩,
⟨some 66, some (64, true), .load false 1 (.t 65)⟩,
⟨some 67, some (64, true), .bin .neq (.t 66) (.c (.int .i64 5))⟩,
⟨some 68, none, .pick (.t 64) (.t 67) (.c (.bool false))⟩]
abbrev x6r13 : List XOper := [
⟨some 69, none, .mv (.t 14)⟩,
⟨some 70, none, .fa 2 (.t 9)⟩,
⟨some 71, none, .load false 1 (.t 70)⟩,
⟨some 72, none, .mnx false (.t 69) [(.t 71)]⟩,
⟨some 14, none, .mv (.t 72)⟩]
abbrev x6r14 : List XOper := [
⟨some 74, none, .load true 44 (.t 10)⟩,
⟨some 75, none, .mv (.t 14)⟩,
⟨some 76, none, .call (.c (.fn (.func 12) [] [])) [(.t 74), (.t 75)]⟩,
⟨some 73, none, .mv (.t 76)⟩,
⟨some 77, none, .ext (.t 73) 0⟩,
⟨some 78, none, .ext (.t 73) 1⟩,
⟨some 79, none, .ext (.t 73) 2⟩,
⟨some 15, none, .alloc [(.str ⟨#[]⟩), (.int .i64 0), (.int .i64 0), (.int .i64 0), (.int .i64 0), (.int .i64 0), (.int .i64 0), (.int .i64 0), (.int .i64 0), (.int .i64 0), (.int .i64 0), (.int .i64 0), (.int .i64 0), (.int .i64 0), (.int .i64 0), (.int .i64 0), (.int .i64 0), (.int .i64 0), (.int .i64 0), .nils, (.int .i64 0), (.int .i64 0), (.int .i64 0), (.int .i64 0), (.int .i64 0), (.int .i64 0), (.int .i64 0), (.int .i64 0), (.int .i64 0), (.int .i64 0), (.int .i64 0), (.int .i64 0), (.int .i64 0), (.int .i64 0), (.int .i64 0), (.int .i64 0), (.int .i64 0), (.int .i64 0), (.int .i64 0), (.int .i64 0), (.int .i64 0), (.int .i64 0), (.int .i64 0), .nils]⟩,
⟨some 16, none, .alloc [(.int .i64 0), (.int .i64 0), (.int .i64 0), (.int .i64 0), (.int .i64 0), (.int .i64 0), (.int .i64 0), (.int .i64 0), (.int .i64 0), (.int .i64 0), (.int .i64 0), (.int .i64 0)]⟩,
⟨none, none, .store 44 (.t 15) (.t 77)⟩,
⟨none, none, .store 12 (.t 16) (.t 78)⟩,
⟨some 17, none, .mv (.t 79)⟩]
abbrev x6r15 : List XOper := [
⟨some 80, none, .mv (.t 17)⟩,
⟨some 81, none, .bin .neq (.t 80) (.c (.int .i64 0))⟩]
abbrev x6r16 : List XOper := [
⟨some 8, none, .mv (.c (.bool false))⟩]
abbrev x6r17 : List XOper := [
⟨some 82, none, .load true 44 (.t 15)⟩,
⟨none, none, .store 44 (.t 10) (.t 82)⟩]
abbrev x6r18 : List XOper := [
⟨some 83, none, .fa 0 (.t 16)⟩,
⟨some 84, none, .load false 1 (.t 83)⟩,
⟨some 85, none, .bin .neq (.t 84) (.c (.int .i64 2))⟩]
abbrev x6r19 : List XOper := [
⟨some 86, none, .fa 0 (.t 16)⟩,
⟨some 87, none, .load false 1 (.t 86)⟩,
⟨some 88, none, .bin .neq (.t 87) (.c (.int .i64 1))⟩,
⟨some 89, none, .mv (.t 88)⟩,
⟨some 90, some (89, false), .mv (.t 12)⟩,
⟨some 91, some (89, false), .lenV (.t 90)⟩,
⟨some 92, some (89, false), .bin .gtr (.t 91) (.c (.int .i64 0))⟩,
⟨some 93, none, .pick (.t 89) (.c (.bool true)) (.t 92)⟩]
abbrev x6r20 : List XOper := [
⟨some 8, none, .mv (.c (.bool false))⟩]
abbrev x6r21 : List XOper := [
⟨some 95, none, .fa 20 (.t 10)⟩,
⟨some 96, none, .load true 5 (.t 95)⟩,
⟨some 97, none, .mv (.t 14)⟩,
⟨some 98, none, .call (.c (.fn (.func 21) [] [])) [(.t 96), (.t 97)]⟩,
⟨some 94, none, .mv (.t 98)⟩,
⟨some 99, none, .ext (.t 94) 0⟩,
⟨some 100, none, .ext (.t 94) 1⟩,
⟨some 18, none, .alloc [(.int .i64 0), (.int .i64 0), (.int .i64 0), (.int .u64 0), (.int .u64 0)]⟩,
⟨none, none, .store 5 (.t 18) (.t 99)⟩,
⟨some 19, none, .mv (.t 100)⟩]
abbrev x6r22 : List XOper := [
⟨some 101, none, .fa 1 (.t 9)⟩,
⟨some 102, none, .load false 1 (.t 101)⟩,
⟨some 103, none, .bin .neq (.t 102) (.c (.int .i64 1))⟩]
abbrev x6r23 : List XOper := [
⟨some 105, none, .fa 25 (.t 10)⟩,
⟨some 106, none, .load true 4 (.t 105)⟩,
⟨some 107, none, .mv (.t 14)⟩,
⟨some 108, none, .call (.c (.fn (.func 22) [] [])) [(.t 106), (.t 107)]⟩,
⟨some 104, none, .mv (.t 108)⟩,
⟨some 109, none, .ext (.t 104) 0⟩,
⟨some 110, none, .ext (.t 104) 1⟩,
⟨none, none, .store 5 (.t 18) (.t 109)⟩,
⟨some 19, none, .mv (.t 110)⟩]
abbrev x6r24 : List XOper := [
⟨some 112, none, .fa 2 (.t 18)⟩,
⟨some 113, none, .load false 1 (.t 112)⟩,
⟨some 114, none, .fa 3 (.t 18)⟩,
⟨some 115, none, .load true 2 (.t 114)⟩,
⟨some 116, none, .call (.c (.fn (.func 23) [] [])) [(.t 113), (.t 115)]⟩,
⟨some 111, none, .mv (.t 116)⟩,
⟨some 117, none, .ext (.t 111) 0⟩,
⟨some 118, none, .ext (.t 111) 1⟩,
⟨some 20, none, .mv (.t 117)⟩,
⟨some 21, none, .mv (.t 118)⟩]
abbrev x6r25 : List XOper := [
⟨some 119, none, .mv (.t 12)⟩,
⟨some 120, none, .mv (.t 20)⟩,
⟨some 121, none, .mkslice 1 (.int .i64 0) 1 [(0, (.t 120))]⟩,
⟨some 122, none, .app 1 8 (.t 119) (.t 121)⟩,
⟨some 12, none, .mv (.t 122)⟩]
abbrev x6r26 : List XOper := [
⟨some 123, none, .mv (.t 12)⟩,
⟨some 124, none, .lenV (.t 123)⟩,
⟨some 125, none, .bin .gtr (.t 124) (.c (.int .i64 15))⟩]
abbrev x6r27 : List XOper := [
⟨some 126, none, .mv (.t 12)⟩,
⟨some 127, none, .slV 1 (.t 126) (some (.c (.int .i64 1))) none none⟩,
⟨some 12, none, .mv (.t 127)⟩]
abbrev x6r28 : List XOper := [
⟨some 129, none, .mv (.t 12)⟩,
⟨some 130, none, .call (.c (.fn (.func 24) [] [])) [(.t 129)]⟩,
⟨some 128, none, .mv (.t 130)⟩,
⟨some 131, none, .ext (.t 128) 0⟩,
⟨some 132, none, .ext (.t 128) 1⟩,
⟨some 22, none, .alloc [(.bool false), (.bool false), (.bool false), (.bool false), (.bool false), (.bool false), (.bool false), (.bool false)]⟩,
⟨none, none, .store 8 (.t 22) (.t 131)⟩,
⟨some 23, none, .mv (.t 132)⟩]
abbrev x6r29 : List XOper := [
⟨some 133, none, .mv (.t 19)⟩,
⟨some 134, none, .bin .neq (.t 133) (.c (.int .i64 0))⟩,
⟨some 135, none, .mv (.t 134)⟩,
⟨some 136, some (135, false), .mv (.t 21)⟩,
⟨some 137, some (135, false), .bin .neq (.t 136) (.c (.int .i64 0))⟩,
⟨some 138, none, .pick (.t 135) (.c (.bool true)) (.t 137)⟩,
⟨some 139, none, .mv (.t 138)⟩,
⟨some 140, some (139, false), .mv (.t 23)⟩,
⟨some 141, some (139, false), .bin .neq (.t 140) (.c (.int .i64 0))⟩,
⟨some 142, none, .pick (.t 139) (.c (.bool true)) (.t 141)⟩,
⟨some 143, none, .mv (.t 142)⟩,
⟨some 144, some (143, false), .fa 1 (.t 16)⟩,
⟨some 145, some (143, false), .load false 1 (.t 144)⟩,
⟨some 146, some (143, false), .bin .eql (.t 145) (.c (.int .i64 1))⟩,
⟨some 147, some (143, false), .mv (.t 146)⟩,
⟨some 148, some (147, true), .mv (.t 20)⟩,
⟨some 149, some (147, true), .bin .neq (.t 148) (.c (.int .i64 4))⟩,
⟨some 150, some (143, false), .pick (.t 147) (.t 149) (.c (.bool false))⟩,
⟨some 151, some (143, false), .mv (.t 150)⟩,
⟨some 152, some (151, true), .mv (.t 20)⟩,
⟨some 153, some (151, true), .bin .neq (.t 152) (.c (.int .i64 (-4)))⟩,
⟨some 154, some (143, false), .pick (.t 151) (.t 153) (.c (.bool false))⟩,
⟨some 155, none, .pick (.t 143) (.c (.bool true)) (.t 154)⟩,
⟨some 156, none, .mv (.t 155)⟩,
⟨some 157, some (156, false), .fa 1 (.t 16)⟩,
⟨some 158, some (156, false), .load false 1 (.t 157)⟩,
⟨some 159, some (156, false), .bin .eql (.t 158) (.c (.int .i64 0))⟩,
⟨some 160, some (156, false), .mv (.t 159)⟩,
⟨some 161, some (160, true), .mv (.t 20)⟩,
⟨some 162, some (160, true), .bin .eql (.t 161) (.c (.int .i64 4))⟩,
⟨some 163, some (160, true), .mv (.t 162)⟩,
⟨some 164, some (163, false), .mv (.t 20)⟩,
⟨some 165, some (163, false), .bin .eql (.t 164) (.c (.int .i64 (-4)))⟩,
⟨some 166, some (160, true), .pick (.t 163) (.c (.bool true)) (.t 165)⟩,
⟨some 167, some (156, false), .pick (.t 160) (.t 166) (.c (.bool false))⟩,
⟨some 168, none, .pick (.t 156) (.c (.bool true)) (.t 167)⟩]
abbrev x6r30 : List XOper := [
⟨some 8, none, .mv (.c (.bool false))⟩]
abbrev x6r31 : List XOper := [
⟨some 169, none, .fa 4 (.t 16)⟩,
⟨some 170, none, .load true 8 (.t 169)⟩,
⟨some 171, none, .mv (.c (.int .i64 0))⟩]
abbrev x6r32 : List XOper := [
⟨some 172, none, .bin .lss (.t 171) (.c (.int .i64 8))⟩]
abbrev x6r33 : List XOper := [
⟨some 173, none, .mv (.t 171)⟩,
⟨some 174, none, .ixA false 8 1 (.t 170) (.t 171)⟩,
⟨some 24, none, .mv (.t 173)⟩,
⟨some 25, none, .mv (.t 174)⟩]
abbrev x6r34 : List XOper := [
⟨some 175, none, .mv (.t 25)⟩,
⟨some 176, none, .bin .eql (.t 175) (.c (.int .i64 2))⟩,
⟨some 177, none, .mv (.t 176)⟩,
⟨some 178, some (177, true), .mv (.t 24)⟩,
⟨some 179, some (177, true), .iaA 8 1 (.t 22) (.t 178)⟩,
⟨some 180, some (177, true), .load false 1 (.t 179)⟩,
⟨some 181, some (177, true), .un .not (.t 180)⟩,
⟨some 182, none, .pick (.t 177) (.t 181) (.c (.bool false))⟩,
⟨some 183, none, .mv (.t 182)⟩,
⟨some 184, some (183, false), .mv (.t 25)⟩,
⟨some 185, some (183, false), .bin .eql (.t 184) (.c (.int .i64 0))⟩,
⟨some 186, some (183, false), .mv (.t 185)⟩,
⟨some 187, some (186, true), .mv (.t 24)⟩,
⟨some 188, some (186, true), .iaA 8 1 (.t 22) (.t 187)⟩,
⟨some 189, some (186, true), .load false 1 (.t 188)⟩,
⟨some 190, some (183, false), .pick (.t 186) (.t 189) (.c (.bool false))⟩,
⟨some 191, none, .pick (.t 183) (.c (.bool true)) (.t 190)⟩]
abbrev x6r35 : List XOper := [
⟨some 8, none, .mv (.c (.bool false))⟩]
abbrev x6r36 : List XOper := [
⟨some 192, none, .bin .add (.t 171) (.c (.int .i64 1))⟩,
⟨some 171, none, .mv (.t 192)⟩]
abbrev x6l32 : XCode :=
(.seq (.reg 32 x6r32 none)
(.seq (.cond (.t 172)
.skip
(.exit 2))
(.seq (.block 3
(.seq (.reg 33 x6r33 none)
(.seq (.reg 34 x6r34 none)
(.cond (.t 191)
(.seq (.reg 35 x6r35 none)
.ret)
.skip))))
(.reg 36 x6r36 none))))
abbrev x6r37 : List XOper := [
⟨some 193, none, .bin .add (.t 47) (.c (.int .i64 1))⟩,
⟨some 47, none, .mv (.t 193)⟩]
abbrev x6l7 : XCode :=
(.seq (.reg 7 x6r7 none)
(.seq (.cond (.t 48)
.skip
(.exit 0))
(.seq (.block 1
(.seq (.reg 8 x6r8 none)
(.seq (.seq (.reg 9 x6r9 none)
(.seq (.reg 10 x6r10 none)
(.cond (.t 56)
(.seq (.reg 11 x6r11 none)
(.seq (.reg 12 x6r12 none)
(.cond (.t 68)
(.reg 13 x6r13 none)
.skip)))
.skip)))
(.seq (.reg 14 x6r14 none)
(.seq (.seq (.reg 15 x6r15 none)
(.cond (.t 81)
(.seq (.reg 16 x6r16 none)
.ret)
.skip))
(.seq (.reg 17 x6r17 none)
(.seq (.seq (.reg 18 x6r18 none)
(.cond (.t 85)
(.seq (.seq (.reg 19 x6r19 none)
(.cond (.t 93)
(.seq (.reg 20 x6r20 none)
.ret)
.skip))
(.exit 1))
.skip))
(.seq (.reg 21 x6r21 none)
(.seq (.seq (.reg 22 x6r22 none)
(.cond (.t 103)
(.reg 23 x6r23 none)
.skip))
(.seq (.reg 24 x6r24 none)
(.seq (.seq (.reg 25 x6r25 none)
(.seq (.reg 26 x6r26 none)
(.cond (.t 125)
(.reg 27 x6r27 none)
.skip)))
(.seq (.reg 28 x6r28 none)
(.seq (.seq (.reg 29 x6r29 none)
(.cond (.t 168)
(.seq (.reg 30 x6r30 none)
.ret)
.skip))
(.seq (.reg 31 x6r31 none)
(.block 2
(.loop x6l32))))))))))))))))
(.reg 37 x6r37 none))))
abbrev x6r38 : List XOper := [
⟨some 8, none, .mv (.c (.bool true))⟩]
abbrev x6b : XCode :=
(.seq (.reg 0 x6r0 none)
(.seq (.reg 1 x6r1 none)
(.seq (.reg 2 x6r2 none)
(.seq (.seq (.reg 3 x6r3 none)
(.cond (.t 40)
(.seq (.reg 4 x6r4 none)
.ret)
.skip))
(.seq (.reg 5 x6r5 none)
(.seq (.seq (.reg 6 x6r6 none)
(.block 0
(.loop x6l7)))
(.seq (.reg 38 x6r38 none)
.ret)))))))
def x6 : XFunc := ⟨194, 4, [.tmp 8], x6b⟩
theorem x6_ok : chkF Tryz.prog Tryz.f6 x6 = true := by kernel_rfl
theorem x6_eq : x6.body = x6b ∧ x6.res = [.tmp 8] ∧ x6.np = 4 := ⟨rfl, rfl, rfl⟩
abbrev x8r0 : List XOper := [
⟨some 6, none, .alloc [(.str ⟨#[]⟩), (.int .i64 0), (.int .i64 0), (.int .i64 0), (.int .i64 0), (.int .i64 0), (.int .i64 0), (.int .i64 0), (.int .i64 0), (.int .i64 0), (.int .i64 0), (.int .i64 0), (.int .i64 0), (.int .i64 0)]⟩]
abbrev x8r1 : List XOper := [
⟨some 8, none, .mv (.t 0)⟩,
⟨some 9, none, .bin .rem (.t 8) (.c (.int .i64 5))⟩,
⟨some 10, none, .bin .add (.t 9) (.c (.int .i64 5))⟩,
⟨some 11, none, .bin .rem (.t 10) (.c (.int .i64 5))⟩,
⟨some 12, none, .bin .add (.c (.int .i64 1)) (.t 11)⟩,
⟨some 13, none, .mv (.t 2)⟩,
⟨some 14, none, .bin .rem (.t 13) (.c (.int .i64 24))⟩,
⟨some 15, none, .bin .add (.t 14) (.c (.int .i64 24))⟩,
⟨some 16, none, .bin .rem (.t 15) (.c (.int .i64 24))⟩,
⟨some 17, none, .bin .add (.c (.int .i64 2)) (.t 16)⟩,
⟨some 18, none, .build [(.str ⟨#[]⟩), (.int .i64 0), (.int .i64 0), (.int .i64 0), (.int .i64 0), (.int .i64 0), (.int .i64 0), (.int .i64 0), (.int .i64 0), (.int .i64 0), (.int .i64 0), (.int .i64 0), (.int .i64 0), (.int .i64 0)] [(0, 1, (.c (.str ⟨#[97]⟩))), (1, 1, (.t 12)), (5, 1, (.t 17)), (6, 1, (.c (.int .i64 1000)))]⟩,
⟨some 7, none, .alloc [(.str ⟨#[]⟩), (.int .i64 0), (.int .i64 0), (.int .i64 0), (.int .i64 0), (.int .i64 0), (.int .i64 0), (.int .i64 0), (.int .i64 0), (.int .i64 0), (.int .i64 0), (.int .i64 0), (.int .i64 0), (.int .i64 0)]⟩,
⟨none, none, .store 14 (.t 7) (.t 18)⟩]
abbrev x8r2 : List XOper := [
⟨some 19, none, .fa 1 (.t 7)⟩,
⟨some 20, none, .load false 1 (.t 19)⟩]
abbrev x8r4 : List XOper := [
⟨some 28, none, .bin .eql (.t 20) (.c (.int .i64 1))⟩,
⟨some 27, none, .mv (.t 28)⟩]
abbrev x8r5 : List XOper := [
⟨some 29, none, .fa 3 (.t 7)⟩,
⟨none, none, .store 1 (.t 29) (.c (.int .i64 (-1000000)))⟩,
⟨some 30, none, .fa 4 (.t 7)⟩,
⟨none, none, .store 1 (.t 30) (.c (.int .i64 1000000))⟩]
abbrev x8r6 : List XOper := [
⟨some 32, none, .bin .eql (.t 20) (.c (.int .i64 4))⟩,
⟨some 31, none, .mv (.t 32)⟩]
abbrev x8r3 : List XOper := [
⟨some 21, none, .mv (.t 1)⟩,
⟨some 22, none, .bin .rem (.t 21) (.c (.int .i64 1000))⟩,
⟨some 23, none, .bin .add (.t 22) (.c (.int .i64 1000))⟩,
⟨some 24, none, .bin .rem (.t 23) (.c (.int .i64 1000))⟩,
⟨some 25, none, .bin .add (.c (.int .i64 1)) (.t 24)⟩,
⟨some 26, none, .fa 2 (.t 7)⟩,
⟨none, none, .store 1 (.t 26) (.t 25)⟩]
abbrev x8r7 : List XOper := [
⟨some 33, none, .load true 14 (.t 7)⟩,
⟨none, none, .store 14 (.t 6) (.t 33)⟩]
abbrev x8b : XCode :=
(.seq (.reg 0 x8r0 none)
(.seq (.reg 1 x8r1 none)
(.seq (.seq (.reg 2 x8r2 none)
(.block 0
(.seq (.reg 4 x8r4 none)
(.cond (.t 27)
(.reg 5 x8r5 none)
(.seq (.reg 6 x8r6 none)
(.cond (.t 31)
.skip
(.reg 3 x8r3 none)))))))
(.seq (.reg 7 x8r7 none)
.ret))))
def x8 : XFunc := ⟨34, 3, [.cell 6 true 14], x8b⟩
theorem x8_ok : chkF Tryz.prog Tryz.f8 x8 = true := by kernel_rfl
theorem x8_eq : x8.body = x8b ∧ x8.res = [.cell 6 true 14] ∧ x8.np = 3 := ⟨rfl, rfl, rfl⟩
abbrev x9r0 : List XOper := [
⟨some 1, none, .box (.t 0)⟩,
⟨some 2, none, .alloc [(.str ⟨#[]⟩), (.int .i64 0), (.int .i64 0), (.int .i64 0), (.int .i64 0), (.int .i64 0), (.int .i64 0), (.int .i64 0), (.int .i64 0), (.int .i64 0), (.int .i64 0), (.int .i64 0), (.int .i64 0), (.int .i64 0), (.int .i64 0), (.int .i64 0), (.int .i64 0), (.int .i64 0), (.int .i64 0), .nils, (.int .i64 0), (.int .i64 0), (.int .i64 0), (.int .i64 0), (.int .i64 0), (.int .i64 0), (.int .i64 0), (.int .i64 0), (.int .i64 0), (.int .i64 0), (.int .i64 0), (.int .i64 0), (.int .i64 0), (.int .i64 0), (.int .i64 0), (.int .i64 0), (.int .i64 0), (.int .i64 0), (.int .i64 0), (.int .i64 0), (.int .i64 0), (.int .i64 0), (.int .i64 0), .nils]⟩,
⟨some 3, none, .mv (.c (.int .i64 0))⟩]
abbrev x9r1 : List XOper := [
⟨some 5, none, .load true 14 (.t 1)⟩,
⟨some 6, none, .mkslice 14 (.agg [(.str ⟨#[]⟩), (.int .i64 0), (.int .i64 0), (.int .i64 0), (.int .i64 0), (.int .i64 0), (.int .i64 0), (.int .i64 0), (.int .i64 0), (.int .i64 0), (.int .i64 0), (.int .i64 0), (.int .i64 0), (.int .i64 0)]) 1 [(0, (.t 5))]⟩,
⟨some 7, none, .build [.nils] [(0, 1, (.t 6))]⟩,
⟨some 8, none, .call (.c (.fn (.func 29) [] [])) [(.t 7)]⟩,
⟨some 9, none, .un .not (.t 8)⟩]
abbrev x9r2 : List XOper := [
⟨some 10, none, .build [(.str ⟨#[]⟩), (.int .i64 0), (.int .i64 0), (.int .i64 0), (.int .i64 0), (.int .i64 0), (.int .i64 0), (.int .i64 0), (.int .i64 0), (.int .i64 0), (.int .i64 0), (.int .i64 0), (.int .i64 0), (.int .i64 0), (.int .i64 0), (.int .i64 0), (.int .i64 0), (.int .i64 0), (.int .i64 0), .nils, (.int .i64 0), (.int .i64 0), (.int .i64 0), (.int .i64 0), (.int .i64 0), (.int .i64 0), (.int .i64 0), (.int .i64 0), (.int .i64 0), (.int .i64 0), (.int .i64 0), (.int .i64 0), (.int .i64 0), (.int .i64 0), (.int .i64 0), (.int .i64 0), (.int .i64 0), (.int .i64 0), (.int .i64 0), (.int .i64 0), (.int .i64 0), (.int .i64 0), (.int .i64 0), .nils] []⟩,
⟨none, none, .store 44 (.t 2) (.t 10)⟩,
⟨some 3, none, .mv (.c (.int .i64 1))⟩]
abbrev x9r3 : List XOper := [
⟨some 11, none, .load true 14 (.t 1)⟩,
⟨some 12, none, .build [(.str ⟨#[]⟩), (.int .i64 0), (.int .i64 0), (.int .i64 0), (.int .i64 0), (.int .i64 0), (.int .i64 0), (.int .i64 0), (.int .i64 0), (.int .i64 0), (.int .i64 0), (.int .i64 0), (.int .i64 0), (.int .i64 0), (.int .i64 0), (.int .i64 0), (.int .i64 0), (.int .i64 0), (.int .i64 0), .nils, (.int .i64 0), (.int .i64 0), (.int .i64 0), (.int .i64 0), (.int .i64 0), (.int .i64 0), (.int .i64 0), (.int .i64 0), (.int .i64 0), (.int .i64 0), (.int .i64 0), (.int .i64 0), (.int .i64 0), (.int .i64 0), (.int .i64 0), (.int .i64 0), (.int .i64 0), (.int .i64 0), (.int .i64 0), (.int .i64 0), (.int .i64 0), (.int .i64 0), (.int .i64 0), .nils] [(0, 14, (.t 11))]⟩,
⟨some 4, none, .alloc [(.str ⟨#[]⟩), (.int .i64 0), (.int .i64 0), (.int .i64 0), (.int .i64 0), (.int .i64 0), (.int .i64 0), (.int .i64 0), (.int .i64 0), (.int .i64 0), (.int .i64 0), (.int .i64 0), (.int .i64 0), (.int .i64 0), (.int .i64 0), (.int .i64 0), (.int .i64 0), (.int .i64 0), (.int .i64 0), .nils, (.int .i64 0), (.int .i64 0), (.int .i64 0), (.int .i64 0), (.int .i64 0), (.int .i64 0), (.int .i64 0), (.int .i64 0), (.int .i64 0), (.int .i64 0), (.int .i64 0), (.int .i64 0), (.int .i64 0), (.int .i64 0), (.int .i64 0), (.int .i64 0), (.int .i64 0), (.int .i64 0), (.int .i64 0), (.int .i64 0), (.int .i64 0), (.int .i64 0), (.int .i64 0), .nils]⟩,
⟨none, none, .store 44 (.t 4) (.t 12)⟩]
abbrev x9r4 : List XOper := [
⟨some 13, none, .call (.c (.fn (.func 30) [] [])) [(.t 4)]⟩]
abbrev x9r5 : List XOper := [
⟨some 14, none, .tas 91 (.agg [.nilp]) (.t 13)⟩,
⟨some 15, none, .ext (.t 14) 1⟩,
⟨some 16, none, .ext (.t 14) 0⟩]
abbrev x9r6 : List XOper := [
⟨some 18, none, .fa 2 (.t 1)⟩,
⟨some 19, none, .load false 1 (.t 18)⟩,
⟨some 20, none, .fa 3 (.t 1)⟩,
⟨some 21, none, .load false 1 (.t 20)⟩,
⟨some 22, none, .fa 4 (.t 1)⟩,
⟨some 23, none, .load false 1 (.t 22)⟩,
⟨some 24, none, .call (.c (.fn (.func 31) [] [])) [(.t 19), (.t 21), (.t 23)]⟩,
⟨some 17, none, .mv (.t 24)⟩,
⟨some 25, none, .ext (.t 17) 0⟩,
⟨some 26, none, .ext (.t 17) 1⟩,
⟨some 27, none, .fa 16 (.t 4)⟩,
⟨none, none, .store 4 (.t 27) (.t 25)⟩]
abbrev x9r7 : List XOper := [
⟨some 29, none, .fa 2 (.t 1)⟩,
⟨some 30, none, .load false 1 (.t 29)⟩,
⟨some 31, none, .call (.c (.fn (.func 32) [] [])) [(.t 30)]⟩,
⟨some 28, none, .mv (.t 31)⟩,
⟨some 32, none, .ext (.t 28) 0⟩,
⟨some 33, none, .ext (.t 28) 1⟩,
⟨some 34, none, .fa 20 (.t 4)⟩,
⟨none, none, .store 5 (.t 34) (.t 32)⟩]
abbrev x9r8 : List XOper := [
⟨some 35, none, .tas 96 (.agg [.nilp]) (.t 13)⟩,
⟨some 36, none, .ext (.t 35) 1⟩,
⟨some 37, none, .ext (.t 35) 0⟩]
abbrev x9r9 : List XOper := [
⟨some 39, none, .call (.c (.fn (.func 32) [] [])) [(.c (.int .i64 1))]⟩,
⟨some 38, none, .mv (.t 39)⟩,
⟨some 40, none, .ext (.t 38) 0⟩,
⟨some 41, none, .ext (.t 38) 1⟩,
⟨some 42, none, .fa 20 (.t 4)⟩,
⟨none, none, .store 5 (.t 42) (.t 40)⟩]
abbrev x9r10 : List XOper := [
⟨some 43, none, .tas 97 (.agg [.nilp]) (.t 13)⟩,
⟨some 44, none, .ext (.t 43) 1⟩,
⟨some 45, none, .ext (.t 43) 0⟩]
abbrev x9r11 : List XOper := [
⟨some 47, none, .fa 1 (.t 1)⟩,
⟨some 48, none, .load false 1 (.t 47)⟩,
⟨some 49, none, .fa 2 (.t 1)⟩,
⟨some 50, none, .load false 1 (.t 49)⟩,
⟨some 51, none, .mnx true (.t 50) [(.c (.int .i64 1))]⟩,
⟨some 52, none, .call (.c (.fn (.func 33) [] [])) [(.t 48), (.t 51)]⟩,
⟨some 46, none, .mv (.t 52)⟩,
⟨some 53, none, .ext (.t 46) 0⟩,
⟨some 54, none, .ext (.t 46) 1⟩,
⟨some 55, none, .fa 25 (.t 4)⟩,
⟨none, none, .store 4 (.t 55) (.t 53)⟩]
abbrev x9r12 : List XOper := [
⟨some 56, none, .tas 100 (.agg [.nilp]) (.t 13)⟩,
⟨some 57, none, .ext (.t 56) 1⟩,
⟨some 58, none, .ext (.t 56) 0⟩]
abbrev x9r13 : List XOper := [
⟨some 60, none, .fa 7 (.t 1)⟩,
⟨some 61, none, .load false 1 (.t 60)⟩,
⟨some 62, none, .fa 8 (.t 1)⟩,
⟨some 63, none, .load false 1 (.t 62)⟩,
⟨some 64, none, .fa 9 (.t 1)⟩,
⟨some 65, none, .load false 1 (.t 64)⟩,
⟨some 66, none, .call (.c (.fn (.func 34) [] [])) [(.t 61), (.t 63), (.t 65)]⟩,
⟨some 59, none, .mv (.t 66)⟩,
⟨some 67, none, .ext (.t 59) 0⟩,
⟨some 68, none, .ext (.t 59) 1⟩,
⟨some 69, none, .fa 29 (.t 4)⟩,
⟨none, none, .store 6 (.t 69) (.t 67)⟩]
abbrev x9r14 : List XOper := [
⟨some 70, none, .tas 103 (.agg [.nilp]) (.t 13)⟩,
⟨some 71, none, .ext (.t 70) 1⟩,
⟨some 72, none, .ext (.t 70) 0⟩]
abbrev x9r15 : List XOper := [
⟨some 74, none, .fa 7 (.t 1)⟩,
⟨some 75, none, .load false 1 (.t 74)⟩,
⟨some 76, none, .fa 10 (.t 1)⟩,
⟨some 77, none, .load false 1 (.t 76)⟩,
⟨some 78, none, .fa 11 (.t 1)⟩,
⟨some 79, none, .load false 1 (.t 78)⟩,
⟨some 80, none, .call (.c (.fn (.func 35) [] [])) [(.t 75), (.t 77), (.t 79)]⟩,
⟨some 73, none, .mv (.t 80)⟩,
⟨some 81, none, .ext (.t 73) 0⟩,
⟨some 82, none, .ext (.t 73) 1⟩,
⟨some 83, none, .fa 35 (.t 4)⟩,
⟨none, none, .store 8 (.t 83) (.t 81)⟩]
abbrev x9r16 : List XOper := [
⟨some 84, none, .load true 44 (.t 4)⟩,
⟨none, none, .store 44 (.t 2) (.t 84)⟩,
⟨some 3, none, .mv (.c (.int .i64 0))⟩]
abbrev x9b : XCode :=
(.seq (.reg 0 x9r0 none)
(.seq (.seq (.reg 1 x9r1 none)
(.cond (.t 9)
(.seq (.reg 2 x9r2 none)
.ret)
.skip))
(.seq (.reg 3 x9r3 none)
(.seq (.seq (.reg 4 x9r4 none)
(.block 0
(.seq (.reg 5 x9r5 none)
(.cond (.t 15)
(.seq (.reg 6 x9r6 none)
(.reg 7 x9r7 none))
(.seq (.reg 8 x9r8 none)
(.cond (.t 36)
(.reg 9 x9r9 none)
(.seq (.reg 10 x9r10 none)
(.cond (.t 44)
(.reg 11 x9r11 none)
(.seq (.reg 12 x9r12 none)
(.cond (.t 57)
(.reg 13 x9r13 none)
(.seq (.reg 14 x9r14 none)
(.cond (.t 71)
(.reg 15 x9r15 none)
.skip))))))))))))
(.seq (.reg 16 x9r16 none)
.ret)))))
def x9 : XFunc := ⟨85, 1, [.cell 2 true 44, .tmp 3], x9b⟩
theorem x9_ok : chkF Tryz.prog Tryz.f9 x9 = true := by kernel_rfl
theorem x9_eq : x9.body = x9b ∧ x9.res = [.cell 2 true 44, .tmp 3] ∧ x9.np = 1 := ⟨rfl, rfl, rfl⟩
abbrev x10r0 : List XOper := [
⟨some 2, none, .box (.t 0)⟩,
⟨some 4, none, .alloc [(.str ⟨#[]⟩), (.int .i64 0), (.int .i64 0), (.int .i64 0), (.int .i64 0), (.int .i64 0), (.int .i64 0), (.int .i64 0), (.int .i64 0), (.int .i64 0), (.int .i64 0), (.int .i64 0), (.int .i64 0), (.int .i64 0), (.int .i64 0), (.int .i64 0), (.int .i64 0), (.int .i64 0), (.int .i64 0), .nils, (.int .i64 0), (.int .i64 0), (.int .i64 0), (.int .i64 0), (.int .i64 0), (.int .i64 0), (.int .i64 0), (.int .i64 0), (.int .i64 0), (.int .i64 0), (.int .i64 0), (.int .i64 0), (.int .i64 0), (.int .i64 0), (.int .i64 0), (.int .i64 0), (.int .i64 0), (.int .i64 0), (.int .i64 0), (.int .i64 0), (.int .i64 0), (.int .i64 0), (.int .i64 0), .nils]⟩,
⟨some 5, none, .mv (.c .nils)⟩,
⟨some 6, none, .mv (.c .nils)⟩]
abbrev x10r1 : List XOper := [
⟨some 7, none, .mv (.c .nils)⟩]
abbrev x10r2 : List XOper := [
⟨some 8, none, .mv (.c .nils)⟩]
abbrev x10r3 : List XOper := [
⟨some 14, none, .mv (.t 1)⟩,
⟨some 15, none, .lenV (.t 14)⟩,
⟨some 16, none, .mv (.c (.int .i64 0))⟩]
abbrev x10r4 : List XOper := [
⟨some 17, none, .bin .lss (.t 16) (.t 15)⟩]
abbrev x10r5 : List XOper := [
⟨some 18, none, .iaS 1 (.t 14) (.t 16)⟩,
⟨some 19, none, .load false 1 (.t 18)⟩,
⟨some 10, none, .mv (.t 19)⟩]
abbrev x10r6 : List XOper := [
⟨some 21, none, .load true 44 (.t 2)⟩,
⟨some 22, none, .mv (.t 10)⟩,
⟨some 23, none, .call (.c (.fn (.func 12) [] [])) [(.t 21), (.t 22)]⟩,
⟨some 20, none, .mv (.t 23)⟩,
⟨some 24, none, .ext (.t 20) 0⟩,
⟨some 25, none, .ext (.t 20) 1⟩,
⟨some 26, none, .ext (.t 20) 2⟩,
⟨some 11, none, .alloc [(.str ⟨#[]⟩), (.int .i64 0), (.int .i64 0), (.int .i64 0), (.int .i64 0), (.int .i64 0), (.int .i64 0), (.int .i64 0), (.int .i64 0), (.int .i64 0), (.int .i64 0), (.int .i64 0), (.int .i64 0), (.int .i64 0), (.int .i64 0), (.int .i64 0), (.int .i64 0), (.int .i64 0), (.int .i64 0), .nils, (.int .i64 0), (.int .i64 0), (.int .i64 0), (.int .i64 0), (.int .i64 0), (.int .i64 0), (.int .i64 0), (.int .i64 0), (.int .i64 0), (.int .i64 0), (.int .i64 0), (.int .i64 0), (.int .i64 0), (.int .i64 0), (.int .i64 0), (.int .i64 0), (.int .i64 0), (.int .i64 0), (.int .i64 0), (.int .i64 0), (.int .i64 0), (.int .i64 0), (.int .i64 0), .nils]⟩,
⟨some 12, none, .alloc [(.int .i64 0), (.int .i64 0), (.int .i64 0), (.int .i64 0), (.int .i64 0), (.int .i64 0), (.int .i64 0), (.int .i64 0), (.int .i64 0), (.int .i64 0), (.int .i64 0), (.int .i64 0)]⟩,
⟨none, none, .store 44 (.t 11) (.t 24)⟩,
⟨none, none, .store 12 (.t 12) (.t 25)⟩,
⟨some 13, none, .mv (.t 26)⟩]
abbrev x10r7 : List XOper := [
⟨some 27, none, .mv (.t 13)⟩,
⟨some 28, none, .bin .eql (.t 27) (.c (.int .i64 0))⟩]
abbrev x10r8 : List XOper := [
⟨some 29, none, .load true 44 (.t 11)⟩,
⟨none, none, .store 44 (.t 2) (.t 29)⟩]
abbrev x10r9 : List XOper := [
⟨some 30, none, .mv (.t 7)⟩,
⟨some 31, none, .load true 12 (.t 12)⟩,
⟨some 32, none, .mkslice 12 (.agg [(.int .i64 0), (.int .i64 0), (.int .i64 0), (.int .i64 0), (.int .i64 0), (.int .i64 0), (.int .i64 0), (.int .i64 0), (.int .i64 0), (.int .i64 0), (.int .i64 0), (.int .i64 0)]) 1 [(0, (.t 31))]⟩,
⟨some 33, none, .app 12 96 (.t 30) (.t 32)⟩,
⟨some 34, none, .mv (.t 8)⟩,
⟨some 35, none, .mv (.t 13)⟩,
⟨some 36, none, .mkslice 1 (.int .i64 0) 1 [(0, (.t 35))]⟩,
⟨some 37, none, .app 1 8 (.t 34) (.t 36)⟩,
⟨some 7, none, .mv (.t 33)⟩,
⟨some 8, none, .mv (.t 37)⟩]
abbrev x10r10 : List XOper := [
⟨some 38, none, .bin .add (.t 16) (.c (.int .i64 1))⟩,
⟨some 16, none, .mv (.t 38)⟩]
abbrev x10l4 : XCode :=
(.seq (.reg 4 x10r4 none)
(.seq (.cond (.t 17)
.skip
(.exit 0))
(.seq (.block 1
(.seq (.reg 5 x10r5 none)
(.seq (.reg 6 x10r6 none)
(.seq (.seq (.reg 7 x10r7 none)
(.cond (.t 28)
(.reg 8 x10r8 none)
.skip))
(.reg 9 x10r9 none)))))
(.reg 10 x10r10 none))))
abbrev x10r11 : List XOper := [
⟨some 39, none, .load true 44 (.t 2)⟩,
⟨some 40, none, .mv (.t 7)⟩,
⟨some 41, none, .mv (.t 8)⟩,
⟨none, none, .store 44 (.t 4) (.t 39)⟩,
⟨some 5, none, .mv (.t 40)⟩,
⟨some 6, none, .mv (.t 41)⟩]
abbrev x10b : XCode :=
(.seq (.reg 0 x10r0 none)
(.seq (.reg 1 x10r1 none)
(.seq (.reg 2 x10r2 none)
(.seq (.seq (.reg 3 x10r3 none)
(.block 0
(.loop x10l4)))
(.seq (.reg 11 x10r11 none)
.ret)))))
def x10 : XFunc := ⟨42, 2, [.cell 4 true 44, .tmp 5, .tmp 6], x10b⟩
theorem x10_ok : chkF Tryz.prog Tryz.f10 x10 = true := by kernel_rfl
theorem x10_eq : x10.body = x10b ∧ x10.res = [.cell 4 true 44, .tmp 5, .tmp 6] ∧ x10.np = 2 := ⟨rfl, rfl, rfl⟩
abbrev x11r0 : List XOper := [
⟨some 0, none, .mv (.c (.bool false))⟩]
abbrev x11r1 : List XOper := [
⟨some 7, none, .build [(.str ⟨#[]⟩), (.int .i64 0), (.int .i64 0), (.int .i64 0), (.int .i64 0), (.int .i64 0), (.int .i64 0), (.int .i64 0), (.int .i64 0), (.int .i64 0), (.int .i64 0), (.int .i64 0), (.int .i64 0), (.int .i64 0)] [(0, 1, (.c (.str ⟨#[97]⟩))), (1, 1, (.c (.int .i64 1))), (3, 1, (.c (.int .i64 0))), (4, 1, (.c (.int .i64 100))), (5, 1, (.c (.int .i64 2))), (6, 1, (.c (.int .i64 9)))]⟩,
⟨some 8, none, .call (.c (.fn (.func 9) [] [])) [(.t 7)]⟩,
⟨some 6, none, .mv (.t 8)⟩,
⟨some 9, none, .ext (.t 6) 0⟩,
⟨some 10, none, .ext (.t 6) 1⟩,
⟨some 1, none, .alloc [(.str ⟨#[]⟩), (.int .i64 0), (.int .i64 0), (.int .i64 0), (.int .i64 0), (.int .i64 0), (.int .i64 0), (.int .i64 0), (.int .i64 0), (.int .i64 0), (.int .i64 0), (.int .i64 0), (.int .i64 0), (.int .i64 0), (.int .i64 0), (.int .i64 0), (.int .i64 0), (.int .i64 0), (.int .i64 0), .nils, (.int .i64 0), (.int .i64 0), (.int .i64 0), (.int .i64 0), (.int .i64 0), (.int .i64 0), (.int .i64 0), (.int .i64 0), (.int .i64 0), (.int .i64 0), (.int .i64 0), (.int .i64 0), (.int .i64 0), (.int .i64 0), (.int .i64 0), (.int .i64 0), (.int .i64 0), (.int .i64 0), (.int .i64 0), (.int .i64 0), (.int .i64 0), (.int .i64 0), (.int .i64 0), .nils]⟩,
⟨none, none, .store 44 (.t 1) (.t 9)⟩,
⟨some 2, none, .mv (.t 10)⟩]
abbrev x11r2 : List XOper := [
⟨some 12, none, .load true 44 (.t 1)⟩,
⟨some 13, none, .mkslice 1 (.int .i64 0) 3 [(0, (.c (.int .i64 5))), (1, (.c (.int .i64 7))), (2, (.c (.int .i64 100)))]⟩,
⟨some 14, none, .call (.c (.fn (.func 10) [] [])) [(.t 12), (.t 13)]⟩,
⟨some 11, none, .mv (.t 14)⟩,
⟨some 15, none, .ext (.t 11) 0⟩,
⟨some 16, none, .ext (.t 11) 1⟩,
⟨some 17, none, .ext (.t 11) 2⟩,
⟨some 3, none, .alloc [(.str ⟨#[]⟩), (.int .i64 0), (.int .i64 0), (.int .i64 0), (.int .i64 0), (.int .i64 0), (.int .i64 0), (.int .i64 0), (.int .i64 0), (.int .i64 0), (.int .i64 0), (.int .i64 0), (.int .i64 0), (.int .i64 0), (.int .i64 0), (.int .i64 0), (.int .i64 0), (.int .i64 0), (.int .i64 0), .nils, (.int .i64 0), (.int .i64 0), (.int .i64 0), (.int .i64 0), (.int .i64 0), (.int .i64 0), (.int .i64 0), (.int .i64 0), (.int .i64 0), (.int .i64 0), (.int .i64 0), (.int .i64 0), (.int .i64 0), (.int .i64 0), (.int .i64 0), (.int .i64 0), (.int .i64 0), (.int .i64 0), (.int .i64 0), (.int .i64 0), (.int .i64 0), (.int .i64 0), (.int .i64 0), .nils]⟩,
⟨none, none, .store 44 (.t 3) (.t 15)⟩,
⟨some 4, none, .mv (.t 16)⟩,
⟨some 5, none, .mv (.t 17)⟩]
abbrev x11r3 : List XOper := [
⟨some 18, none, .mv (.t 2)⟩,
⟨some 19, none, .bin .eql (.t 18) (.c (.int .i64 0))⟩,
⟨some 20, none, .mv (.t 19)⟩,
⟨some 21, some (20, true), .mv (.t 4)⟩,
⟨some 22, some (20, true), .lenV (.t 21)⟩,
⟨some 23, some (20, true), .bin .eql (.t 22) (.c (.int .i64 3))⟩,
⟨some 24, none, .pick (.t 20) (.t 23) (.c (.bool false))⟩,
⟨some 25, none, .mv (.t 24)⟩,
⟨some 26, some (25, true), .mv (.t 5)⟩,
⟨some 27, some (25, true), .lenV (.t 26)⟩,
⟨some 28, some (25, true), .bin .eql (.t 27) (.c (.int .i64 3))⟩,
⟨some 29, none, .pick (.t 25) (.t 28) (.c (.bool false))⟩,
⟨some 30, none, .mv (.t 29)⟩,
⟨some 31, some (30, true), .mv (.t 4)⟩,
⟨some 32, some (30, true), .iaS 12 (.t 31) (.c (.int .i64 1))⟩,
⟨some 33, some (30, true), .fa 0 (.t 32)⟩,
⟨some 34, some (30, true), .load false 1 (.t 33)⟩,
⟨some 35, some (30, true), .bin .eql (.t 34) (.c (.int .i64 1))⟩,
⟨some 36, none, .pick (.t 30) (.t 35) (.c (.bool false))⟩,
⟨some 37, none, .mv (.t 36)⟩,
⟨some 38, some (37, true), .mv (.t 4)⟩,
⟨some 39, some (37, true), .iaS 12 (.t 38) (.c (.int .i64 2))⟩,
⟨some 40, some (37, true), .fa 0 (.t 39)⟩,
⟨some 41, some (37, true), .load false 1 (.t 40)⟩,
⟨some 42, some (37, true), .bin .eql (.t 41) (.c (.int .i64 2))⟩,
⟨some 43, none, .pick (.t 37) (.t 42) (.c (.bool false))⟩,
⟨some 44, none, .mv (.t 43)⟩,
⟨some 45, some (44, true), .mv (.t 4)⟩,
⟨some 46, some (44, true), .iaS 12 (.t 45) (.c (.int .i64 2))⟩,
⟨some 47, some (44, true), .fa 1 (.t 46)⟩,
⟨some 48, some (44, true), .load false 1 (.t 47)⟩,
⟨some 49, some (44, true), .bin .eql (.t 48) (.c (.int .i64 1))⟩,
⟨some 50, none, .pick (.t 44) (.t 49) (.c (.bool false))⟩,
⟨some 0, none, .mv (.t 50)⟩]
abbrev x11b : XCode :=
(.seq (.reg 0 x11r0 none)
(.seq (.reg 1 x11r1 none)
(.seq (.reg 2 x11r2 none)
(.seq (.reg 3 x11r3 none)
.ret))))
def x11 : XFunc := ⟨51, 0, [.tmp 0], x11b⟩
theorem x11_ok : chkF Tryz.prog Tryz.f11 x11 = true := by kernel_rfl
theorem x11_eq : x11.body = x11b ∧ x11.res = [.tmp 0] ∧ x11.np = 0 := ⟨rfl, rfl, rfl⟩
abbrev x12r0 : List XOper := [
⟨some 2, none, .box (.t 0)⟩,
⟨some 4, none, .alloc [(.str ⟨#[]⟩), (.int .i64 0), (.int .i64 0), (.int .i64 0), (.int .i64 0), (.int .i64 0), (.int .i64 0), (.int .i64 0), (.int .i64 0), (.int .i64 0), (.int .i64 0), (.int .i64 0), (.int .i64 0), (.int .i64 0), (.int .i64 0), (.int .i64 0), (.int .i64 0), (.int .i64 0), (.int .i64 0), .nils, (.int .i64 0), (.int .i64 0), (.int .i64 0), (.int .i64 0), (.int .i64 0), (.int .i64 0), (.int .i64 0), (.int .i64 0), (.int .i64 0), (.int .i64 0), (.int .i64 0), (.int .i64 0), (.int .i64 0), (.int .i64 0), (.int .i64 0), (.int .i64 0), (.int .i64 0), (.int .i64 0), (.int .i64 0), (.int .i64 0), (.int .i64 0), (.int .i64 0), (.int .i64 0), .nils]⟩,
⟨some 5, none, .alloc [(.int .i64 0), (.int .i64 0), (.int .i64 0), (.int .i64 0), (.int .i64 0), (.int .i64 0), (.int .i64 0), (.int .i64 0), (.int .i64 0), (.int .i64 0), (.int .i64 0), (.int .i64 0)]⟩,
⟨some 6, none, .mv (.c (.int .i64 0))⟩]
abbrev x12r1 : List XOper := [
⟨some 7, none, .load true 44 (.t 2)⟩,
⟨some 8, none, .call (.c (.fn (.func 27) [] [])) [(.t 7)]⟩,
⟨some 9, none, .un .not (.t 8)⟩]
abbrev x12r2 : List XOper := [
⟨some 10, none, .build [(.str ⟨#[]⟩), (.int .i64 0), (.int .i64 0), (.int .i64 0), (.int .i64 0), (.int .i64 0), (.int .i64 0), (.int .i64 0), (.int .i64 0), (.int .i64 0), (.int .i64 0), (.int .i64 0), (.int .i64 0), (.int .i64 0), (.int .i64 0), (.int .i64 0), (.int .i64 0), (.int .i64 0), (.int .i64 0), .nils, (.int .i64 0), (.int .i64 0), (.int .i64 0), (.int .i64 0), (.int .i64 0), (.int .i64 0), (.int .i64 0), (.int .i64 0), (.int .i64 0), (.int .i64 0), (.int .i64 0), (.int .i64 0), (.int .i64 0), (.int .i64 0), (.int .i64 0), (.int .i64 0), (.int .i64 0), (.int .i64 0), (.int .i64 0), (.int .i64 0), (.int .i64 0), (.int .i64 0), (.int .i64 0), .nils] []⟩,
⟨some 11, none, .build [(.int .i64 0), (.int .i64 0), (.int .i64 0), (.int .i64 0), (.int .i64 0), (.int .i64 0), (.int .i64 0), (.int .i64 0), (.int .i64 0), (.int .i64 0), (.int .i64 0), (.int .i64 0)] []⟩,
⟨none, none, .store 44 (.t 4) (.t 10)⟩,
⟨none, none, .store 12 (.t 5) (.t 11)⟩,
⟨some 6, none, .mv (.c (.int .i64 1))⟩]
abbrev x12r3 : List XOper := [
⟨some 12, none, .load true 44 (.t 2)⟩,
⟨some 13, none, .mv (.t 1)⟩,
⟨some 14, none, .call (.c (.fn (.func 36) [] [])) [(.t 12), (.t 13)]⟩,
⟨some 15, none, .ext (.t 14) 0⟩,
⟨some 16, none, .ext (.t 14) 1⟩,
⟨some 17, none, .ext (.t 14) 2⟩,
⟨none, none, .store 44 (.t 4) (.t 15)⟩,
⟨none, none, .store 12 (.t 5) (.t 16)⟩,
⟨some 6, none, .mv (.t 17)⟩]
abbrev x12b : XCode :=
(.seq (.reg 0 x12r0 none)
(.seq (.seq (.reg 1 x12r1 none)
(.cond (.t 9)
(.seq (.reg 2 x12r2 none)
.ret)
.skip))
(.seq (.reg 3 x12r3 none)
.ret)))
def x12 : XFunc := ⟨18, 2, [.cell 4 true 44, .cell 5 true 12, .tmp 6], x12b⟩
theorem x12_ok : chkF Tryz.prog Tryz.f12 x12 = true := by kernel_rfl
theorem x12_eq : x12.body = x12b ∧ x12.res = [.cell 4 true 44, .cell 5 true 12, .tmp 6] ∧ x12.np = 2 := ⟨rfl, rfl, rfl⟩
abbrev x13r0 : List XOper := [
⟨some 2, none, .box (.t 0)⟩,
⟨some 3, none, .box (.t 1)⟩,
⟨some 4, none, .mv (.c (.bool false))⟩]
abbrev x13r1 : List XOper := [
⟨some 5, none, .fa 0 (.t 2)⟩,
⟨some 6, none, .load true 14 (.t 5)⟩,
⟨some 7, none, .fa 0 (.t 3)⟩,
⟨some 8, none, .load true 14 (.t 7)⟩,
⟨some 9, none, .eqA false [2, 0, 0, 0, 0, 0, 0, 0, 0, 0, 0, 0, 0, 0] (.t 6) (.t 8)⟩,
⟨some 10, none, .mv (.t 9)⟩,
⟨some 11, some (10, true), .fa 14 (.t 2)⟩,
⟨some 12, some (10, true), .load false 1 (.t 11)⟩,
⟨some 13, some (10, true), .fa 14 (.t 3)⟩,
⟨some 14, some (10, true), .load false 1 (.t 13)⟩,
⟨some 15, some (10, true), .bin .eql (.t 12) (.t 14)⟩,
⟨some 16, none, .pick (.t 10) (.t 15) (.c (.bool false))⟩,
⟨some 17, none, .mv (.t 16)⟩,
⟨some 18, some (17, true), .fa 15 (.t 2)⟩,
⟨some 19, some (17, true), .load false 1 (.t 18)⟩,
⟨some 20, some (17, true), .fa 15 (.t 3)⟩,
⟨some 21, some (17, true), .load false 1 (.t 20)⟩,
⟨some 22, some (17, true), .bin .eql (.t 19) (.t 21)⟩,
⟨some 23, none, .pick (.t 17) (.t 22) (.c (.bool false))⟩,
⟨some 24, none, .mv (.t 23)⟩,
⟨some 25, some (24, true), .fa 16 (.t 2)⟩,
⟨some 26, some (24, true), .load true 4 (.t 25)⟩,
⟨some 27, some (24, true), .fa 16 (.t 3)⟩,
⟨some 28, some (24, true), .load true 4 (.t 27)⟩,
⟨some 29, some (24, true), .call (.c (.fn (.func 37) [] [])) [(.t 26), (.t 28)]⟩,
⟨some 30, none, .pick (.t 24) (.t 29) (.c (.bool false))⟩,
⟨some 31, none, .mv (.t 30)⟩,
⟨some 32, some (31, true), .fa 20 (.t 2)⟩,
⟨some 33, some (31, true), .load true 5 (.t 32)⟩,
⟨some 34, some (31, true), .fa 20 (.t 3)⟩,
⟨some 35, some (31, true), .load true 5 (.t 34)⟩,
⟨some 36, some (31, true), .eqA false [0, 0, 0, 0, 0] (.t 33) (.t 35)⟩,
⟨some 37, none, .pick (.t 31) (.t 36) (.c (.bool false))⟩,
⟨some 38, none, .mv (.t 37)⟩,
⟨some 39, some (38, true), .fa 25 (.t 2)⟩,
⟨some 40, some (38, true), .load true 4 (.t 39)⟩,
⟨some 41, some (38, true), .fa 25 (.t 3)⟩,
⟨some 42, some (38, true), .load true 4 (.t 41)⟩,
⟨some 43, some (38, true), .eqA false [0, 0, 0, 0] (.t 40) (.t 42)⟩,
⟨some 44, none, .pick (.t 38) (.t 43) (.c (.bool false))⟩,
⟨some 45, none, .mv (.t 44)⟩,
⟨some 46, some (45, true), .fa 29 (.t 2)⟩,
⟨some 47, some (45, true), .load true 6 (.t 46)⟩,
⟨some 48, some (45, true), .fa 29 (.t 3)⟩,
⟨some 49, some (45, true), .load true 6 (.t 48)⟩,
⟨some 50, some (45, true), .eqA false [0, 0, 0, 0, 0, 0] (.t 47) (.t 49)⟩,
⟨some 51, none, .pick (.t 45) (.t 50) (.c (.bool false))⟩,
⟨some 52, none, .mv (.t 51)⟩,
⟨some 53, some (52, true), .fa 35 (.t 2)⟩,
⟨some 54, some (52, true), .load true 8 (.t 53)⟩,
⟨some 55, some (52, true), .fa 35 (.t 3)⟩,
⟨some 56, some (52, true), .load true 8 (.t 55)⟩,
⟨some 57, some (52, true), .eqA false [0, 0, 0, 0, 0, 0, 0, 0] (.t 54) (.t 56)⟩,
⟨some 58, none, .pick (.t 52) (.t 57) (.c (.bool false))⟩,
⟨some 59, none, .mv (.t 58)⟩,
⟨some 60, some (59, true), .fa 43 (.t 2)⟩,
⟨some 61, some (59, true), .load false 1 (.t 60)⟩,
⟨some 62, some (59, true), .fa 43 (.t 3)⟩,
⟨some 63, some (59, true), .load false 1 (.t 62)⟩,
⟨some 64, some (59, true), .call (.c (.fn (.func 14) [] [])) [(.t 61), (.t 63)]⟩,
⟨some 65, none, .pick (.t 59) (.t 64) (.c (.bool false))⟩,
⟨some 4, none, .mv (.t 65)⟩]
abbrev x13b : XCode :=
(.seq (.reg 0 x13r0 none)
(.seq (.reg 1 x13r1 none)
.ret))
def x13 : XFunc := ⟨66, 2, [.tmp 4], x13b⟩
theorem x13_ok : chkF Tryz.prog Tryz.f13 x13 = true := by kernel_rfl
abbrev x14r0 : List XOper := [
⟨some 4, none, .mv (.c (.bool false))⟩]
abbrev x14r1 : List XOper := [
⟨some 6, none, .mv (.t 0)⟩,
⟨some 7, none, .lenV (.t 6)⟩,
⟨some 8, none, .mv (.t 1)⟩,
⟨some 9, none, .lenV (.t 8)⟩,
⟨some 10, none, .bin .neq (.t 7) (.t 9)⟩]
abbrev x14r2 : List XOper := [
⟨some 4, none, .mv (.c (.bool false))⟩]
abbrev x14r3 : List XOper := [
⟨some 11, none, .mv (.t 0)⟩,
⟨some 12, none, .lenV (.t 11)⟩,
⟨some 13, none, .mv (.c (.int .i64 0))⟩]
abbrev x14r4 : List XOper := [
⟨some 14, none, .bin .lss (.t 13) (.t 12)⟩]
abbrev x14r5 : List XOper := [
⟨some 15, none, .mv (.t 13)⟩,
⟨some 5, none, .mv (.t 15)⟩]
abbrev x14r6 : List XOper := [
⟨some 16, none, .mv (.t 0)⟩,
⟨some 17, none, .mv (.t 5)⟩,
⟨some 18, none, .iaS 1 (.t 16) (.t 17)⟩,
⟨some 19, none, .load false 1 (.t 18)⟩,
⟨some 20, none, .mv (.t 1)⟩,
⟨some 21, none, .mv (.t 5)⟩,
⟨some 22, none, .iaS 1 (.t 20) (.t 21)⟩,
⟨some 23, none, .load false 1 (.t 22)⟩,
⟨some 24, none, .bin .neq (.t 19) (.t 23)⟩]
abbrev x14r7 : List XOper := [
⟨some 4, none, .mv (.c (.bool false))⟩]
abbrev x14r8 : List XOper := [
⟨some 25, none, .bin .add (.t 13) (.c (.int .i64 1))⟩,
⟨some 13, none, .mv (.t 25)⟩]
abbrev x14l4 : XCode :=
(.seq (.reg 4 x14r4 none)
(.seq (.cond (.t 14)
.skip
(.exit 0))
(.seq (.block 1
(.seq (.reg 5 x14r5 none)
(.seq (.reg 6 x14r6 (some ⟨[]⟩))
(.cond (.t 24)
(.seq (.reg 7 x14r7 none)
.ret)
.skip))))
(.reg 8 x14r8 none))))
abbrev x14r9 : List XOper := [
⟨some 4, none, .mv (.c (.bool true))⟩]
abbrev x14b : XCode :=
(.seq (.reg 0 x14r0 none)
(.seq (.seq (.reg 1 x14r1 none)
(.cond (.t 10)
(.seq (.reg 2 x14r2 none)
.ret)
.skip))
(.seq (.seq (.reg 3 x14r3 none)
(.block 0
(.loop x14l4)))
(.seq (.reg 9 x14r9 none)
.ret))))
def x14 : XFunc := ⟨26, 2, [.tmp 4], x14b⟩
theorem x14_ok : chkF Tryz.prog Tryz.f14 x14 = true := by kernel_rfl
abbrev x21r0 : List XOper := [
⟨some 2, none, .box (.t 0)⟩,
⟨some 4, none, .alloc [(.int .i64 0), (.int .i64 0), (.int .i64 0), (.int .u64 0), (.int .u64 0)]⟩,
⟨some 5, none, .mv (.c (.int .i64 0))⟩]
abbrev x21r1 : List XOper := [
⟨some 11, none, .load true 5 (.t 2)⟩,
⟨some 12, none, .call (.c (.fn (.func 53) [] [])) [(.t 11)]⟩,
⟨some 13, none, .un .not (.t 12)⟩,
⟨some 14, none, .mv (.t 13)⟩,
⟨some 15, some (14, false), .mv (.t 1)⟩,
⟨some 16, some (14, false), .fa 0 (.t 2)⟩,
⟨some 17, some (14, false), .load false 1 (.t 16)⟩,
⟨some 18, some (14, false), .un .neg (.t 17)⟩,
⟨some 19, some (14, false), .bin .mul (.t 18) (.c (.int .i64 1000000))⟩,
⟨some 20, some (14, false), .bin .lss (.t 15) (.t 19)⟩,
⟨some 21, none, .pick (.t 14) (.c (.bool true)) (.t 20)⟩,
⟨some 22, none, .mv (.t 21)⟩,
⟨some 23, some (22, false), .mv (.t 1)⟩,
⟨some 24, some (22, false), .fa 0 (.t 2)⟩,
⟨some 25, some (22, false), .load false 1 (.t 24)⟩,
⟨some 26, some (22, false), .bin .mul (.t 25) (.c (.int .i64 1000000))⟩,
⟨some 27, some (22, false), .bin .gtr (.t 23) (.t 26)⟩,
⟨some 28, none, .pick (.t 22) (.c (.bool true)) (.t 27)⟩,
⟨some 10, none, .mv (.t 28)⟩]
abbrev x21r2 : List XOper := [
⟨some 29, none, .build [(.int .i64 0), (.int .i64 0), (.int .i64 0), (.int .u64 0), (.int .u64 0)] []⟩,
⟨none, none, .store 5 (.t 4) (.t 29)⟩,
⟨some 5, none, .mv (.c (.int .i64 1))⟩]
abbrev x21r3 : List XOper := [
⟨some 31, none, .fa 1 (.t 2)⟩,
⟨some 32, none, .load false 1 (.t 31)⟩,
⟨some 33, none, .bin .lss (.t 32) (.c (.int .i64 2))⟩,
⟨some 30, none, .mv (.t 33)⟩]
abbrev x21r4 : List XOper := [
⟨some 34, none, .build [(.int .i64 0), (.int .i64 0), (.int .i64 0), (.int .u64 0), (.int .u64 0)] []⟩,
⟨none, none, .store 5 (.t 4) (.t 34)⟩,
⟨some 5, none, .mv (.c (.int .i64 12))⟩]
abbrev x21r5 : List XOper := [
⟨some 36, none, .load true 5 (.t 2)⟩,
⟨some 37, none, .call (.c (.fn (.func 54) [] [])) [(.t 36)]⟩,
⟨some 38, none, .inv "datum/base.scale" (.t 37) []⟩,
⟨some 35, none, .mv (.t 38)⟩,
⟨some 39, none, .ext (.t 35) 0⟩,
⟨some 40, none, .ext (.t 35) 1⟩,
⟨some 41, none, .ext (.t 35) 2⟩,
⟨some 42, none, .ext (.t 35) 3⟩,
⟨some 6, none, .mv (.t 39)⟩,
⟨some 7, none, .mv (.t 40)⟩,
⟨some 8, none, .mv (.t 41)⟩,
⟨some 9, none, .mv (.t 42)⟩]
abbrev x21r6 : List XOper := [
⟨some 43, none, .mv (.t 6)⟩,
⟨some 44, none, .mv (.t 7)⟩,
⟨some 45, none, .fa 2 (.t 2)⟩,
⟨some 46, none, .load false 1 (.t 45)⟩,
⟨some 47, none, .bin .mul (.t 44) (.t 46)⟩,
⟨some 48, none, .mv (.t 8)⟩,
⟨some 49, none, .mv (.t 1)⟩,
⟨some 50, none, .fa 1 (.t 2)⟩,
⟨some 51, none, .load false 1 (.t 50)⟩,
⟨some 52, none, .bin .mul (.t 49) (.t 51)⟩,
⟨some 53, none, .fa 2 (.t 2)⟩,
⟨some 54, none, .load false 1 (.t 53)⟩,
⟨some 55, none, .bin .sub (.t 52) (.t 54)⟩,
⟨some 56, none, .bin .mul (.t 48) (.t 55)⟩,
⟨some 57, none, .mv (.t 9)⟩,
⟨some 58, none, .conv .u64 (.t 57)⟩,
⟨some 59, none, .mv (.t 9)⟩,
⟨some 60, none, .conv .u64 (.t 59)⟩,
⟨some 61, none, .call (.c (.fn (.func 55) [] [])) [(.t 58), (.t 60)]⟩,
⟨some 62, none, .build [(.int .i64 0), (.int .i64 0), (.int .i64 0), (.int .u64 0), (.int .u64 0)] [(1, 1, (.t 43)), (0, 1, (.t 47)), (2, 1, (.t 56)), (3, 2, (.t 61))]⟩,
⟨none, none, .store 5 (.t 4) (.t 62)⟩,
⟨some 5, none, .mv (.c (.int .i64 0))⟩]
abbrev x21b : XCode :=
(.seq (.reg 0 x21r0 none)
(.seq (.block 0
(.seq (.reg 1 x21r1 none)
(.cond (.t 10)
(.seq (.reg 2 x21r2 none)
.ret)
(.seq (.reg 3 x21r3 none)
(.cond (.t 30)
(.seq (.reg 4 x21r4 none)
.ret)
.skip)))))
(.seq (.reg 5 x21r5 none)
(.seq (.reg 6 x21r6 (some ⟨[(3, 18), (8, 18), (11, 18)]⟩))
.ret))))
def x21 : XFunc := ⟨63, 2, [.cell 4 true 5, .tmp 5], x21b⟩
theorem x21_ok : chkF Tryz.prog Tryz.f21 x21 = true := by kernel_rfl
theorem x21_eq : x21.body = x21b ∧ x21.res = [.cell 4 true 5, .tmp 5] ∧ x21.np = 2 := ⟨rfl, rfl, rfl⟩
abbrev x22r0 : List XOper := [
⟨some 2, none, .box (.t 0)⟩,
⟨some 4, none, .alloc [(.int .i64 0), (.int .i64 0), (.int .i64 0), (.int .u64 0), (.int .u64 0)]⟩,
⟨some 5, none, .mv (.c (.int .i64 0))⟩]
abbrev x22r1 : List XOper := [
⟨some 7, none, .load true 4 (.t 2)⟩,
⟨some 8, none, .mv (.t 1)⟩,
⟨some 9, none, .call (.c (.fn (.func 56) [] [])) [(.t 7), (.t 8)]⟩,
⟨some 10, none, .un .not (.t 9)⟩,
⟨some 6, none, .mv (.t 10)⟩]
abbrev x22r2 : List XOper := [
⟨some 11, none, .build [(.int .i64 0), (.int .i64 0), (.int .i64 0), (.int .u64 0), (.int .u64 0)] []⟩,
⟨none, none, .store 5 (.t 4) (.t 11)⟩,
⟨some 5, none, .mv (.c (.int .i64 1))⟩]
abbrev x22r3 : List XOper := [
⟨some 13, none, .fa 2 (.t 2)⟩,
⟨some 14, none, .load false 1 (.t 13)⟩,
⟨some 15, none, .bin .eql (.t 14) (.c (.int .i64 0))⟩,
⟨some 12, none, .mv (.t 15)⟩]
abbrev x22r4 : List XOper := [
⟨some 16, none, .build [(.int .i64 0), (.int .i64 0), (.int .i64 0), (.int .u64 0), (.int .u64 0)] []⟩,
⟨none, none, .store 5 (.t 4) (.t 16)⟩,
⟨some 5, none, .mv (.c (.int .i64 12))⟩]
abbrev x22r5 : List XOper := [
⟨some 17, none, .callN (.c (.fn (.func 57) [] [])) []⟩,
⟨some 18, none, .fa 0 (.t 2)⟩,
⟨some 19, none, .load false 1 (.t 18)⟩,
⟨some 20, none, .lkp 0 false (.agg [.nilf, .nilf]) (.t 17) (.t 19)⟩,
⟨some 21, none, .fld false 1 1 (.t 20)⟩,
⟨some 22, none, .load true 4 (.t 2)⟩,
⟨some 23, none, .mv (.t 1)⟩,
⟨some 24, none, .call (.t 21) [(.t 22), (.t 23)]⟩,
⟨none, none, .store 5 (.t 4) (.t 24)⟩,
⟨some 5, none, .mv (.c (.int .i64 0))⟩]
abbrev x22b : XCode :=
(.seq (.reg 0 x22r0 none)
(.seq (.block 0
(.seq (.reg 1 x22r1 none)
(.cond (.t 6)
(.seq (.reg 2 x22r2 none)
.ret)
(.seq (.reg 3 x22r3 none)
(.cond (.t 12)
(.seq (.reg 4 x22r4 none)
.ret)
.skip)))))
(.seq (.reg 5 x22r5 (some ⟨[(0, 2), (0, 5), (3, 5)]⟩))
.ret)))
def x22 : XFunc := ⟨25, 2, [.cell 4 true 5, .tmp 5], x22b⟩
theorem x22_ok : chkF Tryz.prog Tryz.f22 x22 = true := by kernel_rfl
theorem x22_eq : x22.body = x22b ∧ x22.res = [.cell 4 true 5, .tmp 5] ∧ x22.np = 2 := ⟨rfl, rfl, rfl⟩
abbrev x23r0 : List XOper := [
⟨some 3, none, .box (.t 1)⟩,
⟨some 4, none, .mv (.c (.int .i64 0))⟩,
⟨some 5, none, .mv (.c (.int .i64 0))⟩]
abbrev x23r1 : List XOper := [
⟨some 6, none, .fa 0 (.t 3)⟩,
⟨some 7, none, .load false 1 (.t 6)⟩,
⟨some 8, none, .bin .geq (.t 7) (.c (.int .u64 1152921504606846976))⟩]
abbrev x23r2 : List XOper := [
⟨some 4, none, .mv (.c (.int .i64 0))⟩,
⟨some 5, none, .mv (.c (.int .i64 1))⟩]
abbrev x23r3 : List XOper := [
⟨some 9, none, .mv (.t 0)⟩,
⟨some 10, none, .load true 2 (.t 3)⟩,
⟨some 11, none, .call (.c (.fn (.func 58) [] [])) [(.t 9), (.t 10)]⟩,
⟨some 4, none, .mv (.t 11)⟩,
⟨some 5, none, .mv (.c (.int .i64 0))⟩]
abbrev x23b : XCode :=
(.seq (.reg 0 x23r0 none)
(.seq (.seq (.reg 1 x23r1 none)
(.cond (.t 8)
(.seq (.reg 2 x23r2 none)
.ret)
.skip))
(.seq (.reg 3 x23r3 none)
.ret)))
def x23 : XFunc := ⟨12, 2, [.tmp 4, .tmp 5], x23b⟩
theorem x23_ok : chkF Tryz.prog Tryz.f23 x23 = true := by kernel_rfl
theorem x23_eq : x23.body = x23b ∧ x23.res = [.tmp 4, .tmp 5] ∧ x23.np = 2 := ⟨rfl, rfl, rfl⟩
abbrev x24r0 : List XOper := [
⟨some 2, none, .alloc [(.bool false), (.bool false), (.bool false), (.bool false), (.bool false), (.bool false), (.bool false), (.bool false)]⟩,
⟨some 3, none, .mv (.c (.int .i64 0))⟩]
abbrev x24r1 : List XOper := [
⟨some 4, none, .alloc [(.bool false), (.bool false), (.bool false), (.bool false), (.bool false), (.bool false), (.bool false), (.bool false)]⟩]
abbrev x24r2 : List XOper := [
⟨some 5, none, .mv (.c .nils)⟩]
abbrev x24r3 : List XOper := [
⟨some 12, none, .mv (.t 0)⟩,
⟨some 13, none, .lenV (.t 12)⟩,
⟨some 14, none, .mv (.c (.int .i64 0))⟩]
abbrev x24r4 : List XOper := [
⟨some 15, none, .bin .lss (.t 14) (.t 13)⟩]
abbrev x24r5 : List XOper := [
⟨some 16, none, .iaS 1 (.t 12) (.t 14)⟩,
⟨some 17, none, .load false 1 (.t 16)⟩,
⟨some 7, none, .mv (.t 17)⟩]
abbrev x24r6 : List XOper := [
⟨some 18, none, .mv (.t 7)⟩,
⟨some 19, none, .bin .lss (.t 18) (.c (.int .i64 (-4)))⟩,
⟨some 20, none, .mv (.t 19)⟩,
⟨some 21, some (20, false), .mv (.t 7)⟩,
⟨some 22, some (20, false), .bin .gtr (.t 21) (.c (.int .i64 4))⟩,
⟨some 23, none, .pick (.t 20) (.c (.bool true)) (.t 22)⟩]
abbrev x24r7 : List XOper := [
⟨some 24, none, .load true 8 (.t 4)⟩,
⟨none, none, .store 8 (.t 2) (.t 24)⟩,
⟨some 3, none, .mv (.c (.int .i64 1))⟩]
abbrev x24r8 : List XOper := [
⟨some 25, none, .mv (.t 5)⟩,
⟨some 26, none, .mv (.t 7)⟩,
⟨some 27, none, .bin .add (.t 26) (.c (.int .i64 4))⟩,
⟨some 28, none, .bin .shl (.c (.int .i64 1)) (.t 27)⟩,
⟨some 29, none, .mkslice 1 (.int .i64 0) 1 [(0, (.t 28))]⟩,
⟨some 30, none, .app 1 8 (.t 25) (.t 29)⟩,
⟨some 5, none, .mv (.t 30)⟩]
abbrev x24r9 : List XOper := [
⟨some 31, none, .bin .add (.t 14) (.c (.int .i64 1))⟩,
⟨some 14, none, .mv (.t 31)⟩]
abbrev x24l4 : XCode :=
(.seq (.reg 4 x24r4 none)
(.seq (.cond (.t 15)
.skip
(.exit 0))
(.seq (.block 1
(.seq (.reg 5 x24r5 none)
(.seq (.seq (.reg 6 x24r6 none)
(.cond (.t 23)
(.seq (.reg 7 x24r7 none)
.ret)
.skip))
(.reg 8 x24r8 none))))
(.reg 9 x24r9 none))))
abbrev x24r10 : List XOper := [
⟨some 33, none, .mv (.t 5)⟩,
⟨some 34, none, .call (.c (.fn (.func 59) [] [])) [(.t 33)]⟩,
⟨some 32, none, .mv (.t 34)⟩,
⟨some 35, none, .ext (.t 32) 0⟩,
⟨some 36, none, .ext (.t 32) 1⟩,
⟨some 8, none, .alloc [(.int .i64 0), (.int .i64 0), (.int .i64 0), (.int .i64 0), (.int .i64 0), (.int .i64 0), (.int .i64 0), (.int .i64 0)]⟩,
⟨none, none, .store 8 (.t 8) (.t 35)⟩,
⟨some 9, none, .mv (.t 36)⟩]
abbrev x24r11 : List XOper := [
⟨some 37, none, .load true 8 (.t 8)⟩,
⟨some 38, none, .mv (.c (.int .i64 0))⟩]
abbrev x24r12 : List XOper := [
⟨some 39, none, .bin .lss (.t 38) (.c (.int .i64 8))⟩]
abbrev x24r13 : List XOper := [
⟨some 40, none, .mv (.t 38)⟩,
⟨some 41, none, .ixA false 8 1 (.t 37) (.t 38)⟩,
⟨some 10, none, .mv (.t 40)⟩,
⟨some 11, none, .mv (.t 41)⟩]
abbrev x24r14 : List XOper := [
⟨some 42, none, .mv (.t 10)⟩,
⟨some 43, none, .mv (.t 11)⟩,
⟨some 44, none, .bin .eql (.t 43) (.c (.int .i64 2))⟩,
⟨some 45, none, .iaA 8 1 (.t 4) (.t 42)⟩,
⟨none, none, .store 1 (.t 45) (.t 44)⟩]
abbrev x24r15 : List XOper := [
⟨some 46, none, .bin .add (.t 38) (.c (.int .i64 1))⟩,
⟨some 38, none, .mv (.t 46)⟩]
abbrev x24l13 : XCode :=
(.seq (.reg 12 x24r12 none)
(.seq (.cond (.t 39)
.skip
(.exit 2))
(.seq (.block 3
(.seq (.reg 13 x24r13 none)
(.reg 14 x24r14 none)))
(.reg 15 x24r15 none))))
abbrev x24r16 : List XOper := [
⟨some 47, none, .load true 8 (.t 4)⟩,
⟨some 48, none, .mv (.t 9)⟩,
⟨none, none, .store 8 (.t 2) (.t 47)⟩,
⟨some 3, none, .mv (.t 48)⟩]
abbrev x24b : XCode :=
(.seq (.reg 0 x24r0 none)
(.seq (.reg 1 x24r1 none)
(.seq (.reg 2 x24r2 none)
(.seq (.seq (.reg 3 x24r3 none)
(.block 0
(.loop x24l4)))
(.seq (.reg 10 x24r10 none)
(.seq (.seq (.reg 11 x24r11 none)
(.block 2
(.loop x24l13)))
(.seq (.reg 16 x24r16 none)
.ret)))))))
def x24 : XFunc := ⟨49, 1, [.cell 2 true 8, .tmp 3], x24b⟩
theorem x24_ok : chkF Tryz.prog Tryz.f24 x24 = true := by kernel_rfl
theorem x24_eq : x24.body = x24b ∧ x24.res = [.cell 2 true 8, .tmp 3] ∧ x24.np = 1 := ⟨rfl, rfl, rfl⟩
abbrev x27r0 : List XOper := [
⟨some 1, none, .box (.t 0)⟩,
⟨some 2, none, .mv (.c (.bool false))⟩]
abbrev x27r1 : List XOper := [
⟨some 6, none, .fa 0 (.t 1)⟩,
⟨some 7, none, .load true 14 (.t 6)⟩,
⟨some 8, none, .call (.c (.fn (.func 9) [] [])) [(.t 7)]⟩,
⟨some 5, none, .mv (.t 8)⟩,
⟨some 9, none, .ext (.t 5) 0⟩,
⟨some 10, none, .ext (.t 5) 1⟩,
⟨some 3, none, .alloc [(.str ⟨#[]⟩), (.int .i64 0), (.int .i64 0), (.int .i64 0), (.int .i64 0), (.int .i64 0), (.int .i64 0), (.int .i64 0), (.int .i64 0), (.int .i64 0), (.int .i64 0), (.int .i64 0), (.int .i64 0), (.int .i64 0), (.int .i64 0), (.int .i64 0), (.int .i64 0), (.int .i64 0), (.int .i64 0), .nils, (.int .i64 0), (.int .i64 0), (.int .i64 0), (.int .i64 0), (.int .i64 0), (.int .i64 0), (.int .i64 0), (.int .i64 0), (.int .i64 0), (.int .i64 0), (.int .i64 0), (.int .i64 0), (.int .i64 0), (.int .i64 0), (.int .i64 0), (.int .i64 0), (.int .i64 0), (.int .i64 0), (.int .i64 0), (.int .i64 0), (.int .i64 0), (.int .i64 0), (.int .i64 0), .nils]⟩,
⟨none, none, .store 44 (.t 3) (.t 9)⟩,
⟨some 4, none, .mv (.t 10)⟩]
abbrev x27r2 : List XOper := [
⟨some 11, none, .mv (.t 4)⟩,
⟨some 12, none, .bin .neq (.t 11) (.c (.int .i64 0))⟩,
⟨some 13, none, .mv (.t 12)⟩,
⟨some 14, some (13, false), .fa 14 (.t 1)⟩,
⟨some 15, some (13, false), .load false 1 (.t 14)⟩,
⟨some 16, some (13, false), .fa 0 (.t 1)⟩,
⟨some 17, some (13, false), .fa 6 (.t 16)⟩,
⟨some 18, some (13, false), .load false 1 (.t 17)⟩,
⟨some 19, some (13, false), .call (.c (.fn (.func 60) [] [])) [(.t 15), (.c (.int .i64 0)), (.t 18)]⟩,
⟨some 20, some (13, false), .un .not (.t 19)⟩,
⟨some 21, none, .pick (.t 13) (.c (.bool true)) (.t 20)⟩,
⟨some 22, none, .mv (.t 21)⟩,
⟨some 23, some (22, false), .fa 15 (.t 1)⟩,
⟨some 24, some (22, false), .load false 1 (.t 23)⟩,
⟨some 25, some (22, false), .call (.c (.fn (.func 60) [] [])) [(.t 24), (.c (.int .i64 (-1000000))), (.c (.int .i64 1000000))]⟩,
⟨some 26, some (22, false), .un .not (.t 25)⟩,
⟨some 27, none, .pick (.t 22) (.c (.bool true)) (.t 26)⟩,
⟨some 28, none, .mv (.t 27)⟩,
⟨some 29, some (28, false), .load true 44 (.t 1)⟩,
⟨some 30, some (28, false), .call (.c (.fn (.func 61) [] [])) [(.t 29)]⟩,
⟨some 31, some (28, false), .un .not (.t 30)⟩,
⟨some 32, none, .pick (.t 28) (.c (.bool true)) (.t 31)⟩]
abbrev x27r3 : List XOper := [
⟨some 2, none, .mv (.c (.bool false))⟩]
abbrev x27r4 : List XOper := [
⟨some 33, none, .call (.c (.fn (.func 30) [] [])) [(.t 1)]⟩,
⟨some 34, none, .load true 44 (.t 3)⟩,
⟨some 35, none, .inv "datum/channel.right" (.t 33) [(.t 34)]⟩,
⟨some 2, none, .mv (.t 35)⟩]
abbrev x27b : XCode :=
(.seq (.reg 0 x27r0 none)
(.seq (.reg 1 x27r1 none)
(.seq (.seq (.reg 2 x27r2 none)
(.cond (.t 32)
(.seq (.reg 3 x27r3 none)
.ret)
.skip))
(.seq (.reg 4 x27r4 (some ⟨[(0, 1)]⟩))
.ret))))
def x27 : XFunc := ⟨36, 1, [.tmp 2], x27b⟩
theorem x27_ok : chkF Tryz.prog Tryz.f27 x27 = true := by kernel_rfl
theorem x27_eq : x27.body = x27b ∧ x27.res = [.tmp 2] ∧ x27.np = 1 := ⟨rfl, rfl, rfl⟩
abbrev x29r0 : List XOper := [
⟨some 1, none, .box (.t 0)⟩,
⟨some 2, none, .mv (.c (.bool false))⟩]
abbrev x29r1 : List XOper := [
⟨some 6, none, .mkM⟩,
⟨some 3, none, .mv (.t 6)⟩]
abbrev x29r2 : List XOper := [
⟨some 7, none, .fa 0 (.t 1)⟩,
⟨some 8, none, .load false 1 (.t 7)⟩,
⟨some 9, none, .lenV (.t 8)⟩,
⟨some 10, none, .mv (.c (.int .i64 0))⟩]
abbrev x29r3 : List XOper := [
⟨some 11, none, .bin .lss (.t 10) (.t 9)⟩]
abbrev x29r4 : List XOper := [
⟨some 12, none, .iaS 14 (.t 8) (.t 10)⟩,
⟨some 13, none, .load true 14 (.t 12)⟩,
⟨some 5, none, .alloc [(.str ⟨#[]⟩), (.int .i64 0), (.int .i64 0), (.int .i64 0), (.int .i64 0), (.int .i64 0), (.int .i64 0), (.int .i64 0), (.int .i64 0), (.int .i64 0), (.int .i64 0), (.int .i64 0), (.int .i64 0), (.int .i64 0)]⟩,
⟨none, none, .store 14 (.t 5) (.t 13)⟩]
abbrev x29r5 : List XOper := [
⟨some 14, none, .mv (.t 3)⟩,
⟨some 15, none, .fa 0 (.t 5)⟩,
⟨some 16, none, .load false 1 (.t 15)⟩,
⟨some 17, none, .lkp 2 false (.int .i64 0) (.t 14) (.t 16)⟩,
⟨some 18, none, .bin .add (.t 17) (.c (.int .i64 1))⟩,
⟨none, none, .mset 2 (.t 14) (.t 16) (.t 18)⟩]
abbrev x29r6 : List XOper := [
⟨some 19, none, .mv (.t 3)⟩,
⟨some 20, none, .fa 0 (.t 5)⟩,
⟨some 21, none, .load false 1 (.t 20)⟩,
⟨some 22, none, .lkp 2 false (.int .i64 0) (.t 19) (.t 21)⟩,
⟨some 23, none, .bin .gtr (.t 22) (.c (.int .i64 1))⟩,
⟨some 24, none, .mv (.t 23)⟩,
⟨some 25, some (24, false), .load true 14 (.t 5)⟩,
⟨some 26, some (24, false), .call (.c (.fn (.func 69) [] [])) [(.t 25)]⟩,
⟨some 27, some (24, false), .un .not (.t 26)⟩,
⟨some 28, none, .pick (.t 24) (.c (.bool true)) (.t 27)⟩]
abbrev x29r7 : List XOper := [
⟨some 2, none, .mv (.c (.bool false))⟩]
abbrev x29r8 : List XOper := [
⟨some 29, none, .bin .add (.t 10) (.c (.int .i64 1))⟩,
⟨some 10, none, .mv (.t 29)⟩]
abbrev x29l3 : XCode :=
(.seq (.reg 3 x29r3 none)
(.seq (.cond (.t 11)
.skip
(.exit 0))
(.seq (.block 1
(.seq (.reg 4 x29r4 none)
(.seq (.reg 5 x29r5 none)
(.seq (.reg 6 x29r6 none)
(.cond (.t 28)
(.seq (.reg 7 x29r7 none)
.ret)
.skip)))))
(.reg 8 x29r8 none))))
abbrev x29r9 : List XOper := [
⟨some 30, none, .fa 0 (.t 1)⟩,
⟨some 31, none, .load false 1 (.t 30)⟩,
⟨some 32, none, .lenV (.t 31)⟩,
⟨some 33, none, .bin .geq (.t 32) (.c (.int .i64 1))⟩,
⟨some 34, none, .mv (.t 33)⟩,
⟨some 35, some (34, true), .fa 0 (.t 1)⟩,
⟨some 36, some (34, true), .load false 1 (.t 35)⟩,
⟨some 37, some (34, true), .lenV (.t 36)⟩,
⟨some 38, some (34, true), .bin .leq (.t 37) (.c (.int .i64 4))⟩,
⟨some 39, none, .pick (.t 34) (.t 38) (.c (.bool false))⟩,
⟨some 2, none, .mv (.t 39)⟩]
abbrev x29b : XCode :=
(.seq (.reg 0 x29r0 none)
(.seq (.reg 1 x29r1 none)
(.seq (.seq (.reg 2 x29r2 none)
(.block 0
(.loop x29l3)))
(.seq (.reg 9 x29r9 none)
.ret))))
def x29 : XFunc := ⟨40, 1, [.tmp 2], x29b⟩
theorem x29_ok : chkF Tryz.prog Tryz.f29 x29 = true := by kernel_rfl
theorem x29_eq : x29.body = x29b ∧ x29.res = [.tmp 2] ∧ x29.np = 1 := ⟨rfl, rfl, rfl⟩
abbrev x30r0 : List XOper := [
⟨some 2, none, .mv (.c .nili)⟩]
abbrev x30r1 : List XOper := [
⟨some 3, none, .mv (.t 0)⟩,
⟨some 4, none, .nilChk (.t 3)⟩,
⟨some 5, none, .fa 0 (.t 4)⟩,
⟨some 6, none, .fa 1 (.t 5)⟩,
⟨some 7, none, .load false 1 (.t 6)⟩]
abbrev x30r2 : List XOper := [
⟨some 9, none, .bin .eql (.t 7) (.c (.int .i64 0))⟩,
⟨some 8, none, .mv (.t 9)⟩]
abbrev x30r3 : List XOper := [
⟨some 10, none, .mv (.t 0)⟩,
⟨some 11, none, .build [.nilp] [(0, 1, (.t 10))]⟩,
⟨some 12, none, .mki 91 (.t 11)⟩,
⟨some 2, none, .mv (.t 12)⟩]
abbrev x30r4 : List XOper := [
⟨some 14, none, .bin .eql (.t 7) (.c (.int .i64 1))⟩,
⟨some 13, none, .mv (.t 14)⟩]
abbrev x30r5 : List XOper := [
⟨some 15, none, .mv (.t 0)⟩,
⟨some 16, none, .build [.nilp] [(0, 1, (.t 15))]⟩,
⟨some 17, none, .mki 96 (.t 16)⟩,
⟨some 2, none, .mv (.t 17)⟩]
abbrev x30r6 : List XOper := [
⟨some 19, none, .bin .eql (.t 7) (.c (.int .i64 6))⟩,
⟨some 18, none, .mv (.t 19)⟩]
abbrev x30r7 : List XOper := [
⟨some 20, none, .mv (.t 0)⟩,
⟨some 21, none, .build [.nilp] [(0, 1, (.t 20))]⟩,
⟨some 22, none, .mki 100 (.t 21)⟩,
⟨some 2, none, .mv (.t 22)⟩]
abbrev x30r8 : List XOper := [
⟨some 24, none, .bin .eql (.t 7) (.c (.int .i64 7))⟩,
⟨some 23, none, .mv (.t 24)⟩]
abbrev x30r9 : List XOper := [
⟨some 25, none, .mv (.t 0)⟩,
⟨some 26, none, .build [.nilp] [(0, 1, (.t 25))]⟩,
⟨some 27, none, .mki 103 (.t 26)⟩,
⟨some 2, none, .mv (.t 27)⟩]
abbrev x30r10 : List XOper := [
⟨some 28, none, .mv (.t 0)⟩,
⟨some 29, none, .build [.nilp] [(0, 1, (.t 28))]⟩,
⟨some 30, none, .mki 97 (.t 29)⟩,
⟨some 2, none, .mv (.t 30)⟩]
abbrev x30b : XCode :=
(.seq (.reg 0 x30r0 none)
(.seq (.seq (.reg 1 x30r1 none)
(.block 0
(.seq (.reg 2 x30r2 none)
(.cond (.t 8)
(.seq (.reg 3 x30r3 none)
.ret)
(.seq (.reg 4 x30r4 none)
(.cond (.t 13)
(.seq (.reg 5 x30r5 none)
.ret)
(.seq (.reg 6 x30r6 none)
(.cond (.t 18)
(.seq (.reg 7 x30r7 none)
.ret)
(.seq (.reg 8 x30r8 none)
(.cond (.t 23)
(.seq (.reg 9 x30r9 none)
.ret)
.skip))))))))))
(.seq (.reg 10 x30r10 none)
.ret)))
def x30 : XFunc := ⟨31, 1, [.tmp 2], x30b⟩
theorem x30_ok : chkF Tryz.prog Tryz.f30 x30 = true := by kernel_rfl
theorem x30_eq : x30.body = x30b ∧ x30.res = [.tmp 2] ∧ x30.np = 1 := ⟨rfl, rfl, rfl⟩
abbrev x32r0 : List XOper := [
⟨some 2, none, .alloc [(.int .i64 0), (.int .i64 0), (.int .i64 0), (.int .i64 0), (.int .i64 0)]⟩,
⟨some 3, none, .mv (.c (.int .i64 0))⟩]
abbrev x32r1 : List XOper := [
⟨some 4, none, .mv (.t 0)⟩,
⟨some 5, none, .bin .lss (.t 4) (.c (.int .i64 1))⟩,
⟨some 6, none, .mv (.t 5)⟩,
⟨some 7, some (6, false), .mv (.t 0)⟩,
⟨some 8, some (6, false), .bin .gtr (.t 7) (.c (.int .i64 10))⟩,
⟨some 9, none, .pick (.t 6) (.c (.bool true)) (.t 8)⟩]
abbrev x32r2 : List XOper := [
⟨some 10, none, .build [(.int .i64 0), (.int .i64 0), (.int .i64 0), (.int .i64 0), (.int .i64 0)] []⟩,
⟨none, none, .store 5 (.t 2) (.t 10)⟩,
⟨some 3, none, .mv (.c (.int .i64 1))⟩]
abbrev x32r3 : List XOper := [
⟨some 11, none, .mv (.t 0)⟩,
⟨some 12, none, .build [(.int .i64 0), (.int .i64 0), (.int .i64 0), (.int .i64 0), (.int .i64 0)] [(0, 1, (.t 11))]⟩,
⟨none, none, .store 5 (.t 2) (.t 12)⟩,
⟨some 3, none, .mv (.c (.int .i64 0))⟩]
abbrev x32b : XCode :=
(.seq (.reg 0 x32r0 none)
(.seq (.seq (.reg 1 x32r1 none)
(.cond (.t 9)
(.seq (.reg 2 x32r2 none)
.ret)
.skip))
(.seq (.reg 3 x32r3 none)
.ret)))
def x32 : XFunc := ⟨13, 1, [.cell 2 true 5, .tmp 3], x32b⟩
theorem x32_ok : chkF Tryz.prog Tryz.f32 x32 = true := by kernel_rfl
theorem x32_eq : x32.body = x32b ∧ x32.res = [.cell 2 true 5, .tmp 3] ∧ x32.np = 1 := ⟨rfl, rfl, rfl⟩
abbrev x33r0 : List XOper := [
⟨some 4, none, .alloc [(.int .i64 0), (.int .i64 0), (.int .i64 0), (.int .i64 0)]⟩,
⟨some 5, none, .mv (.c (.int .i64 0))⟩]
abbrev x33r1 : List XOper := [
⟨some 7, none, .mv (.t 0)⟩,
⟨some 8, none, .mv (.t 1)⟩,
⟨some 9, none, .build [(.int .i64 0), (.int .i64 0), (.int .i64 0), (.int .i64 0)] [(0, 1, (.t 7)), (1, 1, (.t 8))]⟩,
⟨some 6, none, .alloc [(.int .i64 0), (.int .i64 0), (.int .i64 0), (.int .i64 0)]⟩,
⟨none, none, .store 4 (.t 6) (.t 9)⟩]
abbrev x33r2 : List XOper := [
⟨some 10, none, .load true 4 (.t 6)⟩,
⟨some 11, none, .call (.c (.fn (.func 71) [] [])) [(.t 10)]⟩,
⟨some 12, none, .un .not (.t 11)⟩]
abbrev x33r3 : List XOper := [
⟨some 13, none, .build [(.int .i64 0), (.int .i64 0), (.int .i64 0), (.int .i64 0)] []⟩,
⟨none, none, .store 4 (.t 4) (.t 13)⟩,
⟨some 5, none, .mv (.c (.int .i64 1))⟩]
abbrev x33r4 : List XOper := [
⟨some 14, none, .load true 4 (.t 6)⟩,
⟨none, none, .store 4 (.t 4) (.t 14)⟩,
⟨some 5, none, .mv (.c (.int .i64 0))⟩]
abbrev x33b : XCode :=
(.seq (.reg 0 x33r0 none)
(.seq (.reg 1 x33r1 none)
(.seq (.seq (.reg 2 x33r2 none)
(.cond (.t 12)
(.seq (.reg 3 x33r3 none)
.ret)
.skip))
(.seq (.reg 4 x33r4 none)
.ret))))
def x33 : XFunc := ⟨15, 2, [.cell 4 true 4, .tmp 5], x33b⟩
theorem x33_ok : chkF Tryz.prog Tryz.f33 x33 = true := by kernel_rfl
theorem x33_eq : x33.body = x33b ∧ x33.res = [.cell 4 true 4, .tmp 5] ∧ x33.np = 2 := ⟨rfl, rfl, rfl⟩
abbrev x36r0 : List XOper := [
⟨some 2, none, .box (.t 0)⟩,
⟨some 4, none, .alloc [(.str ⟨#[]⟩), (.int .i64 0), (.int .i64 0), (.int .i64 0), (.int .i64 0), (.int .i64 0), (.int .i64 0), (.int .i64 0), (.int .i64 0), (.int .i64 0), (.int .i64 0), (.int .i64 0), (.int .i64 0), (.int .i64 0), (.int .i64 0), (.int .i64 0), (.int .i64 0), (.int .i64 0), (.int .i64 0), .nils, (.int .i64 0), (.int .i64 0), (.int .i64 0), (.int .i64 0), (.int .i64 0), (.int .i64 0), (.int .i64 0), (.int .i64 0), (.int .i64 0), (.int .i64 0), (.int .i64 0), (.int .i64 0), (.int .i64 0), (.int .i64 0), (.int .i64 0), (.int .i64 0), (.int .i64 0), (.int .i64 0), (.int .i64 0), (.int .i64 0), (.int .i64 0), (.int .i64 0), (.int .i64 0), .nils]⟩,
⟨some 5, none, .alloc [(.int .i64 0), (.int .i64 0), (.int .i64 0), (.int .i64 0), (.int .i64 0), (.int .i64 0), (.int .i64 0), (.int .i64 0), (.int .i64 0), (.int .i64 0), (.int .i64 0), (.int .i64 0)]⟩,
⟨some 6, none, .mv (.c (.int .i64 0))⟩]
abbrev x36r1 : List XOper := [
⟨some 10, none, .fa 14 (.t 2)⟩,
⟨some 11, none, .load false 1 (.t 10)⟩,
⟨some 12, none, .fa 0 (.t 2)⟩,
⟨some 13, none, .fa 6 (.t 12)⟩,
⟨some 14, none, .load false 1 (.t 13)⟩,
⟨some 15, none, .bin .eql (.t 11) (.t 14)⟩,
⟨some 9, none, .mv (.t 15)⟩]
abbrev x36r2 : List XOper := [
⟨some 16, none, .build [(.str ⟨#[]⟩), (.int .i64 0), (.int .i64 0), (.int .i64 0), (.int .i64 0), (.int .i64 0), (.int .i64 0), (.int .i64 0), (.int .i64 0), (.int .i64 0), (.int .i64 0), (.int .i64 0), (.int .i64 0), (.int .i64 0), (.int .i64 0), (.int .i64 0), (.int .i64 0), (.int .i64 0), (.int .i64 0), .nils, (.int .i64 0), (.int .i64 0), (.int .i64 0), (.int .i64 0), (.int .i64 0), (.int .i64 0), (.int .i64 0), (.int .i64 0), (.int .i64 0), (.int .i64 0), (.int .i64 0), (.int .i64 0), (.int .i64 0), (.int .i64 0), (.int .i64 0), (.int .i64 0), (.int .i64 0), (.int .i64 0), (.int .i64 0), (.int .i64 0), (.int .i64 0), (.int .i64 0), (.int .i64 0), .nils] []⟩,
⟨some 17, none, .build [(.int .i64 0), (.int .i64 0), (.int .i64 0), (.int .i64 0), (.int .i64 0), (.int .i64 0), (.int .i64 0), (.int .i64 0), (.int .i64 0), (.int .i64 0), (.int .i64 0), (.int .i64 0)] []⟩,
⟨none, none, .store 44 (.t 4) (.t 16)⟩,
⟨none, none, .store 12 (.t 5) (.t 17)⟩,
⟨some 6, none, .mv (.c (.int .i64 11))⟩]
abbrev x36r3 : List XOper := [
⟨some 19, none, .fa 0 (.t 2)⟩,
⟨some 20, none, .load true 14 (.t 19)⟩,
⟨some 21, none, .mv (.t 1)⟩,
⟨some 22, none, .call (.c (.fn (.func 76) [] [])) [(.t 20), (.t 21)]⟩,
⟨some 23, none, .un .not (.t 22)⟩,
⟨some 18, none, .mv (.t 23)⟩]
abbrev x36r4 : List XOper := [
⟨some 24, none, .build [(.str ⟨#[]⟩), (.int .i64 0), (.int .i64 0), (.int .i64 0), (.int .i64 0), (.int .i64 0), (.int .i64 0), (.int .i64 0), (.int .i64 0), (.int .i64 0), (.int .i64 0), (.int .i64 0), (.int .i64 0), (.int .i64 0), (.int .i64 0), (.int .i64 0), (.int .i64 0), (.int .i64 0), (.int .i64 0), .nils, (.int .i64 0), (.int .i64 0), (.int .i64 0), (.int .i64 0), (.int .i64 0), (.int .i64 0), (.int .i64 0), (.int .i64 0), (.int .i64 0), (.int .i64 0), (.int .i64 0), (.int .i64 0), (.int .i64 0), (.int .i64 0), (.int .i64 0), (.int .i64 0), (.int .i64 0), (.int .i64 0), (.int .i64 0), (.int .i64 0), (.int .i64 0), (.int .i64 0), (.int .i64 0), .nils] []⟩,
⟨some 25, none, .build [(.int .i64 0), (.int .i64 0), (.int .i64 0), (.int .i64 0), (.int .i64 0), (.int .i64 0), (.int .i64 0), (.int .i64 0), (.int .i64 0), (.int .i64 0), (.int .i64 0), (.int .i64 0)] []⟩,
⟨none, none, .store 44 (.t 4) (.t 24)⟩,
⟨none, none, .store 12 (.t 5) (.t 25)⟩,
⟨some 6, none, .mv (.c (.int .i64 3))⟩]
abbrev x36r5 : List XOper := [
⟨some 26, none, .fa 15 (.t 2)⟩,
⟨some 27, none, .load false 1 (.t 26)⟩,
⟨some 7, none, .mv (.t 27)⟩]
abbrev x36r6 : List XOper := [
⟨some 28, none, .call (.c (.fn (.func 30) [] [])) [(.t 2)]⟩,
⟨some 29, none, .mv (.t 1)⟩,
⟨some 30, none, .mv (.t 7)⟩,
⟨some 31, none, .inv "datum/channel.step" (.t 28) [(.t 29), (.t 30)]⟩,
⟨some 8, none, .alloc [(.int .i64 0), (.int .i64 0), (.int .i64 0), (.int .i64 0), (.int .i64 0), (.int .i64 0), (.int .i64 0), (.int .i64 0), (.int .i64 0), (.int .i64 0), (.int .i64 0), (.int .i64 0)]⟩,
⟨none, none, .store 12 (.t 8) (.t 31)⟩]
abbrev x36r7 : List XOper := [
⟨some 32, none, .fa 14 (.t 2)⟩,
⟨some 33, none, .load false 1 (.t 32)⟩,
⟨some 34, none, .bin .add (.t 33) (.c (.int .i64 1))⟩,
⟨some 35, none, .fa 14 (.t 2)⟩,
⟨none, none, .store 1 (.t 35) (.t 34)⟩]
abbrev x36r8 : List XOper := [
⟨some 36, none, .mv (.t 1)⟩,
⟨some 37, none, .fa 15 (.t 2)⟩,
⟨none, none, .store 1 (.t 37) (.t 36)⟩]
abbrev x36r9 : List XOper := [
⟨some 38, none, .load true 44 (.t 2)⟩,
⟨some 39, none, .load true 12 (.t 8)⟩,
⟨none, none, .store 44 (.t 4) (.t 38)⟩,
⟨none, none, .store 12 (.t 5) (.t 39)⟩,
⟨some 6, none, .mv (.c (.int .i64 0))⟩]
abbrev x36b : XCode :=
(.seq (.reg 0 x36r0 none)
(.seq (.block 0
(.seq (.reg 1 x36r1 none)
(.cond (.t 9)
(.seq (.reg 2 x36r2 none)
.ret)
(.seq (.reg 3 x36r3 none)
(.cond (.t 18)
(.seq (.reg 4 x36r4 none)
.ret)
.skip)))))
(.seq (.reg 5 x36r5 none)
(.seq (.reg 6 x36r6 none)
(.seq (.reg 7 x36r7 none)
(.seq (.reg 8 x36r8 none)
(.seq (.reg 9 x36r9 (some ⟨[(1, 2)]⟩))
.ret)))))))
def x36 : XFunc := ⟨40, 2, [.cell 4 true 44, .cell 5 true 12, .tmp 6], x36b⟩
theorem x36_ok : chkF Tryz.prog Tryz.f36 x36 = true := by kernel_rfl
theorem x36_eq : x36.body = x36b ∧ x36.res = [.cell 4 true 44, .cell 5 true 12, .tmp 6] ∧ x36.np = 2 := ⟨rfl, rfl, rfl⟩
abbrev x37r0 : List XOper := [
⟨some 2, none, .box (.t 0)⟩,
⟨some 3, none, .box (.t 1)⟩,
⟨some 4, none, .mv (.c (.bool false))⟩]
abbrev x37r1 : List XOper := [
⟨some 5, none, .fa 0 (.t 2)⟩,
⟨some 6, none, .load false 1 (.t 5)⟩,
⟨some 7, none, .fa 0 (.t 3)⟩,
⟨some 8, none, .load false 1 (.t 7)⟩,
⟨some 9, none, .bin .eql (.t 6) (.t 8)⟩,
⟨some 10, none, .mv (.t 9)⟩,
⟨some 11, some (10, true), .fa 1 (.t 2)⟩,
⟨some 12, some (10, true), .load false 1 (.t 11)⟩,
⟨some 13, some (10, true), .fa 1 (.t 3)⟩,
⟨some 14, some (10, true), .load false 1 (.t 13)⟩,
⟨some 15, some (10, true), .bin .eql (.t 12) (.t 14)⟩,
⟨some 16, none, .pick (.t 10) (.t 15) (.c (.bool false))⟩,
⟨some 17, none, .mv (.t 16)⟩,
⟨some 18, some (17, true), .fa 2 (.t 2)⟩,
⟨some 19, some (17, true), .load false 1 (.t 18)⟩,
⟨some 20, some (17, true), .fa 2 (.t 3)⟩,
⟨some 21, some (17, true), .load false 1 (.t 20)⟩,
⟨some 22, some (17, true), .bin .eql (.t 19) (.t 21)⟩,
⟨some 23, none, .pick (.t 17) (.t 22) (.c (.bool false))⟩,
⟨some 24, none, .mv (.t 23)⟩,
⟨some 25, some (24, true), .fa 3 (.t 2)⟩,
⟨some 26, some (24, true), .load false 1 (.t 25)⟩,
⟨some 27, some (24, true), .fa 3 (.t 3)⟩,
⟨some 28, some (24, true), .load false 1 (.t 27)⟩,
⟨some 29, some (24, true), .call (.c (.fn (.func 14) [] [])) [(.t 26), (.t 28)]⟩,
⟨some 30, none, .pick (.t 24) (.t 29) (.c (.bool false))⟩,
⟨some 4, none, .mv (.t 30)⟩]
abbrev x37b : XCode :=
(.seq (.reg 0 x37r0 none)
(.seq (.reg 1 x37r1 none)
.ret))
def x37 : XFunc := ⟨31, 2, [.tmp 4], x37b⟩
theorem x37_ok : chkF Tryz.prog Tryz.f37 x37 = true := by kernel_rfl
abbrev x53r0 : List XOper := [
⟨some 1, none, .box (.t 0)⟩,
⟨some 2, none, .mv (.c (.bool false))⟩]
abbrev x53r1 : List XOper := [
⟨some 4, none, .fa 0 (.t 1)⟩,
⟨some 5, none, .load false 1 (.t 4)⟩,
⟨some 6, none, .bin .lss (.t 5) (.c (.int .i64 1))⟩,
⟨some 7, none, .mv (.t 6)⟩,
⟨some 8, some (7, false), .fa 0 (.t 1)⟩,
⟨some 9, some (7, false), .load false 1 (.t 8)⟩,
⟨some 10, some (7, false), .bin .gtr (.t 9) (.c (.int .i64 10))⟩,
⟨some 11, none, .pick (.t 7) (.c (.bool true)) (.t 10)⟩,
⟨some 12, none, .mv (.t 11)⟩,
⟨some 13, some (12, false), .fa 1 (.t 1)⟩,
⟨some 14, some (12, false), .load false 1 (.t 13)⟩,
⟨some 15, some (12, false), .bin .lss (.t 14) (.c (.int .i64 0))⟩,
⟨some 16, none, .pick (.t 12) (.c (.bool true)) (.t 15)⟩,
⟨some 17, none, .mv (.t 16)⟩,
⟨some 18, some (17, false), .fa 1 (.t 1)⟩,
⟨some 19, some (17, false), .load false 1 (.t 18)⟩,
⟨some 20, some (17, false), .bin .gtr (.t 19) (.c (.int .i64 25))⟩,
⟨some 21, none, .pick (.t 17) (.c (.bool true)) (.t 20)⟩,
⟨some 22, none, .mv (.t 21)⟩,
⟨some 23, some (22, false), .fa 4 (.t 1)⟩,
⟨some 24, some (22, false), .load false 1 (.t 23)⟩,
⟨some 25, some (22, false), .call (.c (.fn (.func 91) [] [])) [(.t 24)]⟩,
⟨some 26, some (22, false), .un .not (.t 25)⟩,
⟨some 27, none, .pick (.t 22) (.c (.bool true)) (.t 26)⟩,
⟨some 28, none, .mv (.t 27)⟩,
⟨some 29, some (28, false), .fa 1 (.t 1)⟩,
⟨some 30, some (28, false), .load false 1 (.t 29)⟩,
⟨some 31, some (28, false), .bin .eql (.t 30) (.c (.int .i64 0))⟩,
⟨some 32, some (28, false), .mv (.t 31)⟩,
⟨some 33, some (32, true), .fa 4 (.t 1)⟩,
⟨some 34, some (32, true), .load false 1 (.t 33)⟩,
⟨some 35, some (32, true), .bin .neq (.t 34) (.c (.int .i64 0))⟩,
⟨some 36, some (28, false), .pick (.t 32) (.t 35) (.c (.bool false))⟩,
⟨some 37, none, .pick (.t 28) (.c (.bool true)) (.t 36)⟩]
abbrev x53r2 : List XOper := [
⟨some 2, none, .mv (.c (.bool false))⟩]
abbrev x53r3 : List XOper := [
⟨some 38, none, .fa 1 (.t 1)⟩,
⟨some 39, none, .load false 1 (.t 38)⟩,
⟨some 40, none, .fa 0 (.t 1)⟩,
⟨some 41, none, .load false 1 (.t 40)⟩,
⟨some 42, none, .bin .mul (.t 39) (.t 41)⟩,
⟨some 43, none, .bin .mul (.t 42) (.c (.int .i64 1000000))⟩,
⟨some 3, none, .mv (.t 43)⟩]
abbrev x53r4 : List XOper := [
⟨some 44, none, .fa 2 (.t 1)⟩,
⟨some 45, none, .load false 1 (.t 44)⟩,
⟨some 46, none, .fa 2 (.t 1)⟩,
⟨some 47, none, .load false 1 (.t 46)⟩,
⟨some 48, none, .un .neg (.t 47)⟩,
⟨some 49, none, .mnx true (.t 45) [(.t 48)]⟩,
⟨some 50, none, .mv (.t 3)⟩,
⟨some 51, none, .bin .leq (.t 49) (.t 50)⟩,
⟨some 52, none, .mv (.t 51)⟩,
⟨some 53, some (52, true), .fa 2 (.t 1)⟩,
⟨some 54, some (52, true), .load false 1 (.t 53)⟩,
⟨some 55, some (52, true), .mv (.t 3)⟩,
⟨some 56, some (52, true), .un .neg (.t 55)⟩,
⟨some 57, some (52, true), .bin .geq (.t 54) (.t 56)⟩,
⟨some 58, none, .pick (.t 52) (.t 57) (.c (.bool false))⟩,
⟨some 59, none, .mv (.t 58)⟩,
⟨some 60, some (59, true), .fa 3 (.t 1)⟩,
⟨some 61, some (59, true), .load false 1 (.t 60)⟩,
⟨some 62, some (59, true), .bin .geq (.t 61) (.c (.int .i64 0))⟩,
⟨some 63, none, .pick (.t 59) (.t 62) (.c (.bool false))⟩,
⟨some 64, none, .mv (.t 63)⟩,
⟨some 65, some (64, true), .fa 3 (.t 1)⟩,
⟨some 66, some (64, true), .load false 1 (.t 65)⟩,
⟨some 67, some (64, true), .load true 5 (.t 1)⟩,
⟨some 68, some (64, true), .call (.c (.fn (.func 54) [] [])) [(.t 67)]⟩,
⟨some 69, some (64, true), .inv "datum/base.steps" (.t 68) []⟩,
⟨some 70, some (64, true), .bin .mul (.c (.int .i64 2000000)) (.t 69)⟩,
⟨some 71, some (64, true), .bin .leq (.t 66) (.t 70)⟩,
⟨some 72, none, .pick (.t 64) (.t 71) (.c (.bool false))⟩,
⟨some 2, none, .mv (.t 72)⟩]
abbrev x53b : XCode :=
(.seq (.reg 0 x53r0 none)
(.seq (.seq (.reg 1 x53r1 none)
(.cond (.t 37)
(.seq (.reg 2 x53r2 none)
.ret)
.skip))
(.seq (.reg 3 x53r3 none)
(.seq (.reg 4 x53r4 (some ⟨[(22, 24), (22, 25)]⟩))
.ret))))
def x53 : XFunc := ⟨73, 1, [.tmp 2], x53b⟩
theorem x53_ok : chkF Tryz.prog Tryz.f53 x53 = true := by kernel_rfl
theorem x53_eq : x53.body = x53b ∧ x53.res = [.tmp 2] ∧ x53.np = 1 := ⟨rfl, rfl, rfl⟩
abbrev x54r0 : List XOper := [
⟨some 1, none, .box (.t 0)⟩,
⟨some 2, none, .mv (.c .nili)⟩]
abbrev x54r1 : List XOper := [
⟨some 3, none, .fa 0 (.t 1)⟩,
⟨some 4, none, .load false 1 (.t 3)⟩,
⟨some 5, none, .bin .eql (.t 4) (.c (.int .i64 1))⟩]
abbrev x54r2 : List XOper := [
⟨some 6, none, .load true 5 (.t 1)⟩,
⟨some 7, none, .build [(.int .i64 0), (.int .i64 0), (.int .i64 0), (.int .i64 0), (.int .i64 0)] [(0, 5, (.t 6))]⟩,
⟨some 8, none, .mki 170 (.t 7)⟩,
⟨some 2, none, .mv (.t 8)⟩]
abbrev x54r3 : List XOper := [
⟨some 9, none, .load true 5 (.t 1)⟩,
⟨some 10, none, .build [(.int .i64 0), (.int .i64 0), (.int .i64 0), (.int .i64 0), (.int .i64 0)] [(0, 5, (.t 9))]⟩,
⟨some 11, none, .mki 171 (.t 10)⟩,
⟨some 2, none, .mv (.t 11)⟩]
abbrev x54b : XCode :=
(.seq (.reg 0 x54r0 none)
(.seq (.seq (.reg 1 x54r1 none)
(.cond (.t 5)
(.seq (.reg 2 x54r2 none)
.ret)
.skip))
(.seq (.reg 3 x54r3 none)
.ret)))
def x54 : XFunc := ⟨12, 1, [.tmp 2], x54b⟩
theorem x54_ok : chkF Tryz.prog Tryz.f54 x54 = true := by kernel_rfl
theorem x54_eq : x54.body = x54b ∧ x54.res = [.tmp 2] ∧ x54.np = 1 := ⟨rfl, rfl, rfl⟩
abbrev x55r0 : List XOper := [
⟨some 4, none, .alloc [(.int .u64 0), (.int .u64 0)]⟩]
abbrev x55r1 : List XOper := [
⟨some 8, none, .mv (.t 0)⟩,
⟨some 9, none, .mv (.t 1)⟩,
⟨some 10, none, .call (.c (.fn (.func 92) [] [])) [(.t 8), (.t 9)]⟩,
⟨some 7, none, .mv (.t 10)⟩,
⟨some 11, none, .ext (.t 7) 0⟩,
⟨some 12, none, .ext (.t 7) 1⟩,
⟨some 5, none, .mv (.t 11)⟩,
⟨some 6, none, .mv (.t 12)⟩]
abbrev x55r2 : List XOper := [
⟨some 13, none, .mv (.t 5)⟩,
⟨some 14, none, .mv (.t 6)⟩,
⟨some 15, none, .build [(.int .u64 0), (.int .u64 0)] [(0, 1, (.t 13)), (1, 1, (.t 14))]⟩,
⟨none, none, .store 2 (.t 4) (.t 15)⟩]
abbrev x55b : XCode :=
(.seq (.reg 0 x55r0 none)
(.seq (.reg 1 x55r1 none)
(.seq (.reg 2 x55r2 none)
.ret)))
def x55 : XFunc := ⟨16, 2, [.cell 4 true 2], x55b⟩
theorem x55_ok : chkF Tryz.prog Tryz.f55 x55 = true := by kernel_rfl
theorem x55_eq : x55.body = x55b ∧ x55.res = [.cell 4 true 2] ∧ x55.np = 2 := ⟨rfl, rfl, rfl⟩
abbrev x56r0 : List XOper := [
⟨some 2, none, .box (.t 0)⟩,
⟨some 4, none, .mv (.c (.bool false))⟩]
abbrev x56r1 : List XOper := [
⟨some 5, none, .load true 4 (.t 2)⟩,
⟨some 6, none, .call (.c (.fn (.func 71) [] [])) [(.t 5)]⟩,
⟨some 7, none, .mv (.t 6)⟩,
⟨some 8, some (7, true), .mv (.t 1)⟩,
⟨some 9, some (7, true), .bin .geq (.t 8) (.c (.int .i64 0))⟩,
⟨some 10, none, .pick (.t 7) (.t 9) (.c (.bool false))⟩,
⟨some 11, none, .mv (.t 10)⟩,
⟨some 12, some (11, true), .mv (.t 1)⟩,
⟨some 13, some (11, true), .callN (.c (.fn (.func 57) [] [])) []⟩,
⟨some 14, some (11, true), .fa 0 (.t 2)⟩,
⟨some 15, some (11, true), .load false 1 (.t 14)⟩,
⟨some 16, some (11, true), .lkp 0 false (.agg [.nilf, .nilf]) (.t 13) (.t 15)⟩,
⟨some 17, some (11, true), .fld false 1 0 (.t 16)⟩,
⟨some 18, some (11, true), .load true 4 (.t 2)⟩,
⟨some 19, some (11, true), .call (.t 17) [(.t 18)]⟩,
⟨some 20, some (11, true), .bin .leq (.t 12) (.t 19)⟩,
⟨some 21, none, .pick (.t 11) (.t 20) (.c (.bool false))⟩,
⟨some 4, none, .mv (.t 21)⟩]
abbrev x56b : XCode :=
(.seq (.reg 0 x56r0 none)
(.seq (.reg 1 x56r1 (some ⟨[(8, 10), (8, 13), (11, 13)]⟩))
.ret))
def x56 : XFunc := ⟨22, 2, [.tmp 4], x56b⟩
theorem x56_ok : chkF Tryz.prog Tryz.f56 x56 = true := by kernel_rfl
theorem x56_eq : x56.body = x56b ∧ x56.res = [.tmp 4] ∧ x56.np = 2 := ⟨rfl, rfl, rfl⟩
abbrev x57r0 : List XOper := [
⟨some 0, none, .mv (.c .any)⟩]
abbrev x57r1 : List XOper := [
⟨some 1, none, .mv (.c (.fn (.func 93) [] []))⟩]
abbrev x57r2 : List XOper := [
⟨some 2, none, .mv (.c (.fn (.func 94) [] []))⟩]
abbrev x57r3 : List XOper := [
⟨some 3, none, .mv (.c (.fn (.func 95) [] []))⟩]
abbrev x57r4 : List XOper := [
⟨some 4, none, .mkM⟩,
⟨some 5, none, .mv (.t 1)⟩,
⟨some 6, none, .mv (.t 1)⟩,
⟨some 7, none, .call (.c (.fn (.func 96) [] [])) [(.t 6)]⟩,
⟨some 8, none, .build [.nilf, .nilf] [(0, 1, (.t 5)), (1, 1, (.t 7))]⟩,
⟨none, none, .mset 0 (.t 4) (.c (.int .i64 2)) (.t 8)⟩,
⟨some 9, none, .mv (.t 1)⟩,
⟨some 10, none, .mv (.t 2)⟩,
⟨some 11, none, .call (.c (.fn (.func 96) [] [])) [(.t 10)]⟩,
⟨some 12, none, .build [.nilf, .nilf] [(0, 1, (.t 9)), (1, 1, (.t 11))]⟩,
⟨none, none, .mset 0 (.t 4) (.c (.int .i64 3)) (.t 12)⟩,
⟨some 13, none, .mv (.t 3)⟩,
⟨some 14, none, .build [.nilf, .nilf] [(0, 1, (.t 13)), (1, 1, (.c (.fn (.func 97) [] [])))]⟩,
⟨none, none, .mset 0 (.t 4) (.c (.int .i64 4)) (.t 14)⟩,
⟨some 15, none, .mv (.t 3)⟩,
⟨some 16, none, .build [.nilf, .nilf] [(0, 1, (.t 15)), (1, 1, (.c (.fn (.func 97) [] [])))]⟩,
⟨none, none, .mset 0 (.t 4) (.c (.int .i64 5)) (.t 16)⟩,
⟨some 17, none, .mv (.t 4)⟩,
⟨some 0, none, .mv (.t 17)⟩]
abbrev x57b : XCode :=
(.seq (.reg 0 x57r0 none)
(.seq (.reg 1 x57r1 none)
(.seq (.reg 2 x57r2 none)
(.seq (.reg 3 x57r3 none)
(.seq (.reg 4 x57r4 none)
.ret)))))
def x57 : XFunc := ⟨18, 0, [.tmp 0], x57b⟩
theorem x57_ok : chkF Tryz.prog Tryz.f57 x57 = true := by kernel_rfl
theorem x57_eq : x57.body = x57b ∧ x57.res = [.tmp 0] ∧ x57.np = 0 := ⟨rfl, rfl, rfl⟩
abbrev x58r0 : List XOper := [
⟨some 3, none, .box (.t 1)⟩,
⟨some 4, none, .mv (.c (.int .i64 0))⟩]
abbrev x58r1 : List XOper := [
⟨some 9, none, .mv (.t 0)⟩,
⟨some 10, none, .call (.c (.fn (.func 98) [] [])) [(.t 9)]⟩,
⟨some 11, none, .mv (.t 0)⟩,
⟨some 12, none, .call (.c (.fn (.func 98) [] [])) [(.t 11)]⟩,
⟨some 13, none, .call (.c (.fn (.func 55) [] [])) [(.t 10), (.t 12)]⟩,
⟨some 5, none, .alloc [(.int .u64 0), (.int .u64 0)]⟩,
⟨none, none, .store 2 (.t 5) (.t 13)⟩]
abbrev x58r2 : List XOper := [
⟨some 14, none, .mkf (.func 99) [] [(.t 3), (.t 5)]⟩,
⟨some 6, none, .mv (.t 14)⟩]
abbrev x58r3 : List XOper := [
⟨some 7, none, .mv (.c (.int .i64 1))⟩]
abbrev x58r4 : List XOper := [
⟨some 15, none, .mv (.c (.int .i64 0))⟩]
abbrev x58r5 : List XOper := [
⟨some 16, none, .bin .lss (.t 15) (.c (.int .i64 3))⟩]
abbrev x58r6 : List XOper := [
⟨some 17, none, .mv (.t 15)⟩,
⟨some 8, none, .mv (.t 17)⟩]
abbrev x58r7 : List XOper := [
⟨some 18, none, .mv (.t 6)⟩,
⟨some 19, none, .mv (.t 8)⟩,
⟨some 20, none, .conv .u64 (.t 19)⟩,
⟨some 21, none, .bin .add (.t 20) (.c (.int .u64 1))⟩,
⟨some 22, none, .call (.t 18) [(.t 21)]⟩]
abbrev x58r8 : List XOper := [
⟨some 23, none, .mv (.t 7)⟩,
⟨some 24, none, .bin .add (.t 23) (.c (.int .i64 1))⟩,
⟨some 7, none, .mv (.t 24)⟩]
abbrev x58r9 : List XOper := [
⟨some 25, none, .bin .add (.t 15) (.c (.int .i64 1))⟩,
⟨some 15, none, .mv (.t 25)⟩]
abbrev x58l5 : XCode :=
(.seq (.reg 5 x58r5 none)
(.seq (.cond (.t 16)
.skip
(.exit 0))
(.seq (.block 1
(.seq (.reg 6 x58r6 none)
(.seq (.reg 7 x58r7 none)
(.cond (.t 22)
(.reg 8 x58r8 none)
.skip))))
(.reg 9 x58r9 none))))
abbrev x58r10 : List XOper := [
⟨some 27, none, .mv (.t 0)⟩,
⟨some 28, none, .bin .eql (.t 27) (.c (.int .i64 0))⟩,
⟨some 26, none, .mv (.t 28)⟩]
abbrev x58r11 : List XOper := [
⟨some 4, none, .mv (.c (.int .i64 0))⟩]
abbrev x58r12 : List XOper := [
⟨some 30, none, .mv (.t 0)⟩,
⟨some 31, none, .bin .lss (.t 30) (.c (.int .i64 0))⟩,
⟨some 29, none, .mv (.t 31)⟩]
abbrev x58r13 : List XOper := [
⟨some 32, none, .mv (.t 7)⟩,
⟨some 33, none, .un .neg (.t 32)⟩,
⟨some 4, none, .mv (.t 33)⟩]
abbrev x58r14 : List XOper := [
⟨some 34, none, .mv (.t 7)⟩,
⟨some 4, none, .mv (.t 34)⟩]
abbrev x58b : XCode :=
(.seq (.reg 0 x58r0 none)
(.seq (.reg 1 x58r1 none)
(.seq (.reg 2 x58r2 none)
(.seq (.reg 3 x58r3 none)
(.seq (.seq (.reg 4 x58r4 none)
(.block 0
(.loop x58l5)))
(.seq (.block 2
(.seq (.reg 10 x58r10 none)
(.cond (.t 26)
(.seq (.reg 11 x58r11 none)
.ret)
(.seq (.reg 12 x58r12 none)
(.cond (.t 29)
(.seq (.reg 13 x58r13 none)
.ret)
.skip)))))
(.seq (.reg 14 x58r14 none)
.ret)))))))
def x58 : XFunc := ⟨35, 2, [.tmp 4], x58b⟩
theorem x58_ok : chkF Tryz.prog Tryz.f58 x58 = true := by kernel_rfl
theorem x58_eq : x58.body = x58b ∧ x58.res = [.tmp 4] ∧ x58.np = 2 := ⟨rfl, rfl, rfl⟩
abbrev x59r0 : List XOper := [
⟨some 2, none, .alloc [(.int .i64 0), (.int .i64 0), (.int .i64 0), (.int .i64 0), (.int .i64 0), (.int .i64 0), (.int .i64 0), (.int .i64 0)]⟩,
⟨some 3, none, .mv (.c (.int .i64 0))⟩]
abbrev x59r1 : List XOper := [
⟨some 4, none, .alloc [(.int .i64 0), (.int .i64 0), (.int .i64 0), (.int .i64 0), (.int .i64 0), (.int .i64 0), (.int .i64 0), (.int .i64 0)]⟩]
abbrev x59r2 : List XOper := [
⟨some 13, none, .mv (.t 0)⟩,
⟨some 14, none, .call (.c (.fn (.func 102) [] [])) [(.t 13)]⟩,
⟨some 15, none, .un .not (.t 14)⟩]
abbrev x59r3 : List XOper := [
⟨some 16, none, .load true 8 (.t 4)⟩,
⟨none, none, .store 8 (.t 2) (.t 16)⟩,
⟨some 3, none, .mv (.c (.int .i64 1))⟩]
abbrev x59r4 : List XOper := [
⟨some 5, none, .mv (.c .nils)⟩]
abbrev x59r5 : List XOper := [
⟨some 17, none, .mv (.t 0)⟩,
⟨some 18, none, .lenV (.t 17)⟩,
⟨some 19, none, .mv (.c (.int .i64 0))⟩]
abbrev x59r6 : List XOper := [
⟨some 20, none, .bin .lss (.t 19) (.t 18)⟩]
abbrev x59r7 : List XOper := [
⟨some 21, none, .iaS 1 (.t 17) (.t 19)⟩,
⟨some 22, none, .load false 1 (.t 21)⟩,
⟨some 7, none, .mv (.t 22)⟩]
abbrev x59r8 : List XOper := [
⟨some 24, none, .mv (.t 7)⟩,
⟨some 25, none, .call (.c (.fn (.func 103) [] [])) [(.t 24)]⟩,
⟨some 23, none, .mv (.t 25)⟩,
⟨some 26, none, .ext (.t 23) 0⟩,
⟨some 27, none, .ext (.t 23) 1⟩,
⟨some 28, none, .ext (.t 23) 2⟩,
⟨some 8, none, .mv (.t 26)⟩,
⟨some 9, none, .mv (.t 27)⟩,
⟨some 10, none, .mv (.t 28)⟩]
abbrev x59r9 : List XOper := [
⟨some 29, none, .mv (.t 5)⟩,
⟨some 30, none, .mv (.t 7)⟩,
⟨some 31, none, .mv (.t 8)⟩,
⟨some 32, none, .mv (.t 9)⟩,
⟨some 33, none, .build [(.int .i64 0), (.int .i64 0), (.int .i64 0)] [(0, 1, (.t 30)), (1, 1, (.t 31)), (2, 1, (.t 32))]⟩,
⟨some 34, none, .mkslice 3 (.agg [(.int .i64 0), (.int .i64 0), (.int .i64 0)]) 1 [(0, (.t 33))]⟩,
⟨some 35, none, .app 3 24 (.t 29) (.t 34)⟩,
⟨some 5, none, .mv (.t 35)⟩]
abbrev x59r10 : List XOper := [
⟨some 36, none, .bin .add (.t 19) (.c (.int .i64 1))⟩,
⟨some 19, none, .mv (.t 36)⟩]
abbrev x59l6 : XCode :=
(.seq (.reg 6 x59r6 none)
(.seq (.cond (.t 20)
.skip
(.exit 0))
(.seq (.block 1
(.seq (.reg 7 x59r7 none)
(.seq (.reg 8 x59r8 none)
(.reg 9 x59r9 none))))
(.reg 10 x59r10 none))))
abbrev x59r11 : List XOper := [
⟨some 37, none, .call (.c (.fn (.func 104) [] [])) []⟩,
⟨some 38, none, .mv (.c (.int .i64 0))⟩]
abbrev x59r12 : List XOper := [
⟨some 39, none, .bin .lss (.t 38) (.c (.int .i64 8))⟩]
abbrev x59r13 : List XOper := [
⟨some 40, none, .mv (.t 38)⟩,
⟨some 41, none, .ixA false 8 1 (.t 37) (.t 38)⟩,
⟨some 11, none, .mv (.t 40)⟩,
⟨some 12, none, .mv (.t 41)⟩]
abbrev x59r14 : List XOper := [
⟨some 42, none, .mv (.t 11)⟩,
⟨some 43, none, .mv (.t 12)⟩,
⟨some 44, none, .mv (.t 5)⟩,
⟨some 45, none, .call (.t 43) [(.t 44)]⟩,
⟨some 46, none, .iaA 8 1 (.t 4) (.t 42)⟩,
⟨none, none, .store 1 (.t 46) (.t 45)⟩]
abbrev x59r15 : List XOper := [
⟨some 47, none, .bin .add (.t 38) (.c (.int .i64 1))⟩,
⟨some 38, none, .mv (.t 47)⟩]
abbrev x59l13 : XCode :=
(.seq (.reg 12 x59r12 none)
(.seq (.cond (.t 39)
.skip
(.exit 2))
(.seq (.block 3
(.seq (.reg 13 x59r13 none)
(.reg 14 x59r14 none)))
(.reg 15 x59r15 none))))
abbrev x59r16 : List XOper := [
⟨some 48, none, .load true 8 (.t 4)⟩,
⟨none, none, .store 8 (.t 2) (.t 48)⟩,
⟨some 3, none, .mv (.c (.int .i64 0))⟩]
abbrev x59b : XCode :=
(.seq (.reg 0 x59r0 none)
(.seq (.reg 1 x59r1 none)
(.seq (.seq (.reg 2 x59r2 none)
(.cond (.t 15)
(.seq (.reg 3 x59r3 none)
.ret)
.skip))
(.seq (.reg 4 x59r4 none)
(.seq (.seq (.reg 5 x59r5 none)
(.block 0
(.loop x59l6)))
(.seq (.seq (.reg 11 x59r11 none)
(.block 2
(.loop x59l13)))
(.seq (.reg 16 x59r16 none)
.ret)))))))
def x59 : XFunc := ⟨49, 1, [.cell 2 true 8, .tmp 3], x59b⟩
theorem x59_ok : chkF Tryz.prog Tryz.f59 x59 = true := by kernel_rfl
theorem x59_eq : x59.body = x59b ∧ x59.res = [.cell 2 true 8, .tmp 3] ∧ x59.np = 1 := ⟨rfl, rfl, rfl⟩
abbrev x60r0 : List XOper := [
⟨some 6, none, .mv (.c (.bool false))⟩]
abbrev x60r1 : List XOper := [
⟨some 7, none, .mv (.t 0)⟩,
⟨some 8, none, .mv (.t 1)⟩,
⟨some 9, none, .bin .geq (.t 7) (.t 8)⟩,
⟨some 10, none, .mv (.t 9)⟩,
⟨some 11, some (10, true), .mv (.t 0)⟩,
⟨some 12, some (10, true), .mv (.t 2)⟩,
⟨some 13, some (10, true), .bin .leq (.t 11) (.t 12)⟩,
⟨some 14, none, .pick (.t 10) (.t 13) (.c (.bool false))⟩,
⟨some 6, none, .mv (.t 14)⟩]
abbrev x60b : XCode :=
(.seq (.reg 0 x60r0 none)
(.seq (.reg 1 x60r1 none)
.ret))
def x60 : XFunc := ⟨15, 3, [.tmp 6], x60b⟩
theorem x60_ok : chkF Tryz.prog Tryz.f60 x60 = true := by kernel_rfl
theorem x60_eq : x60.body = x60b ∧ x60.res = [.tmp 6] ∧ x60.np = 3 := ⟨rfl, rfl, rfl⟩
abbrev x61r0 : List XOper := [
⟨some 1, none, .box (.t 0)⟩,
⟨some 2, none, .mv (.c (.bool false))⟩]
abbrev x61r1 : List XOper := [
⟨some 7, none, .load true 44 (.t 1)⟩,
⟨some 8, none, .call (.c (.fn (.func 105) [] [])) [(.t 7)]⟩,
⟨some 3, none, .alloc [(.str ⟨#[]⟩), (.int .i64 0), (.int .i64 0), (.int .i64 0), (.int .i64 0), (.int .i64 0), (.int .i64 0), (.int .i64 0), (.int .i64 0), (.int .i64 0), (.int .i64 0), (.int .i64 0), (.int .i64 0), (.int .i64 0), (.int .i64 0), (.int .i64 0), (.int .i64 0), (.int .i64 0), (.int .i64 0), .nils, (.int .i64 0), (.int .i64 0), (.int .i64 0), (.int .i64 0), (.int .i64 0), (.int .i64 0), (.int .i64 0), (.int .i64 0), (.int .i64 0), (.int .i64 0), (.int .i64 0), (.int .i64 0), (.int .i64 0), (.int .i64 0), (.int .i64 0), (.int .i64 0), (.int .i64 0), (.int .i64 0), (.int .i64 0), (.int .i64 0), (.int .i64 0), (.int .i64 0), (.int .i64 0), .nils]⟩,
⟨none, none, .store 44 (.t 3) (.t 8)⟩]
abbrev x61r2 : List XOper := [
⟨some 9, none, .fa 20 (.t 3)⟩,
⟨some 10, none, .load true 5 (.t 9)⟩,
⟨some 11, none, .build [(.int .i64 0), (.int .i64 0), (.int .i64 0), (.int .i64 0), (.int .i64 0)] []⟩,
⟨some 12, none, .eqA true [0, 0, 0, 0, 0] (.t 10) (.t 11)⟩,
⟨some 13, none, .mv (.t 12)⟩,
⟨some 14, some (13, false), .fa 25 (.t 3)⟩,
⟨some 15, some (13, false), .load true 4 (.t 14)⟩,
⟨some 16, some (13, false), .build [(.int .i64 0), (.int .i64 0), (.int .i64 0), (.int .i64 0)] []⟩,
⟨some 17, some (13, false), .eqA true [0, 0, 0, 0] (.t 15) (.t 16)⟩,
⟨some 18, none, .pick (.t 13) (.c (.bool true)) (.t 17)⟩,
⟨some 19, none, .mv (.t 18)⟩,
⟨some 20, some (19, false), .fa 29 (.t 3)⟩,
⟨some 21, some (19, false), .load true 6 (.t 20)⟩,
⟨some 22, some (19, false), .build [(.int .i64 0), (.int .i64 0), (.int .i64 0), (.int .i64 0), (.int .i64 0), (.int .i64 0)] []⟩,
⟨some 23, some (19, false), .eqA true [0, 0, 0, 0, 0, 0] (.t 21) (.t 22)⟩,
⟨some 24, none, .pick (.t 19) (.c (.bool true)) (.t 23)⟩,
⟨some 25, none, .mv (.t 24)⟩,
⟨some 26, some (25, false), .fa 35 (.t 3)⟩,
⟨some 27, some (25, false), .load true 8 (.t 26)⟩,
⟨some 28, some (25, false), .build [(.int .i64 0), (.int .i64 0), (.int .i64 0), (.int .i64 0), (.int .i64 0), (.int .i64 0), (.int .i64 0), (.int .i64 0)] []⟩,
⟨some 29, some (25, false), .eqA true [0, 0, 0, 0, 0, 0, 0, 0] (.t 27) (.t 28)⟩,
⟨some 30, none, .pick (.t 25) (.c (.bool true)) (.t 29)⟩]
abbrev x61r3 : List XOper := [
⟨some 2, none, .mv (.c (.bool false))⟩]
abbrev x61r4 : List XOper := [
⟨some 31, none, .fa 16 (.t 3)⟩,
⟨some 32, none, .load true 4 (.t 31)⟩,
⟨some 4, none, .alloc [(.int .i64 0), (.int .i64 0), (.int .i64 0), .nils]⟩,
⟨none, none, .store 4 (.t 4) (.t 32)⟩]
abbrev x61r5 : List XOper := [
⟨some 33, none, .fa 0 (.t 4)⟩,
⟨some 34, none, .load false 1 (.t 33)⟩,
⟨some 35, none, .bin .neq (.t 34) (.c (.int .i64 0))⟩,
⟨some 36, none, .mv (.t 35)⟩,
⟨some 37, some (36, false), .fa 1 (.t 4)⟩,
⟨some 38, some (36, false), .load false 1 (.t 37)⟩,
⟨some 39, some (36, false), .bin .neq (.t 38) (.c (.int .i64 0))⟩,
⟨some 40, none, .pick (.t 36) (.c (.bool true)) (.t 39)⟩,
⟨some 41, none, .mv (.t 40)⟩,
⟨some 42, some (41, false), .fa 2 (.t 4)⟩,
⟨some 43, some (41, false), .load false 1 (.t 42)⟩,
⟨some 44, some (41, false), .bin .neq (.t 43) (.c (.int .i64 0))⟩,
⟨some 45, none, .pick (.t 41) (.c (.bool true)) (.t 44)⟩,
⟨some 46, none, .mv (.t 45)⟩,
⟨some 47, some (46, false), .fa 3 (.t 4)⟩,
⟨some 48, some (46, false), .load false 1 (.t 47)⟩,
⟨some 49, some (46, false), .lenV (.t 48)⟩,
⟨some 50, some (46, false), .bin .gtr (.t 49) (.c (.int .i64 0))⟩,
⟨some 51, none, .pick (.t 46) (.c (.bool true)) (.t 50)⟩]
abbrev x61r6 : List XOper := [
⟨some 2, none, .mv (.c (.bool false))⟩]
abbrev x61r7 : List XOper := [
⟨some 53, none, .fa 43 (.t 1)⟩,
⟨some 54, none, .load false 1 (.t 53)⟩,
⟨some 55, none, .call (.c (.fn (.func 59) [] [])) [(.t 54)]⟩,
⟨some 52, none, .mv (.t 55)⟩,
⟨some 56, none, .ext (.t 52) 0⟩,
⟨some 57, none, .ext (.t 52) 1⟩,
⟨some 5, none, .alloc [(.int .i64 0), (.int .i64 0), (.int .i64 0), (.int .i64 0), (.int .i64 0), (.int .i64 0), (.int .i64 0), (.int .i64 0)]⟩,
⟨none, none, .store 8 (.t 5) (.t 56)⟩,
⟨some 6, none, .mv (.t 57)⟩]
abbrev x61r8 : List XOper := [
⟨some 58, none, .mv (.t 6)⟩,
⟨some 59, none, .bin .eql (.t 58) (.c (.int .i64 0))⟩,
⟨some 60, none, .mv (.t 59)⟩,
⟨some 61, some (60, true), .fa 0 (.t 1)⟩,
⟨some 62, some (60, true), .fa 1 (.t 61)⟩,
⟨some 63, some (60, true), .load false 1 (.t 62)⟩,
⟨some 64, some (60, true), .bin .lss (.t 63) (.c (.int .i64 6))⟩,
⟨some 65, some (60, true), .mv (.t 64)⟩,
⟨some 66, some (65, false), .fa 43 (.t 1)⟩,
⟨some 67, some (65, false), .load false 1 (.t 66)⟩,
⟨some 68, some (65, false), .lenV (.t 67)⟩,
⟨some 69, some (65, false), .bin .eql (.t 68) (.c (.int .i64 0))⟩,
⟨some 70, some (60, true), .pick (.t 65) (.c (.bool true)) (.t 69)⟩,
⟨some 71, none, .pick (.t 60) (.t 70) (.c (.bool false))⟩,
⟨some 2, none, .mv (.t 71)⟩]
abbrev x61b : XCode :=
(.seq (.reg 0 x61r0 none)
(.seq (.reg 1 x61r1 none)
(.seq (.seq (.reg 2 x61r2 none)
(.cond (.t 30)
(.seq (.reg 3 x61r3 none)
.ret)
.skip))
(.seq (.seq (.reg 4 x61r4 none)
(.seq (.reg 5 x61r5 none)
(.cond (.t 51)
(.seq (.reg 6 x61r6 none)
.ret)
.skip)))
(.seq (.reg 7 x61r7 none)
(.seq (.reg 8 x61r8 none)
.ret))))))
def x61 : XFunc := ⟨72, 1, [.tmp 2], x61b⟩
theorem x61_ok : chkF Tryz.prog Tryz.f61 x61 = true := by kernel_rfl
theorem x61_eq : x61.body = x61b ∧ x61.res = [.tmp 2] ∧ x61.np = 1 := ⟨rfl, rfl, rfl⟩
abbrev x69r0 : List XOper := [
⟨some 1, none, .box (.t 0)⟩,
⟨some 2, none, .mv (.c (.bool false))⟩]
abbrev x69r1 : List XOper := [
⟨some 9, none, .fa 0 (.t 1)⟩,
⟨some 10, none, .load false 1 (.t 9)⟩,
⟨some 11, none, .build [(.int .i64 0), (.str ⟨#[]⟩), (.int .i64 0), (.int .i64 0)] [(0, 1, (.c (.int .i64 1))), (1, 1, (.t 10))]⟩,
⟨some 12, none, .call (.c (.fn (.func 111) [] [])) [(.t 11)]⟩,
⟨some 3, none, .mv (.t 12)⟩]
abbrev x69r2 : List XOper := [
⟨some 13, none, .mv (.t 3)⟩,
⟨some 14, none, .un .not (.t 13)⟩,
⟨some 15, none, .mv (.t 14)⟩,
⟨some 16, some (15, false), .fa 1 (.t 1)⟩,
⟨some 17, some (15, false), .load false 1 (.t 16)⟩,
⟨some 18, some (15, false), .bin .lss (.t 17) (.c (.int .i64 0))⟩,
⟨some 19, none, .pick (.t 15) (.c (.bool true)) (.t 18)⟩,
⟨some 20, none, .mv (.t 19)⟩,
⟨some 21, some (20, false), .fa 1 (.t 1)⟩,
⟨some 22, some (20, false), .load false 1 (.t 21)⟩,
⟨some 23, some (20, false), .bin .geq (.t 22) (.c (.int .i64 8))⟩,
⟨some 24, none, .pick (.t 20) (.c (.bool true)) (.t 23)⟩]
abbrev x69r3 : List XOper := [
⟨some 2, none, .mv (.c (.bool false))⟩]
abbrev x69r4 : List XOper := [
⟨some 25, none, .call (.c (.fn (.func 112) [] [])) [(.t 1)]⟩,
⟨some 4, none, .mv (.t 25)⟩]
abbrev x69r5 : List XOper := [
⟨some 26, none, .fa 12 (.t 1)⟩,
⟨some 27, none, .load false 1 (.t 26)⟩,
⟨some 28, none, .bin .eql (.t 27) (.c (.int .i64 0))⟩,
⟨some 29, none, .mv (.t 28)⟩,
⟨some 30, some (29, true), .fa 13 (.t 1)⟩,
⟨some 31, some (29, true), .load false 1 (.t 30)⟩,
⟨some 32, some (29, true), .bin .eql (.t 31) (.c (.int .i64 0))⟩,
⟨some 33, none, .pick (.t 29) (.t 32) (.c (.bool false))⟩,
⟨some 5, none, .mv (.t 33)⟩]
abbrev x69r6 : List XOper := [
⟨some 34, none, .call (.c (.fn (.func 113) [] [])) []⟩,
⟨some 35, none, .lenV (.t 34)⟩,
⟨some 36, none, .mv (.c (.int .i64 0))⟩]
abbrev x69r7 : List XOper := [
⟨some 37, none, .bin .lss (.t 36) (.t 35)⟩]
abbrev x69r8 : List XOper := [
⟨some 38, none, .mv (.t 36)⟩,
⟨some 39, none, .iaS 4 (.t 34) (.t 36)⟩,
⟨some 40, none, .load true 4 (.t 39)⟩,
⟨some 7, none, .alloc [(.str ⟨#[]⟩), (.int .i64 0), (.int .i64 0), (.int .i64 0)]⟩,
⟨some 6, none, .mv (.t 38)⟩,
⟨none, none, .store 4 (.t 7) (.t 40)⟩]
abbrev x69r9 : List XOper := [
⟨some 41, none, .load true 4 (.t 7)⟩,
⟨some 42, none, .fa 1 (.t 1)⟩,
⟨some 43, none, .load false 1 (.t 42)⟩,
⟨some 44, none, .call (.c (.fn (.func 114) [] [])) [(.t 41), (.t 43)]⟩,
⟨some 45, none, .mv (.t 44)⟩,
⟨some 46, some (45, false), .mv (.t 6)⟩,
⟨some 47, some (45, false), .bin .geq (.t 46) (.c (.int .i64 10))⟩,
⟨some 48, some (45, false), .mv (.t 47)⟩,
⟨some 49, some (48, true), .fa 1 (.t 1)⟩,
⟨some 50, some (48, true), .load false 1 (.t 49)⟩,
⟨some 51, some (48, true), .call (.c (.fn (.func 115) [] [])) [(.t 50)]⟩,
⟨some 52, some (45, false), .pick (.t 48) (.t 51) (.c (.bool false))⟩,
⟨some 53, some (45, false), .mv (.t 52)⟩,
⟨some 54, some (53, true), .mv (.t 5)⟩,
⟨some 55, some (53, true), .un .not (.t 54)⟩,
⟨some 56, some (45, false), .pick (.t 53) (.t 55) (.c (.bool false))⟩,
⟨some 57, none, .pick (.t 45) (.c (.bool true)) (.t 56)⟩,
⟨some 8, none, .mv (.t 57)⟩]
abbrev x69r10 : List XOper := [
⟨some 58, none, .mv (.t 8)⟩,
⟨some 59, none, .mv (.t 58)⟩,
⟨some 60, some (59, true), .load true 4 (.t 7)⟩,
⟨some 61, some (59, true), .fa 1 (.t 1)⟩,
⟨some 62, some (59, true), .load false 1 (.t 61)⟩,
⟨some 63, some (59, true), .mv (.t 4)⟩,
⟨some 64, some (59, true), .mv (.t 6)⟩,
⟨some 65, some (59, true), .iaS 1 (.t 63) (.t 64)⟩,
⟨some 66, some (59, true), .load false 1 (.t 65)⟩,
⟨some 67, some (59, true), .nilChk (.t 66)⟩,
⟨some 68, some (59, true), .load false 1 (.t 67)⟩,
⟨some 69, some (59, true), .call (.c (.fn (.func 116) [] [])) [(.t 60), (.t 62), (.t 68)]⟩,
⟨some 70, some (59, true), .un .not (.t 69)⟩,
⟨some 71, none, .pick (.t 59) (.t 70) (.c (.bool false))⟩,
⟨some 72, none, .mv (.t 71)⟩,
⟨some 73, some (72, false), .mv (.t 8)⟩,
⟨some 74, some (72, false), .un .not (.t 73)⟩,
⟨some 75, some (72, false), .mv (.t 74)⟩,
⟨some 76, some (75, true), .mv (.t 4)⟩,
⟨some 77, some (75, true), .mv (.t 6)⟩,
⟨some 78, some (75, true), .iaS 1 (.t 76) (.t 77)⟩,
⟨some 79, some (75, true), .load false 1 (.t 78)⟩,
⟨some 80, some (75, true), .nilChk (.t 79)⟩,
⟨some 81, some (75, true), .load false 1 (.t 80)⟩,
⟨some 82, some (75, true), .bin .neq (.t 81) (.c (.int .i64 0))⟩,
⟨some 83, some (72, false), .pick (.t 75) (.t 82) (.c (.bool false))⟩,
⟨some 84, none, .pick (.t 72) (.c (.bool true)) (.t 83)⟩]
abbrev x69r11 : List XOper := [
⟨some 2, none, .mv (.c (.bool false))⟩]
abbrev x69r12 : List XOper := [
⟨some 85, none, .bin .add (.t 36) (.c (.int .i64 1))⟩,
⟨some 36, none, .mv (.t 85)⟩]
abbrev x69l7 : XCode :=
(.seq (.reg 7 x69r7 none)
(.seq (.cond (.t 37)
.skip
(.exit 0))
(.seq (.block 1
(.seq (.reg 8 x69r8 none)
(.seq (.reg 9 x69r9 none)
(.seq (.reg 10 x69r10 (some ⟨[]⟩))
(.cond (.t 84)
(.seq (.reg 11 x69r11 none)
.ret)
.skip)))))
(.reg 12 x69r12 none))))
abbrev x69r13 : List XOper := [
⟨some 86, none, .fa 3 (.t 1)⟩,
⟨some 87, none, .load false 1 (.t 86)⟩,
⟨some 88, none, .fa 4 (.t 1)⟩,
⟨some 89, none, .load false 1 (.t 88)⟩,
⟨some 90, none, .bin .lss (.t 87) (.t 89)⟩,
⟨some 91, none, .mv (.t 90)⟩,
⟨some 92, some (91, false), .fa 3 (.t 1)⟩,
⟨some 93, some (91, false), .load false 1 (.t 92)⟩,
⟨some 94, some (91, false), .bin .eql (.t 93) (.c (.int .i64 0))⟩,
⟨some 95, some (91, false), .mv (.t 94)⟩,
⟨some 96, some (95, true), .fa 4 (.t 1)⟩,
⟨some 97, some (95, true), .load false 1 (.t 96)⟩,
⟨some 98, some (95, true), .bin .eql (.t 97) (.c (.int .i64 0))⟩,
⟨some 99, some (91, false), .pick (.t 95) (.t 98) (.c (.bool false))⟩,
⟨some 100, some (91, false), .mv (.t 99)⟩,
⟨some 101, some (100, true), .call (.c (.fn (.func 113) [] [])) []⟩,
⟨some 102, some (100, true), .iaS 4 (.t 101) (.c (.int .i64 1))⟩,
⟨some 103, some (100, true), .load true 4 (.t 102)⟩,
⟨some 104, some (100, true), .fa 1 (.t 1)⟩,
⟨some 105, some (100, true), .load false 1 (.t 104)⟩,
⟨some 106, some (100, true), .call (.c (.fn (.func 114) [] [])) [(.t 103), (.t 105)]⟩,
⟨some 107, some (100, true), .un .not (.t 106)⟩,
⟨some 108, some (91, false), .pick (.t 100) (.t 107) (.c (.bool false))⟩,
⟨some 109, none, .pick (.t 91) (.c (.bool true)) (.t 108)⟩,
⟨some 110, none, .mv (.t 109)⟩,
⟨some 111, some (110, true), .mv (.t 5)⟩,
⟨some 112, some (110, true), .mv (.t 111)⟩,
⟨some 113, some (112, false), .fa 12 (.t 1)⟩,
⟨some 114, some (112, false), .load false 1 (.t 113)⟩,
⟨some 115, some (112, false), .fa 13 (.t 1)⟩,
⟨some 116, some (112, false), .load false 1 (.t 115)⟩,
⟨some 117, some (112, false), .bin .lss (.t 114) (.t 116)⟩,
⟨some 118, some (110, true), .pick (.t 112) (.c (.bool true)) (.t 117)⟩,
⟨some 119, none, .pick (.t 110) (.t 118) (.c (.bool false))⟩,
⟨some 2, none, .mv (.t 119)⟩]
abbrev x69b : XCode :=
(.seq (.reg 0 x69r0 none)
(.seq (.reg 1 x69r1 none)
(.seq (.seq (.reg 2 x69r2 none)
(.cond (.t 24)
(.seq (.reg 3 x69r3 none)
.ret)
.skip))
(.seq (.reg 4 x69r4 none)
(.seq (.reg 5 x69r5 none)
(.seq (.seq (.reg 6 x69r6 none)
(.block 0
(.loop x69l7)))
(.seq (.reg 13 x69r13 (some ⟨[(15, 19)]⟩))
.ret)))))))
def x69 : XFunc := ⟨120, 1, [.tmp 2], x69b⟩
theorem x69_ok : chkF Tryz.prog Tryz.f69 x69 = true := by kernel_rfl
theorem x69_eq : x69.body = x69b ∧ x69.res = [.tmp 2] ∧ x69.np = 1 := ⟨rfl, rfl, rfl⟩
abbrev x71r0 : List XOper := [
⟨some 1, none, .box (.t 0)⟩,
⟨some 2, none, .mv (.c (.bool false))⟩]
abbrev x71r1 : List XOper := [
⟨some 6, none, .callN (.c (.fn (.func 57) [] [])) []⟩,
⟨some 7, none, .fa 0 (.t 1)⟩,
⟨some 8, none, .load false 1 (.t 7)⟩,
⟨some 9, none, .lkp 0 true (.agg [.nilf, .nilf]) (.t 6) (.t 8)⟩,
⟨some 5, none, .mv (.t 9)⟩,
⟨some 10, none, .ext (.t 5) 0⟩,
⟨some 11, none, .ext (.t 5) 1⟩,
⟨some 3, none, .alloc [.nilf, .nilf]⟩,
⟨none, none, .store 2 (.t 3) (.t 10)⟩,
⟨some 4, none, .mv (.t 11)⟩]
abbrev x71r2 : List XOper := [
⟨some 12, none, .mv (.t 4)⟩,
⟨some 13, none, .un .not (.t 12)⟩,
⟨some 14, none, .mv (.t 13)⟩,
⟨some 15, some (14, false), .fa 1 (.t 1)⟩,
⟨some 16, some (14, false), .load false 1 (.t 15)⟩,
⟨some 17, some (14, false), .bin .lss (.t 16) (.c (.int .i64 1))⟩,
⟨some 18, none, .pick (.t 14) (.c (.bool true)) (.t 17)⟩,
⟨some 19, none, .mv (.t 18)⟩,
⟨some 20, some (19, false), .fa 1 (.t 1)⟩,
⟨some 21, some (19, false), .load false 1 (.t 20)⟩,
⟨some 22, some (19, false), .bin .gtr (.t 21) (.c (.int .i64 1000))⟩,
⟨some 23, none, .pick (.t 19) (.c (.bool true)) (.t 22)⟩,
⟨some 24, none, .mv (.t 23)⟩,
⟨some 25, some (24, false), .fa 0 (.t 1)⟩,
⟨some 26, some (24, false), .load false 1 (.t 25)⟩,
⟨some 27, some (24, false), .bin .eql (.t 26) (.c (.int .i64 4))⟩,
⟨some 28, some (24, false), .mv (.t 27)⟩,
⟨some 29, some (28, true), .fa 1 (.t 1)⟩,
⟨some 30, some (28, true), .load false 1 (.t 29)⟩,
⟨some 31, some (28, true), .bin .gtr (.t 30) (.c (.int .i64 1))⟩,
⟨some 32, some (24, false), .pick (.t 28) (.t 31) (.c (.bool false))⟩,
⟨some 33, none, .pick (.t 24) (.c (.bool true)) (.t 32)⟩,
⟨some 34, none, .mv (.t 33)⟩,
⟨some 35, some (34, false), .fa 2 (.t 1)⟩,
⟨some 36, some (34, false), .load false 1 (.t 35)⟩,
⟨some 37, some (34, false), .bin .lss (.t 36) (.c (.int .i64 0))⟩,
⟨some 38, none, .pick (.t 34) (.c (.bool true)) (.t 37)⟩,
⟨some 39, none, .mv (.t 38)⟩,
⟨some 40, some (39, false), .fa 2 (.t 1)⟩,
⟨some 41, some (39, false), .load false 1 (.t 40)⟩,
⟨some 42, some (39, false), .bin .gtr (.t 41) (.c (.int .i64 25))⟩,
⟨some 43, none, .pick (.t 39) (.c (.bool true)) (.t 42)⟩]
abbrev x71r3 : List XOper := [
⟨some 2, none, .mv (.c (.bool false))⟩]
abbrev x71r4 : List XOper := [
⟨some 44, none, .fa 3 (.t 1)⟩,
⟨some 45, none, .load false 1 (.t 44)⟩,
⟨some 46, none, .bin .geq (.t 45) (.c (.int .i64 0))⟩,
⟨some 47, none, .mv (.t 46)⟩,
⟨some 48, some (47, true), .fa 3 (.t 1)⟩,
⟨some 49, some (47, true), .load false 1 (.t 48)⟩,
⟨some 50, some (47, true), .fa 2 (.t 1)⟩,
⟨some 51, some (47, true), .load false 1 (.t 50)⟩,
⟨some 52, some (47, true), .fa 0 (.t 3)⟩,
⟨some 53, some (47, true), .load false 1 (.t 52)⟩,
⟨some 54, some (47, true), .load true 4 (.t 1)⟩,
⟨some 55, some (47, true), .call (.t 53) [(.t 54)]⟩,
⟨some 56, some (47, true), .bin .mul (.t 51) (.t 55)⟩,
⟨some 57, some (47, true), .bin .leq (.t 49) (.t 56)⟩,
⟨some 58, none, .pick (.t 47) (.t 57) (.c (.bool false))⟩,
⟨some 2, none, .mv (.t 58)⟩]
abbrev x71b : XCode :=
(.seq (.reg 0 x71r0 none)
(.seq (.reg 1 x71r1 (some ⟨[(0, 2), (0, 7), (2, 7), (3, 7)]⟩))
(.seq (.seq (.reg 2 x71r2 none)
(.cond (.t 43)
(.seq (.reg 3 x71r3 none)
.ret)
.skip))
(.seq (.reg 4 x71r4 (some ⟨[(5, 11), (7, 11)]⟩))
.ret))))
def x71 : XFunc := ⟨59, 1, [.tmp 2], x71b⟩
theorem x71_ok : chkF Tryz.prog Tryz.f71 x71 = true := by kernel_rfl
theorem x71_eq : x71.body = x71b ∧ x71.res = [.tmp 2] ∧ x71.np = 1 := ⟨rfl, rfl, rfl⟩
abbrev x74r0 : List XOper := [
⟨some 6, none, .mv (.c (.bool false))⟩]
abbrev x74r1 : List XOper := [
⟨some 7, none, .mv (.t 0)⟩,
⟨some 8, none, .mv (.t 1)⟩,
⟨some 9, none, .bin .geq (.t 7) (.t 8)⟩,
⟨some 10, none, .mv (.t 9)⟩,
⟨some 11, some (10, true), .mv (.t 0)⟩,
⟨some 12, some (10, true), .mv (.t 2)⟩,
⟨some 13, some (10, true), .bin .leq (.t 11) (.t 12)⟩,
⟨some 14, none, .pick (.t 10) (.t 13) (.c (.bool false))⟩,
⟨some 6, none, .mv (.t 14)⟩]
abbrev x74b : XCode :=
(.seq (.reg 0 x74r0 none)
(.seq (.reg 1 x74r1 none)
.ret))
def x74 : XFunc := ⟨15, 3, [.tmp 6], x74b⟩
theorem x74_ok : chkF Tryz.prog Tryz.f74 x74 = true := by kernel_rfl
abbrev x76r0 : List XOper := [
⟨some 2, none, .box (.t 0)⟩,
⟨some 4, none, .mv (.c (.bool false))⟩]
abbrev x76r1 : List XOper := [
⟨some 5, none, .fa 1 (.t 2)⟩,
⟨some 6, none, .load false 1 (.t 5)⟩]
abbrev x76r2 : List XOper := [
⟨some 8, none, .bin .eql (.t 6) (.c (.int .i64 2))⟩,
⟨some 7, none, .mv (.t 8)⟩]
abbrev x76r3 : List XOper := [
⟨some 9, none, .bin .eql (.t 6) (.c (.int .i64 3))⟩,
⟨some 7, none, .mv (.t 9)⟩]
abbrev x76r4 : List XOper := [
⟨some 10, none, .mv (.t 1)⟩,
⟨some 11, none, .fa 2 (.t 2)⟩,
⟨some 12, none, .load false 1 (.t 11)⟩,
⟨some 13, none, .call (.c (.fn (.func 60) [] [])) [(.t 10), (.c (.int .i64 0)), (.t 12)]⟩,
⟨some 4, none, .mv (.t 13)⟩]
abbrev x76r5 : List XOper := [
⟨some 15, none, .bin .eql (.t 6) (.c (.int .i64 4))⟩,
⟨some 14, none, .mv (.t 15)⟩]
abbrev x76r6 : List XOper := [
⟨some 16, none, .bin .eql (.t 6) (.c (.int .i64 5))⟩,
⟨some 14, none, .mv (.t 16)⟩]
abbrev x76r7 : List XOper := [
⟨some 17, none, .mv (.t 1)⟩,
⟨some 18, none, .call (.c (.fn (.func 60) [] [])) [(.t 17), (.c (.int .i64 0)), (.c (.int .i64 1000000))]⟩,
⟨some 4, none, .mv (.t 18)⟩]
abbrev x76r8 : List XOper := [
⟨some 19, none, .mv (.t 1)⟩,
⟨some 20, none, .fa 3 (.t 2)⟩,
⟨some 21, none, .load false 1 (.t 20)⟩,
⟨some 22, none, .fa 4 (.t 2)⟩,
⟨some 23, none, .load false 1 (.t 22)⟩,
⟨some 24, none, .call (.c (.fn (.func 60) [] [])) [(.t 19), (.t 21), (.t 23)]⟩,
⟨some 4, none, .mv (.t 24)⟩]
abbrev x76b : XCode :=
(.seq (.reg 0 x76r0 none)
(.seq (.seq (.reg 1 x76r1 none)
(.block 0
(.seq (.seq (.reg 2 x76r2 none)
(.cond (.t 7)
.skip
(.reg 3 x76r3 none)))
(.cond (.t 7)
(.seq (.reg 4 x76r4 none)
.ret)
(.seq (.seq (.reg 5 x76r5 none)
(.cond (.t 14)
.skip
(.reg 6 x76r6 none)))
(.cond (.t 14)
(.seq (.reg 7 x76r7 none)
.ret)
.skip))))))
(.seq (.reg 8 x76r8 none)
.ret)))
def x76 : XFunc := ⟨25, 2, [.tmp 4], x76b⟩
theorem x76_ok : chkF Tryz.prog Tryz.f76 x76 = true := by kernel_rfl
theorem x76_eq : x76.body = x76b ∧ x76.res = [.tmp 4] ∧ x76.np = 2 := ⟨rfl, rfl, rfl⟩
abbrev x91r0 : List XOper := [
⟨some 2, none, .mv (.c (.bool false))⟩]
abbrev x91r1 : List XOper := [
⟨some 3, none, .mv (.t 0)⟩,
⟨some 4, none, .bin .geq (.t 3) (.c (.int .i64 (-1000000)))⟩,
⟨some 5, none, .mv (.t 4)⟩,
⟨some 6, some (5, true), .mv (.t 0)⟩,
⟨some 7, some (5, true), .bin .leq (.t 6) (.c (.int .i64 1000000))⟩,
⟨some 8, none, .pick (.t 5) (.t 7) (.c (.bool false))⟩,
⟨some 2, none, .mv (.t 8)⟩]
abbrev x91b : XCode :=
(.seq (.reg 0 x91r0 none)
(.seq (.reg 1 x91r1 none)
.ret))
def x91 : XFunc := ⟨9, 1, [.tmp 2], x91b⟩
theorem x91_ok : chkF Tryz.prog Tryz.f91 x91 = true := by kernel_rfl
theorem x91_eq : x91.body = x91b ∧ x91.res = [.tmp 2] ∧ x91.np = 1 := ⟨rfl, rfl, rfl⟩
abbrev x92r0 : List XOper := [
⟨some 4, none, .mv (.c (.int .u64 0))⟩,
⟨some 5, none, .mv (.c (.int .u64 0))⟩]
abbrev x92r1 : List XOper := [
⟨some 14, none, .mv (.t 0)⟩,
⟨some 15, none, .bin .and (.t 14) (.c (.int .u64 4294967295))⟩,
⟨some 6, none, .mv (.t 15)⟩]
abbrev x92r2 : List XOper := [
⟨some 16, none, .mv (.t 0)⟩,
⟨some 17, none, .bin .shr (.t 16) (.c (.int .u64 32))⟩,
⟨some 7, none, .mv (.t 17)⟩]
abbrev x92r3 : List XOper := [
⟨some 18, none, .mv (.t 1)⟩,
⟨some 19, none, .bin .and (.t 18) (.c (.int .u64 4294967295))⟩,
⟨some 8, none, .mv (.t 19)⟩]
abbrev x92r4 : List XOper := [
⟨some 20, none, .mv (.t 1)⟩,
⟨some 21, none, .bin .shr (.t 20) (.c (.int .u64 32))⟩,
⟨some 9, none, .mv (.t 21)⟩]
abbrev x92r5 : List XOper := [
⟨some 22, none, .mv (.t 6)⟩,
⟨some 23, none, .mv (.t 8)⟩,
⟨some 24, none, .bin .mul (.t 22) (.t 23)⟩,
⟨some 10, none, .mv (.t 24)⟩]
abbrev x92r6 : List XOper := [
⟨some 25, none, .mv (.t 7)⟩,
⟨some 26, none, .mv (.t 8)⟩,
⟨some 27, none, .bin .mul (.t 25) (.t 26)⟩,
⟨some 28, none, .mv (.t 10)⟩,
⟨some 29, none, .bin .shr (.t 28) (.c (.int .u64 32))⟩,
⟨some 30, none, .bin .add (.t 27) (.t 29)⟩,
⟨some 11, none, .mv (.t 30)⟩]
abbrev x92r7 : List XOper := [
⟨some 31, none, .mv (.t 11)⟩,
⟨some 32, none, .bin .and (.t 31) (.c (.int .u64 4294967295))⟩,
⟨some 12, none, .mv (.t 32)⟩]
abbrev x92r8 : List XOper := [
⟨some 33, none, .mv (.t 11)⟩,
⟨some 34, none, .bin .shr (.t 33) (.c (.int .u64 32))⟩,
⟨some 13, none, .mv (.t 34)⟩]
abbrev x92r9 : List XOper := [
⟨some 35, none, .mv (.t 12)⟩,
⟨some 36, none, .mv (.t 6)⟩,
⟨some 37, none, .mv (.t 9)⟩,
⟨some 38, none, .bin .mul (.t 36) (.t 37)⟩,
⟨some 39, none, .bin .add (.t 35) (.t 38)⟩,
⟨some 12, none, .mv (.t 39)⟩]
abbrev x92r10 : List XOper := [
⟨some 40, none, .mv (.t 7)⟩,
⟨some 41, none, .mv (.t 9)⟩,
⟨some 42, none, .bin .mul (.t 40) (.t 41)⟩,
⟨some 43, none, .mv (.t 13)⟩,
⟨some 44, none, .bin .add (.t 42) (.t 43)⟩,
⟨some 45, none, .mv (.t 12)⟩,
⟨some 46, none, .bin .shr (.t 45) (.c (.int .u64 32))⟩,
⟨some 47, none, .bin .add (.t 44) (.t 46)⟩,
⟨some 4, none, .mv (.t 47)⟩]
abbrev x92r11 : List XOper := [
⟨some 48, none, .mv (.t 0)⟩,
⟨some 49, none, .mv (.t 1)⟩,
⟨some 50, none, .bin .mul (.t 48) (.t 49)⟩,
⟨some 5, none, .mv (.t 50)⟩]
abbrev x92b : XCode :=
(.seq (.reg 0 x92r0 none)
(.seq (.reg 1 x92r1 none)
(.seq (.reg 2 x92r2 none)
(.seq (.reg 3 x92r3 none)
(.seq (.reg 4 x92r4 none)
(.seq (.reg 5 x92r5 none)
(.seq (.reg 6 x92r6 none)
(.seq (.reg 7 x92r7 none)
(.seq (.reg 8 x92r8 none)
(.seq (.reg 9 x92r9 none)
(.seq (.reg 10 x92r10 none)
(.seq (.reg 11 x92r11 none)
.ret))))))))))))
def x92 : XFunc := ⟨51, 2, [.tmp 4, .tmp 5], x92b⟩
theorem x92_ok : chkF Tryz.prog Tryz.f92 x92 = true := by kernel_rfl
theorem x92_eq : x92.body = x92b ∧ x92.res = [.tmp 4, .tmp 5] ∧ x92.np = 2 := ⟨rfl, rfl, rfl⟩
abbrev x93r0 : List XOper := [
⟨some 1, none, .box (.t 0)⟩,
⟨some 2, none, .mv (.c (.int .i64 0))⟩]
abbrev x93r1 : List XOper := [
⟨some 3, none, .fa 1 (.t 1)⟩,
⟨some 4, none, .load false 1 (.t 3)⟩,
⟨some 2, none, .mv (.t 4)⟩]
abbrev x93b : XCode :=
(.seq (.reg 0 x93r0 none)
(.seq (.reg 1 x93r1 none)
.ret))
def x93 : XFunc := ⟨5, 1, [.tmp 2], x93b⟩
theorem x93_ok : chkF Tryz.prog Tryz.f93 x93 = true := by kernel_rfl
theorem x93_eq : x93.body = x93b ∧ x93.res = [.tmp 2] ∧ x93.np = 1 := ⟨rfl, rfl, rfl⟩
abbrev x94r0 : List XOper := [
⟨some 1, none, .box (.t 0)⟩,
⟨some 2, none, .mv (.c (.int .i64 0))⟩]
abbrev x94r1 : List XOper := [
⟨some 2, none, .mv (.c (.int .i64 1))⟩]
abbrev x94b : XCode :=
(.seq (.reg 0 x94r0 none)
(.seq (.reg 1 x94r1 none)
.ret))
def x94 : XFunc := ⟨3, 1, [.tmp 2], x94b⟩
theorem x94_ok : chkF Tryz.prog Tryz.f94 x94 = true := by kernel_rfl
theorem x94_eq : x94.body = x94b ∧ x94.res = [.tmp 2] ∧ x94.np = 1 := ⟨rfl, rfl, rfl⟩
abbrev x95r0 : List XOper := [
⟨some 1, none, .box (.t 0)⟩,
⟨some 2, none, .mv (.c (.int .i64 0))⟩]
abbrev x95r1 : List XOper := [
⟨some 2, none, .mv (.c (.int .i64 1000000))⟩]
abbrev x95b : XCode :=
(.seq (.reg 0 x95r0 none)
(.seq (.reg 1 x95r1 none)
.ret))
def x95 : XFunc := ⟨3, 1, [.tmp 2], x95b⟩
theorem x95_ok : chkF Tryz.prog Tryz.f95 x95 = true := by kernel_rfl
theorem x95_eq : x95.body = x95b ∧ x95.res = [.tmp 2] ∧ x95.np = 1 := ⟨rfl, rfl, rfl⟩
abbrev x96r0 : List XOper := [
⟨some 1, none, .box (.t 0)⟩,
⟨some 2, none, .mv (.c .nilf)⟩]
abbrev x96r1 : List XOper := [
⟨some 3, none, .mkf (.func 135) [] [(.t 1)]⟩,
⟨some 2, none, .mv (.t 3)⟩]
abbrev x96b : XCode :=
(.seq (.reg 0 x96r0 none)
(.seq (.reg 1 x96r1 none)
.ret))
def x96 : XFunc := ⟨4, 1, [.tmp 2], x96b⟩
theorem x96_ok : chkF Tryz.prog Tryz.f96 x96 = true := by kernel_rfl
theorem x96_eq : x96.body = x96b ∧ x96.res = [.tmp 2] ∧ x96.np = 1 := ⟨rfl, rfl, rfl⟩
abbrev x97r0 : List XOper := [
⟨some 2, none, .box (.t 0)⟩,
⟨some 4, none, .alloc [(.int .i64 0), (.int .i64 0), (.int .i64 0), (.int .u64 0), (.int .u64 0)]⟩]
abbrev x97r1 : List XOper := [
⟨some 5, none, .fa 2 (.t 2)⟩,
⟨some 6, none, .load false 1 (.t 5)⟩,
⟨some 7, none, .fa 1 (.t 2)⟩,
⟨some 8, none, .load false 1 (.t 7)⟩,
⟨some 9, none, .bin .mul (.t 6) (.t 8)⟩,
⟨some 10, none, .fa 3 (.t 2)⟩,
⟨some 11, none, .load false 1 (.t 10)⟩,
⟨some 12, none, .mv (.t 1)⟩,
⟨some 13, none, .fa 2 (.t 2)⟩,
⟨some 14, none, .load false 1 (.t 13)⟩,
⟨some 15, none, .bin .mul (.t 12) (.t 14)⟩,
⟨some 16, none, .fa 3 (.t 2)⟩,
⟨some 17, none, .load false 1 (.t 16)⟩,
⟨some 18, none, .bin .sub (.t 15) (.t 17)⟩,
⟨some 19, none, .fa 3 (.t 2)⟩,
⟨some 20, none, .load false 1 (.t 19)⟩,
⟨some 21, none, .conv .u64 (.t 20)⟩,
⟨some 22, none, .fa 2 (.t 2)⟩,
⟨some 23, none, .load false 1 (.t 22)⟩,
⟨some 24, none, .conv .u64 (.t 23)⟩,
⟨some 25, none, .call (.c (.fn (.func 55) [] [])) [(.t 21), (.t 24)]⟩,
⟨some 26, none, .build [(.int .i64 0), (.int .i64 0), (.int .i64 0), (.int .u64 0), (.int .u64 0)] [(1, 1, (.t 9)), (0, 1, (.t 11)), (2, 1, (.t 18)), (3, 2, (.t 25))]⟩,
⟨none, none, .store 5 (.t 4) (.t 26)⟩]
abbrev x97b : XCode :=
(.seq (.reg 0 x97r0 none)
(.seq (.reg 1 x97r1 (some ⟨[(1, 20), (3, 20), (6, 20), (9, 20), (12, 20)]⟩))
.ret))
def x97 : XFunc := ⟨27, 2, [.cell 4 true 5], x97b⟩
theorem x97_ok : chkF Tryz.prog Tryz.f97 x97 = true := by kernel_rfl
theorem x97_eq : x97.body = x97b ∧ x97.res = [.cell 4 true 5] ∧ x97.np = 2 := ⟨rfl, rfl, rfl⟩
abbrev x98r0 : List XOper := [
⟨some 2, none, .mv (.c (.int .u64 0))⟩]
abbrev x98r1 : List XOper := [
⟨some 3, none, .mv (.t 0)⟩,
⟨some 4, none, .bin .lss (.t 3) (.c (.int .i64 0))⟩]
abbrev x98r2 : List XOper := [
⟨some 5, none, .mv (.t 0)⟩,
⟨some 6, none, .conv .u64 (.t 5)⟩,
⟨some 7, none, .un .neg (.t 6)⟩,
⟨some 2, none, .mv (.t 7)⟩]
abbrev x98r3 : List XOper := [
⟨some 8, none, .mv (.t 0)⟩,
⟨some 9, none, .conv .u64 (.t 8)⟩,
⟨some 2, none, .mv (.t 9)⟩]
abbrev x98b : XCode :=
(.seq (.reg 0 x98r0 none)
(.seq (.seq (.reg 1 x98r1 none)
(.cond (.t 4)
(.seq (.reg 2 x98r2 none)
.ret)
.skip))
(.seq (.reg 3 x98r3 none)
.ret)))
def x98 : XFunc := ⟨10, 1, [.tmp 2], x98b⟩
theorem x98_ok : chkF Tryz.prog Tryz.f98 x98 = true := by kernel_rfl
theorem x98_eq : x98.body = x98b ∧ x98.res = [.tmp 2] ∧ x98.np = 1 := ⟨rfl, rfl, rfl⟩
abbrev x99r0 : List XOper := [
⟨some 4, none, .mv (.c (.bool false))⟩]
abbrev x99r1 : List XOper := [
⟨some 8, none, .mv (.t 0)⟩,
⟨some 9, none, .mv (.t 0)⟩,
⟨some 10, none, .bin .mul (.t 8) (.t 9)⟩,
⟨some 11, none, .build [(.int .u64 0), (.int .u64 0)] [(1, 1, (.t 10))]⟩,
⟨some 12, none, .load true 2 (.t 1)⟩,
⟨some 13, none, .call (.c (.fn (.func 100) [] [])) [(.t 11), (.t 12)]⟩,
⟨some 7, none, .mv (.t 13)⟩,
⟨some 14, none, .ext (.t 7) 0⟩,
⟨some 15, none, .ext (.t 7) 1⟩,
⟨some 5, none, .alloc [(.int .u64 0), (.int .u64 0)]⟩,
⟨none, none, .store 2 (.t 5) (.t 14)⟩,
⟨some 6, none, .mv (.t 15)⟩]
abbrev x99r2 : List XOper := [
⟨some 16, none, .load true 2 (.t 5)⟩,
⟨some 17, none, .load true 2 (.t 2)⟩,
⟨some 18, none, .call (.c (.fn (.func 101) [] [])) [(.t 16), (.t 17)]⟩,
⟨some 4, none, .mv (.t 18)⟩]
abbrev x99b : XCode :=
(.seq (.reg 0 x99r0 none)
(.seq (.reg 1 x99r1 none)
(.seq (.reg 2 x99r2 none)
.ret)))
def x99 : XFunc := ⟨19, 3, [.tmp 4], x99b⟩
theorem x99_ok : chkF Tryz.prog Tryz.f99 x99 = true := by kernel_rfl
theorem x99_eq : x99.body = x99b ∧ x99.res = [.tmp 4] ∧ x99.np = 3 := ⟨rfl, rfl, rfl⟩
abbrev x100r0 : List XOper := [
⟨some 2, none, .box (.t 0)⟩,
⟨some 3, none, .box (.t 1)⟩,
⟨some 4, none, .alloc [(.int .u64 0), (.int .u64 0)]⟩,
⟨some 5, none, .mv (.c (.bool false))⟩]
abbrev x100r1 : List XOper := [
⟨some 12, none, .fa 1 (.t 2)⟩,
⟨some 13, none, .load false 1 (.t 12)⟩,
⟨some 14, none, .fa 1 (.t 3)⟩,
⟨some 15, none, .load false 1 (.t 14)⟩,
⟨some 16, none, .call (.c (.fn (.func 55) [] [])) [(.t 13), (.t 15)]⟩,
⟨some 6, none, .alloc [(.int .u64 0), (.int .u64 0)]⟩,
⟨none, none, .store 2 (.t 6) (.t 16)⟩]
abbrev x100r2 : List XOper := [
⟨some 17, none, .fa 0 (.t 2)⟩,
⟨some 18, none, .load false 1 (.t 17)⟩,
⟨some 19, none, .bin .gtr (.t 18) (.c (.int .u64 0))⟩,
⟨some 20, none, .mv (.t 19)⟩,
⟨some 21, some (20, true), .fa 0 (.t 3)⟩,
⟨some 22, some (20, true), .load false 1 (.t 21)⟩,
⟨some 23, some (20, true), .bin .gtr (.t 22) (.c (.int .u64 0))⟩,
⟨some 24, none, .pick (.t 20) (.t 23) (.c (.bool false))⟩,
⟨some 7, none, .mv (.t 24)⟩]
abbrev x100r3 : List XOper := [
⟨some 25, none, .fa 0 (.t 2)⟩,
⟨some 26, none, .load false 1 (.t 25)⟩,
⟨some 27, none, .fa 1 (.t 3)⟩,
⟨some 28, none, .load false 1 (.t 27)⟩,
⟨some 29, none, .call (.c (.fn (.func 55) [] [])) [(.t 26), (.t 28)]⟩,
⟨some 30, none, .fa 1 (.t 2)⟩,
⟨some 31, none, .load false 1 (.t 30)⟩,
⟨some 32, none, .fa 0 (.t 3)⟩,
⟨some 33, none, .load false 1 (.t 32)⟩,
⟨some 34, none, .call (.c (.fn (.func 55) [] [])) [(.t 31), (.t 33)]⟩,
⟨some 35, none, .build [(.int .u64 0), (.int .u64 0), (.int .u64 0), (.int .u64 0)] [(0, 2, (.t 29)), (2, 2, (.t 34))]⟩,
⟨some 36, none, .mv (.c (.int .i64 0))⟩]
abbrev x100r4 : List XOper := [
⟨some 37, none, .bin .lss (.t 36) (.c (.int .i64 2))⟩]
abbrev x100r5 : List XOper := [
⟨some 38, none, .ixA true 2 2 (.t 35) (.t 36)⟩,
⟨some 9, none, .alloc [(.int .u64 0), (.int .u64 0)]⟩,
⟨none, none, .store 2 (.t 9) (.t 38)⟩]
abbrev x100r6 : List XOper := [
⟨some 40, none, .fa 0 (.t 6)⟩,
⟨some 41, none, .load false 1 (.t 40)⟩,
⟨some 42, none, .fa 1 (.t 9)⟩,
⟨some 43, none, .load false 1 (.t 42)⟩,
⟨some 44, none, .call (.c (.fn (.func 136) [] [])) [(.t 41), (.t 43), (.c (.int .u64 0))]⟩,
⟨some 39, none, .mv (.t 44)⟩,
⟨some 45, none, .ext (.t 39) 0⟩,
⟨some 46, none, .ext (.t 39) 1⟩,
⟨some 10, none, .mv (.t 45)⟩,
⟨some 11, none, .mv (.t 46)⟩]
abbrev x100r7 : List XOper := [
⟨some 47, none, .mv (.t 10)⟩,
⟨some 48, none, .mv (.t 7)⟩,
⟨some 49, none, .mv (.t 48)⟩,
⟨some 50, some (49, false), .mv (.t 11)⟩,
⟨some 51, some (49, false), .bin .gtr (.t 50) (.c (.int .u64 0))⟩,
⟨some 52, none, .pick (.t 49) (.c (.bool true)) (.t 51)⟩,
⟨some 53, none, .mv (.t 52)⟩,
⟨some 54, some (53, false), .fa 0 (.t 9)⟩,
⟨some 55, some (53, false), .load false 1 (.t 54)⟩,
⟨some 56, some (53, false), .bin .gtr (.t 55) (.c (.int .u64 0))⟩,
⟨some 57, none, .pick (.t 53) (.c (.bool true)) (.t 56)⟩,
⟨some 58, none, .fa 0 (.t 6)⟩,
⟨none, none, .store 1 (.t 58) (.t 47)⟩,
⟨some 7, none, .mv (.t 57)⟩]
abbrev x100r8 : List XOper := [
⟨some 59, none, .bin .add (.t 36) (.c (.int .i64 1))⟩,
⟨some 36, none, .mv (.t 59)⟩]
abbrev x100l4 : XCode :=
(.seq (.reg 4 x100r4 none)
(.seq (.cond (.t 37)
.skip
(.exit 0))
(.seq (.block 1
(.seq (.reg 5 x100r5 none)
(.seq (.reg 6 x100r6 none)
(.reg 7 x100r7 (some ⟨[(8, 12)]⟩)))))
(.reg 8 x100r8 none))))
abbrev x100r9 : List XOper := [
⟨some 60, none, .load true 2 (.t 6)⟩,
⟨some 61, none, .mv (.t 7)⟩,
⟨none, none, .store 2 (.t 4) (.t 60)⟩,
⟨some 5, none, .mv (.t 61)⟩]
abbrev x100b : XCode :=
(.seq (.reg 0 x100r0 none)
(.seq (.reg 1 x100r1 none)
(.seq (.reg 2 x100r2 none)
(.seq (.seq (.reg 3 x100r3 (some ⟨[(4, 6), (4, 8)]⟩))
(.block 0
(.loop x100l4)))
(.seq (.reg 9 x100r9 none)
.ret)))))
def x100 : XFunc := ⟨62, 2, [.cell 4 true 2, .tmp 5], x100b⟩
theorem x100_ok : chkF Tryz.prog Tryz.f100 x100 = true := by kernel_rfl
theorem x100_eq : x100.body = x100b ∧ x100.res = [.cell 4 true 2, .tmp 5] ∧ x100.np = 2 := ⟨rfl, rfl, rfl⟩
abbrev x101r0 : List XOper := [
⟨some 2, none, .box (.t 0)⟩,
⟨some 3, none, .box (.t 1)⟩,
⟨some 4, none, .mv (.c (.bool false))⟩]
abbrev x101r1 : List XOper := [
⟨some 5, none, .fa 0 (.t 2)⟩,
⟨some 6, none, .load false 1 (.t 5)⟩,
⟨some 7, none, .fa 0 (.t 3)⟩,
⟨some 8, none, .load false 1 (.t 7)⟩,
⟨some 9, none, .bin .lss (.t 6) (.t 8)⟩,
⟨some 10, none, .mv (.t 9)⟩,
⟨some 11, some (10, false), .fa 0 (.t 2)⟩,
⟨some 12, some (10, false), .load false 1 (.t 11)⟩,
⟨some 13, some (10, false), .fa 0 (.t 3)⟩,
⟨some 14, some (10, false), .load false 1 (.t 13)⟩,
⟨some 15, some (10, false), .bin .eql (.t 12) (.t 14)⟩,
⟨some 16, some (10, false), .mv (.t 15)⟩,
⟨some 17, some (16, true), .fa 1 (.t 2)⟩,
⟨some 18, some (16, true), .load false 1 (.t 17)⟩,
⟨some 19, some (16, true), .fa 1 (.t 3)⟩,
⟨some 20, some (16, true), .load false 1 (.t 19)⟩,
⟨some 21, some (16, true), .bin .lss (.t 18) (.t 20)⟩,
⟨some 22, some (10, false), .pick (.t 16) (.t 21) (.c (.bool false))⟩,
⟨some 23, none, .pick (.t 10) (.c (.bool true)) (.t 22)⟩,
⟨some 4, none, .mv (.t 23)⟩]
abbrev x101b : XCode :=
(.seq (.reg 0 x101r0 none)
(.seq (.reg 1 x101r1 none)
.ret))
def x101 : XFunc := ⟨24, 2, [.tmp 4], x101b⟩
theorem x101_ok : chkF Tryz.prog Tryz.f101 x101 = true := by kernel_rfl
theorem x101_eq : x101.body = x101b ∧ x101.res = [.tmp 4] ∧ x101.np = 2 := ⟨rfl, rfl, rfl⟩
abbrev x102r0 : List XOper := [
⟨some 2, none, .mv (.c (.bool false))⟩]
abbrev x102r1 : List XOper := [
⟨some 3, none, .mv (.t 0)⟩,
⟨some 4, none, .lenV (.t 3)⟩,
⟨some 5, none, .bin .leq (.t 4) (.c (.int .i64 15))⟩,
⟨some 6, none, .mv (.t 5)⟩,
⟨some 7, some (6, true), .mv (.t 0)⟩,
⟨some 8, some (6, true), .call (.c (.fn (.func 117) [] [])) [(.t 7), (.c (.fn (.func 137) [] []))]⟩,
⟨some 9, some (6, true), .un .not (.t 8)⟩,
⟨some 10, none, .pick (.t 6) (.t 9) (.c (.bool false))⟩,
⟨some 2, none, .mv (.t 10)⟩]
abbrev x102b : XCode :=
(.seq (.reg 0 x102r0 none)
(.seq (.reg 1 x102r1 none)
.ret))
def x102 : XFunc := ⟨11, 1, [.tmp 2], x102b⟩
theorem x102_ok : chkF Tryz.prog Tryz.f102 x102 = true := by kernel_rfl
theorem x102_eq : x102.body = x102b ∧ x102.res = [.tmp 2] ∧ x102.np = 1 := ⟨rfl, rfl, rfl⟩
abbrev x103r0 : List XOper := [
⟨some 2, none, .mv (.c (.int .i64 0))⟩,
⟨some 3, none, .mv (.c (.int .i64 0))⟩,
⟨some 4, none, .mv (.c (.int .i64 0))⟩]
abbrev x103r1 : List XOper := [
⟨some 5, none, .mv (.t 0)⟩,
⟨some 6, none, .call (.c (.fn (.func 138) [] [])) [(.t 5)]⟩,
⟨some 7, none, .un .not (.t 6)⟩]
abbrev x103r2 : List XOper := [
⟨some 2, none, .mv (.c (.int .i64 0))⟩,
⟨some 3, none, .mv (.c (.int .i64 0))⟩,
⟨some 4, none, .mv (.c (.int .i64 1))⟩]
abbrev x103r3 : List XOper := [
⟨some 8, none, .mv (.t 0)⟩,
⟨some 9, none, .conv .u64 (.t 8)⟩,
⟨some 10, none, .call (.c (.fn (.func 139) [] [])) [(.t 9)]⟩,
⟨some 11, none, .bin .sub (.t 10) (.c (.int .i64 4))⟩,
⟨some 12, none, .mv (.t 0)⟩,
⟨some 13, none, .conv .u64 (.t 12)⟩,
⟨some 14, none, .call (.c (.fn (.func 140) [] [])) [(.t 13)]⟩,
⟨some 15, none, .bin .sub (.t 14) (.c (.int .i64 1))⟩,
⟨some 16, none, .bin .sub (.t 15) (.c (.int .i64 4))⟩,
⟨some 2, none, .mv (.t 11)⟩,
⟨some 3, none, .mv (.t 16)⟩,
⟨some 4, none, .mv (.c (.int .i64 0))⟩]
abbrev x103b : XCode :=
(.seq (.reg 0 x103r0 none)
(.seq (.seq (.reg 1 x103r1 none)
(.cond (.t 7)
(.seq (.reg 2 x103r2 none)
.ret)
.skip))
(.seq (.reg 3 x103r3 none)
.ret)))
def x103 : XFunc := ⟨17, 1, [.tmp 2, .tmp 3, .tmp 4], x103b⟩
theorem x103_ok : chkF Tryz.prog Tryz.f103 x103 = true := by kernel_rfl
theorem x103_eq : x103.body = x103b ∧ x103.res = [.tmp 2, .tmp 3, .tmp 4] ∧ x103.np = 1 := ⟨rfl, rfl, rfl⟩
abbrev x104r0 : List XOper := [
⟨some 0, none, .alloc [.nilf, .nilf, .nilf, .nilf, .nilf, .nilf, .nilf, .nilf]⟩]
abbrev x104r1 : List XOper := [
⟨some 1, none, .build [.nilf, .nilf, .nilf, .nilf, .nilf, .nilf, .nilf, .nilf] [(0, 1, (.c (.fn (.func 141) [] []))), (1, 1, (.c (.fn (.func 142) [] []))), (2, 1, (.c (.fn (.func 143) [] []))), (3, 1, (.c (.fn (.func 144) [] []))), (4, 1, (.c (.fn (.func 145) [] []))), (5, 1, (.c (.fn (.func 146) [] []))), (6, 1, (.c (.fn (.func 147) [] []))), (7, 1, (.c (.fn (.func 148) [] [])))]⟩,
⟨none, none, .store 8 (.t 0) (.t 1)⟩]
abbrev x104b : XCode :=
(.seq (.reg 0 x104r0 none)
(.seq (.reg 1 x104r1 none)
.ret))
def x104 : XFunc := ⟨2, 0, [.cell 0 true 8], x104b⟩
theorem x104_ok : chkF Tryz.prog Tryz.f104 x104 = true := by kernel_rfl
theorem x104_eq : x104.body = x104b ∧ x104.res = [.cell 0 true 8] ∧ x104.np = 0 := ⟨rfl, rfl, rfl⟩
abbrev x105r0 : List XOper := [
⟨some 1, none, .box (.t 0)⟩,
⟨some 2, none, .alloc [(.str ⟨#[]⟩), (.int .i64 0), (.int .i64 0), (.int .i64 0), (.int .i64 0), (.int .i64 0), (.int .i64 0), (.int .i64 0), (.int .i64 0), (.int .i64 0), (.int .i64 0), (.int .i64 0), (.int .i64 0), (.int .i64 0), (.int .i64 0), (.int .i64 0), (.int .i64 0), (.int .i64 0), (.int .i64 0), .nils, (.int .i64 0), (.int .i64 0), (.int .i64 0), (.int .i64 0), (.int .i64 0), (.int .i64 0), (.int .i64 0), (.int .i64 0), (.int .i64 0), (.int .i64 0), (.int .i64 0), (.int .i64 0), (.int .i64 0), (.int .i64 0), (.int .i64 0), (.int .i64 0), (.int .i64 0), (.int .i64 0), (.int .i64 0), (.int .i64 0), (.int .i64 0), (.int .i64 0), (.int .i64 0), .nils]⟩]
abbrev x105r1 : List XOper := [
⟨some 3, none, .call (.c (.fn (.func 30) [] [])) [(.t 1)]⟩]
abbrev x105r2 : List XOper := [
⟨some 4, none, .tas 91 (.agg [.nilp]) (.t 3)⟩,
⟨some 5, none, .ext (.t 4) 1⟩,
⟨some 6, none, .ext (.t 4) 0⟩]
abbrev x105r3 : List XOper := [
⟨some 7, none, .build [(.int .i64 0), (.int .i64 0), (.int .i64 0), .nils] []⟩,
⟨some 8, none, .build [(.int .i64 0), (.int .i64 0), (.int .i64 0), (.int .i64 0), (.int .i64 0)] []⟩,
⟨some 9, none, .fa 16 (.t 1)⟩,
⟨none, none, .store 4 (.t 9) (.t 7)⟩,
⟨some 10, none, .fa 20 (.t 1)⟩,
⟨none, none, .store 5 (.t 10) (.t 8)⟩]
abbrev x105r4 : List XOper := [
⟨some 11, none, .tas 96 (.agg [.nilp]) (.t 3)⟩,
⟨some 12, none, .ext (.t 11) 1⟩,
⟨some 13, none, .ext (.t 11) 0⟩]
abbrev x105r5 : List XOper := [
⟨some 14, none, .build [(.int .i64 0), (.int .i64 0), (.int .i64 0), (.int .i64 0), (.int .i64 0)] []⟩,
⟨some 15, none, .fa 20 (.t 1)⟩,
⟨none, none, .store 5 (.t 15) (.t 14)⟩]
abbrev x105r6 : List XOper := [
⟨some 16, none, .tas 97 (.agg [.nilp]) (.t 3)⟩,
⟨some 17, none, .ext (.t 16) 1⟩,
⟨some 18, none, .ext (.t 16) 0⟩]
abbrev x105r7 : List XOper := [
⟨some 19, none, .build [(.int .i64 0), (.int .i64 0), (.int .i64 0), (.int .i64 0)] []⟩,
⟨some 20, none, .fa 25 (.t 1)⟩,
⟨none, none, .store 4 (.t 20) (.t 19)⟩]
abbrev x105r8 : List XOper := [
⟨some 21, none, .tas 100 (.agg [.nilp]) (.t 3)⟩,
⟨some 22, none, .ext (.t 21) 1⟩,
⟨some 23, none, .ext (.t 21) 0⟩]
abbrev x105r9 : List XOper := [
⟨some 24, none, .build [(.int .i64 0), (.int .i64 0), (.int .i64 0), (.int .i64 0), (.int .i64 0), (.int .i64 0)] []⟩,
⟨some 25, none, .fa 29 (.t 1)⟩,
⟨none, none, .store 6 (.t 25) (.t 24)⟩]
abbrev x105r10 : List XOper := [
⟨some 26, none, .tas 103 (.agg [.nilp]) (.t 3)⟩,
⟨some 27, none, .ext (.t 26) 1⟩,
⟨some 28, none, .ext (.t 26) 0⟩]
abbrev x105r11 : List XOper := [
⟨some 29, none, .build [(.int .i64 0), (.int .i64 0), (.int .i64 0), (.int .i64 0), (.int .i64 0), (.int .i64 0), (.int .i64 0), (.int .i64 0)] []⟩,
⟨some 30, none, .fa 35 (.t 1)⟩,
⟨none, none, .store 8 (.t 30) (.t 29)⟩]
abbrev x105r12 : List XOper := [
⟨some 31, none, .load true 44 (.t 1)⟩,
⟨none, none, .store 44 (.t 2) (.t 31)⟩]
abbrev x105b : XCode :=
(.seq (.reg 0 x105r0 none)
(.seq (.seq (.reg 1 x105r1 none)
(.block 0
(.seq (.reg 2 x105r2 none)
(.cond (.t 5)
(.reg 3 x105r3 none)
(.seq (.reg 4 x105r4 none)
(.cond (.t 12)
(.reg 5 x105r5 none)
(.seq (.reg 6 x105r6 none)
(.cond (.t 17)
(.reg 7 x105r7 none)
(.seq (.reg 8 x105r8 none)
(.cond (.t 22)
(.reg 9 x105r9 none)
(.seq (.reg 10 x105r10 none)
(.cond (.t 27)
(.reg 11 x105r11 none)
.skip))))))))))))
(.seq (.reg 12 x105r12 none)
.ret)))
def x105 : XFunc := ⟨32, 1, [.cell 2 true 44], x105b⟩
theorem x105_ok : chkF Tryz.prog Tryz.f105 x105 = true := by kernel_rfl
theorem x105_eq : x105.body = x105b ∧ x105.res = [.cell 2 true 44] ∧ x105.np = 1 := ⟨rfl, rfl, rfl⟩
abbrev x111r0 : List XOper := [
⟨some 1, none, .box (.t 0)⟩,
⟨some 2, none, .mv (.c (.bool false))⟩]
abbrev x111r1 : List XOper := [
⟨some 3, none, .fa 0 (.t 1)⟩,
⟨some 4, none, .load false 1 (.t 3)⟩]
abbrev x111r2 : List XOper := [
⟨some 6, none, .bin .eql (.t 4) (.c (.int .i64 1))⟩,
⟨some 5, none, .mv (.t 6)⟩]
abbrev x111r3 : List XOper := [
⟨some 7, none, .fa 1 (.t 1)⟩,
⟨some 8, none, .load false 1 (.t 7)⟩,
⟨some 9, none, .call (.c (.fn (.func 149) [] [])) [(.t 8)]⟩,
⟨some 10, none, .mv (.t 9)⟩,
⟨some 11, some (10, true), .fa 2 (.t 1)⟩,
⟨some 12, some (10, true), .load false 1 (.t 11)⟩,
⟨some 13, some (10, true), .bin .eql (.t 12) (.c (.int .i64 0))⟩,
⟨some 14, none, .pick (.t 10) (.t 13) (.c (.bool false))⟩,
⟨some 2, none, .mv (.t 14)⟩]
abbrev x111r4 : List XOper := [
⟨some 16, none, .bin .eql (.t 4) (.c (.int .i64 2))⟩,
⟨some 15, none, .mv (.t 16)⟩]
abbrev x111r5 : List XOper := [
⟨some 17, none, .fa 1 (.t 1)⟩,
⟨some 18, none, .load false 1 (.t 17)⟩,
⟨some 19, none, .bin .eql (.t 18) (.c (.str ⟨#[]⟩))⟩,
⟨some 20, none, .mv (.t 19)⟩,
⟨some 21, some (20, true), .fa 2 (.t 1)⟩,
⟨some 22, some (20, true), .load false 1 (.t 21)⟩,
⟨some 23, some (20, true), .call (.c (.fn (.func 150) [] [])) [(.t 22)]⟩,
⟨some 24, none, .pick (.t 20) (.t 23) (.c (.bool false))⟩,
⟨some 2, none, .mv (.t 24)⟩]
abbrev x111r6 : List XOper := [
⟨some 26, none, .bin .eql (.t 4) (.c (.int .i64 3))⟩,
⟨some 25, none, .mv (.t 26)⟩]
abbrev x111r7 : List XOper := [
⟨some 27, none, .bin .eql (.t 4) (.c (.int .i64 4))⟩,
⟨some 25, none, .mv (.t 27)⟩]
abbrev x111r8 : List XOper := [
⟨some 28, none, .bin .eql (.t 4) (.c (.int .i64 5))⟩,
⟨some 25, none, .mv (.t 28)⟩]
abbrev x111r9 : List XOper := [
⟨some 29, none, .fa 1 (.t 1)⟩,
⟨some 30, none, .load false 1 (.t 29)⟩,
⟨some 31, none, .bin .eql (.t 30) (.c (.str ⟨#[]⟩))⟩,
⟨some 32, none, .mv (.t 31)⟩,
⟨some 33, some (32, true), .fa 2 (.t 1)⟩,
⟨some 34, some (32, true), .load false 1 (.t 33)⟩,
⟨some 35, some (32, true), .bin .eql (.t 34) (.c (.int .i64 0))⟩,
⟨some 36, none, .pick (.t 32) (.t 35) (.c (.bool false))⟩,
⟨some 2, none, .mv (.t 36)⟩]
abbrev x111r10 : List XOper := [
⟨some 2, none, .mv (.c (.bool false))⟩]
abbrev x111b : XCode :=
(.seq (.reg 0 x111r0 none)
(.seq (.seq (.reg 1 x111r1 none)
(.block 0
(.seq (.reg 2 x111r2 none)
(.cond (.t 5)
(.seq (.reg 3 x111r3 none)
.ret)
(.seq (.reg 4 x111r4 none)
(.cond (.t 15)
(.seq (.reg 5 x111r5 none)
.ret)
(.seq (.seq (.reg 6 x111r6 none)
(.cond (.t 25)
.skip
(.seq (.reg 7 x111r7 none)
(.cond (.t 25)
.skip
(.reg 8 x111r8 none)))))
(.cond (.t 25)
(.seq (.reg 9 x111r9 none)
.ret)
.skip))))))))
(.seq (.reg 10 x111r10 none)
.ret)))
def x111 : XFunc := ⟨37, 1, [.tmp 2], x111b⟩
theorem x111_ok : chkF Tryz.prog Tryz.f111 x111 = true := by kernel_rfl
theorem x111_eq : x111.body = x111b ∧ x111.res = [.tmp 2] ∧ x111.np = 1 := ⟨rfl, rfl, rfl⟩
abbrev x112r0 : List XOper := [
⟨some 2, none, .mv (.c .nils)⟩]
abbrev x112r1 : List XOper := [
⟨some 3, none, .mv (.t 0)⟩,
⟨some 4, none, .nilChk (.t 3)⟩,
⟨some 5, none, .fa 2 (.t 4)⟩,
⟨some 6, none, .mv (.t 0)⟩,
⟨some 7, none, .nilChk (.t 6)⟩,
⟨some 8, none, .fa 3 (.t 7)⟩,
⟨some 9, none, .mv (.t 0)⟩,
⟨some 10, none, .nilChk (.t 9)⟩,
⟨some 11, none, .fa 4 (.t 10)⟩,
⟨some 12, none, .mv (.t 0)⟩,
⟨some 13, none, .nilChk (.t 12)⟩,
⟨some 14, none, .fa 5 (.t 13)⟩,
⟨some 15, none, .mv (.t 0)⟩,
⟨some 16, none, .nilChk (.t 15)⟩,
⟨some 17, none, .fa 6 (.t 16)⟩,
⟨some 18, none, .mv (.t 0)⟩,
⟨some 19, none, .nilChk (.t 18)⟩,
⟨some 20, none, .fa 7 (.t 19)⟩,
⟨some 21, none, .mv (.t 0)⟩,
⟨some 22, none, .nilChk (.t 21)⟩,
⟨some 23, none, .fa 8 (.t 22)⟩,
⟨some 24, none, .mv (.t 0)⟩,
⟨some 25, none, .nilChk (.t 24)⟩,
⟨some 26, none, .fa 9 (.t 25)⟩,
⟨some 27, none, .mv (.t 0)⟩,
⟨some 28, none, .nilChk (.t 27)⟩,
⟨some 29, none, .fa 10 (.t 28)⟩,
⟨some 30, none, .mv (.t 0)⟩,
⟨some 31, none, .nilChk (.t 30)⟩,
⟨some 32, none, .fa 11 (.t 31)⟩,
⟨some 33, none, .mv (.t 0)⟩,
⟨some 34, none, .nilChk (.t 33)⟩,
⟨some 35, none, .fa 12 (.t 34)⟩,
⟨some 36, none, .mv (.t 0)⟩,
⟨some 37, none, .nilChk (.t 36)⟩,
⟨some 38, none, .fa 13 (.t 37)⟩,
⟨some 39, none, .mkslice 1 .nilp 12 [(0, (.t 5)), (1, (.t 8)), (2, (.t 11)), (3, (.t 14)), (4, (.t 17)), (5, (.t 20)), (6, (.t 23)), (7, (.t 26)), (8, (.t 29)), (9, (.t 32)), (10, (.t 35)), (11, (.t 38))]⟩,
⟨some 2, none, .mv (.t 39)⟩]
abbrev x112b : XCode :=
(.seq (.reg 0 x112r0 none)
(.seq (.reg 1 x112r1 (some ⟨[]⟩))
.ret))
def x112 : XFunc := ⟨40, 1, [.tmp 2], x112b⟩
theorem x112_ok : chkF Tryz.prog Tryz.f112 x112 = true := by kernel_rfl
theorem x112_eq : x112.body = x112b ∧ x112.res = [.tmp 2] ∧ x112.np = 1 := ⟨rfl, rfl, rfl⟩
abbrev x113r0 : List XOper := [
⟨some 0, none, .mv (.c .nils)⟩]
abbrev x113r1 : List XOper := [
⟨some 1, none, .mv (.c (.int .i64 195))⟩]
abbrev x113r2 : List XOper := [
⟨some 2, none, .build [(.str ⟨#[]⟩), (.int .i64 0), (.int .i64 0), (.int .i64 0)] [(0, 1, (.c (.str ⟨#[115, 105, 122, 101]⟩))), (1, 1, (.c (.int .i64 1))), (2, 1, (.c (.int .i64 1000))), (3, 1, (.c (.int .i64 45)))]⟩,
⟨some 3, none, .mv (.t 1)⟩,
⟨some 4, none, .build [(.str ⟨#[]⟩), (.int .i64 0), (.int .i64 0), (.int .i64 0)] [(0, 1, (.c (.str ⟨#[108, 111, 119]⟩))), (1, 1, (.c (.int .i64 (-1000000)))), (2, 1, (.c (.int .i64 1000000))), (3, 1, (.t 3))]⟩,
⟨some 5, none, .mv (.t 1)⟩,
⟨some 6, none, .build [(.str ⟨#[]⟩), (.int .i64 0), (.int .i64 0), (.int .i64 0)] [(0, 1, (.c (.str ⟨#[104, 105, 103, 104]⟩))), (1, 1, (.c (.int .i64 (-1000000)))), (2, 1, (.c (.int .i64 1000000))), (3, 1, (.t 5))]⟩,
⟨some 7, none, .build [(.str ⟨#[]⟩), (.int .i64 0), (.int .i64 0), (.int .i64 0)] [(0, 1, (.c (.str ⟨#[98, 97, 115, 101]⟩))), (1, 1, (.c (.int .i64 2))), (2, 1, (.c (.int .i64 25))), (3, 1, (.c (.int .i64 63)))]⟩,
⟨some 8, none, .build [(.str ⟨#[]⟩), (.int .i64 0), (.int .i64 0), (.int .i64 0)] [(0, 1, (.c (.str ⟨#[99, 97, 112]⟩))), (1, 1, (.c (.int .i64 1))), (2, 1, (.c (.int .i64 1000000000))), (3, 1, (.c (.int .i64 255)))]⟩,
⟨some 9, none, .build [(.str ⟨#[]⟩), (.int .i64 0), (.int .i64 0), (.int .i64 0)] [(0, 1, (.c (.str ⟨#[116, 97, 114, 103, 101, 116]⟩))), (1, 1, (.c (.int .i64 (-1000000)))), (2, 1, (.c (.int .i64 1000000))), (3, 1, (.c (.int .i64 192)))]⟩,
⟨some 10, none, .build [(.str ⟨#[]⟩), (.int .i64 0), (.int .i64 0), (.int .i64 0)] [(0, 1, (.c (.str ⟨#[115, 116, 101, 112]⟩))), (1, 1, (.c (.int .i64 0))), (2, 1, (.c (.int .i64 1000000))), (3, 1, (.c (.int .i64 64)))]⟩,
⟨some 11, none, .build [(.str ⟨#[]⟩), (.int .i64 0), (.int .i64 0), (.int .i64 0)] [(0, 1, (.c (.str ⟨#[98, 111, 117, 110, 100]⟩))), (1, 1, (.c (.int .i64 1))), (2, 1, (.c (.int .i64 1000000000))), (3, 1, (.c (.int .i64 64)))]⟩,
⟨some 12, none, .build [(.str ⟨#[]⟩), (.int .i64 0), (.int .i64 0), (.int .i64 0)] [(0, 1, (.c (.str ⟨#[119, 101, 105, 103, 104, 116]⟩))), (1, 1, (.c (.int .i64 1))), (2, 1, (.c (.int .i64 99))), (3, 1, (.c (.int .i64 128)))]⟩,
⟨some 13, none, .build [(.str ⟨#[]⟩), (.int .i64 0), (.int .i64 0), (.int .i64 0)] [(0, 1, (.c (.str ⟨#[115, 105, 103, 109, 97]⟩))), (1, 1, (.c (.int .i64 1))), (2, 1, (.c (.int .i64 1000000))), (3, 1, (.c (.int .i64 128)))]⟩,
⟨some 14, none, .build [(.str ⟨#[]⟩), (.int .i64 0), (.int .i64 0), (.int .i64 0)] [(0, 1, (.c (.str ⟨#[108, 111, 119, 101, 114]⟩))), (1, 1, (.c (.int .i64 (-1000000)))), (2, 1, (.c (.int .i64 1000000))), (3, 1, (.c (.int .i64 0)))]⟩,
⟨some 15, none, .build [(.str ⟨#[]⟩), (.int .i64 0), (.int .i64 0), (.int .i64 0)] [(0, 1, (.c (.str ⟨#[117, 112, 112, 101, 114]⟩))), (1, 1, (.c (.int .i64 (-1000000)))), (2, 1, (.c (.int .i64 1000000))), (3, 1, (.c (.int .i64 0)))]⟩,
⟨some 16, none, .mkslice 4 (.agg [(.str ⟨#[]⟩), (.int .i64 0), (.int .i64 0), (.int .i64 0)]) 12 [(0, (.t 2)), (1, (.t 4)), (2, (.t 6)), (3, (.t 7)), (4, (.t 8)), (5, (.t 9)), (6, (.t 10)), (7, (.t 11)), (8, (.t 12)), (9, (.t 13)), (10, (.t 14)), (11, (.t 15))]⟩,
⟨some 0, none, .mv (.t 16)⟩]
abbrev x113b : XCode :=
(.seq (.reg 0 x113r0 none)
(.seq (.reg 1 x113r1 none)
(.seq (.reg 2 x113r2 none)
.ret)))
def x113 : XFunc := ⟨17, 0, [.tmp 0], x113b⟩
theorem x113_ok : chkF Tryz.prog Tryz.f113 x113 = true := by kernel_rfl
theorem x113_eq : x113.body = x113b ∧ x113.res = [.tmp 0] ∧ x113.np = 0 := ⟨rfl, rfl, rfl⟩
abbrev x114r0 : List XOper := [
⟨some 2, none, .box (.t 0)⟩,
⟨some 4, none, .mv (.c (.bool false))⟩]
abbrev x114r1 : List XOper := [
⟨some 5, none, .fa 3 (.t 2)⟩,
⟨some 6, none, .load false 1 (.t 5)⟩,
⟨some 7, none, .mv (.t 1)⟩,
⟨some 8, none, .bin .shr (.t 6) (.t 7)⟩,
⟨some 9, none, .bin .and (.t 8) (.c (.int .i64 1))⟩,
⟨some 10, none, .bin .eql (.t 9) (.c (.int .i64 1))⟩,
⟨some 4, none, .mv (.t 10)⟩]
abbrev x114b : XCode :=
(.seq (.reg 0 x114r0 none)
(.seq (.reg 1 x114r1 none)
.ret))
def x114 : XFunc := ⟨11, 2, [.tmp 4], x114b⟩
theorem x114_ok : chkF Tryz.prog Tryz.f114 x114 = true := by kernel_rfl
theorem x114_eq : x114.body = x114b ∧ x114.res = [.tmp 4] ∧ x114.np = 2 := ⟨rfl, rfl, rfl⟩
abbrev x115r0 : List XOper := [
⟨some 2, none, .mv (.c (.bool false))⟩]
abbrev x115r1 : List XOper := [
⟨some 3, none, .mv (.t 0)⟩,
⟨some 4, none, .bin .eql (.t 3) (.c (.int .i64 0))⟩,
⟨some 5, none, .mv (.t 4)⟩,
⟨some 6, some (5, false), .mv (.t 0)⟩,
⟨some 7, some (5, false), .bin .eql (.t 6) (.c (.int .i64 1))⟩,
⟨some 8, none, .pick (.t 5) (.c (.bool true)) (.t 7)⟩,
⟨some 2, none, .mv (.t 8)⟩]
abbrev x115b : XCode :=
(.seq (.reg 0 x115r0 none)
(.seq (.reg 1 x115r1 none)
.ret))
def x115 : XFunc := ⟨9, 1, [.tmp 2], x115b⟩
theorem x115_ok : chkF Tryz.prog Tryz.f115 x115 = true := by kernel_rfl
theorem x115_eq : x115.body = x115b ∧ x115.res = [.tmp 2] ∧ x115.np = 1 := ⟨rfl, rfl, rfl⟩
abbrev x116r0 : List XOper := [
⟨some 3, none, .box (.t 0)⟩,
⟨some 6, none, .mv (.c (.bool false))⟩]
abbrev x116r1 : List XOper := [
⟨some 7, none, .fa 0 (.t 3)⟩,
⟨some 8, none, .load false 1 (.t 7)⟩,
⟨some 9, none, .bin .eql (.t 8) (.c (.str ⟨#[115, 105, 122, 101]⟩))⟩,
⟨some 10, none, .mv (.t 9)⟩,
⟨some 11, some (10, true), .mv (.t 1)⟩,
⟨some 12, some (10, true), .bin .eql (.t 11) (.c (.int .i64 0))⟩,
⟨some 13, none, .pick (.t 10) (.t 12) (.c (.bool false))⟩]
abbrev x116r2 : List XOper := [
⟨some 14, none, .mv (.t 2)⟩,
⟨some 15, none, .bin .geq (.t 14) (.c (.int .i64 2))⟩,
⟨some 16, none, .mv (.t 15)⟩,
⟨some 17, some (16, true), .mv (.t 2)⟩,
⟨some 18, some (16, true), .bin .leq (.t 17) (.c (.int .i64 10))⟩,
⟨some 19, none, .pick (.t 16) (.t 18) (.c (.bool false))⟩,
⟨some 6, none, .mv (.t 19)⟩]
abbrev x116r3 : List XOper := [
⟨some 20, none, .mv (.t 2)⟩,
⟨some 21, none, .fa 1 (.t 3)⟩,
⟨some 22, none, .load false 1 (.t 21)⟩,
⟨some 23, none, .bin .geq (.t 20) (.t 22)⟩,
⟨some 24, none, .mv (.t 23)⟩,
⟨some 25, some (24, true), .mv (.t 2)⟩,
⟨some 26, some (24, true), .fa 2 (.t 3)⟩,
⟨some 27, some (24, true), .load false 1 (.t 26)⟩,
⟨some 28, some (24, true), .bin .leq (.t 25) (.t 27)⟩,
⟨some 29, none, .pick (.t 24) (.t 28) (.c (.bool false))⟩,
⟨some 6, none, .mv (.t 29)⟩]
abbrev x116b : XCode :=
(.seq (.reg 0 x116r0 none)
(.seq (.seq (.reg 1 x116r1 none)
(.cond (.t 13)
(.seq (.reg 2 x116r2 none)
.ret)
.skip))
(.seq (.reg 3 x116r3 none)
.ret)))
def x116 : XFunc := ⟨30, 3, [.tmp 6], x116b⟩
theorem x116_ok : chkF Tryz.prog Tryz.f116 x116 = true := by kernel_rfl
theorem x116_eq : x116.body = x116b ∧ x116.res = [.tmp 6] ∧ x116.np = 3 := ⟨rfl, rfl, rfl⟩
abbrev x117r0 : List XOper := [
⟨some 4, none, .mv (.c (.bool false))⟩]
abbrev x117r1 : List XOper := [
⟨some 5, none, .mv (.t 0)⟩,
⟨some 6, none, .mv (.t 1)⟩,
⟨some 7, none, .call (.c (.fn (.func 151) [] [])) [(.t 5), (.t 6)]⟩,
⟨some 8, none, .bin .geq (.t 7) (.c (.int .i64 0))⟩,
⟨some 4, none, .mv (.t 8)⟩]
abbrev x117b : XCode :=
(.seq (.reg 0 x117r0 none)
(.seq (.reg 1 x117r1 none)
.ret))
def x117 : XFunc := ⟨9, 2, [.tmp 4], x117b⟩
theorem x117_ok : chkF Tryz.prog Tryz.f117 x117 = true := by kernel_rfl
theorem x117_eq : x117.body = x117b ∧ x117.res = [.tmp 4] ∧ x117.np = 2 := ⟨rfl, rfl, rfl⟩
abbrev x120r0 : List XOper := [
⟨some 6, none, .mv (.c (.bool false))⟩]
abbrev x120r1 : List XOper := [
⟨some 7, none, .mv (.t 0)⟩,
⟨some 8, none, .mv (.t 1)⟩,
⟨some 9, none, .bin .geq (.t 7) (.t 8)⟩,
⟨some 10, none, .mv (.t 9)⟩,
⟨some 11, some (10, true), .mv (.t 0)⟩,
⟨some 12, some (10, true), .mv (.t 2)⟩,
⟨some 13, some (10, true), .bin .leq (.t 11) (.t 12)⟩,
⟨some 14, none, .pick (.t 10) (.t 13) (.c (.bool false))⟩,
⟨some 6, none, .mv (.t 14)⟩]
abbrev x120b : XCode :=
(.seq (.reg 0 x120r0 none)
(.seq (.reg 1 x120r1 none)
.ret))
def x120 : XFunc := ⟨15, 3, [.tmp 6], x120b⟩
theorem x120_ok : chkF Tryz.prog Tryz.f120 x120 = true := by kernel_rfl
abbrev x121r0 : List XOper := [
⟨some 1, none, .box (.t 0)⟩,
⟨some 2, none, .mv (.c (.bool false))⟩]
abbrev x121r1 : List XOper := [
⟨some 3, none, .fa 0 (.t 1)⟩,
⟨some 4, none, .load false 1 (.t 3)⟩,
⟨some 5, none, .fa 1 (.t 1)⟩,
⟨some 6, none, .load false 1 (.t 5)⟩,
⟨some 7, none, .bin .leq (.t 4) (.t 6)⟩,
⟨some 2, none, .mv (.t 7)⟩]
abbrev x121b : XCode :=
(.seq (.reg 0 x121r0 none)
(.seq (.reg 1 x121r1 none)
.ret))
def x121 : XFunc := ⟨8, 1, [.tmp 2], x121b⟩
theorem x121_ok : chkF Tryz.prog Tryz.f121 x121 = true := by kernel_rfl
theorem x121_eq : x121.body = x121b ∧ x121.res = [.tmp 2] ∧ x121.np = 1 := ⟨rfl, rfl, rfl⟩
abbrev x135r0 : List XOper := [
⟨some 3, none, .box (.t 0)⟩,
⟨some 5, none, .alloc [(.int .i64 0), (.int .i64 0), (.int .i64 0), (.int .u64 0), (.int .u64 0)]⟩]
abbrev x135r1 : List XOper := [
⟨some 8, none, .fa 2 (.t 3)⟩,
⟨some 9, none, .load false 1 (.t 8)⟩,
⟨some 10, none, .fa 1 (.t 3)⟩,
⟨some 11, none, .load false 1 (.t 10)⟩,
⟨some 12, none, .bin .mul (.t 9) (.t 11)⟩,
⟨some 6, none, .mv (.t 12)⟩]
abbrev x135r2 : List XOper := [
⟨some 13, none, .fa 3 (.t 3)⟩,
⟨some 14, none, .load false 1 (.t 13)⟩,
⟨some 15, none, .mv (.t 6)⟩,
⟨some 16, none, .fa 3 (.t 3)⟩,
⟨some 17, none, .load false 1 (.t 16)⟩,
⟨some 18, none, .bin .sub (.t 15) (.t 17)⟩,
⟨some 19, none, .bin .mul (.t 14) (.t 18)⟩,
⟨some 20, none, .conv .u64 (.t 19)⟩,
⟨some 21, none, .fa 1 (.t 3)⟩,
⟨some 22, none, .load false 1 (.t 21)⟩,
⟨some 23, none, .conv .u64 (.t 22)⟩,
⟨some 24, none, .call (.c (.fn (.func 55) [] [])) [(.t 20), (.t 23)]⟩,
⟨some 7, none, .alloc [(.int .u64 0), (.int .u64 0)]⟩,
⟨none, none, .store 2 (.t 7) (.t 24)⟩]
abbrev x135r3 : List XOper := [
⟨some 25, none, .mv (.t 6)⟩,
⟨some 26, none, .load false 1 (.t 2)⟩,
⟨some 27, none, .load true 4 (.t 3)⟩,
⟨some 28, none, .call (.t 26) [(.t 27)]⟩,
⟨some 29, none, .bin .mul (.t 25) (.t 28)⟩,
⟨some 30, none, .fa 3 (.t 3)⟩,
⟨some 31, none, .load false 1 (.t 30)⟩,
⟨some 32, none, .fa 1 (.t 3)⟩,
⟨some 33, none, .load false 1 (.t 32)⟩,
⟨some 34, none, .bin .mul (.t 31) (.t 33)⟩,
⟨some 35, none, .mv (.t 1)⟩,
⟨some 36, none, .mv (.t 6)⟩,
⟨some 37, none, .bin .mul (.t 35) (.t 36)⟩,
⟨some 38, none, .fa 3 (.t 3)⟩,
⟨some 39, none, .load false 1 (.t 38)⟩,
⟨some 40, none, .fa 1 (.t 3)⟩,
⟨some 41, none, .load false 1 (.t 40)⟩,
⟨some 42, none, .bin .mul (.t 39) (.t 41)⟩,
⟨some 43, none, .bin .sub (.t 37) (.t 42)⟩,
⟨some 44, none, .load true 2 (.t 7)⟩,
⟨some 45, none, .build [(.int .i64 0), (.int .i64 0), (.int .i64 0), (.int .u64 0), (.int .u64 0)] [(1, 1, (.t 29)), (0, 1, (.t 34)), (2, 1, (.t 43)), (3, 2, (.t 44))]⟩,
⟨none, none, .store 5 (.t 5) (.t 45)⟩]
abbrev x135b : XCode :=
(.seq (.reg 0 x135r0 none)
(.seq (.reg 1 x135r1 none)
(.seq (.reg 2 x135r2 none)
(.seq (.reg 3 x135r3 (some ⟨[(3, 6), (3, 8), (3, 14), (3, 16), (3, 19)]⟩))
.ret))))
def x135 : XFunc := ⟨46, 3, [.cell 5 true 5], x135b⟩
theorem x135_ok : chkF Tryz.prog Tryz.f135 x135 = true := by kernel_rfl
theorem x135_eq : x135.body = x135b ∧ x135.res = [.cell 5 true 5] ∧ x135.np = 3 := ⟨rfl, rfl, rfl⟩
abbrev x137r0 : List XOper := [
⟨some 2, none, .mv (.c (.bool false))⟩]
abbrev x137r1 : List XOper := [
⟨some 7, none, .mv (.t 0)⟩,
⟨some 8, none, .call (.c (.fn (.func 103) [] [])) [(.t 7)]⟩,
⟨some 6, none, .mv (.t 8)⟩,
⟨some 9, none, .ext (.t 6) 0⟩,
⟨some 10, none, .ext (.t 6) 1⟩,
⟨some 11, none, .ext (.t 6) 2⟩,
⟨some 3, none, .mv (.t 9)⟩,
⟨some 4, none, .mv (.t 10)⟩,
⟨some 5, none, .mv (.t 11)⟩]
abbrev x137r2 : List XOper := [
⟨some 12, none, .mv (.t 5)⟩,
⟨some 13, none, .bin .neq (.t 12) (.c (.int .i64 0))⟩,
⟨some 2, none, .mv (.t 13)⟩]
abbrev x137b : XCode :=
(.seq (.reg 0 x137r0 none)
(.seq (.reg 1 x137r1 none)
(.seq (.reg 2 x137r2 none)
.ret)))
def x137 : XFunc := ⟨14, 1, [.tmp 2], x137b⟩
theorem x137_ok : chkF Tryz.prog Tryz.f137 x137 = true := by kernel_rfl
theorem x137_eq : x137.body = x137b ∧ x137.res = [.tmp 2] ∧ x137.np = 1 := ⟨rfl, rfl, rfl⟩
abbrev x138r0 : List XOper := [
⟨some 2, none, .mv (.c (.bool false))⟩]
abbrev x138r1 : List XOper := [
⟨some 3, none, .mv (.t 0)⟩,
⟨some 4, none, .bin .gtr (.t 3) (.c (.int .i64 0))⟩,
⟨some 5, none, .mv (.t 4)⟩,
⟨some 6, some (5, true), .mv (.t 0)⟩,
⟨some 7, some (5, true), .bin .lss (.t 6) (.c (.int .i64 512))⟩,
⟨some 8, none, .pick (.t 5) (.t 7) (.c (.bool false))⟩,
⟨some 2, none, .mv (.t 8)⟩]
abbrev x138b : XCode :=
(.seq (.reg 0 x138r0 none)
(.seq (.reg 1 x138r1 none)
.ret))
def x138 : XFunc := ⟨9, 1, [.tmp 2], x138b⟩
theorem x138_ok : chkF Tryz.prog Tryz.f138 x138 = true := by kernel_rfl
theorem x138_eq : x138.body = x138b ∧ x138.res = [.tmp 2] ∧ x138.np = 1 := ⟨rfl, rfl, rfl⟩
abbrev x139r0 : List XOper := [
⟨some 2, none, .mv (.c (.int .i64 0))⟩]
abbrev x139r1 : List XOper := [
⟨some 3, none, .mv (.t 0)⟩,
⟨some 4, none, .conv .u32 (.t 3)⟩,
⟨some 5, none, .call (.c (.fn (.func 169) [] [])) [(.t 4)]⟩,
⟨some 2, none, .mv (.t 5)⟩]
abbrev x139r2 : List XOper := [
⟨some 6, none, .mv (.t 0)⟩,
⟨some 7, none, .call (.c (.fn (.func 170) [] [])) [(.t 6)]⟩,
⟨some 2, none, .mv (.t 7)⟩]
abbrev x139b : XCode :=
(.seq (.reg 0 x139r0 none)
(.seq (.cond (.c (.bool false))
(.seq (.reg 1 x139r1 none)
.ret)
.skip)
(.seq (.reg 2 x139r2 none)
.ret)))
def x139 : XFunc := ⟨8, 1, [.tmp 2], x139b⟩
theorem x139_ok : chkF Tryz.prog Tryz.f139 x139 = true := by kernel_rfl
theorem x139_eq : x139.body = x139b ∧ x139.res = [.tmp 2] ∧ x139.np = 1 := ⟨rfl, rfl, rfl⟩
abbrev x140r0 : List XOper := [
⟨some 2, none, .mv (.c (.int .i64 0))⟩]
abbrev x140r1 : List XOper := [
⟨some 3, none, .mv (.t 0)⟩,
⟨some 4, none, .conv .u32 (.t 3)⟩,
⟨some 5, none, .call (.c (.fn (.func 171) [] [])) [(.t 4)]⟩,
⟨some 2, none, .mv (.t 5)⟩]
abbrev x140r2 : List XOper := [
⟨some 6, none, .mv (.t 0)⟩,
⟨some 7, none, .call (.c (.fn (.func 172) [] [])) [(.t 6)]⟩,
⟨some 2, none, .mv (.t 7)⟩]
abbrev x140b : XCode :=
(.seq (.reg 0 x140r0 none)
(.seq (.cond (.c (.bool false))
(.seq (.reg 1 x140r1 none)
.ret)
.skip)
(.seq (.reg 2 x140r2 none)
.ret)))
def x140 : XFunc := ⟨8, 1, [.tmp 2], x140b⟩
theorem x140_ok : chkF Tryz.prog Tryz.f140 x140 = true := by kernel_rfl
theorem x140_eq : x140.body = x140b ∧ x140.res = [.tmp 2] ∧ x140.np = 1 := ⟨rfl, rfl, rfl⟩
abbrev x141r0 : List XOper := [
⟨some 2, none, .mv (.c (.int .i64 0))⟩]
abbrev x141r1 : List XOper := [
⟨some 6, none, .call (.c (.fn (.func 173) [] [])) [(.c (.int .i64 4))]⟩,
⟨some 5, none, .mv (.t 6)⟩,
⟨some 7, none, .ext (.t 5) 0⟩,
⟨some 8, none, .ext (.t 5) 1⟩,
⟨some 3, none, .mv (.t 7)⟩,
⟨some 4, none, .mv (.t 8)⟩]
abbrev x141r2 : List XOper := [
⟨some 9, none, .mv (.t 0)⟩,
⟨some 10, none, .call (.c (.fn (.func 174) [] [])) [(.t 9), (.c (.int .i64 1))]⟩,
⟨some 11, none, .mv (.t 3)⟩,
⟨some 12, none, .mv (.t 4)⟩,
⟨some 13, none, .bin .or (.t 11) (.t 12)⟩,
⟨some 14, none, .call (.c (.fn (.func 175) [] [])) [(.t 10), (.t 13)]⟩,
⟨some 2, none, .mv (.t 14)⟩]
abbrev x141b : XCode :=
(.seq (.reg 0 x141r0 none)
(.seq (.reg 1 x141r1 none)
(.seq (.reg 2 x141r2 none)
.ret)))
def x141 : XFunc := ⟨15, 1, [.tmp 2], x141b⟩
theorem x141_ok : chkF Tryz.prog Tryz.f141 x141 = true := by kernel_rfl
theorem x141_eq : x141.body = x141b ∧ x141.res = [.tmp 2] ∧ x141.np = 1 := ⟨rfl, rfl, rfl⟩
abbrev x142r0 : List XOper := [
⟨some 2, none, .mv (.c (.int .i64 0))⟩]
abbrev x142r1 : List XOper := [
⟨some 7, none, .call (.c (.fn (.func 173) [] [])) [(.c (.int .i64 1))]⟩,
⟨some 6, none, .mv (.t 7)⟩,
⟨some 8, none, .ext (.t 6) 0⟩,
⟨some 9, none, .ext (.t 6) 1⟩,
⟨some 3, none, .mv (.t 8)⟩,
⟨some 4, none, .mv (.t 9)⟩]
abbrev x142r2 : List XOper := [
⟨some 10, none, .mv (.t 0)⟩,
⟨some 11, none, .call (.c (.fn (.func 174) [] [])) [(.t 10), (.c (.int .i64 9))]⟩,
⟨some 5, none, .mv (.t 11)⟩]
abbrev x142r3 : List XOper := [
⟨some 12, none, .mv (.t 5)⟩,
⟨some 13, none, .mv (.t 3)⟩,
⟨some 14, none, .call (.c (.fn (.func 175) [] [])) [(.t 12), (.t 13)]⟩,
⟨some 15, none, .mv (.t 5)⟩,
⟨some 16, none, .mv (.t 4)⟩,
⟨some 17, none, .call (.c (.fn (.func 175) [] [])) [(.t 15), (.t 16)]⟩,
⟨some 18, none, .call (.c (.fn (.func 176) [] [])) [(.t 14), (.t 17)]⟩,
⟨some 2, none, .mv (.t 18)⟩]
abbrev x142b : XCode :=
(.seq (.reg 0 x142r0 none)
(.seq (.reg 1 x142r1 none)
(.seq (.reg 2 x142r2 none)
(.seq (.reg 3 x142r3 none)
.ret))))
def x142 : XFunc := ⟨19, 1, [.tmp 2], x142b⟩
theorem x142_ok : chkF Tryz.prog Tryz.f142 x142 = true := by kernel_rfl
theorem x142_eq : x142.body = x142b ∧ x142.res = [.tmp 2] ∧ x142.np = 1 := ⟨rfl, rfl, rfl⟩
abbrev x143r0 : List XOper := [
⟨some 2, none, .mv (.c (.int .i64 0))⟩]
abbrev x143r1 : List XOper := [
⟨some 4, none, .mv (.t 0)⟩,
⟨some 5, none, .call (.c (.fn (.func 174) [] [])) [(.t 4), (.c (.int .i64 6))]⟩,
⟨some 3, none, .mv (.t 5)⟩]
abbrev x143r2 : List XOper := [
⟨some 6, none, .mv (.t 3)⟩,
⟨some 7, none, .call (.c (.fn (.func 177) [] [])) [(.t 6), (.c (.fn (.func 178) [] []))]⟩,
⟨some 8, none, .mv (.t 3)⟩,
⟨some 9, none, .call (.c (.fn (.func 177) [] [])) [(.t 8), (.c (.fn (.func 179) [] []))]⟩,
⟨some 10, none, .call (.c (.fn (.func 176) [] [])) [(.t 7), (.t 9)]⟩,
⟨some 2, none, .mv (.t 10)⟩]
abbrev x143b : XCode :=
(.seq (.reg 0 x143r0 none)
(.seq (.reg 1 x143r1 none)
(.seq (.reg 2 x143r2 none)
.ret)))
def x143 : XFunc := ⟨11, 1, [.tmp 2], x143b⟩
theorem x143_ok : chkF Tryz.prog Tryz.f143 x143 = true := by kernel_rfl
theorem x143_eq : x143.body = x143b ∧ x143.res = [.tmp 2] ∧ x143.np = 1 := ⟨rfl, rfl, rfl⟩
abbrev x144r0 : List XOper := [
⟨some 2, none, .mv (.c (.int .i64 0))⟩]
abbrev x144r1 : List XOper := [
⟨some 4, none, .mv (.t 0)⟩,
⟨some 5, none, .call (.c (.fn (.func 174) [] [])) [(.t 4), (.c (.int .i64 14))]⟩,
⟨some 3, none, .mv (.t 5)⟩]
abbrev x144r2 : List XOper := [
⟨some 6, none, .mv (.t 3)⟩,
⟨some 7, none, .call (.c (.fn (.func 177) [] [])) [(.t 6), (.c (.fn (.func 180) [] []))]⟩,
⟨some 8, none, .mv (.t 3)⟩,
⟨some 9, none, .call (.c (.fn (.func 177) [] [])) [(.t 8), (.c (.fn (.func 181) [] []))]⟩,
⟨some 10, none, .call (.c (.fn (.func 176) [] [])) [(.t 7), (.t 9)]⟩,
⟨some 2, none, .mv (.t 10)⟩]
abbrev x144b : XCode :=
(.seq (.reg 0 x144r0 none)
(.seq (.reg 1 x144r1 none)
(.seq (.reg 2 x144r2 none)
.ret)))
def x144 : XFunc := ⟨11, 1, [.tmp 2], x144b⟩
theorem x144_ok : chkF Tryz.prog Tryz.f144 x144 = true := by kernel_rfl
theorem x144_eq : x144.body = x144b ∧ x144.res = [.tmp 2] ∧ x144.np = 1 := ⟨rfl, rfl, rfl⟩
abbrev x145r0 : List XOper := [
⟨some 2, none, .mv (.c (.int .i64 0))⟩]
abbrev x145r1 : List XOper := [
⟨some 6, none, .call (.c (.fn (.func 173) [] [])) [(.c (.int .i64 3))]⟩,
⟨some 5, none, .mv (.t 6)⟩,
⟨some 7, none, .ext (.t 5) 0⟩,
⟨some 8, none, .ext (.t 5) 1⟩,
⟨some 3, none, .mv (.t 7)⟩,
⟨some 4, none, .mv (.t 8)⟩]
abbrev x145r2 : List XOper := [
⟨some 9, none, .mv (.t 0)⟩,
⟨some 10, none, .call (.c (.fn (.func 174) [] [])) [(.t 9), (.c (.int .i64 3))]⟩,
⟨some 11, none, .mv (.t 3)⟩,
⟨some 12, none, .mv (.t 4)⟩,
⟨some 13, none, .call (.c (.fn (.func 182) [] [])) [(.t 10), (.c (.int .i64 2)), (.t 11), (.t 12)]⟩,
⟨some 2, none, .mv (.t 13)⟩]
abbrev x145b : XCode :=
(.seq (.reg 0 x145r0 none)
(.seq (.reg 1 x145r1 none)
(.seq (.reg 2 x145r2 none)
.ret)))
def x145 : XFunc := ⟨14, 1, [.tmp 2], x145b⟩
theorem x145_ok : chkF Tryz.prog Tryz.f145 x145 = true := by kernel_rfl
theorem x145_eq : x145.body = x145b ∧ x145.res = [.tmp 2] ∧ x145.np = 1 := ⟨rfl, rfl, rfl⟩
abbrev x146r0 : List XOper := [
⟨some 2, none, .mv (.c (.int .i64 0))⟩]
abbrev x146r1 : List XOper := [
⟨some 6, none, .call (.c (.fn (.func 173) [] [])) [(.c (.int .i64 2))]⟩,
⟨some 5, none, .mv (.t 6)⟩,
⟨some 7, none, .ext (.t 5) 0⟩,
⟨some 8, none, .ext (.t 5) 1⟩,
⟨some 3, none, .mv (.t 7)⟩,
⟨some 4, none, .mv (.t 8)⟩]
abbrev x146r2 : List XOper := [
⟨some 9, none, .mv (.t 0)⟩,
⟨some 10, none, .call (.c (.fn (.func 174) [] [])) [(.t 9), (.c (.int .i64 5))]⟩,
⟨some 11, none, .mv (.t 3)⟩,
⟨some 12, none, .mv (.t 4)⟩,
⟨some 13, none, .call (.c (.fn (.func 182) [] [])) [(.t 10), (.c (.int .i64 4)), (.t 11), (.t 12)]⟩,
⟨some 2, none, .mv (.t 13)⟩]
abbrev x146b : XCode :=
(.seq (.reg 0 x146r0 none)
(.seq (.reg 1 x146r1 none)
(.seq (.reg 2 x146r2 none)
.ret)))
def x146 : XFunc := ⟨14, 1, [.tmp 2], x146b⟩
theorem x146_ok : chkF Tryz.prog Tryz.f146 x146 = true := by kernel_rfl
theorem x146_eq : x146.body = x146b ∧ x146.res = [.tmp 2] ∧ x146.np = 1 := ⟨rfl, rfl, rfl⟩
abbrev x147r0 : List XOper := [
⟨some 2, none, .mv (.c (.int .i64 0))⟩]
abbrev x147r1 : List XOper := [
⟨some 6, none, .call (.c (.fn (.func 173) [] [])) [(.c (.int .i64 2))]⟩,
⟨some 5, none, .mv (.t 6)⟩,
⟨some 7, none, .ext (.t 5) 0⟩,
⟨some 8, none, .ext (.t 5) 1⟩,
⟨some 3, none, .mv (.t 7)⟩,
⟨some 4, none, .mv (.t 8)⟩]
abbrev x147r2 : List XOper := [
⟨some 9, none, .mv (.t 0)⟩,
⟨some 10, none, .call (.c (.fn (.func 174) [] [])) [(.t 9), (.c (.int .i64 15))]⟩,
⟨some 11, none, .mv (.t 3)⟩,
⟨some 12, none, .bin .sub (.c (.int .i64 511)) (.t 11)⟩,
⟨some 13, none, .mv (.t 4)⟩,
⟨some 14, none, .bin .sub (.t 12) (.t 13)⟩,
⟨some 15, none, .call (.c (.fn (.func 175) [] [])) [(.t 10), (.t 14)]⟩,
⟨some 2, none, .mv (.t 15)⟩]
abbrev x147b : XCode :=
(.seq (.reg 0 x147r0 none)
(.seq (.reg 1 x147r1 none)
(.seq (.reg 2 x147r2 none)
.ret)))
def x147 : XFunc := ⟨16, 1, [.tmp 2], x147b⟩
theorem x147_ok : chkF Tryz.prog Tryz.f147 x147 = true := by kernel_rfl
theorem x147_eq : x147.body = x147b ∧ x147.res = [.tmp 2] ∧ x147.np = 1 := ⟨rfl, rfl, rfl⟩
abbrev x148r0 : List XOper := [
⟨some 2, none, .mv (.c (.int .i64 0))⟩]
abbrev x148r1 : List XOper := [
⟨some 6, none, .call (.c (.fn (.func 173) [] [])) [(.c (.int .i64 2))]⟩,
⟨some 5, none, .mv (.t 6)⟩,
⟨some 7, none, .ext (.t 5) 0⟩,
⟨some 8, none, .ext (.t 5) 1⟩,
⟨some 3, none, .mv (.t 7)⟩,
⟨some 4, none, .mv (.t 8)⟩]
abbrev x148r2 : List XOper := [
⟨some 9, none, .mv (.t 0)⟩,
⟨some 10, none, .call (.c (.fn (.func 174) [] [])) [(.t 9), (.c (.int .i64 8))]⟩,
⟨some 11, none, .mv (.t 3)⟩,
⟨some 12, none, .mv (.t 4)⟩,
⟨some 13, none, .bin .or (.t 11) (.t 12)⟩,
⟨some 14, none, .call (.c (.fn (.func 175) [] [])) [(.t 10), (.t 13)]⟩,
⟨some 2, none, .mv (.t 14)⟩]
abbrev x148b : XCode :=
(.seq (.reg 0 x148r0 none)
(.seq (.reg 1 x148r1 none)
(.seq (.reg 2 x148r2 none)
.ret)))
def x148 : XFunc := ⟨15, 1, [.tmp 2], x148b⟩
theorem x148_ok : chkF Tryz.prog Tryz.f148 x148 = true := by kernel_rfl
theorem x148_eq : x148.body = x148b ∧ x148.res = [.tmp 2] ∧ x148.np = 1 := ⟨rfl, rfl, rfl⟩
abbrev x149r0 : List XOper := [
⟨some 2, none, .mv (.c (.bool false))⟩]
abbrev x149r1 : List XOper := [
⟨some 5, none, .mv (.t 0)⟩,
⟨some 6, none, .rngS (.t 5)⟩]
abbrev x149r2 : List XOper := [
⟨some 7, none, .nxtS (.t 6)⟩,
⟨some 8, none, .ext (.t 7) 0⟩]
abbrev x149r3 : List XOper := [
⟨some 9, none, .ext (.t 7) 2⟩,
⟨some 4, none, .mv (.t 9)⟩]
abbrev x149r4 : List XOper := [
⟨some 10, none, .mv (.t 4)⟩,
⟨some 11, none, .bin .lss (.t 10) (.c (.int .i32 97))⟩,
⟨some 12, none, .mv (.t 11)⟩,
⟨some 13, some (12, false), .mv (.t 4)⟩,
⟨some 14, some (12, false), .bin .gtr (.t 13) (.c (.int .i32 122))⟩,
⟨some 15, none, .pick (.t 12) (.c (.bool true)) (.t 14)⟩]
abbrev x149r5 : List XOper := [
⟨some 2, none, .mv (.c (.bool false))⟩]
abbrev x149l2 : XCode :=
(.seq (.reg 2 x149r2 none)
(.seq (.cond (.t 8)
.skip
(.exit 0))
(.block 1
(.seq (.reg 3 x149r3 none)
(.seq (.reg 4 x149r4 none)
(.cond (.t 15)
(.seq (.reg 5 x149r5 none)
.ret)
.skip))))))
abbrev x149r6 : List XOper := [
⟨some 16, none, .mv (.t 0)⟩,
⟨some 17, none, .bin .neq (.t 16) (.c (.str ⟨#[]⟩))⟩,
⟨some 18, none, .mv (.t 17)⟩,
⟨some 19, some (18, true), .mv (.t 0)⟩,
⟨some 20, some (18, true), .lenS (.t 19)⟩,
⟨some 21, some (18, true), .bin .leq (.t 20) (.c (.int .i64 12))⟩,
⟨some 22, none, .pick (.t 18) (.t 21) (.c (.bool false))⟩,
⟨some 2, none, .mv (.t 22)⟩]
abbrev x149b : XCode :=
(.seq (.reg 0 x149r0 none)
(.seq (.seq (.reg 1 x149r1 none)
(.block 0
(.loop x149l2)))
(.seq (.reg 6 x149r6 none)
.ret)))
def x149 : XFunc := ⟨23, 1, [.tmp 2], x149b⟩
theorem x149_ok : chkF Tryz.prog Tryz.f149 x149 = true := by kernel_rfl
theorem x149_eq : x149.body = x149b ∧ x149.res = [.tmp 2] ∧ x149.np = 1 := ⟨rfl, rfl, rfl⟩
abbrev x150r0 : List XOper := [
⟨some 2, none, .mv (.c (.bool false))⟩]
abbrev x150r1 : List XOper := [
⟨some 3, none, .mv (.t 0)⟩,
⟨some 4, none, .bin .geq (.t 3) (.c (.int .i64 (-1000000000)))⟩,
⟨some 5, none, .mv (.t 4)⟩,
⟨some 6, some (5, true), .mv (.t 0)⟩,
⟨some 7, some (5, true), .bin .leq (.t 6) (.c (.int .i64 1000000000))⟩,
⟨some 8, none, .pick (.t 5) (.t 7) (.c (.bool false))⟩,
⟨some 2, none, .mv (.t 8)⟩]
abbrev x150b : XCode :=
(.seq (.reg 0 x150r0 none)
(.seq (.reg 1 x150r1 none)
.ret))
def x150 : XFunc := ⟨9, 1, [.tmp 2], x150b⟩
theorem x150_ok : chkF Tryz.prog Tryz.f150 x150 = true := by kernel_rfl
theorem x150_eq : x150.body = x150b ∧ x150.res = [.tmp 2] ∧ x150.np = 1 := ⟨rfl, rfl, rfl⟩
abbrev x151r0 : List XOper := [
⟨some 4, none, .mv (.c (.int .i64 0))⟩]
abbrev x151r1 : List XOper := [
⟨some 6, none, .mv (.t 0)⟩,
⟨some 7, none, .lenV (.t 6)⟩,
⟨some 8, none, .mv (.c (.int .i64 0))⟩]
abbrev x151r2 : List XOper := [
⟨some 9, none, .bin .lss (.t 8) (.t 7)⟩]
abbrev x151r3 : List XOper := [
⟨some 10, none, .mv (.t 8)⟩,
⟨some 5, none, .mv (.t 10)⟩]
abbrev x151r4 : List XOper := [
⟨some 11, none, .mv (.t 1)⟩,
⟨some 12, none, .mv (.t 0)⟩,
⟨some 13, none, .mv (.t 5)⟩,
⟨some 14, none, .iaS 1 (.t 12) (.t 13)⟩,
⟨some 15, none, .load false 1 (.t 14)⟩,
⟨some 16, none, .call (.t 11) [(.t 15)]⟩]
abbrev x151r5 : List XOper := [
⟨some 17, none, .mv (.t 5)⟩,
⟨some 4, none, .mv (.t 17)⟩]
abbrev x151r6 : List XOper := [
⟨some 18, none, .bin .add (.t 8) (.c (.int .i64 1))⟩,
⟨some 8, none, .mv (.t 18)⟩]
abbrev x151l2 : XCode :=
(.seq (.reg 2 x151r2 none)
(.seq (.cond (.t 9)
.skip
(.exit 0))
(.seq (.block 1
(.seq (.reg 3 x151r3 none)
(.seq (.reg 4 x151r4 none)
(.cond (.t 16)
(.seq (.reg 5 x151r5 none)
.ret)
.skip))))
(.reg 6 x151r6 none))))
abbrev x151r7 : List XOper := [
⟨some 4, none, .mv (.c (.int .i64 (-1)))⟩]
abbrev x151b : XCode :=
(.seq (.reg 0 x151r0 none)
(.seq (.seq (.reg 1 x151r1 none)
(.block 0
(.loop x151l2)))
(.seq (.reg 7 x151r7 none)
.ret)))
def x151 : XFunc := ⟨19, 2, [.tmp 4], x151b⟩
theorem x151_ok : chkF Tryz.prog Tryz.f151 x151 = true := by kernel_rfl
theorem x151_eq : x151.body = x151b ∧ x151.res = [.tmp 4] ∧ x151.np = 2 := ⟨rfl, rfl, rfl⟩
abbrev x172r0 : List XOper := [
⟨some 2, none, .mv (.c (.int .i64 0))⟩]
abbrev x172r1 : List XOper := [
⟨some 3, none, .mv (.t 0)⟩,
⟨some 4, none, .bin .geq (.t 3) (.c (.int .u64 4294967296))⟩]
abbrev x172r2 : List XOper := [
⟨some 5, none, .mv (.t 0)⟩,
⟨some 6, none, .bin .shr (.t 5) (.c (.int .u64 32))⟩,
⟨some 0, none, .mv (.t 6)⟩]
abbrev x172r3 : List XOper := [
⟨some 2, none, .mv (.c (.int .i64 32))⟩]
abbrev x172r4 : List XOper := [
⟨some 7, none, .mv (.t 0)⟩,
⟨some 8, none, .bin .geq (.t 7) (.c (.int .u64 65536))⟩]
abbrev x172r5 : List XOper := [
⟨some 9, none, .mv (.t 0)⟩,
⟨some 10, none, .bin .shr (.t 9) (.c (.int .u64 16))⟩,
⟨some 0, none, .mv (.t 10)⟩]
abbrev x172r6 : List XOper := [
⟨some 11, none, .mv (.t 2)⟩,
⟨some 12, none, .bin .add (.t 11) (.c (.int .i64 16))⟩,
⟨some 2, none, .mv (.t 12)⟩]
abbrev x172r7 : List XOper := [
⟨some 13, none, .mv (.t 0)⟩,
⟨some 14, none, .bin .geq (.t 13) (.c (.int .u64 256))⟩]
abbrev x172r8 : List XOper := [
⟨some 15, none, .mv (.t 0)⟩,
⟨some 16, none, .bin .shr (.t 15) (.c (.int .u64 8))⟩,
⟨some 0, none, .mv (.t 16)⟩]
abbrev x172r9 : List XOper := [
⟨some 17, none, .mv (.t 2)⟩,
⟨some 18, none, .bin .add (.t 17) (.c (.int .i64 8))⟩,
⟨some 2, none, .mv (.t 18)⟩]
abbrev x172r10 : List XOper := [
⟨some 19, none, .mv (.t 2)⟩,
⟨some 20, none, .mv (.t 0)⟩,
⟨some 21, none, .conv .u8 (.t 20)⟩,
⟨some 22, none, .ixS (.c (.str ⟨#[0, 1, 2, 2, 3, 3, 3, 3, 4, 4, 4, 4, 4, 4, 4, 4, 5, 5, 5, 5, 5, 5, 5, 5, 5, 5, 5, 5, 5, 5, 5, 5, 6, 6, 6, 6, 6, 6, 6, 6, 6, 6, 6, 6, 6, 6, 6, 6, 6, 6, 6, 6, 6, 6, 6, 6, 6, 6, 6, 6, 6, 6, 6, 6, 7, 7, 7, 7, 7, 7, 7, 7, 7, 7, 7, 7, 7, 7, 7, 7, 7, 7, 7, 7, 7, 7, 7, 7, 7, 7, 7, 7, 7, 7, 7, 7, 7, 7, 7, 7, 7, 7, 7, 7, 7, 7, 7, 7, 7, 7, 7, 7, 7, 7, 7, 7, 7, 7, 7, 7, 7, 7, 7, 7, 7, 7, 7, 7, 8, 8, 8, 8, 8, 8, 8, 8, 8, 8, 8, 8, 8, 8, 8, 8, 8, 8, 8, 8, 8, 8, 8, 8, 8, 8, 8, 8, 8, 8, 8, 8, 8, 8, 8, 8, 8, 8, 8, 8, 8, 8, 8, 8, 8, 8, 8, 8, 8, 8, 8, 8, 8, 8, 8, 8, 8, 8, 8, 8, 8, 8, 8, 8, 8, 8, 8, 8, 8, 8, 8, 8, 8, 8, 8, 8, 8, 8, 8, 8, 8, 8, 8, 8, 8, 8, 8, 8, 8, 8, 8, 8, 8, 8, 8, 8, 8, 8, 8, 8, 8, 8, 8, 8, 8, 8, 8, 8, 8, 8, 8, 8, 8, 8, 8, 8, 8, 8, 8, 8, 8, 8, 8, 8, 8, 8, 8, 8]⟩)) (.t 21)⟩,
⟨some 23, none, .conv .i64 (.t 22)⟩,
⟨some 24, none, .bin .add (.t 19) (.t 23)⟩,
⟨some 2, none, .mv (.t 24)⟩]
abbrev x172b : XCode :=
(.seq (.reg 0 x172r0 none)
(.seq (.seq (.reg 1 x172r1 none)
(.cond (.t 4)
(.seq (.reg 2 x172r2 none)
(.reg 3 x172r3 none))
.skip))
(.seq (.seq (.reg 4 x172r4 none)
(.cond (.t 8)
(.seq (.reg 5 x172r5 none)
(.reg 6 x172r6 none))
.skip))
(.seq (.seq (.reg 7 x172r7 none)
(.cond (.t 14)
(.seq (.reg 8 x172r8 none)
(.reg 9 x172r9 none))
.skip))
(.seq (.reg 10 x172r10 none)
.ret)))))
def x172 : XFunc := ⟨25, 1, [.tmp 2], x172b⟩
theorem x172_ok : chkF Tryz.prog Tryz.f172 x172 = true := by kernel_rfl
theorem x172_eq : x172.body = x172b ∧ x172.res = [.tmp 2] ∧ x172.np = 1 := ⟨rfl, rfl, rfl⟩
end Go.Proofs.YtldineoabbodpaaGreatDoor
