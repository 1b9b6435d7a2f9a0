/-
  The operations that look at no memory: what the interpreter answers is what the machine answers.
-/
import Derived.Test.YtppehejnnjlkfaaGreatDoorXC
import Derived.Test.YtppehejnnjlkfaaGreatDoorXT
import Derived.Laws.Cells
import Derived.Laws.CopyRow
import Derived.ChangeKeysEq
set_option linter.unusedVariables false
set_option linter.unusedSimpArgs false
namespace Go.Xec
open Go

/-! ### reading programs -/
theorem Rd.run_bind {α β : Type} (h : Heap) : ∀ (r : Rd α) (f : α → Rd β), (r.bind f).run h = (r.run h).bind fun a => (f a).run h
  | .ret a, f => rfl
  | .fail, f => rfl
  | .get k g, f => by simp only [Rd.bind, Rd.run]; exact Rd.run_bind h (g (h k)) f
theorem Rd.run_ofO {α : Type} (h : Heap) (a : Option α) : (Rd.ofO a).run h = a := by cases a <;> rfl
theorem Rd.run_ret {α : Type} (h : Heap) (a : α) : (Rd.ret a).run h = some a := rfl
theorem Rd.run_fail {α : Type} (h : Heap) : (Rd.fail : Rd α).run h = none := rfl
theorem Rd.run_get {α : Type} (h : Heap) (k : Key) (f : Option Blk → Rd α) : (Rd.get k f).run h = (f (h k)).run h := rfl

/-- a pure operation's program -/
theorem run_pure1 {h : Heap} {a : Option AVal} {r : Outp} (hr : ((Rd.ofO a).bind fun v => Rd.ret (v, ([] : Wr))).run h = some r) : ∃ v, a = some v ∧ r = (v, []) := by
  rw [Rd.run_bind, Rd.run_ofO] at hr
  cases a with
  | none => cases hr
  | some v => simp only [Option.bind_some, Rd.run_ret, Option.some.injEq] at hr; exact ⟨v, rfl, hr.symm⟩

section
variable {P : Program} {B : Nat} {S0 : Base} {ρc : Operand → Value} {o : Oper} {x : Ctx} {h : Heap} {nc : Nat} {key : Key} {e : XArg → AVal}

def OpOk (P : Program) (B : Nat) (S0 : Base) (ρc : Operand → Value) (o : Oper) (x : Ctx) (h' : Heap) (nc : Nat) (key : Key) (v : AVal) : Prop :=
  ∃ u y, ((execOp ρc o).run P x.w = .ok (.value u) y.w ∨ ((execOp ρc o).run P x.w = .ok .skip y.w ∧ u = undef)) ∧ V y v u ∧ Sim B S0 h' nc y ∧ Step B x y ∧
    (∀ k g p, y.ρ k g = some p → (∃ g' p', x.ρ k g' = some p') ∨ k = key)

/-- What the arguments are. -/
def ArgsOk (x : Ctx) (ρc : Operand → Value) (e : XArg → AVal) : Prop := ∀ a b, chkArg a b = true → V x (e b) (ρc a)

theorem pureOk (hs : Sim B S0 h nc x) {u : Value} {v : AVal} (hr : (execOp ρc o).run P x.w = .ok (.value u) x.w) (hv : V x v u) : OpOk P B S0 ρc o x (applyW h []) nc key v :=
  ⟨u, x, .inl hr, hv, hs, Step.refl _ _, fun _ g p hp => .inl ⟨g, p, hp⟩⟩

theorem chkS_ok {x : Ctx} {v : Value} {a : AVal} (h : chkS v a = true) : V x a v := by
  unfold chkS at h
  split at h <;> simp_all [V]
theorem chkSL_ok {x : Ctx} : ∀ {vs : List Value} {as : List AVal}, chkSL vs as = true → VL x as vs
  | [], [], _ => by simp [VL]
  | [], _ :: _, h => by simp [chkSL] at h
  | _ :: _, [], h => by simp [chkSL] at h
  | v :: vs, a :: as, h => by
    simp only [chkSL, Bool.and_eq_true] at h
    simp only [VL]
    exact ⟨v, vs, rfl, chkS_ok h.1, chkSL_ok h.2⟩
theorem chkV_ok {x : Ctx} {v : Value} {a : AVal} (h : chkV v a = true) : V x a v := by
  unfold chkV at h
  split at h
  · rename_i cs as
    simp only [V]
    exact ⟨cs.toList, by simp, chkSL_ok h⟩
  · exact chkS_ok h

/-! the machine's operations, one by one -/
theorem ok_mv (hs : Sim B S0 h nc x) {a : Operand} {b : XArg} (hop : o.op = .move a ∨ o.op = .assign a) (ha : V x (e b) (ρc a)) : OpOk P B S0 ρc o x (applyW h []) nc key (e b) := by
  refine pureOk hs (u := ρc a) ?_ ha
  rcases hop with hop | hop <;> simp [execOp, hop]

theorem ok_pick (hs : Sim B S0 h nc x) {c a b : Operand} {t : Bool} {va vb : AVal} (hop : o.op = .pick c a b) (hc : V x (.bool t) (ρc c)) (ha : V x va (ρc a)) (hb : V x vb (ρc b)) :
    OpOk P B S0 ρc o x (applyW h []) nc key (if t then va else vb) := by
  simp only [V] at hc
  refine pureOk hs (u := if t then ρc a else ρc b) ?_ ?_
  · simp [execOp, hop, hc, asBool]
  · cases t <;> simpa

theorem V_int {x : Ctx} {k : IntKind} {n : Int} {v : Value} (h : V x (.int k n) v) : v = .int k n := by simpa only [V] using h
theorem V_bool {x : Ctx} {b : Bool} {v : Value} (h : V x (.bool b) v) : v = .bool b := by simpa only [V] using h
theorem V_str {x : Ctx} {s : ByteArray} {v : Value} (h : V x (.str s) v) : v = .string s := by simpa only [V] using h

theorem run_intBits (op : BinOp) (k : IntKind) (a b : Int) (w : World) (v : AVal) (hop : op = .and ∨ op = .or ∨ op = .xor ∨ op = .andNot) (h : intBin op k a b = some v) :
    ∃ u, (Op.intBits op k a b).run P w = .ok u w ∧ V x v u := by
  rcases hop with rfl | rfl | rfl | rfl <;> (simp only [intBin, Option.some.injEq] at h; subst h; exact ⟨_, rfl, by simp [V]⟩)

theorem ok_bin (hs : Sim B S0 h nc x) {op : BinOp} {t yt : TypeId} {a b : Operand} {xa xb : XArg} {v : AVal} (hop : o.op = .binOp op t a b yt) (ha : V x (e xa) (ρc a)) (hb : V x (e xb) (ρc b))
    (ht : (P.underlying t).isSome = true) (hv : binA op (e xa) (e xb) = some v) : OpOk P B S0 ρc o x (applyW h []) nc key v := by
  unfold binA at hv
  split at hv
  · rename_i k n k' m h1 h2
    rw [h1] at ha; rw [h2] at hb
    have ha := V_int ha
    have hb := V_int hb
    split at hv
    · rename_i hsh
      unfold shiftBin at hv
      split at hv
      · cases hv
      · rename_i hneg
        cases op <;> simp [isShift] at hsh <;> simp only [Option.some.injEq] at hv <;> subst hv
        · exact pureOk hs (u := .int k (k.wrap (n * 2 ^ (min m.toNat k.bits)))) (by simp [execOp, hop, ha, hb, eqGuard, binOp, Op.shift, hneg]) (by simp [V])
        · exact pureOk hs (u := .int k (n.fdiv (2 ^ (min m.toNat k.bits)))) (by simp [execOp, hop, ha, hb, eqGuard, binOp, Op.shift, hneg]) (by simp [V])
    · rename_i hsh
      split at hv
      · rename_i hk
        subst hk
        cases op <;> simp [isShift] at hsh <;> simp only [intBin] at hv
        case add => cases hv; exact pureOk hs (u := .int k (k.wrap (n + m))) (by simp [execOp, hop, ha, hb, eqGuard, binOp, Op.intArith]) (by simp [V])
        case sub => cases hv; exact pureOk hs (u := .int k (k.wrap (n - m))) (by simp [execOp, hop, ha, hb, eqGuard, binOp, Op.intArith]) (by simp [V])
        case mul => cases hv; exact pureOk hs (u := .int k (k.wrap (n * m))) (by simp [execOp, hop, ha, hb, eqGuard, binOp, Op.intArith]) (by simp [V])
        case quo =>
          split at hv
          · cases hv
          · rename_i h0
            cases hv; exact pureOk hs (u := .int k (k.wrap (n.tdiv m))) (by simp [execOp, hop, ha, hb, eqGuard, binOp, Op.intDiv, h0]) (by simp [V])
        case rem =>
          split at hv
          · cases hv
          · rename_i h0
            cases hv; exact pureOk hs (u := .int k (n.tmod m)) (by simp [execOp, hop, ha, hb, eqGuard, binOp, Op.intDiv, h0]) (by simp [V])
        case and => cases hv; exact pureOk hs (u := .int k (k.wrap (BitVec.ofInt k.bits n &&& BitVec.ofInt k.bits m).toNat)) (by simp only [execOp, hop, ha, hb, eqGuard, binOp, Op.intBits, ne_eq, not_true, if_false, Bool.not_false, if_true]; rfl) (by simp only [V])
        case or => cases hv; exact pureOk hs (u := .int k (k.wrap (BitVec.ofInt k.bits n ||| BitVec.ofInt k.bits m).toNat)) (by simp only [execOp, hop, ha, hb, eqGuard, binOp, Op.intBits, ne_eq, not_true, if_false, Bool.not_false, if_true]; rfl) (by simp only [V])
        case xor => cases hv; exact pureOk hs (u := .int k (k.wrap (BitVec.ofInt k.bits n ^^^ BitVec.ofInt k.bits m).toNat)) (by simp only [execOp, hop, ha, hb, eqGuard, binOp, Op.intBits, ne_eq, not_true, if_false, Bool.not_false, if_true]; rfl) (by simp only [V])
        case andNot => cases hv; exact pureOk hs (u := .int k (k.wrap (BitVec.ofInt k.bits n &&& ~~~BitVec.ofInt k.bits m).toNat)) (by simp only [execOp, hop, ha, hb, eqGuard, binOp, Op.intBits, ne_eq, not_true, if_false, Bool.not_false, if_true]; rfl) (by simp only [V])
        case eql => cases hv; exact pureOk hs (u := .bool (n == m)) (by simp [execOp, hop, ha, hb, eqGuard, binOp, Op.intCmp]) (by simp [V])
        case neq => cases hv; exact pureOk hs (u := .bool (n != m)) (by simp [execOp, hop, ha, hb, eqGuard, binOp, Op.intCmp]) (by simp [V])
        case lss => cases hv; exact pureOk hs (u := .bool (n < m)) (by simp [execOp, hop, ha, hb, eqGuard, binOp, Op.intCmp]) (by simp [V])
        case leq => cases hv; exact pureOk hs (u := .bool (n ≤ m)) (by simp [execOp, hop, ha, hb, eqGuard, binOp, Op.intCmp]) (by simp [V])
        case gtr => cases hv; exact pureOk hs (u := .bool (n > m)) (by simp [execOp, hop, ha, hb, eqGuard, binOp, Op.intCmp]) (by simp [V])
        case geq => cases hv; exact pureOk hs (u := .bool (n ≥ m)) (by simp [execOp, hop, ha, hb, eqGuard, binOp, Op.intCmp]) (by simp [V])
      · cases hv
  · rename_i s s' h1 h2
    rw [h1] at ha; rw [h2] at hb
    have ha := V_str ha
    have hb := V_str hb
    cases op <;> simp only [strBin] at hv <;> try cases hv
    case add =>
      split at hv
      · rename_i hsz
        cases hv
        have : ¬ (((s.size + s'.size : Nat) : Int) > IntKind.i64.max) := by simp only [IntKind.max_i64]; omega
        exact pureOk hs (u := .string (s ++ s')) (by simp only [execOp, hop, ha, hb, eqGuard, binOp, Op.stringOp, this, if_false]; rfl) (by simp [V])
      · cases hv
    all_goals exact pureOk hs (u := .bool _) (by simp only [execOp, hop, ha, hb, eqGuard, binOp, Op.stringOp]; rfl) (by simp only [V])
  · cases hv

theorem equalIn_bool (d : Nat) {t : TypeId} (ht : P.underlying t = some .bool) (a b : Bool) (w : World) : (Op.equalIn (d + 1) t (.bool a) (.bool b)).run P w = .ok (a == b) w := by
  simp [Op.equalIn, run_underlying ht]
theorem equal_bool {t : TypeId} (ht : P.underlying t = some .bool) (a b : Bool) (w : World) : (Op.equal t (.bool a) (.bool b)).run P w = .ok (a == b) w := equalIn_bool 9999 ht a b w

theorem ok_eqB (hs : Sim B S0 h nc x) {neg : Bool} {op : BinOp} {t yt : TypeId} {a b : Operand} {s s' : Bool} (hop : o.op = .binOp op t a b yt) (hn : op = if neg then .neq else .eql) (ha : V x (.bool s) (ρc a)) (hb : V x (.bool s') (ρc b))
    (ht : P.underlying t = some .bool) : OpOk P B S0 ρc o x (applyW h []) nc key (.bool (if neg then !(s == s') else s == s')) := by
  have ha := V_bool ha
  have hb := V_bool hb
  have hu := fun w => equal_bool ht s s' w
  cases neg <;> simp only [Bool.false_eq_true, if_false, if_true] at hn ⊢ <;> subst hn
  · exact pureOk hs (u := .bool (s == s')) (by simp only [execOp, hop, ha, hb, eqGuard, binOp, Sem.run_bind, Sem.run_ite, Sem.run_pure, ite_self, Result.andThen_ok, hu]) (by simp only [V])
  · exact pureOk hs (u := .bool !(s == s')) (by simp only [execOp, hop, ha, hb, eqGuard, binOp, Sem.run_bind, Sem.run_ite, Sem.run_pure, ite_self, Result.andThen_ok, hu]) (by simp only [V])

/-! comparing with nil -/
theorem equalIn_nils (d : Nat) {t et : TypeId} (ht : P.underlying t = some (.slice et)) (v : Value) (r : Bool) (hv : (r = true ∧ v = .slice none 0 0) ∨ (r = false ∧ ∃ a n c, v = .slice (some a) n c)) (w : World) :
    (Op.equalIn (d + 1) t v (.slice none 0 0)).run P w = .ok r w := by
  rcases hv with ⟨rfl, rfl⟩ | ⟨rfl, a, n, c, rfl⟩ <;> simp [Op.equalIn, run_underlying ht]
theorem equalIn_nili (d : Nat) {t : TypeId} {ms : Array (String × TypeId)} (ht : P.underlying t = some (.interface ms)) (v : Value) (r : Bool) (hv : (r = true ∧ v = .nilIface) ∨ (r = false ∧ ∃ a u, v = .iface a u)) (w : World) :
    (Op.equalIn (d + 1) t v .nilIface).run P w = .ok r w := by
  rcases hv with ⟨rfl, rfl⟩ | ⟨rfl, a, n, rfl⟩ <;> simp [Op.equalIn, run_underlying ht]
theorem equalIn_nilp (d : Nat) {t et : TypeId} (ht : P.underlying t = some (.pointer et)) (v : Value) (r : Bool) (hv : (r = true ∧ v = .pointer none) ∨ (r = false ∧ ∃ a, v = .pointer (some a))) (w : World) :
    (Op.equalIn (d + 1) t v (.pointer none)).run P w = .ok r w := by
  rcases hv with ⟨rfl, rfl⟩ | ⟨rfl, a, rfl⟩ <;> simp [Op.equalIn, run_underlying ht]

/-- '==' or '!=' between what is no number, no text: by 'equal'. -/
theorem run_eq_of {neg : Bool} {op : BinOp} {t : TypeId} {a b : Operand} {va vb : Value} {r : Bool} (w : World) (hn : op = if neg then .neq else .eql) (hk : (∃ n c, ∃ ad, va = .slice ad n c) ∨ va = .nilIface ∨ (∃ tt u, va = .iface tt u) ∨ (∃ p, va = .pointer p) ∨ (∃ cs, va = .agg cs))
    (hg : (eqGuard op t a b va vb).run P w = .ok () w) (hr : (Op.equal t va vb).run P w = .ok r w) (hb : ∀ s, vb ≠ .string s) (hi : ∀ k n, vb ≠ .int k n) (hf : ∀ k n, vb ≠ .float k n) (hc : ∀ k n m, vb ≠ .complex k n m) (hp : ∀ p, va = .pointer p → ∃ q, vb = .pointer q) :
    ((do eqGuard op t a b va vb; binOp op t va vb) : Sem Value).run P w = .ok (.bool (if neg then !r else r)) w := by
  rw [Sem.run_bind, hg, Result.andThen_ok]
  cases neg <;> simp only [Bool.false_eq_true, if_false, if_true] at hn ⊢ <;> subst hn
  all_goals
    rcases hk with ⟨n, c, ad, rfl⟩ | rfl | ⟨tt, u, rfl⟩ | ⟨p, rfl⟩ | ⟨cs, rfl⟩ <;> first
      | (simp only [binOp, Sem.run_bind, hr, Result.andThen_ok, Sem.run_pure])
      | (obtain ⟨q, rfl⟩ := hp _ rfl; cases p <;> cases q <;> simp only [binOp, Sem.run_bind, hr, Result.andThen_ok, Sem.run_pure])

theorem ok_eqN (hs : Sim B S0 h nc x) {neg : Bool} {kd : Nat} {op : BinOp} {t yt : TypeId} {a : Operand} {cv : Value} {va : AVal} {r : Bool} (hop : o.op = .binOp op t a (.const cv) yt) (hn : op = if neg then .neq else .eql) (ha : V x va (ρc a)) (hcv : ρc (.const cv) = cv)
    (hb : (kd = 0 ∧ (∃ et, P.underlying t = some (.slice et)) ∧ cv = .slice none 0 0) ∨ (kd = 1 ∧ (∃ ms, P.underlying t = some (.interface ms)) ∧ cv = .nilIface) ∨ (kd = 2 ∧ (∃ et, P.underlying t = some (.pointer et)) ∧ cv = .pointer none))
    (hr : nilA kd va = some r) : OpOk P B S0 ρc o x (applyW h []) nc key (.bool (if neg then !r else r)) := by
  have main : (execOp ρc o).run P x.w = .ok (.value (.bool (if neg then !r else r))) x.w := by
    have hv : ((do eqGuard op t a (.const cv) (ρc a) cv; binOp op t (ρc a) cv) : Sem Value).run P x.w = .ok (.bool (if neg then !r else r)) x.w := by
      rcases hb with ⟨rfl, ⟨et, ht⟩, rfl⟩ | ⟨rfl, ⟨ms, ht⟩, rfl⟩ | ⟨rfl, ⟨et, ht⟩, rfl⟩
      · have hx : (r = true ∧ ρc a = .slice none 0 0) ∨ (r = false ∧ ∃ ad n c, ρc a = .slice (some ad) n c) := by
          cases va <;> simp only [nilA, Option.some.injEq, reduceCtorEq] at hr <;> subst hr <;> simp only [V] at ha
          · exact .inl ⟨rfl, ha⟩
          · obtain ⟨ad, ha⟩ := ha; exact .inr ⟨rfl, ad, _, _, ha⟩
          · obtain ⟨b, oo, cap, ha, _⟩ := ha; exact .inr ⟨rfl, _, _, _, ha⟩
          · obtain ⟨b, oo, ad, cap, _, ha, _⟩ := ha; exact .inr ⟨rfl, _, _, _, ha⟩
        refine run_eq_of x.w hn ?_ ?_ (equalIn_nils 9999 ht _ r hx x.w) (by simp) (by simp) (by simp) (by simp) ?_
        · rcases hx with ⟨_, hx⟩ | ⟨_, ad, n, c, hx⟩ <;> exact .inl ⟨_, _, _, hx⟩
        · rcases hx with ⟨_, hx⟩ | ⟨_, ad, n, c, hx⟩ <;> rw [hx] <;> cases neg <;> subst hn <;> simp [eqGuard]
        · intro p hp; rcases hx with ⟨_, hx⟩ | ⟨_, ad, n, c, hx⟩ <;> rw [hx] at hp <;> cases hp
      · have hx : (r = true ∧ ρc a = .nilIface) ∨ (r = false ∧ ∃ tt u, ρc a = .iface tt u) := by
          cases va <;> simp only [nilA, Option.some.injEq, reduceCtorEq] at hr <;> subst hr <;> simp only [V] at ha
          · exact .inl ⟨rfl, ha⟩
          · obtain ⟨u, ha, _⟩ := ha; exact .inr ⟨rfl, _, _, ha⟩
        refine run_eq_of x.w hn ?_ ?_ (equalIn_nili 9999 ht _ r hx x.w) (by simp) (by simp) (by simp) (by simp) ?_
        · rcases hx with ⟨_, hx⟩ | ⟨_, tt, u, hx⟩
          · exact .inr (.inl hx)
          · exact .inr (.inr (.inl ⟨_, _, hx⟩))
        · rcases hx with ⟨_, hx⟩ | ⟨_, tt, u, hx⟩ <;> rw [hx] <;> cases neg <;> subst hn <;> simp [eqGuard]
        · intro p hp; rcases hx with ⟨_, hx⟩ | ⟨_, tt, u, hx⟩ <;> rw [hx] at hp <;> cases hp
      · have hx : (r = true ∧ ρc a = .pointer none) ∨ (r = false ∧ ∃ ad, ρc a = .pointer (some ad)) := by
          cases va <;> simp only [nilA, Option.some.injEq, reduceCtorEq] at hr <;> subst hr <;> simp only [V] at ha
          · exact .inl ⟨rfl, ha⟩
          · obtain ⟨b, oo, _, ha⟩ := ha; exact .inr ⟨rfl, _, ha⟩
          · obtain ⟨b, oo, ha, _⟩ := ha; exact .inr ⟨rfl, _, ha⟩
        refine run_eq_of x.w hn ?_ ?_ (equalIn_nilp 9999 ht _ r hx x.w) (by simp) (by simp) (by simp) (by simp) ?_
        · rcases hx with ⟨_, hx⟩ | ⟨_, ad, hx⟩ <;> exact .inr (.inr (.inr (.inl ⟨_, hx⟩)))
        · rcases hx with ⟨_, hx⟩ | ⟨_, ad, hx⟩ <;> rw [hx] <;> cases neg <;> subst hn <;> simp [eqGuard]
        · intro p hp; exact ⟨none, rfl⟩
    simp only [execOp, hop, hcv]
    rw [Sem.run_bind, hv, Result.andThen_ok, Sem.run_pure]
  exact pureOk hs main (by simp only [V])

end
end Go.Xec
