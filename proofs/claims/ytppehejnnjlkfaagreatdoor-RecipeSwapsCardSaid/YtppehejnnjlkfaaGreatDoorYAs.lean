/-
  errors.As at the one type of errors that the program asks for: no error; an error of that type.
-/
import Derived.Test.YtppehejnnjlkfaaGreatDoorYN
import Derived.WalkKit
import Derived.LaidEql
import Derived.Stop.Asserts
import Derived.RowKitTokens
import Derived.Deep.MidRow
set_option linter.unusedVariables false
namespace Go.Proofs.YtppehejnnjlkfaaGreatDoor.As
open Go Go.Xec Go.RowKit Go.Extern.Stop Go.Stop Go.Extern

theorem gives_of_calls {P : Program} {f : FuncId} {fn : Func} {args : Array Value} {w : World} {Q : Value → World → Prop} (hf : P.funcs[f]? = some fn) (hname : (fn.name == "runtime.NumGoroutine") = false) (hb : fn.body.isSome = true)
    (h : Calls P f args w fun e w' => ∃ v, e = .returned v ∧ Q v w') : Gives P f args w Q := by
  refine .inl ⟨?_, h⟩
  cases hbb : fn.body with
  | none => rw [hbb] at hb; cases hb
  | some c =>
    simp only [callFunc, Sem.run_bind, run_program, Result.andThen_ok, hf, hname, hbb]
    simp
theorem as_nil (t : Value) (w : World) : Calls Tryz.prog 19 #[.nilIface, t] w fun e w' => e = .returned (.bool false) ∧ w' = w := by
  go_enter Tryz.func19, Tryz.ntmps19
  go_wp2
  go_ret
  exact ⟨rfl, rfl⟩

theorem valueOf52 (t : Addr) (w : World) : (ReflectliteValue.unpack (.iface 52 (.pointer (some t)))).run Tryz.prog w
    = .ok (.agg #[.pointer (some ⟨7, 52, none⟩), .pointer (some ⟨w.heap.size, 0, none⟩), .int .u64 150]) (w.alloc (.cells #[.pointer (some t)] 52)) := by kernel_rfl
theorem type52 (a : Addr) (w : World) : (ReflectliteValue.methodAny (ReflectliteValue.valueError "reflectlite.Value.Type" 0) (fun t _ _ _ => ReflectliteType.toType t) #[.agg #[.pointer (some ⟨7, 52, none⟩), .pointer (some a), .int .u64 150]]).run Tryz.prog w
    = .ok (.iface 126 (.agg #[.pointer (some ⟨7, 52, none⟩)])) w := by kernel_rfl
theorem methodKind (h : Value) (w : World) : (Go.method 304 126 (.agg #[h]) "Kind").run Tryz.prog w = .ok (127, h) w := by kernel_rfl
theorem kind52 (w : World) : ((ReflectliteType.abiMethod fun t => (fun a : Nat => Value.int IntKind.u8 (a : Int)) <$> Rtype.kind t) #[.pointer (some ⟨7, 52, none⟩)]).run Tryz.prog w = .ok (.int .u8 22) w := by kernel_rfl
theorem kind50 (w : World) : ((ReflectliteType.abiMethod fun t => (fun a : Nat => Value.int IntKind.u8 (a : Int)) <$> Rtype.kind t) #[.pointer (some ⟨7, 50, none⟩)]).run Tryz.prog w = .ok (.int .u8 25) w := by kernel_rfl
theorem rlm (z : Sem Value) (f : TypeId → Addr → Nat → Nat → Sem Value) (v : Value) :
    ReflectliteValue.method z f #[v] = (do match ← ReflectliteValue.parts v with | none => z | some (t, a, fl) => f t a fl (fl % 32)) := rfl
theorem parts52 (a : Addr) (w : World) : (ReflectliteValue.parts (.agg #[.pointer (some ⟨7, 52, none⟩), .pointer (some a), .int .u64 150])).run Tryz.prog w = .ok (some (52, a, 150)) w := by kernel_rfl
theorem isNil52 (a p : Addr) (W : World) (ha : W.cell? a = some (.pointer (some p))) :
    (ReflectliteValue.method (ReflectliteValue.valueError "reflectlite.Value.IsNil" 0) ReflectliteValue.isNil #[.agg #[.pointer (some ⟨7, 52, none⟩), .pointer (some a), .int .u64 150]]).run Tryz.prog W = .ok (.bool false) W := by
  rw [rlm]
  simp only [Sem.run_bind, parts52, Result.andThen]
  simp [ReflectliteValue.isNil, loadVar, isAgg, underlying, Tryz.underlying52, ha, Result.andThen]
theorem methodElem (h : Value) (w : World) : (Go.method 304 126 (.agg #[h]) "Elem").run Tryz.prog w = .ok (138, .agg #[h]) w := by kernel_rfl
theorem methodImplements (h : Value) (w : World) : (Go.method 304 126 (.agg #[h]) "Implements").run Tryz.prog w = .ok (139, .agg #[h]) w := by kernel_rfl
theorem methodAssignableTo (h : Value) (w : World) : (Go.method 304 126 (.agg #[h]) "AssignableTo").run Tryz.prog w = .ok (136, .agg #[h]) w := by kernel_rfl
theorem elem52 (w : World) : (ReflectliteType.method ReflectliteType.elem #[.agg #[.pointer (some ⟨7, 52, none⟩)]]).run Tryz.prog w = .ok (.iface 126 (.agg #[.pointer (some ⟨7, 50, none⟩)])) w := by kernel_rfl
theorem implements50 (w : World) : (ReflectliteType.relation "Implements" ReflectliteType.implements_ #[.agg #[.pointer (some ⟨7, 50, none⟩)], .iface 126 (.agg #[.pointer (some ⟨7, 46, none⟩)])]).run Tryz.prog w = .ok (.bool true) w := by kernel_rfl
theorem typeOf50 (v : Value) (w : World) : (ReflectliteType.typeOf #[.iface 50 v]).run Tryz.prog w = .ok (.iface 126 (.agg #[.pointer (some ⟨7, 50, none⟩)])) w := by kernel_rfl
theorem assignable50 (w : World) : (ReflectliteType.relation "AssignableTo" ReflectliteType.assignableTo #[.agg #[.pointer (some ⟨7, 50, none⟩)], .iface 126 (.agg #[.pointer (some ⟨7, 50, none⟩)])]).run Tryz.prog w = .ok (.bool true) w := by kernel_rfl
theorem valueOf50 (cs : Array Value) (w : World) : (ReflectliteValue.unpack (.iface 50 (.agg cs))).run Tryz.prog w
    = .ok (.agg #[.pointer (some ⟨7, 50, none⟩), .pointer (some ⟨w.heap.size, 0, none⟩), .int .u64 153]) (w.alloc (.cells cs 50)) := by kernel_rfl
theorem elemOf52 (w : World) : (Rtype.elem? 52).run Tryz.prog w = .ok (some 50) w := by kernel_rfl
theorem mk50 (p : Addr) (w : World) : (ReflectliteValue.mk 50 p ReflectliteValue.flagAddr).run Tryz.prog w = .ok (.agg #[.pointer (some ⟨7, 50, none⟩), .pointer (some p), .int .u64 409]) w := by kernel_rfl
theorem elemV52 (a p : Addr) (W : World) (ha : W.cell? a = some (.pointer (some p))) :
    (ReflectliteValue.method (ReflectliteValue.valueError "reflectlite.Value.Elem" 0) ReflectliteValue.elem #[.agg #[.pointer (some ⟨7, 52, none⟩), .pointer (some a), .int .u64 150]]).run Tryz.prog W
      = .ok (.agg #[.pointer (some ⟨7, 50, none⟩), .pointer (some p), .int .u64 409]) W := by
  rw [rlm]
  simp only [Sem.run_bind, parts52, Result.andThen]
  simp [ReflectliteValue.elem, loadVar, isAgg, underlying, Tryz.underlying52, ha, Result.andThen, elemOf52, mk50]
theorem rls (v x : Value) : ReflectliteValue.set #[v, x] = (do
    let (some (dst, a, fl), some (src, b, _)) := (← ReflectliteValue.parts v, ← ReflectliteValue.parts x)
      | unsupported (.noEntry "extern/(internal/reflectlite.Value).Set.zeroValue")
    if fl / ReflectliteValue.flagAddr % 2 == 0 then unsupported (.noEntry "extern/(internal/reflectlite.Value).Set.unaddressable")
    let val ← loadVar src b
    if ← Rtype.directlyAssignable dst src then storeVar dst a val
    else if ← Rtype.implements dst src then
      if (← Rtype.kind src) == 20 then
        match val with
        | .nilIface => unsupported (.noEntry "extern/reflectlite: a nil value of one interface type handed on as a value of another")
        | _ => storeVar dst a val
      else storeVar dst a (.iface src val)
    else panicString ("reflectlite.Set: value of type " ++ (← Rtype.spelt src) ++ " is not assignable to type " ++ (← Rtype.spelt dst))
    pure (.tuple #[])) := rfl
theorem parts50a (a : Addr) (w : World) : (ReflectliteValue.parts (.agg #[.pointer (some ⟨7, 50, none⟩), .pointer (some a), .int .u64 409])).run Tryz.prog w = .ok (some (50, a, 409)) w := by kernel_rfl
theorem parts50 (a : Addr) (w : World) : (ReflectliteValue.parts (.agg #[.pointer (some ⟨7, 50, none⟩), .pointer (some a), .int .u64 153])).run Tryz.prog w = .ok (some (50, a, 153)) w := by kernel_rfl
theorem direct50 (w : World) : (Rtype.directlyAssignable 50 50).run Tryz.prog w = .ok true w := by kernel_rfl
theorem size50 (w : World) : (sizeOf 50).run Tryz.prog w = .ok 2 w := by kernel_rfl
theorem info50 : (Tryz.prog.info? 50).map (·.size) = some 2 := by kernel_rfl
/-- What a Value's own variable holds is set. -/
theorem set50 (b bt : Nat) (cs : List Value) (c : Array Value) (T : TypeId) (W : World) (h2 : cs.length = 2) (hc2 : c.size = 2) (hb : W.rangeAt bt 0 cs) (ht : W.heap[b]? = some (.cells c T (0, 0))) (h1 : ∀ u ∈ cs, u.oneCell' = true) :
    (ReflectliteValue.set #[.agg #[.pointer (some ⟨7, 50, none⟩), .pointer (some ⟨b, 0, none⟩), .int .u64 409], .agg #[.pointer (some ⟨7, 50, none⟩), .pointer (some ⟨bt, 0, none⟩), .int .u64 153]]).run Tryz.prog W
      = .ok (.tuple #[]) (W.setRow b cs.toArray) := by
  have hl := run_loadVar_mid (P := Tryz.prog) W bt 0 50 cs _ hb Tryz.underlying50 rfl (by rw [info50, h2])
  have hst := run_storeCells_at (P := Tryz.prog) b 0 T cs 0 c W ht (by omega) h1
  have hsp : c.toList.take (0 + 0) ++ cs ++ c.toList.drop (0 + 0 + cs.length) = cs := by
    rw [List.drop_eq_nil_of_le (by simp; omega)]
    simp
  rw [hsp] at hst
  have hs : (storeVar 50 ⟨b, 0, none⟩ (.agg cs.toArray)).run Tryz.prog W = .ok () (W.setRow b cs.toArray) := by
    have hi := info50
    cases hq : Tryz.prog.info? 50 with
    | none => rw [hq] at hi; cases hi
    | some i =>
      have hs : i.size = 2 := by simpa [hq] using hi
      simp [storeVar, sizeOf, typeInfo, hq, Value.cells, hs, h2, hst]
  rw [rls]
  simp only [Sem.run_bind, parts50a, parts50, Result.andThen]
  simp [ReflectliteValue.flagAddr, hl, Result.andThen, direct50, hs]
theorem old {w : World} {o : Obj} {k : Nat} (h : k < w.heap.size) : (w.alloc o).heap[k]? = w.heap[k]? := by
  simp only [World.alloc]
  rw [Array.getElem?_push, if_neg (by omega)]
theorem size_alloc (w : World) (o : Obj) : (w.alloc o).heap.size = w.heap.size + 1 := by simp
set_option maxHeartbeats 4000000 in
theorem as_hit (b : Nat) (cs : List Value) (c : Array Value) (T : TypeId) (w : World) (h2 : cs.length = 2) (hc2 : c.size = 2) (hg : w.cell? ⟨0, 0, none⟩ = some (.iface 126 (.agg #[.pointer (some ⟨7, 46, none⟩)]))) (ht : w.heap[b]? = some (.cells c T (0, 0))) (h1 : ∀ u ∈ cs, u.oneCell' = true) :
    Calls Tryz.prog 19 #[.iface 50 (.agg cs.toArray), .iface 52 (.pointer (some ⟨b, 0, none⟩))] w fun ev w' => ev = .returned (.bool true) ∧
      w' = ((((w.alloc (.cells #[.pointer (some ⟨b, 0, none⟩)] 52)).alloc (.cells #[.pointer (some ⟨7, 52, none⟩), .pointer (some ⟨w.heap.size, 0, none⟩), .int .u64 150] 98)).alloc (.cells #[.pointer (some ⟨7, 52, none⟩), .pointer (some ⟨w.heap.size, 0, none⟩), .int .u64 150] 98)).alloc (.cells cs.toArray 50)).setRow b cs.toArray := by
  have h46 := @run_callFunc_extern Tryz.prog 46 _ (fun args => ReflectliteValue.unpack (args.getD 0 (.tuple #[]))) Tryz.func46 (by kernel_rfl) (by kernel_rfl) (by kernel_rfl) (by kernel_rfl)
  have h47 := @run_callFunc_extern Tryz.prog 47 _ (ReflectliteValue.methodAny (ReflectliteValue.valueError "reflectlite.Value.Type" 0) (fun t _ _ _ => ReflectliteType.toType t)) Tryz.func47 (by kernel_rfl) (by kernel_rfl) (by kernel_rfl) (by kernel_rfl)
  have h48 := @run_callFunc_extern Tryz.prog 48 _ (ReflectliteValue.method (ReflectliteValue.valueError "reflectlite.Value.IsNil" 0) ReflectliteValue.isNil) Tryz.func48 (by kernel_rfl) (by kernel_rfl) (by kernel_rfl) (by kernel_rfl)
  have h127 := @run_callFunc_extern Tryz.prog 127 _ (ReflectliteType.abiMethod fun t => do pure (.int .u8 (← Rtype.kind t))) Tryz.func127 (by kernel_rfl) (by kernel_rfl) (by kernel_rfl) (by kernel_rfl)
  have h138 := @run_callFunc_extern Tryz.prog 138 _ (ReflectliteType.method ReflectliteType.elem) Tryz.func138 (by kernel_rfl) (by kernel_rfl) (by kernel_rfl) (by kernel_rfl)
  have h139 := @run_callFunc_extern Tryz.prog 139 _ (ReflectliteType.relation "Implements" ReflectliteType.implements_) Tryz.func139 (by kernel_rfl) (by kernel_rfl) (by kernel_rfl) (by kernel_rfl)
  have h75 := @run_callFunc_extern Tryz.prog 75 _ ReflectliteType.typeOf Tryz.func75 (by kernel_rfl) (by kernel_rfl) (by kernel_rfl) (by kernel_rfl)
  have h136 := @run_callFunc_extern Tryz.prog 136 _ (ReflectliteType.relation "AssignableTo" ReflectliteType.assignableTo) Tryz.func136 (by kernel_rfl) (by kernel_rfl) (by kernel_rfl) (by kernel_rfl)
  have h76 := @run_callFunc_extern Tryz.prog 76 _ (ReflectliteValue.method (ReflectliteValue.valueError "reflectlite.Value.Elem" 0) ReflectliteValue.elem) Tryz.func76 (by kernel_rfl) (by kernel_rfl) (by kernel_rfl) (by kernel_rfl)
  have h77 := @run_callFunc_extern Tryz.prog 77 _ ReflectliteValue.set Tryz.func77 (by kernel_rfl) (by kernel_rfl) (by kernel_rfl) (by kernel_rfl)
  have tO := typeOf50
  have mA := methodAssignableTo
  have a50 := assignable50
  have v50 := valueOf50
  have f46 := valueOf52
  have f47 := type52
  have mK := methodKind
  have mE := methodElem
  have mI := methodImplements
  have k52 := kind52
  have k50 := kind50
  have e52 := elem52
  have i50 := implements50
  have n48 := isNil52 ⟨w.heap.size, 0, none⟩ ⟨b, 0, none⟩ ((w.alloc (.cells #[.pointer (some ⟨b, 0, none⟩)] 52)).alloc (.cells #[.pointer (some ⟨7, 52, none⟩), .pointer (some ⟨w.heap.size, 0, none⟩), .int .u64 150] 98)) (by simp)
  have hlt : 0 < w.heap.size := by
    rcases Nat.eq_zero_or_pos w.heap.size with h0 | h
    · simp [World.cell?, h0] at hg
    · exact h
  have hg2 : ((w.alloc (.cells #[.pointer (some ⟨b, 0, none⟩)] 52)).alloc (.cells #[.pointer (some ⟨7, 52, none⟩), .pointer (some ⟨w.heap.size, 0, none⟩), .int .u64 150] 98)).cell? ⟨0, 0, none⟩ = some (.iface 126 (.agg #[.pointer (some ⟨7, 46, none⟩)])) := by
    rw [World.cell?_alloc_lt _ _ ⟨0, 0, none⟩ (by simp), World.cell?_alloc_lt _ _ ⟨0, 0, none⟩ hlt]; exact hg
  have hbl : b < w.heap.size := by
    rcases Nat.lt_or_ge b w.heap.size with h | h
    · exact h
    · rw [Array.getElem?_eq_none h] at ht; cases ht
  have el := elemV52 ⟨w.heap.size, 0, none⟩ ⟨b, 0, none⟩ (((w.alloc (.cells #[.pointer (some ⟨b, 0, none⟩)] 52)).alloc (.cells #[.pointer (some ⟨7, 52, none⟩), .pointer (some ⟨w.heap.size, 0, none⟩), .int .u64 150] 98)).alloc (.cells #[.pointer (some ⟨7, 52, none⟩), .pointer (some ⟨w.heap.size, 0, none⟩), .int .u64 150] 98)) (by rw [World.cell?_alloc_lt _ _ ⟨w.heap.size, 0, none⟩ (by simp; omega)]; simp)
  have st := set50 b (w.heap.size + 1 + 1 + 1) cs c T ((((w.alloc (.cells #[.pointer (some ⟨b, 0, none⟩)] 52)).alloc (.cells #[.pointer (some ⟨7, 52, none⟩), .pointer (some ⟨w.heap.size, 0, none⟩), .int .u64 150] 98)).alloc (.cells #[.pointer (some ⟨7, 52, none⟩), .pointer (some ⟨w.heap.size, 0, none⟩), .int .u64 150] 98)).alloc (.cells cs.toArray 50))
    h2 hc2 (fun j v hj => by
      rw [World.cell?_alloc_at _ _ _ _ (by simp)]
      simpa using hj)
    (by rw [old (by simp only [size_alloc]; omega), old (by simp only [size_alloc]; omega), old (by simp only [size_alloc]; omega), old hbl]; exact ht) h1
  go_enter Tryz.func19, Tryz.ntmps19
  go_wp2
  refine wp_loop_rounds 1 ?_
  rw [rounds_succ]
  go_wp2
  go_ret
  exact ⟨rfl, rfl⟩
theorem et : Tryz.prog.globalNamed "errors.errorType" = some 0 := by kernel_rfl
theorem rt : (Tryz.prog.cutTypes.find? (·.1 == "internal/reflectlite.rtype")).map (·.2) = some 126 := by kernel_rfl
theorem oneRow : ((List.range 204).filter fun t => Tryz.prog.rowNamed t [101, 114, 114, 111, 114]) = [46] := by kernel_rfl
theorem tsize : Tryz.prog.types.size = 204 := by kernel_rfl
theorem handle {w : World} (h : Laid Tryz.prog w) : w.cell? ⟨0, 0, none⟩ = some (.iface 126 (.agg #[.pointer (some ⟨7, 46, none⟩)])) := by
  obtain ⟨u, ty, e2, e3, e4, e5⟩ := h.2.2.2 (by rw [et]; simp)
  obtain rfl := Option.some.inj (rt.symm.trans e2)
  have hm : ty ∈ (List.range 204).filter fun t => Tryz.prog.rowNamed t [101, 114, 114, 111, 114] := List.mem_filter.2 ⟨List.mem_range.2 (by rw [← tsize]; exact e3), e4⟩
  rw [oneRow] at hm
  obtain rfl := List.mem_singleton.1 hm
  have hh : typeHandle Tryz.prog 46 = .pointer (some ⟨7, 46, none⟩) := by kernel_rfl
  rw [hh] at e5
  simpa using World.var?_cell et e5 0
theorem soundA19 : SoundA Tryz.prog 19 50 52 2 := by
  refine ⟨fun w v hL => ?_, fun w b c T cs hL hb hc2 h2 h1 => ?_⟩
  · refine gives_of_calls Tryz.func19 (by kernel_rfl) (by kernel_rfl) ((as_nil v w).mono ?_)
    rintro e w' ⟨rfl, rfl⟩
    exact ⟨_, rfl, rfl, Nat.le_refl _, fun _ _ => rfl, SameEnv.refl _⟩
  · refine gives_of_calls Tryz.func19 (by kernel_rfl) (by kernel_rfl) ((as_hit b cs c T w h2 hc2 (handle hL) hb h1).mono ?_)
    rintro e w' ⟨rfl, rfl⟩
    have hbl : b < w.heap.size := by
      rcases Nat.lt_or_ge b w.heap.size with h | h
      · exact h
      · rw [Array.getElem?_eq_none h] at hb; cases hb
    have hb4 : ((((w.alloc (.cells #[.pointer (some ⟨b, 0, none⟩)] 52)).alloc (.cells #[.pointer (some ⟨7, 52, none⟩), .pointer (some ⟨w.heap.size, 0, none⟩), .int .u64 150] 98)).alloc (.cells #[.pointer (some ⟨7, 52, none⟩), .pointer (some ⟨w.heap.size, 0, none⟩), .int .u64 150] 98)).alloc (.cells cs.toArray 50)).heap[b]? = some (.cells c T (0, 0)) := by
      rw [old (by simp only [size_alloc]; omega), old (by simp only [size_alloc]; omega), old (by simp only [size_alloc]; omega), old hbl]; exact hb
    refine ⟨_, rfl, rfl, ?_, fun k hk hne => ?_, ?_, rfl, rfl, rfl⟩
    · rw [setRow_heap' hb4]
      simp
      omega
    · rw [setRow_heap' hb4, Array.getElem?_setIfInBounds_ne (Ne.symm hne)]
      rw [old (by simp only [size_alloc]; omega), old (by simp only [size_alloc]; omega), old (by simp only [size_alloc]; omega), old hk]
    · rw [setRow_heap' hb4, Array.getElem?_setIfInBounds, if_pos rfl, if_pos (by simp only [size_alloc]; omega)]
end Go.Proofs.YtppehejnnjlkfaaGreatDoor.As
