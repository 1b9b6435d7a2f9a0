/-
  Texts, as lists of bytes.
-/
import Derived.Test.YtppehejnnjlkfaaGreatDoorXY
import Derived.Lib.SlicesS
import Derived.Lib.AtoiAll
import Derived.Lib.Bytealg
import Derived.Lib.Join
import Derived.Lib.ConvBytes
import Derived.Sort.Grow
import Derived.Deep.Draws
import Derived.Below
set_option linter.unusedVariables false
set_option linter.unusedSimpArgs false
namespace Go.Xec
open Go Go.RowKit Go.Sort

/-- The text of some bytes. -/
def bs (l : List UInt8) : ByteArray := ⟨l.toArray⟩
/-- A text, as a value. -/
abbrev sv (l : List UInt8) : AVal := .str (bs l)
theorem bs_mk (l : List UInt8) : (ByteArray.mk l.toArray) = bs l := rfl
theorem bs_size (l : List UInt8) : (bs l).size = l.length := by simp [bs, ByteArray.size]
theorem bs_data (l : List UInt8) : (bs l).data.toList = l := by simp [bs]
theorem bs_of (s : ByteArray) : s = bs s.data.toList := by
  cases s; simp [bs]
theorem bs_inj {l m : List UInt8} : bs l = bs m ↔ l = m := by
  constructor
  · intro h
    have := congrArg (fun s : ByteArray => s.data.toList) h
    simpa [bs] using this
  · rintro rfl; rfl
theorem bs_get (l : List UInt8) (i : Nat) : (bs l)[i]? = l[i]? := by
  rcases Nat.lt_or_ge i l.length with h | h
  · have h1 : i < (bs l).size := by rw [bs_size]; exact h
    rw [List.getElem?_eq_getElem h, getElem?_pos (bs l) i h1]
    congr 1
  · have h1 : ¬ i < (bs l).size := by rw [bs_size]; omega
    rw [List.getElem?_eq_none h, getElem?_neg (bs l) i h1]
theorem bs_append (l m : List UInt8) : bs l ++ bs m = bs (l ++ m) := by
  have : (bs l ++ bs m).data = (bs l).data ++ (bs m).data := ByteArray.data_append
  rw [bs_of (bs l ++ bs m), this]
  simp [bs]
theorem bs_extract (l : List UInt8) (i j : Nat) : (bs l).extract i j = bs ((l.drop i).take (j - i)) := by
  rw [bs_of ((bs l).extract i j)]
  congr 1
  rw [ByteArray.data_extract]
  simp [bs, Array.toList_extract, List.extract_eq_take_drop]
theorem bs_eq (l m : List UInt8) : ((bs l).toList == (bs m).toList) = decide (l = m) := by
  rw [Bool.eq_iff_iff, Lib.bytes_beq_iff, bs_inj, decide_eq_true_eq]
section
variable (l m : List UInt8)
theorem str_add : binA .add (sv l) (sv m) = if l.length + m.length < 9223372036854775808 then some (sv (l ++ m)) else none := by
  simp only [binA, strBin, bs_size, bs_append]
theorem str_eql : binA .eql (sv l) (sv m) = some (.bool (decide (l = m))) := by simp only [binA, strBin, bs_eq]
theorem str_neq : binA .neq (sv l) (sv m) = some (.bool (decide (¬ l = m))) := by
  simp only [binA, strBin, bs_eq]
  congr 2
  by_cases h : l = m <;> simp [h]
theorem str_eq1 : eq1 2 (sv l) (sv m) = some (decide (l = m)) := by simp only [eq1, bs_eq]
theorem str_ix (kd : IntKind) (j : Int) : ixSA (sv l) (.int kd j) = if 0 ≤ j then (l[j.toNat]?).map fun b => .int .u8 b.toNat else none := by
  simp only [ixSA, bs_get]
theorem str_ixN {l : List UInt8} (kd : IntKind) {i : Nat} (h : i < l.length) : ixSA (sv l) (.int kd i) = some (.int .u8 ((l.getD i 0).toNat : Int)) := by
  rw [str_ix, if_pos (by omega)]
  simp [List.getElem?_eq_getElem h, List.getD_eq_getElem?_getD]
theorem str_slice {l : List UInt8} {lo hi : Nat} (h1 : lo ≤ hi) (h2 : hi ≤ l.length) : slSA (sv l) (some (.int .i64 lo)) (some (.int .i64 hi)) = some (sv ((l.drop lo).take (hi - lo))) := by
  simp [slSA, bnd, bs_size, h1, h2, bs_extract]
theorem str_sliceTo {l : List UInt8} {hi : Nat} (h2 : hi ≤ l.length) : slSA (sv l) none (some (.int .i64 hi)) = some (sv (l.take hi)) := by
  simp [slSA, bnd, bs_size, h2, bs_extract]
theorem str_sliceFrom {l : List UInt8} {lo : Nat} (h2 : lo ≤ l.length) : slSA (sv l) (some (.int .i64 lo)) none = some (sv (l.drop lo)) := by
  simp [slSA, bnd, bs_size, h2, bs_extract]
  rw [List.take_of_length_le (by simp)]
end
theorem str_len (l : List UInt8) : (match sv l with | .str s => some (.int .i64 s.size) | _ => none : Option AVal) = some (.int .i64 (l.length : Int)) := by
  simp only [bs_size]
/-- What a round over a text sees at a byte: itself, or what is no sign of less than 128. -/
theorem decode_get (l : List UInt8) {i : Nat} (h : i < l.length) : (bs l).get! i = l.getD i 0 := by
  have : (bs l).get! i = (bs l).data.getD i default := by
    simp [ByteArray.get!, getElem!_def, Array.getD_eq_getD_getElem?]
    cases (bs l).data[i]? <;> rfl
  rw [this]
  simp [bs, Array.getD_eq_getD_getElem?, List.getD_eq_getElem?_getD, List.getElem?_eq_getElem h]
theorem decode_low (l : List UInt8) {i : Nat} (h : i < l.length) (hb : (l.getD i 0).toNat < 128) : Utf8.decode (bs l) i = ((l.getD i 0).toNat, 1) := by
  unfold Utf8.decode
  simp only [Nat.add_zero, decode_get l h]
  rw [if_pos hb]
theorem decode_high (l : List UInt8) {i : Nat} (h : i < l.length) (hb : 128 ≤ (l.getD i 0).toNat) : 128 ≤ (Utf8.decode (bs l) i).1 := by
  unfold Utf8.decode
  simp only [Nat.add_zero, decode_get l h]
  rw [if_neg (by omega)]
  split
  · split
    · simp only; omega
    · simp [Utf8.runeError]
  · split
    · split
      · rename_i hc; simp only [Bool.and_eq_true, decide_eq_true_eq] at hc; simp only; omega
      · simp [Utf8.runeError]
    · split
      · split
        · rename_i hc; simp only [Bool.and_eq_true, decide_eq_true_eq] at hc; simp only; omega
        · simp [Utf8.runeError]
      · simp [Utf8.runeError]
/-! ### rows of values of a kind -/
/-- A slice that holds l. -/
def Rg (es : Nat) {α : Type} (enc : α → AVal) (a : AVal) (l : List α) : Prop := (a = .nils ∧ l = []) ∨ (a = .emp ∧ l = []) ∨ a = .slc es (l.map enc)
section
variable {es : Nat} {α : Type} {enc : α → AVal} {a : AVal} {l : List α} {hp : Heap}
theorem Rg.nils : Rg es enc .nils [] := .inl ⟨rfl, rfl⟩
theorem Rg.slc (l : List α) : Rg es enc (.slc es (l.map enc)) l := .inr (.inr rfl)
theorem Rg.len (h : Rg es enc a l) : lenVA a = some (.int .i64 l.length) := by
  rcases h with ⟨rfl, rfl⟩ | ⟨rfl, rfl⟩ | rfl
  · rfl
  · rfl
  · simp [lenVA]
theorem Rg.elems (h : Rg es enc a l) : elemsA es a hp = some (l.map enc) := by
  rcases h with ⟨rfl, rfl⟩ | ⟨rfl, rfl⟩ | rfl
  · rfl
  · rfl
  · exact elemsA_slc es _
theorem Rg.plain (h : Rg es enc a l) (d : Nat) : plain d a = true := by
  rcases h with ⟨rfl, rfl⟩ | ⟨rfl, rfl⟩ | rfl
  · exact plain_nils d
  · exact plain_emp d
  · exact plain_slc d _ _
theorem Rg.cells (h : Rg es enc a l) : cellsOf a = [a] := by
  rcases h with ⟨rfl, rfl⟩ | ⟨rfl, rfl⟩ | rfl <;> rfl
theorem Rg.sc (h : Rg es enc a l) : isSc a = true := by
  rcases h with ⟨rfl, rfl⟩ | ⟨rfl, rfl⟩ | rfl <;> rfl
theorem Rg.ia (h : Rg es enc a l) {i : Nat} (hi : i < l.length) : iaSA es a (.int .i64 i) = some (.pvo (cellsOf (enc l[i])) 0) := by
  rcases h with ⟨rfl, rfl⟩ | ⟨rfl, rfl⟩ | rfl
  · simp at hi
  · simp at hi
  · rw [iaSA_slc]
    simp [List.getElem?_map, List.getElem?_eq_getElem hi]
theorem Rg.take (h : Rg es enc a l) (n : Nat) : Rg es enc (rwTake n a) (l.take n) := by
  rcases h with ⟨rfl, rfl⟩ | ⟨rfl, rfl⟩ | rfl
  · exact .inl ⟨rfl, by simp⟩
  · exact .inr (.inl ⟨rfl, by simp⟩)
  · exact .inr (.inr (by simp [rwTake, List.map_take]))
theorem Rg.drop (h : Rg es enc a l) (n : Nat) : Rg es enc (rwDrop n a) (l.drop n) := by
  rcases h with ⟨rfl, rfl⟩ | ⟨rfl, rfl⟩ | rfl
  · exact .inl ⟨rfl, by simp⟩
  · exact .inr (.inl ⟨rfl, by simp⟩)
  · exact .inr (.inr (by simp [rwDrop, List.map_drop]))
theorem Rg.sliceTo (h : Rg es enc a l) {n : Nat} (hn : n ≤ l.length) : slVA es a none (some (.int .i64 n)) none = some (rwTake n a) := by
  rcases h with ⟨rfl, rfl⟩ | ⟨rfl, rfl⟩ | rfl
  · obtain rfl : n = 0 := by simpa using hn
    rfl
  · obtain rfl : n = 0 := by simpa using hn
    rfl
  · simp [slVA, bnd, rwTake, hn]
theorem Rg.sliceFrom (h : Rg es enc a l) {n : Nat} (hn : n ≤ l.length) : slVA es a (some (.int .i64 n)) none none = some (rwDrop n a) := by
  rcases h with ⟨rfl, rfl⟩ | ⟨rfl, rfl⟩ | rfl
  · obtain rfl : n = 0 := by simpa using hn
    rfl
  · obtain rfl : n = 0 := by simpa using hn
    rfl
  · simp [slVA, bnd, rwDrop, hn]
    rw [List.take_of_length_le (by simp)]
theorem Rg.cut (h : Rg es enc a l) (n : Nat) : Rg es enc (rwTake (min l.length n) a) (l.take n) := by
  have := h.take (min l.length n)
  rwa [show l.take (min l.length n) = l.take n by rw [List.take_eq_take_iff]; omega] at this
theorem rowN_rg (l : List α) : Rg es enc (rowN es (l.map enc)) l := by
  cases l with
  | nil => exact Rg.nils
  | cons => exact Rg.slc _
end
theorem plainL_map {α : Type} {enc : α → AVal} (d : Nat) (h : ∀ x, Xec.plain d (enc x) = true) : ∀ (l : List α), plainL d (l.map enc) = true
  | [] => plainL_nil d
  | x :: l => by rw [List.map_cons, plainL_cons, h x, plainL_map d h l]; rfl
theorem all_map {α : Type} {enc : α → AVal} (h : ∀ x, (cellsOf (enc x)).all isSc = true) (l : List α) : ((l.map enc).all fun e => (cellsOf e).all isSc) = true := by
  rw [List.all_map, List.all_eq_true]
  exact fun x _ => h x
theorem take_next {α : Type} {l : List α} {i : Nat} (hi : i < l.length) : l.take (i + 1) = l.take i ++ [l[i]] := by
  rw [List.take_add_one, List.getElem?_eq_getElem hi]; rfl

/-! ### functions whose answer is known otherwise -/
theorem sound_calls {P : Program} {f : FuncId} {fn : Func} {F : List AVal → Option AVal} (hf : P.funcs[f]? = some fn) (hname : (fn.name == "runtime.NumGoroutine") = false) (hb : fn.body.isSome = true)
    (h : ∀ as r, F as = some r → ∀ (w : World) (S : Nat → Prop) (vs : List Value), (∀ b, S b → b < w.heap.size) → Laid P w → VL (ctx0 w S) as vs →
      Calls P f vs.toArray w fun e w' => ∃ v, e = .returned v ∧ w.heap.size ≤ w'.heap.size ∧ (∀ b, b < w.heap.size → w'.heap[b]? = w.heap[b]?) ∧ SameEnv w w' ∧ V (ctx0 w' fun b => S b ∨ (w.heap.size ≤ b ∧ b < w'.heap.size)) r v) : Sound P f F := by
  intro as r hr w S vs hS hL hl
  refine .inl ⟨?_, h as r hr w S vs hS hL hl⟩
  cases hbb : fn.body with
  | none => rw [hbb] at hb; cases hb
  | some c =>
    simp only [callFunc, Sem.run_bind, run_program, Result.andThen_ok, hf, hname, hbb]
    simp
theorem env_below {w w' : World} (h : Below w.heap.size w w') : w.heap.size ≤ w'.heap.size ∧ (∀ b, b < w.heap.size → w'.heap[b]? = w.heap[b]?) ∧ SameEnv w w' :=
  ⟨h.size, h.block, h.os, h.tape, h.output⟩
theorem env_grow (w : World) (k : Nat) (os : Array Obj) : w.heap.size ≤ (grow (w.drewN k) os).heap.size ∧ (∀ b, b < w.heap.size → (grow (w.drewN k) os).heap[b]? = w.heap[b]?) ∧ SameEnv w (grow (w.drewN k) os) := by
  refine ⟨by simp [grow, World.drewN], fun b hb => ?_, rfl, rfl, rfl⟩
  simp only [grow, World.drewN]
  rw [Array.getElem?_append_left hb]
theorem env_bytes (w : World) (e : TypeId) (s : ByteArray) : w.heap.size ≤ (Lib.bytesWorld w e s).heap.size ∧ (∀ b, b < w.heap.size → (Lib.bytesWorld w e s).heap[b]? = w.heap[b]?) ∧ SameEnv w (Lib.bytesWorld w e s) := by
  unfold Lib.bytesWorld World.freeze
  have e : (w.drew.alloc (.cells (Lib.bytesCells w e s) e)).heap = w.heap.push (.cells (Lib.bytesCells w e s) e (0, 0)) := rfl
  rw [if_neg (by decide)]
  refine ⟨by simp only [Array.size_modify, e, Array.size_push]; omega, fun b hb => ?_, rfl, rfl, rfl⟩
  simp only [e]
  rw [Array.getElem?_modify, if_neg (by omega), Array.getElem?_push, if_neg (by omega)]
def F_itoa : List AVal → Option AVal
  | [.int .i64 n] => if -9223372036854775808 ≤ n ∧ n ≤ 9223372036854775807 then some (sv (Lib.itoa n)) else none
  | _ => none
theorem F_itoa_eq {n : Int} (h : -9223372036854775808 ≤ n ∧ n ≤ 9223372036854775807) : F_itoa [.int .i64 n] = some (sv (Lib.itoa n)) := if_pos h
theorem VL_1 {x : Ctx} {a : AVal} {vs : List Value} (h : VL x [a] vs) : ∃ u, vs = [u] ∧ V x a u := by
  simp only [VL] at h
  obtain ⟨u, _, rfl, hu, rfl⟩ := h
  exact ⟨u, rfl, hu⟩
theorem VL_2 {x : Ctx} {a b : AVal} {vs : List Value} (h : VL x [a, b] vs) : ∃ u v, vs = [u, v] ∧ V x a u ∧ V x b v := by
  simp only [VL] at h
  obtain ⟨u, _, rfl, hu, v, _, rfl, hv, rfl⟩ := h
  exact ⟨u, v, rfl, hu, hv⟩
def F_index : List AVal → Option AVal
  | [.str s, .int .u8 c] => some (.int .i64 (Lib.indexByte s.data.toList c.toNat.toUInt8))
  | _ => none
def F_atoi (te : TypeId) : List AVal → Option AVal
  | [.str s] => if s.size ≤ 281474976710656 then match Lib.atoiAll s.data.toList with
    | .ok v => some (.tup [.int .i64 v, .nili])
    | .range => some (.tup [.int .i64 (Lib.atoiSat s.data.toList), .ifc te .any])
    | _ => some (.tup [.int .i64 0, .ifc te .any]) else none
  | _ => none
/-- Texts, one by one. -/
def strsI : List AVal → Option (List (List UInt8))
  | [] => some []
  | .str s :: r => (strsI r).map (s.data.toList :: ·)
  | _ => none
def F_join : List AVal → Option AVal
  | [a, .str sep] => match a with
    | .nils => some (sv [])
    | .emp => some (sv [])
    | .slc 1 xs => match strsI xs with
      | some ls => if ls.length ≤ 140737488355328 ∧ (Lib.join ls sep.data.toList).length ≤ 140737488355328 then some (sv (Lib.join ls sep.data.toList)) else none
      | none => none
    | _ => none
  | _ => none
theorem strsI_map : ∀ (ls : List (List UInt8)), strsI (ls.map sv) = some ls
  | [] => rfl
  | l :: ls => by simp [strsI, strsI_map ls, bs_data]
theorem strsI_inv : ∀ {xs : List AVal} {ls : List (List UInt8)}, strsI xs = some ls → xs = ls.map sv
  | [], ls, h => by simp [strsI] at h; subst h; rfl
  | x :: xs, ls, h => by
    unfold strsI at h
    split at h
    · rename_i e; cases e
    · rename_i s r e
      cases e
      cases h' : strsI xs with
      | none => rw [h'] at h; cases h
      | some r =>
        rw [h'] at h
        simp only [Option.map_some, Option.some.injEq] at h
        subst h
        rw [strsI_inv h']
        simp [sv, ← bs_of]
    · cases h
attribute [go_sem] bs_mk bs_size str_add str_eql str_neq str_eq1
end Go.Xec
