/-
  A small abstract interpreter of the translated code: values, a heap with names, operations, code. Nothing here speaks of a world: XB .. XG prove it sound.
-/
import Derived.Orders
import GoSem.Core.Utf8
namespace Go.Xec
open Go

/-! ### values -/
abbrev Key := Nat × Nat

inductive AVal where
  | undef
  | any
  | bool (b : Bool)
  | int (k : IntKind) (n : Int)
  | str (s : ByteArray)
  | agg (xs : List AVal)
  | tup (xs : List AVal)
  | nilp
  | ptr (k : Key) (g i es off : Nat)
  | pvo (cs : List AVal) (off : Nat)
  | nils
  | emp
  | slc (es : Nat) (xs : List AVal)
  | sl (k : Key) (g es off len : Nat)
  | nili
  | ifc (t : TypeId) (v : AVal)
  | nilf
  | fn (f : Fn) (first captured : List AVal)
  | mp (k : Key)
  deriving Inhabited

/-- What is no row of cells: a text that is gone through, a map. -/
inductive AObj where
  | iter (s : ByteArray) (pos : Nat)
  | map (es : List (AVal × AVal × Nat)) (clock : Nat)
  deriving Inhabited

inductive Blk where
  | var (cells : List AVal)
  | row (g es : Nat) (elems : List AVal)
  | obj (ob : AObj)
  deriving Inhabited

abbrev Heap := Key → Option Blk
abbrev Wr := List (Key × Option Blk)

def Blk.gen : Blk → Nat
  | .var _ => 0
  | .row g _ _ => g
  | .obj _ => 0

def upd (h : Heap) (k : Key) (b : Option Blk) : Heap := fun k' => if k' = k then b else h k'
def applyW (h : Heap) : Wr → Heap
  | [] => h
  | (k, b) :: ws => applyW (upd h k b) ws

/-! ### reading programs: what they read is known -/
inductive Rd (α : Type) where
  | ret (a : α)
  | fail
  | get (k : Key) (f : Option Blk → Rd α)

namespace Rd
def bind {α β : Type} : Rd α → (α → Rd β) → Rd β
  | .ret a, f => f a
  | .fail, _ => .fail
  | .get k g, f => .get k fun b => (g b).bind f
def run {α : Type} (h : Heap) : Rd α → Option α
  | .ret a => some a
  | .fail => none
  | .get k f => (f (h k)).run h
def reads {α : Type} (h : Heap) : Rd α → List Key
  | .ret _ => []
  | .fail => []
  | .get k f => k :: (f (h k)).reads h
def ofO {α : Type} : Option α → Rd α
  | some a => .ret a
  | none => .fail
end Rd

/-! ### pieces of values -/
def cellsOf : AVal → List AVal
  | .agg xs => xs
  | x => [x]
def isSc : AVal → Bool
  | .agg _ => false
  | .tup _ => false
  | .undef => false
  | .any => false
  | _ => true
def remake (e : AVal) (cs : List AVal) : AVal :=
  match e with
  | .agg _ => .agg cs
  | _ => cs.headD .undef
def splice (cs : List AVal) (off : Nat) (new : List AVal) : List AVal := cs.take off ++ (new ++ cs.drop (off + new.length))
def takeV (agg : Bool) (n off : Nat) (cs : List AVal) : Option AVal :=
  if agg then (if off + n ≤ cs.length then some (.agg ((cs.drop off).take n)) else none) else cs[off]?
def Blk.cs (b : Blk) (g i es : Nat) : Option (List AVal) :=
  match b with
  | .var cells => if g = 0 then some (cells.drop (i * es)) else none
  | .row g' es' elems => if g = g' ∧ es = es' then (elems[i]?).map cellsOf else none
  | .obj _ => none
def Blk.els (b : Blk) (g es off len : Nat) : Option (List AVal) :=
  match b with
  | .var cells => if g = 0 ∧ es = 1 ∧ off + len ≤ cells.length ∧ ((cells.drop off).take len).all isSc = true then some ((cells.drop off).take len) else none
  | .row g' es' elems => if g = g' ∧ es = es' ∧ off + len ≤ elems.length then some ((elems.drop off).take len) else none
  | .obj _ => none

/-! ### handing over by value: what a view shows, deep; and the names that were looked through -/
mutual
def lend : Nat → AVal → Rd (AVal × List Key)
  | d, .sl k g es off len => match d with
    | 0 => .fail
    | d + 1 => .get k fun b => match b with
      | none => .fail
      | some b => match b.els g es off len with
        | none => .fail
        | some xs => (lendL d xs).bind fun r => .ret (.slc es r.1, k :: r.2)
  | d, .agg xs => match d with
    | 0 => .fail
    | d + 1 => (lendL d xs).bind fun r => .ret (.agg r.1, r.2)
  | d, .tup xs => match d with
    | 0 => .fail
    | d + 1 => (lendL d xs).bind fun r => .ret (.tup r.1, r.2)
  | d, .fn f first cap => match d with
    | 0 => .fail
    | d + 1 => (lendL d first).bind fun r => (lendL d cap).bind fun q => .ret (.fn f r.1 q.1, r.2 ++ q.2)
  | d, .ifc t v => match d with
    | 0 => .fail
    | d + 1 => (lend d v).bind fun r => .ret (.ifc t r.1, r.2)
  | d, .ptr k g i es off => match d with
    | 0 => .fail
    | d + 1 => .get k fun b => match b with
      | some (.var cells) => if g = 0 then (lendL d cells).bind fun r => .ret (.pvo r.1 (i * es + off), k :: r.2) else .fail
      | _ => .fail
  | _, .mp .. => .fail
  | _, x => .ret (x, [])
def lendL : Nat → List AVal → Rd (List AVal × List Key)
  | _, [] => .ret ([], [])
  | d, x :: xs => (lend d x).bind fun r => (lendL d xs).bind fun q => .ret (r.1 :: q.1, r.2 ++ q.2)
end

mutual
def hasRef : AVal → Bool
  | .ptr .. => true
  | .mp .. => true
  | .pvo .. => true
  | .slc _ _ => true
  | .sl .. => true
  | .any => true
  | .agg xs => hasRefL xs
  | .tup xs => hasRefL xs
  | .fn _ first cap => hasRefL first || hasRefL cap
  | .ifc _ v => hasRef v
  | _ => false
def hasRefL : List AVal → Bool
  | [] => false
  | x :: xs => hasRef x || hasRefL xs
end

/-! ### operations -/
inductive XArg where
  | t (n : Nat)
  | c (v : AVal)
  deriving Inhabited

inductive XOp where
  | mv (x : XArg)
  | pick (c a b : XArg)
  | alloc (cells : List AVal)
  | box (x : XArg)
  | build (zero : List AVal) (parts : List (Nat × Nat × XArg))
  | mkslice (es : Nat) (zero : AVal) (n : Nat) (parts : List (Nat × XArg))
  | load (agg : Bool) (n : Nat) (x : XArg)
  | store (n : Nat) (x y : XArg)
  | bin (op : BinOp) (x y : XArg)
  | eqB (neg : Bool) (x y : XArg)
  | eqN (neg : Bool) (kd : Nat) (x : XArg)
  | idS (x : XArg)
  | nilChk (x : XArg)
  | eqA (neg : Bool) (ks : List Nat) (x y : XArg)
  | un (op : UnOp) (x : XArg)
  | conv (k : IntKind) (x : XArg)
  | fa (off : Nat) (x : XArg)
  | fld (agg : Bool) (n off : Nat) (x : XArg)
  | iaA (n es : Nat) (x i : XArg)
  | iaS (es : Nat) (x i : XArg)
  | ixA (agg : Bool) (n es : Nat) (x i : XArg)
  | ixS (x i : XArg)
  | mkS (es bytes : Nat) (zero : AVal) (l c : XArg)
  | slS (x : XArg) (lo hi : Option XArg)
  | slV (es : Nat) (x : XArg) (lo hi mx : Option XArg)
  | slA (n es : Nat) (x : XArg) (lo hi : Option XArg)
  | lenS (x : XArg)
  | lenV (x : XArg)
  | app (es bytes : Nat) (x y : XArg)
  | cpy (es : Nat) (x y : XArg)
  | mnx (isMax : Bool) (x : XArg) (xs : List XArg)
  | call (f : XArg) (args : List XArg)
  | callN (f : XArg) (args : List XArg)
  | ext (x : XArg) (i : Nat)
  | mkf (f : Fn) (first captured : List XArg)
  | mki (t : TypeId) (x : XArg)
  | bad
  | b2s (x : XArg)
  | rngS (x : XArg)
  | nxtS (x : XArg)
  | mkM
  | lkp (kd : Nat) (comma : Bool) (zero : AVal) (x i : XArg)
  | mset (kd : Nat) (x i v : XArg)
  | ment (kd : Nat) (zero : AVal) (x i : XArg)
  | msto (x i v : XArg)
  | mdel (kd : Nat) (x i : XArg)
  | callM (f : XArg) (args : List XArg)
  | callA (f : XArg) (args : List XArg)
  deriving Inhabited

def arg (tm : Nat → AVal) : XArg → AVal
  | .t n => tm n
  | .c v => v

abbrev Outp := AVal × Wr

def intBin (op : BinOp) (k : IntKind) (a b : Int) : Option AVal :=
  match op with
  | .add => some (.int k (k.wrap (a + b)))
  | .sub => some (.int k (k.wrap (a - b)))
  | .mul => some (.int k (k.wrap (a * b)))
  | .quo => if b = 0 then none else some (.int k (k.wrap (a.tdiv b)))
  | .rem => if b = 0 then none else some (.int k (a.tmod b))
  | .and => some (.int k (k.wrap (BitVec.ofInt k.bits a &&& BitVec.ofInt k.bits b).toNat))
  | .or => some (.int k (k.wrap (BitVec.ofInt k.bits a ||| BitVec.ofInt k.bits b).toNat))
  | .xor => some (.int k (k.wrap (BitVec.ofInt k.bits a ^^^ BitVec.ofInt k.bits b).toNat))
  | .andNot => some (.int k (k.wrap (BitVec.ofInt k.bits a &&& ~~~BitVec.ofInt k.bits b).toNat))
  | .eql => some (.bool (a == b))
  | .neq => some (.bool (a != b))
  | .lss => some (.bool (a < b))
  | .leq => some (.bool (a ≤ b))
  | .gtr => some (.bool (a > b))
  | .geq => some (.bool (a ≥ b))
  | _ => none
def shiftBin (op : BinOp) (k : IntKind) (a b : Int) : Option AVal :=
  if b < 0 then none else
  match op with
  | .shl => some (.int k (k.wrap (a * 2 ^ (min b.toNat k.bits))))
  | .shr => some (.int k (a.fdiv (2 ^ (min b.toNat k.bits))))
  | _ => none
def strBin (op : BinOp) (a b : ByteArray) : Option AVal :=
  match op with
  | .add => if a.size + b.size < 9223372036854775808 then some (.str (a ++ b)) else none
  | .eql => some (.bool (a.toList == b.toList))
  | .neq => some (.bool !(a.toList == b.toList))
  | .lss => some (.bool (Op.bytesLess a.toList b.toList))
  | .leq => some (.bool (Op.bytesLess a.toList b.toList || a.toList == b.toList))
  | .gtr => some (.bool !(Op.bytesLess a.toList b.toList || a.toList == b.toList))
  | .geq => some (.bool !(Op.bytesLess a.toList b.toList))
  | _ => none
def isShift : BinOp → Bool
  | .shl => true
  | .shr => true
  | _ => false
def binA (op : BinOp) : AVal → AVal → Option AVal
  | .int k a, .int k' b => if isShift op then shiftBin op k a b else if k = k' then intBin op k a b else none
  | .str a, .str b => strBin op a b
  | _, _ => none
/-- is it nil? -/
def nilA : Nat → AVal → Option Bool
  | 0, .nils => some true
  | 0, .emp => some false
  | 0, .slc _ _ => some false
  | 0, .sl .. => some false
  | 1, .nili => some true
  | 1, .ifc _ _ => some false
  | 2, .nilp => some true
  | 2, .ptr .. => some false
  | 2, .pvo .. => some false
  | _, _ => none
/-- A pointer, a function, a value behind an interface that is surely there. -/
def liveA : AVal → Bool
  | .ptr .. => true
  | .pvo .. => true
  | .fn (.func _) _ _ => true
  | .ifc _ _ => true
  | _ => false
def unA (op : UnOp) : AVal → Option AVal
  | .int k n => match op with
    | .neg => some (.int k (k.wrap (0 - n)))
    | .xor => intBin .xor k (if k.signed then -1 else k.max) n
    | _ => none
  | .bool b => match op with
    | .not => some (.bool !b)
    | _ => none
  | _ => none
/-- '==' of two scalars of a kind: 0 a number, 1 a bool, 2 a text. -/
def eq1 : Nat → AVal → AVal → Option Bool
  | 0, .int k a, .int k' b => if k = k' then some (a == b) else none
  | 1, .bool a, .bool b => some (a == b)
  | 2, .str a, .str b => some (a.toList == b.toList)
  | _, _, _ => none
/-- '==' of two rows of scalars. -/
def eqCells : List Nat → List AVal → List AVal → Option Bool
  | [], [], [] => some true
  | k :: ks, x :: xs, y :: ys => match eq1 k x y, eqCells ks xs ys with
    | some a, some b => some (a && b)
    | _, _ => none
  | _, _, _ => none

def loadR (agg : Bool) (n : Nat) : AVal → Rd AVal
  | .ptr k g i es off => .get k fun b => match b with
    | none => .fail
    | some b => Rd.ofO ((b.cs g i es).bind (takeV agg n off))
  | .pvo cs off => Rd.ofO (takeV agg n off cs)
  | _ => .fail
def storeR (n : Nat) : AVal → AVal → Rd Outp
  | .ptr k g i es off, y => if (cellsOf y).length = n ∧ (cellsOf y).all isSc = true then
      .get k fun b => match b with
      | some (.var cells) => if g = 0 ∧ i * es + off + n ≤ cells.length then .ret (.undef, [(k, some (.var (splice cells (i * es + off) (cellsOf y))))]) else .fail
      | some (.row g' es' elems) => if g = g' ∧ es = es' then
          match elems[i]? with
          | some e => if off + n ≤ (cellsOf e).length then .ret (.undef, [(k, some (.row g' es' (elems.set i (remake e (splice (cellsOf e) off (cellsOf y))))))]) else .fail
          | none => .fail
        else .fail
      | some (.obj _) => .fail
      | none => .fail
    else .fail
  | _, _ => .fail
def faA (off : Nat) : AVal → Option AVal
  | .ptr k g i es o => some (.ptr k g i es (o + off))
  | .pvo cs o => some (.pvo cs (o + off))
  | _ => none
def iaAA (n es : Nat) : AVal → AVal → Option AVal
  | .ptr k g i es0 o, .int _ j => if 0 ≤ j ∧ j < n then some (.ptr k g i es0 (o + j.toNat * es)) else none
  | .pvo cs o, .int _ j => if 0 ≤ j ∧ j < n then some (.pvo cs (o + j.toNat * es)) else none
  | _, _ => none
def iaSA (es : Nat) : AVal → AVal → Option AVal
  | .slc es' xs, .int _ j => if es = es' ∧ 0 ≤ j then (xs[j.toNat]?).map fun x => .pvo (cellsOf x) 0 else none
  | .sl k g es' off len, .int _ j => if es = es' ∧ 0 ≤ j ∧ j < len then some (.ptr k g (off + j.toNat) es 0) else none
  | _, _ => none
def ixAA (agg : Bool) (n es : Nat) : AVal → AVal → Option AVal
  | .agg cs, .int _ j => if 0 ≤ j ∧ j < n then takeV agg es (j.toNat * es) cs else none
  | _, _ => none
def ixSA : AVal → AVal → Option AVal
  | .str s, .int _ j => if 0 ≤ j then (s[j.toNat]?).map fun b => .int .u8 b.toNat else none
  | _, _ => none
def fillA : List AVal → List (Nat × Nat × AVal) → Option (List AVal)
  | cs, [] => some cs
  | cs, (off, n, x) :: r => if (cellsOf x).length = n ∧ off + n ≤ cs.length ∧ (cellsOf x).all isSc = true then fillA (splice cs off (cellsOf x)) r else none
def fillE (es : Nat) : List AVal → List (Nat × AVal) → Option (List AVal)
  | xs, [] => some xs
  | xs, (i, x) :: r => if (cellsOf x).length = es ∧ i < xs.length ∧ (cellsOf x).all isSc = true then fillE es (xs.set i x) r else none
def bnd : Option AVal → Nat → Option Nat
  | none, d => some d
  | some (.int _ j), _ => if 0 ≤ j then some j.toNat else none
  | _, _ => none
def slSA (x : AVal) (lo hi : Option AVal) : Option AVal :=
  match x with
  | .str s => match bnd lo 0, bnd hi s.size with
    | some l, some h => if l ≤ h ∧ h ≤ s.size then some (.str (s.extract l h)) else none
    | _, _ => none
  | _ => none
def slVA (es0 : Nat) (x : AVal) (lo hi mx : Option AVal) : Option AVal :=
  match x, mx with
  | .slc es xs, none => match bnd lo 0, bnd hi xs.length with
    | some l, some h => if es = es0 ∧ l ≤ h ∧ h ≤ xs.length then some (.slc es ((xs.drop l).take (h - l))) else none
    | _, _ => none
  | .slc es xs, some m => match bnd lo 0, bnd hi xs.length, bnd (some m) 0 with
    | some l, some h, some m => if es = es0 ∧ l = h ∧ h = m ∧ m ≤ xs.length then some .emp else none
    | _, _, _ => none
  | .sl k g es off len, none => match bnd lo 0, bnd hi len with
    | some l, some h => if es = es0 ∧ l ≤ h ∧ h ≤ len then some (.sl k g es (off + l) (h - l)) else none
    | _, _ => none
  | .nils, none => match bnd lo 0, bnd hi 0 with
    | some 0, some 0 => some .nils
    | _, _ => none
  | .nils, some m => match bnd lo 0, bnd hi 0, bnd (some m) 0 with
    | some 0, some 0, some 0 => some .nils
    | _, _, _ => none
  | .emp, none => match bnd lo 0, bnd hi 0 with
    | some 0, some 0 => some .emp
    | _, _ => none
  | _, _ => none
def slAA (n es : Nat) (x : AVal) (lo hi : Option AVal) : Option AVal :=
  match x with
  | .ptr k 0 0 _ 0 => match bnd lo 0, bnd hi n with
    | some l, some h => if l ≤ h ∧ h ≤ n then some (.sl k 0 es l (h - l)) else none
    | _, _ => none
  | _ => none
def lenVA : AVal → Option AVal
  | .slc _ xs => some (.int .i64 xs.length)
  | .sl _ _ _ _ len => some (.int .i64 len)
  | .nils => some (.int .i64 0)
  | .emp => some (.int .i64 0)
  | _ => none
/-- What a slice (or a text) holds. -/
def elemsR (es : Nat) : AVal → Rd (List AVal)
  | .slc es' xs => if es = es' then .ret xs else .fail
  | .sl k g es' off len => if es = es' then .get k fun b => match b with
      | some b => Rd.ofO (b.els g es off len)
      | none => .fail
    else .fail
  | .nils => .ret []
  | .emp => .ret []
  | .str s => if es = 1 then .ret (s.data.toList.map fun b => .int .u8 b.toNat) else .fail
  | _ => .fail
def freeze : Nat := 64
def appR (es bytes : Nat) (key : Key) (x y : AVal) : Rd Outp :=
  (elemsR es y).bind fun new0 => (lendL freeze new0).bind fun r =>
  let new := r.1
  let gone : Wr := r.2.map fun k => (k, none)
  match x with
  | .nils => if new.isEmpty then .ret (.nils, gone) else
      if new.length * bytes ≤ 140737488355328 then .ret (.sl key 0 es 0 new.length, gone ++ [(key, some (.row 0 es new))]) else .fail
  | .emp => if new.isEmpty then .ret (.emp, gone) else
      if new.length * bytes ≤ 140737488355328 then .ret (.sl key 0 es 0 new.length, gone ++ [(key, some (.row 0 es new))]) else .fail
  | .sl k g es' off len => if es' = es ∧ r.2.contains k = false then .get k fun b => match b with
      | some (.row g' es'' elems) =>
        if g = g' ∧ es'' = es ∧ off + len = elems.length ∧ (len + new.length) * bytes ≤ 140737488355328 ∧ new.all (fun e => (cellsOf e).all isSc) = true then
          .ret (.sl k (g + 1) es 0 (len + new.length), gone ++ [(k, some (.row (g + 1) es (elems.drop off ++ new)))])
        else .fail
      | _ => .fail
    else .fail
  | _ => .fail
def cpyR (es : Nat) (x y : AVal) : Rd Outp :=
  (elemsR es y).bind fun ys =>
  match x with
  | .nils => .ret (.int .i64 0, [])
  | .emp => .ret (.int .i64 0, [])
  | .sl k g es' off len => if es' = es then .get k fun b => match b with
      | some (.row g' es'' elems) =>
        let new := ys.take len
        if g = g' ∧ es'' = es ∧ off + len ≤ elems.length ∧ new.all (fun e => (cellsOf e).length == es && (cellsOf e).all isSc) = true then
          .ret (.int .i64 new.length, [(k, some (.row g' es (splice elems off new)))])
        else .fail
      | some (.var cells) =>
        let new := ys.take len
        if g = 0 ∧ es = 1 ∧ off + len ≤ cells.length ∧ new.all isSc = true then
          .ret (.int .i64 new.length, [(k, some (.var (splice cells off new)))])
        else .fail
      | some (.obj _) => .fail
      | none => .fail
    else .fail
  | _ => .fail
def mnxA (isMax : Bool) : AVal → List AVal → Option AVal
  | x, [] => some x
  | .int k a, .int _ b :: r => mnxA isMax (.int k (if isMax then (if b > a then b else a) else (if b < a then b else a))) r
  | _, _ => none

def bytesOf : List AVal → Option (List UInt8)
  | [] => some []
  | .int .u8 n :: r => (bytesOf r).map (UInt8.ofNat n.toNat :: ·)
  | _ => none
/-- Is a key the same? -/
def keq : Nat → AVal → AVal → Option Bool
  | 0, .int k a, .int k' b => if k = k' then some (a == b) else none
  | 1, .bool a, .bool b => some (a == b)
  | 2, .str a, .str b => some (a == b)
  | n + 3, .agg xs, .agg ys => eqCells (List.replicate n 0) xs ys
  | _, _, _ => none
/-- Is a key of that kind? (From 3 on: a struct of so many numbers.) -/
def isIntA : AVal → Bool
  | .int _ _ => true
  | _ => false
def keyOk : Nat → AVal → Bool
  | n + 3, .agg xs => decide (xs.length = n) && xs.all isIntA
  | _ + 3, _ => false
  | _, _ => true
/-- Where a key stands, with what, and its stamp. -/
def findA (kd : Nat) (k : AVal) : List (AVal × AVal × Nat) → Nat → Option (Option (Nat × AVal × Nat))
  | [], _ => if keyOk kd k = true then some none else none
  | e :: es, i => match keq kd k e.1 with
    | some true => some (some (i, e.2.1, e.2.2))
    | some false => findA kd k es (i + 1)
    | none => none
def b2sR (x : AVal) : Rd Outp := match x with
  | .str _ => .fail
  | x => (elemsR 1 x).bind fun ys => (Rd.ofO (bytesOf ys)).bind fun s => .ret (.str ⟨s.toArray⟩, [])
def nxtSR : AVal → Rd Outp
  | .ptr k 0 0 _ 0 => .get k fun b => match b with
    | some (.obj (.iter s pos)) => if pos < s.size then
        .ret (.tup [.bool true, .int .i64 pos, .int .i32 (Utf8.decode s pos).1], [(k, some (.obj (.iter s (pos + (Utf8.decode s pos).2))))])
      else .ret (.tup [.bool false], [])
    | _ => .fail
  | _ => .fail
def lkpR (kd : Nat) (comma : Bool) (zero : AVal) (x i : AVal) : Rd Outp := match x with
  | .mp k => .get k fun b => match b with
    | some (.obj (.map es _)) => match findA kd i es 0 with
      | some (some (_, v, _)) => .ret (if comma then .tup [v, .bool true] else v, [])
      | some none => .ret (if comma then .tup [zero, .bool false] else zero, [])
      | none => .fail
    | _ => .fail
  | _ => .fail
def msetR (kd : Nat) (x i v : AVal) : Rd Outp := match x with
  | .mp k => .get k fun b => match b with
    | some (.obj (.map es cl)) => match findA kd i es 0 with
      | some (some (j, _, n)) => .ret (.undef, [(k, some (.obj (.map (es.set j (i, v, n)) cl)))])
      | some none => .ret (.undef, [(k, some (.obj (.map (es ++ [(i, v, cl)]) (cl + 1))))])
      | none => .fail
    | _ => .fail
  | _ => .fail
def mentR (kd : Nat) (zero x i : AVal) : Rd Outp := match x with
  | .mp k => .get k fun b => match b with
    | some (.obj (.map es cl)) => match findA kd i es 0 with
      | some (some (j, v, n)) => .ret (.tup [v, .int .i64 n], [(k, some (.obj (.map (es.set j (i, v, n)) cl)))])
      | some none => .ret (.tup [zero, .int .i64 cl], [(k, some (.obj (.map (es ++ [(i, zero, cl)]) (cl + 1))))])
      | none => .fail
    | _ => .fail
  | _ => .fail
def mdelR (kd : Nat) (x i : AVal) : Rd Outp := match x with
  | .mp k => .get k fun b => match b with
    | some (.obj (.map es cl)) => match findA kd i es 0 with
      | some (some (j, _, _)) => .ret (.tup [], [(k, some (.obj (.map (es.eraseIdx j) cl)))])
      | some none => .ret (.tup [], [(k, some (.obj (.map es cl)))])
      | none => .fail
    | _ => .fail
  | _ => .fail
/-- The place of a stamp. -/
def bornA (n : Int) (es : List (AVal × AVal × Nat)) : Option Nat := es.findIdx? fun e => (e.2.2 : Int) == n
def mstoR (x i v : AVal) : Rd Outp := match x, i with
  | .mp k, .int .i64 n => .get k fun b => match b with
    | some (.obj (.map es cl)) => match bornA n es with
      | some j => match es[j]? with
        | some e => .ret (.undef, [(k, some (.obj (.map (es.set j (e.1, v, e.2.2)) cl)))])
        | none => .fail
      | none => .fail
    | _ => .fail
  | _, _ => .fail

/-- All operations but calls. -/
def opR (key : Key) (op : XOp) (e : XArg → AVal) : Rd Outp :=
  match op with
  | .mv x => .ret (e x, [])
  | .pick c a b => match e c with
    | .bool t => .ret (if t then e a else e b, [])
    | _ => .fail
  | .alloc cells => .ret (.ptr key 0 0 0 0, [(key, some (.var cells))])
  | .box x => if (cellsOf (e x)).all isSc = true then .ret (.ptr key 0 0 0 0, [(key, some (.var (cellsOf (e x))))]) else .fail
  | .build zero parts => match fillA zero (parts.map fun p => (p.1, p.2.1, e p.2.2)) with
    | some cs => .ret (.agg cs, [])
    | none => .fail
  | .mkslice es zero n parts => match fillE es (List.replicate n zero) (parts.map fun p => (p.1, e p.2)) with
    | some xs => .ret (.sl key 0 es 0 n, [(key, some (.row 0 es xs))])
    | none => .fail
  | .load agg n x => (loadR agg n (e x)).bind fun v => .ret (v, [])
  | .store n x y => storeR n (e x) (e y)
  | .bin op x y => (Rd.ofO (binA op (e x) (e y))).bind fun v => .ret (v, [])
  | .eqB neg x y => match e x, e y with
    | .bool a, .bool b => .ret (.bool (if neg then !(a == b) else a == b), [])
    | _, _ => .fail
  | .eqN neg kd x => (Rd.ofO (nilA kd (e x))).bind fun b => .ret (.bool (if neg then !b else b), [])
  | .nilChk x => if liveA (e x) = true then .ret (e x, []) else .fail
  | .idS x => match e x with
    | .str s => .ret (.str s, [])
    | _ => .fail
  | .eqA neg ks x y => match e x, e y with
    | .agg xs, .agg ys => (Rd.ofO (eqCells ks xs ys)).bind fun b => .ret (.bool (if neg then !b else b), [])
    | _, _ => .fail
  | .un op x => (Rd.ofO (unA op (e x))).bind fun v => .ret (v, [])
  | .conv k x => match e x with
    | .int _ n => .ret (.int k (k.wrap n), [])
    | _ => .fail
  | .fa off x => (Rd.ofO (faA off (e x))).bind fun v => .ret (v, [])
  | .fld agg n off x => match e x with
    | .agg cs => (Rd.ofO (takeV agg n off cs)).bind fun v => .ret (v, [])
    | _ => .fail
  | .iaA n es x i => (Rd.ofO (iaAA n es (e x) (e i))).bind fun v => .ret (v, [])
  | .iaS es x i => (Rd.ofO (iaSA es (e x) (e i))).bind fun v => .ret (v, [])
  | .ixA agg n es x i => (Rd.ofO (ixAA agg n es (e x) (e i))).bind fun v => .ret (v, [])
  | .ixS x i => (Rd.ofO (ixSA (e x) (e i))).bind fun v => .ret (v, [])
  | .mkS es bytes zero l c => match e l, e c with
    | .int _ l, .int _ c => if 0 ≤ l ∧ l ≤ c ∧ bytes * c ≤ 281474976710656 then
        .ret (.sl key 0 es 0 l.toNat, [(key, some (.row 0 es (List.replicate l.toNat zero)))]) else .fail
    | _, _ => .fail
  | .slS x lo hi => (Rd.ofO (slSA (e x) (lo.map e) (hi.map e))).bind fun v => .ret (v, [])
  | .slV es x lo hi mx => (Rd.ofO (slVA es (e x) (lo.map e) (hi.map e) (mx.map e))).bind fun v => .ret (v, [])
  | .slA n es x lo hi => match e x with
    | .ptr k 0 0 es' 0 => .get k fun b => match b with
      | some (.var cells) => if n * es ≤ cells.length then (Rd.ofO (slAA n es (.ptr k 0 0 es' 0) (lo.map e) (hi.map e))).bind fun v => .ret (v, []) else .fail
      | _ => .fail
    | _ => .fail
  | .lenS x => match e x with
    | .str s => .ret (.int .i64 s.size, [])
    | _ => .fail
  | .lenV x => (Rd.ofO (lenVA (e x))).bind fun v => .ret (v, [])
  | .app es bytes x y => appR es bytes key (e x) (e y)
  | .cpy es x y => cpyR es (e x) (e y)
  | .mnx isMax x xs => (Rd.ofO (mnxA isMax (e x) (xs.map e))).bind fun v => .ret (v, [])
  | .call _ _ => .fail
  | .callN _ _ => .fail
  | .callM _ _ => .fail
  | .callA _ _ => .fail
  | .ext x i => match e x with
    | .tup xs => (Rd.ofO (xs[i]?)).bind fun v => .ret (v, [])
    | _ => .fail
  | .mkf f first cap => .ret (.fn f (first.map e) (cap.map e), [])
  | .mki t x => .ret (.ifc t (e x), [])
  | .bad => .fail
  | .b2s x => b2sR (e x)
  | .rngS x => match e x with
    | .str s => .ret (.ptr key 0 0 0 0, [(key, some (.obj (.iter s 0)))])
    | _ => .fail
  | .nxtS x => nxtSR (e x)
  | .mkM => .ret (.mp key, [(key, some (.obj (.map [] 0)))])
  | .lkp kd comma zero x i => lkpR kd comma zero (e x) (e i)
  | .mset kd x i v => msetR kd (e x) (e i) (e v)
  | .ment kd zero x i => mentR kd zero (e x) (e i)
  | .msto x i v => mstoR (e x) (e i) (e v)
  | .mdel kd x i => mdelR kd (e x) (e i)

/-! ### code -/
structure XOper where
  dst : Option Nat
  g : Option (Nat × Bool)
  op : XOp
  deriving Inhabited

structure XDraw where
  hot : List (Nat × Nat)
  deriving Inhabited

inductive XCode where
  | skip
  | reg (id : Nat) (ops : List XOper) (draw : Option XDraw)
  | seq (a b : XCode)
  | cond (c : XArg) (a b : XCode)
  | block (id : Nat) (c : XCode)
  | loop (c : XCode)
  | exit (id : Nat)
  | ret
  | bad
  deriving Inhabited

inductive XRes where
  | tmp (t : Nat)
  | cell (a : Nat) (agg : Bool) (n : Nat)
  deriving Inhabited

structure XFunc where
  nt : Nat
  np : Nat
  res : List XRes
  body : XCode
  deriving Inhabited

structure Cfg where
  Γ : FuncId → Option (List AVal → Option AVal)
  xf : FuncId → Option XFunc
  Γn : FuncId → Option (List AVal → Option (Option (Nat × List AVal)))
  Γm : FuncId → Option (List (AVal × AVal × Nat) → Nat → Option (Option (Nat × List AVal)))
  Γa : FuncId → Option (TypeId × TypeId × Nat)

structure St where
  tm : Nat → AVal
  hp : Heap
  nc : Nat

def updT (tm : Nat → AVal) (d : Nat) (v : AVal) : Nat → AVal := fun m => if m = d then v else tm m
def putO (tm : Nat → AVal) (d : Option Nat) (v : AVal) : Nat → AVal :=
  match d with
  | some d => updT tm d v
  | none => tm

abbrev Inl := FuncId → List AVal → Heap → Nat → Option (AVal × Heap × Nat)

def target : AVal → List AVal → Option (FuncId × List AVal)
  | .fn (.func f) first cap, args => some (f, first ++ args ++ cap)
  | _, _ => none

def callR (F : List AVal → Option AVal) (args : List AVal) : Rd Outp :=
  (lendL freeze args).bind fun r => match F r.1 with
    | some v => .ret (v, if hasRef v then r.2.map (fun k => (k, none)) else [])
    | none => .fail

/-- A call that answers a row of its own, that nobody else knows of; or none. -/
def callNR (key : Key) (F : List AVal → Option (Option (Nat × List AVal))) (args : List AVal) : Rd Outp :=
  (lendL freeze args).bind fun r => match F r.1 with
    | some (some p) => if hasRefL p.2 = false then .ret (.sl key 0 p.1 0 p.2.length, [(key, some (.row 0 p.1 p.2))]) else .fail
    | some none => .ret (.nils, [])
    | none => .fail

/-- A call that is handed a map, looks at it, and answers a row of its own; or none. -/
def callMR (key : Key) (F : List (AVal × AVal × Nat) → Nat → Option (Option (Nat × List AVal))) : List AVal → Rd Outp
  | [.mp k] => .get k fun b => match b with
    | some (.obj (.map es cl)) => match F es cl with
      | some (some p) => if hasRefL p.2 = false then .ret (.sl key 0 p.1 0 p.2.length, [(key, some (.row 0 p.1 p.2))]) else .fail
      | some none => .ret (.nils, [])
      | none => .fail
    | _ => .fail
  | _ => .fail

/-- A call that is handed an error and a pointer to a variable of one type of errors: is it of that type? Then the variable is set. -/
def callAR (t tp n : Nat) : List AVal → Rd Outp
  | [.nili, _] => .ret (.bool false, [])
  | [.ifc t' (.agg cs), .ifc tp' (.ptr k 0 0 0 0)] =>
    if t' = t ∧ tp' = tp ∧ cs.length = n ∧ (cs.all isSc) = true then .get k fun b => match b with
      | some (.var cells) => if cells.length = n then .ret (.bool true, [(k, some (.var cs))]) else .fail
      | _ => .fail
    else .fail
  | _ => .fail

/-- What an operation is to do: a reading program, or a call that is gone into. -/
def rdOf (C : Cfg) (key : Key) (op : XOp) (e : XArg → AVal) : Rd Outp ⊕ (FuncId × List AVal) :=
  match op with
  | .call f as => match target (e f) (as.map e) with
    | some (g, vs) => match C.Γ g with
      | some F => .inl (callR F vs)
      | none => .inr (g, vs)
    | none => .inl .fail
  | .callN f as => match target (e f) (as.map e) with
    | some (g, vs) => match C.Γn g with
      | some F => .inl (callNR key F vs)
      | none => .inl .fail
    | none => .inl .fail
  | .callM f as => match target (e f) (as.map e) with
    | some (g, vs) => match C.Γm g with
      | some F => .inl (callMR key F vs)
      | none => .inl .fail
    | none => .inl .fail
  | .callA f as => match target (e f) (as.map e) with
    | some (g, vs) => match C.Γa g with
      | some q => .inl (callAR q.1 q.2.1 q.2.2 vs)
      | none => .inl .fail
    | none => .inl .fail
  | op => .inl (opR key op e)
def runP (inl : Inl) (p : Rd Outp ⊕ (FuncId × List AVal)) (h : Heap) (nc : Nat) : Option (AVal × Heap × Nat) :=
  match p with
  | .inl r => (r.run h).map fun r => (r.1, applyW h r.2, nc)
  | .inr (g, vs) => inl g vs h nc

/-- Is an operation carried out? -/
def goes (tm : Nat → AVal) : Option (Nat × Bool) → Option Bool
  | none => some true
  | some (s, want) => match tm s with
    | .bool b => some (b == want)
    | .undef => some false
    | _ => none

def site (fid rid i : Nat) : Nat := (fid * 1000 + rid) * 1000 + i

def progO (C : Cfg) (key : Key) (o : XOper) (tm : Nat → AVal) : Option (Rd Outp ⊕ (FuncId × List AVal)) :=
  match goes tm o.g with
  | none => none
  | some b => some (if b then rdOf C key o.op (arg tm) else .inl (.ret (.undef, [])))
def stepO (C : Cfg) (inl : Inl) (key : Key) (o : XOper) (st : St) : Option St :=
  match progO C key o st.tm with
  | none => none
  | some p => (runP inl p st.hp st.nc).map fun r => ⟨putO st.tm o.dst r.1, r.2.1, r.2.2⟩

def runOps (C : Cfg) (inl : Inl) (fid rid c : Nat) : Nat → List XOper → St → Option St
  | _, [], st => some st
  | i, o :: os, st => (stepO C inl (site fid rid i, c) o st).bind fun st' => runOps C inl fid rid c (i + 1) os st'

/-- What an operation reads: the names; or, of a call that is gone into, which names it leaves as they were. -/
inductive Rds where
  | kn (l : List Key)
  | cl (kp : Key → Prop)
abbrev Foot := Rds × List Key
/-- What an operation reads, and the names that it writes. -/
def footP (p : Rd Outp ⊕ (FuncId × List AVal)) (h h' : Heap) : Foot :=
  match p with
  | .inl r => (.kn (r.reads h), match r.run h with | some r => r.2.map (·.1) | none => [])
  | .inr _ => (.cl (fun k => h' k = h k), [])
def foot (C : Cfg) (key : Key) (o : XOper) (st : St) (h' : Heap) : Foot :=
  match progO C key o st.tm with
  | some p => footP p st.hp h'
  | none => (.kn [], [])

def runOpsF (C : Cfg) (inl : Inl) (fid rid c : Nat) : Nat → List XOper → St → Option (St × List Foot)
  | _, [], st => some (st, [])
  | i, o :: os, st => (stepO C inl (site fid rid i, c) o st).bind fun st' =>
      (runOpsF C inl fid rid c (i + 1) os st').map fun r => (r.1, foot C (site fid rid i, c) o st st'.hp :: r.2)

def disj (a b : List Key) : Bool := a.all fun k => !b.contains k
open Classical in
noncomputable def apartF (x y : Foot) : Bool :=
  match x.1, y.1 with
  | .kn rx, .kn ry => disj x.2 (ry ++ y.2) && disj y.2 rx
  | .cl p, .kn ry => y.2.isEmpty && decide (∀ k ∈ ry, p k)
  | .kn rx, .cl p => x.2.isEmpty && decide (∀ k ∈ rx, p k)
  | .cl _, .cl _ => false
noncomputable def hotOk (fs : List Foot) (hot : List (Nat × Nat)) : Bool :=
  hot.all fun p => match fs[p.1]?, fs[p.2]? with
    | some x, some y => apartF x y
    | _, _ => false

noncomputable def runReg (C : Cfg) (inl : Inl) (fid rid : Nat) (ops : List XOper) (draw : Option XDraw) (st : St) : Option St :=
  match draw with
  | none => runOps C inl fid rid st.nc 0 ops { st with nc := st.nc + 1 }
  | some d => match d.hot with
    | [] => runOps C inl fid rid st.nc 0 ops { st with nc := st.nc + 1 }
    | hot => match runOpsF C inl fid rid st.nc 0 ops { st with nc := st.nc + 1 } with
      | some (st', fs) => if hotOk fs hot = true then some st' else none
      | none => none

inductive Out where
  | nrm
  | ext (id : Nat)
  | ret
  deriving DecidableEq, Inhabited

abbrev Res := Option (Out × St)

def iterN : Nat → (St → Res) → St → Res
  | 0, _, _ => none
  | n + 1, f, st => match f st with
    | some (.nrm, st') => iterN n f st'
    | r => r

def fuelL : Nat := 4611686018427387904

noncomputable def execC (C : Cfg) (inl : Inl) (fid : Nat) : XCode → St → Res
  | .skip, st => some (.nrm, st)
  | .reg id ops draw, st => (runReg C inl fid id ops draw st).map fun st' => (.nrm, st')
  | .seq a b, st => match execC C inl fid a st with
    | some (.nrm, st') => execC C inl fid b st'
    | r => r
  | .cond c a b, st => match arg st.tm c with
    | .bool t => if t then execC C inl fid a st else execC C inl fid b st
    | _ => none
  | .block id c, st => match execC C inl fid c st with
    | some (.ext i, st') => if i = id then some (.nrm, st') else some (.ext i, st')
    | r => r
  | .loop c, st => iterN fuelL (fun s => execC C inl fid c s) st
  | .exit id, st => some (.ext id, st)
  | .ret, st => some (.ret, st)
  | .bad, _ => none

def resR (st : St) : XRes → Option AVal
  | .tmp t => some (st.tm t)
  | .cell a agg n => (loadR agg n (st.tm a)).run st.hp
def resL (st : St) : List XRes → Option (List AVal)
  | [] => some []
  | r :: rs => match resR st r, resL st rs with
    | some v, some vs => some (v :: vs)
    | _, _ => none
def one : List AVal → AVal
  | [x] => x
  | xs => .tup xs

def tm0 (args : List AVal) : Nat → AVal := fun m => (args[m]?).getD .undef

noncomputable def execF (C : Cfg) (inl : Inl) (fid : Nat) (x : XFunc) (args : List AVal) (h : Heap) (nc : Nat) : Option (AVal × Heap × Nat) :=
  if args.length = x.np then
    match execC C inl fid x.body ⟨tm0 args, h, nc⟩ with
    | some (.nrm, st) => (resL st x.res).map fun vs => (one vs, st.hp, st.nc)
    | some (.ret, st) => (resL st x.res).map fun vs => (one vs, st.hp, st.nc)
    | _ => none
  else none

noncomputable def inlD (C : Cfg) : Nat → Inl
  | 0 => fun _ _ _ _ => none
  | d + 1 => fun f as h nc => match C.xf f with
    | some x => execF C (inlD C d) f x as h nc
    | none => none

/-- A call that is handed no names: what it answers, by value. -/
noncomputable def pureF (C : Cfg) (d : Nat) (f : FuncId) (as : List AVal) : Option AVal :=
  match inlD C d f as (fun _ => none) 0 with
  | some (v, h, _) => ((lend freeze v).run h).map (·.1)
  | none => none

end Go.Xec
