/-
  Laid together: part 1.
-/
import Derived.Orders
import GoSem.Core.Utf8
import Derived.Laws.Cells
import Derived.Laws.CopyRow
import Derived.ChangeKeysEq
import Derived.Laws.StructEq
import Derived.Laws.BytesString
import Derived.MapKept
import Derived.Lib.TrailingZeros
import Derived.Lib.LaidTab
import Derived.Lib.ItoaNum
import GoSem.ClaimJoined
import Derived.LoopN
import Derived.Scope
import Derived.WalkKit
import Derived.ProofKit
import Derived.OpenShut
import Derived.ShutString
import Derived.ChangeOld
import Derived.Carry
import Derived.SizedLaws
import Derived.Handed
import Derived.ShapedOpen
import Derived.Laws.Externs
import Derived.Attr
import Derived.Lib.SlicesS
import Derived.Lib.AtoiAll
import Derived.Lib.Bytealg
import Derived.Lib.Join
import Derived.Lib.ConvBytes
import Derived.Sort.Grow
import Derived.Deep.Draws
import Derived.Below
import Derived.Test.YtkonpbcnekcjjaaGreatDoorProg
import Derived.BigCall
import Derived.Defers
import Derived.Recover
import Derived.Laws.EntriesVeiled
import Derived.StillTailTactics
import Derived.Tactics
import Derived.Tactics2
import Derived.Laws.Pointers
import Derived.Laws.LoneSync
import Derived.RegionTactic
import Derived.RegionCalls
import Derived.ChangeAlike
import Derived.RowKitTokens
import Derived.Deep.MidRow
import Derived.RangeFuncNested
import Derived.RangeFuncBound
import Derived.RangeFuncCalls
import Derived.RangeFuncLeaves
import Derived.Shelf.Abstract
import Derived.Shelf.RegionOpen
import Derived.OwnWalkIn
import Derived.TacticsInMore
import Derived.LoopNIn
import Derived.LoopIn
import Derived.ScopeJumps
import Derived.WalkMore
import Derived.Shelf.Strings.Builder1
import Derived.Shelf.Strings.Builder2
import Derived.Shelf.Small.Utf8
import Derived.Shelf.Small.Bits
import Derived.Shelf.Small.Strs
import Derived.Shelf.Strings.BuilderF
import Derived.Shelf.Strings.BuilderK
import Derived.Shelf.Utf8.RuneCount
import Derived.Shelf.Strings.Builder2Cap
import Derived.Shelf.Strconv.Atoi
import Derived.Shelf.Strconv.Itoa0
import Derived.Shelf.Strconv.Itoa1
import Derived.Shelf.LaysM
import Derived.Shelf.Strconv.Itoa2
import Derived.Shelf.Strconv.Itoa3
import Derived.Shelf.Strconv.AtoiErrFast
import Derived.Shelf.Strconv.ParseIntEmpty
import Derived.Shelf.Strconv.AtoiFail
import Derived.Shelf.Strconv.Clone
import Derived.Shelf.Strconv.SyntaxError
import Derived.Shelf.LaysC
import Derived.Shelf.Strconv.ToError
import Derived.Shelf.Strconv.AtoiErr
import Derived.Shelf.Strconv.ErrVar
import Derived.Shelf.Strconv.Lower
import Derived.Shelf.Strconv.ParseUint10
import Derived.Shelf.Strconv.ParseUint10Empty
import Derived.Shelf.Strconv.ParseUint10Any
import Derived.Shelf.Strconv.ParseInt10
import Derived.Shelf.Strconv.AtoiLong
import Derived.Shelf.Strconv.AtoiInnerAll
import Derived.Shelf.Strconv.RangeError
import Derived.Shelf.Strconv.ToErrorRange
import Derived.Shelf.Strconv.AtoiAll
import Derived.Shelf.Strconv.ErrVarAll
import Derived.Shelf.Strconv.ParseUintEmpty
import Derived.Shelf.Strconv.ParseUint10b64
import Derived.Shelf.Strconv.ParseUint10b32
import Derived.Shelf.Strconv.ParseUint10b16
import Derived.Shelf.Strconv.ParseUint10b8
import Derived.Shelf.Strconv.ParseUint10At
import Derived.Shelf.Strconv.ParseInt10At64
import Derived.Shelf.Strconv.ParseInt10At32
import Derived.Shelf.Strconv.ParseInt10At16
import Derived.Shelf.Strconv.ParseInt10At8
import Derived.Shelf.Strconv.ParseInt10All
import Derived.Shelf.Strings.Search1
import Derived.Shelf.Strings.Search2
import Derived.Shelf.Strings.Search3
import Derived.Shelf.Strings.Count
import Derived.Shelf.Strings.Shaped
import Derived.Shelf.Strings.Split
import Derived.Shelf.Strings.SplitShaped
import Derived.Shelf.Unicode.Decode
import Derived.Shelf.Strings.Runes
import Derived.Shelf.Strings.RuneCount
import Derived.Shelf.Strings.AsciiSet
import Derived.Shelf.Strings.Explode
import Derived.Shelf.Bits.Mul64
import Derived.Shelf.Unicode.DecodeSlow
import Derived.Shelf.Unicode.DecodeAny
import Derived.Shelf.Unicode.DecodeLast
import Derived.Shelf.Strings.BuilderCap
import Derived.Shelf.Slices.Turned
import Derived.Ground.Names2Prog
import Derived.Shelf.Slices.Clone
import Derived.Shelf.Slices.SearchI
import Derived.Ground.SlgnProg
import Derived.Shelf.SlicesE.Clone
import Derived.Ground.SlgcProg
import Derived.Shelf.SlicesG.Cmp
import Derived.Shelf.SlGeneric
import Derived.Ground.SlsfProg
import Derived.Shelf.SlSortCmp.WholeK
import Derived.Shelf.SlSortCmp.NoneTotal
import Derived.Shelf.Spec.TrailingZeros
import Derived.Shelf.Strings.MapGrows
import Derived.Deep.RegionHeld3
import Derived.Maps.RangeWalk
import Derived.Maps.AppendAt
import Derived.Maps.RangeRun
import Derived.Test.YtkonpbcnekcjjaaGreatDoorTie
import Derived.Stop.LaidErr
import Derived.Stop.ErrReads
import Derived.Lib.LaidU8
import Derived.LaidLaws
import Derived.MakeChecks
import Derived.LaidHandle
import Derived.Shelf.Vars
set_option linter.unusedVariables false
set_option linter.unusedSimpArgs false
namespace Go.Xec
open Go
abbrev Key := Nat × Nat
inductive AVal where
  | undef
  | any
  | bool (b : Bool)
  | int (k : IntKind) (n : Int)
  | str (s : ByteArray)
  | agg (xs : List AVal)
  | tup (xs : List AVal)
  | nilp
  | ptr (k : Key) (g i es off : Nat)
  | pvo (cs : List AVal) (off : Nat)
  | nils
  | emp
  | slc (es : Nat) (xs : List AVal)
  | sl (k : Key) (g es off len : Nat)
  | nili
  | ifc (t : TypeId) (v : AVal)
  | nilf
  | fn (f : Fn) (first captured : List AVal)
  | mp (k : Key)
  deriving Inhabited
inductive AObj where
  | iter (s : ByteArray) (pos : Nat)
  | map (es : List (AVal × AVal × Nat)) (clock : Nat)
  deriving Inhabited
inductive Blk where
  | var (cells : List AVal)
  | row (g es : Nat) (elems : List AVal)
  | obj (ob : AObj)
  deriving Inhabited
abbrev Heap := Key → Option Blk
abbrev Wr := List (Key × Option Blk)
def Blk.gen : Blk → Nat
  | .var _ => 0
  | .row g _ _ => g
  | .obj _ => 0
def upd (h : Heap) (k : Key) (b : Option Blk) : Heap := fun k' => if k' = k then b else h k'
def applyW (h : Heap) : Wr → Heap
  | [] => h
  | (k, b) :: ws => applyW (upd h k b) ws
inductive Rd (α : Type) where
  | ret (a : α)
  | fail
  | get (k : Key) (f : Option Blk → Rd α)
namespace Rd
def bind {α β : Type} : Rd α → (α → Rd β) → Rd β
  | .ret a, f => f a
  | .fail, _ => .fail
  | .get k g, f => .get k fun b => (g b).bind f
def run {α : Type} (h : Heap) : Rd α → Option α
  | .ret a => some a
  | .fail => none
  | .get k f => (f (h k)).run h
def reads {α : Type} (h : Heap) : Rd α → List Key
  | .ret _ => []
  | .fail => []
  | .get k f => k :: (f (h k)).reads h
def ofO {α : Type} : Option α → Rd α
  | some a => .ret a
  | none => .fail
end Rd
def cellsOf : AVal → List AVal
  | .agg xs => xs
  | x => [x]
def isSc : AVal → Bool
  | .agg _ => false
  | .tup _ => false
  | .undef => false
  | .any => false
  | _ => true
def remake (e : AVal) (cs : List AVal) : AVal :=
  match e with
  | .agg _ => .agg cs
  | _ => cs.headD .undef
def splice (cs : List AVal) (off : Nat) (new : List AVal) : List AVal := cs.take off ++ (new ++ cs.drop (off + new.length))
def takeV (agg : Bool) (n off : Nat) (cs : List AVal) : Option AVal :=
  if agg then (if off + n ≤ cs.length then some (.agg ((cs.drop off).take n)) else none) else cs[off]?
def Blk.cs (b : Blk) (g i es : Nat) : Option (List AVal) :=
  match b with
  | .var cells => if g = 0 then some (cells.drop (i * es)) else none
  | .row g' es' elems => if g = g' ∧ es = es' then (elems[i]?).map cellsOf else none
  | .obj _ => none
def Blk.els (b : Blk) (g es off len : Nat) : Option (List AVal) :=
  match b with
  | .var cells => if g = 0 ∧ es = 1 ∧ off + len ≤ cells.length ∧ ((cells.drop off).take len).all isSc = true then some ((cells.drop off).take len) else none
  | .row g' es' elems => if g = g' ∧ es = es' ∧ off + len ≤ elems.length then some ((elems.drop off).take len) else none
  | .obj _ => none
mutual
def lend : Nat → AVal → Rd (AVal × List Key)
  | d, .sl k g es off len => match d with
    | 0 => .fail
    | d + 1 => .get k fun b => match b with
      | none => .fail
      | some b => match b.els g es off len with
        | none => .fail
        | some xs => (lendL d xs).bind fun r => .ret (.slc es r.1, k :: r.2)
  | d, .agg xs => match d with
    | 0 => .fail
    | d + 1 => (lendL d xs).bind fun r => .ret (.agg r.1, r.2)
  | d, .tup xs => match d with
    | 0 => .fail
    | d + 1 => (lendL d xs).bind fun r => .ret (.tup r.1, r.2)
  | d, .fn f first cap => match d with
    | 0 => .fail
    | d + 1 => (lendL d first).bind fun r => (lendL d cap).bind fun q => .ret (.fn f r.1 q.1, r.2 ++ q.2)
  | d, .ifc t v => match d with
    | 0 => .fail
    | d + 1 => (lend d v).bind fun r => .ret (.ifc t r.1, r.2)
  | d, .ptr k g i es off => match d with
    | 0 => .fail
    | d + 1 => .get k fun b => match b with
      | some (.var cells) => if g = 0 then (lendL d cells).bind fun r => .ret (.pvo r.1 (i * es + off), k :: r.2) else .fail
      | _ => .fail
  | _, .mp .. => .fail
  | _, x => .ret (x, [])
def lendL : Nat → List AVal → Rd (List AVal × List Key)
  | _, [] => .ret ([], [])
  | d, x :: xs => (lend d x).bind fun r => (lendL d xs).bind fun q => .ret (r.1 :: q.1, r.2 ++ q.2)
end
mutual
def hasRef : AVal → Bool
  | .ptr .. => true
  | .mp .. => true
  | .pvo .. => true
  | .slc _ _ => true
  | .sl .. => true
  | .any => true
  | .agg xs => hasRefL xs
  | .tup xs => hasRefL xs
  | .fn _ first cap => hasRefL first || hasRefL cap
  | .ifc _ v => hasRef v
  | _ => false
def hasRefL : List AVal → Bool
  | [] => false
  | x :: xs => hasRef x || hasRefL xs
end
inductive XArg where
  | t (n : Nat)
  | c (v : AVal)
  deriving Inhabited
inductive XOp where
  | mv (x : XArg)
  | pick (c a b : XArg)
  | alloc (cells : List AVal)
  | box (x : XArg)
  | build (zero : List AVal) (parts : List (Nat × Nat × XArg))
  | mkslice (es : Nat) (zero : AVal) (n : Nat) (parts : List (Nat × XArg))
  | load (agg : Bool) (n : Nat) (x : XArg)
  | store (n : Nat) (x y : XArg)
  | bin (op : BinOp) (x y : XArg)
  | eqB (neg : Bool) (x y : XArg)
  | eqN (neg : Bool) (kd : Nat) (x : XArg)
  | idS (x : XArg)
  | nilChk (x : XArg)
  | eqA (neg : Bool) (ks : List Nat) (x y : XArg)
  | un (op : UnOp) (x : XArg)
  | conv (k : IntKind) (x : XArg)
  | fa (off : Nat) (x : XArg)
  | fld (agg : Bool) (n off : Nat) (x : XArg)
  | iaA (n es : Nat) (x i : XArg)
  | iaS (es : Nat) (x i : XArg)
  | ixA (agg : Bool) (n es : Nat) (x i : XArg)
  | ixS (x i : XArg)
  | mkS (es bytes : Nat) (zero : AVal) (l c : XArg)
  | slS (x : XArg) (lo hi : Option XArg)
  | slV (es : Nat) (x : XArg) (lo hi mx : Option XArg)
  | slA (n es : Nat) (x : XArg) (lo hi : Option XArg)
  | lenS (x : XArg)
  | lenV (x : XArg)
  | app (es bytes : Nat) (x y : XArg)
  | cpy (es : Nat) (x y : XArg)
  | mnx (isMax : Bool) (x : XArg) (xs : List XArg)
  | call (f : XArg) (args : List XArg)
  | callN (f : XArg) (args : List XArg)
  | ext (x : XArg) (i : Nat)
  | mkf (f : Fn) (first captured : List XArg)
  | mki (t : TypeId) (x : XArg)
  | bad
  | b2s (x : XArg)
  | rngS (x : XArg)
  | nxtS (x : XArg)
  | mkM
  | lkp (kd : Nat) (comma : Bool) (zero : AVal) (x i : XArg)
  | mset (kd : Nat) (x i v : XArg)
  | ment (kd : Nat) (zero : AVal) (x i : XArg)
  | msto (x i v : XArg)
  | mdel (kd : Nat) (x i : XArg)
  | callM (f : XArg) (args : List XArg)
  | callA (f : XArg) (args : List XArg)
  | inv (m : String) (x : XArg) (args : List XArg)
  | tas (t : TypeId) (zero : AVal) (x : XArg)
  | tai (yes no : List TypeId) (x : XArg)
  deriving Inhabited
def arg (tm : Nat → AVal) : XArg → AVal
  | .t n => tm n
  | .c v => v
abbrev Outp := AVal × Wr
def intBin (op : BinOp) (k : IntKind) (a b : Int) : Option AVal :=
  match op with
  | .add => some (.int k (k.wrap (a + b)))
  | .sub => some (.int k (k.wrap (a - b)))
  | .mul => some (.int k (k.wrap (a * b)))
  | .quo => if b = 0 then none else some (.int k (k.wrap (a.tdiv b)))
  | .rem => if b = 0 then none else some (.int k (a.tmod b))
  | .and => some (.int k (k.wrap (BitVec.ofInt k.bits a &&& BitVec.ofInt k.bits b).toNat))
  | .or => some (.int k (k.wrap (BitVec.ofInt k.bits a ||| BitVec.ofInt k.bits b).toNat))
  | .xor => some (.int k (k.wrap (BitVec.ofInt k.bits a ^^^ BitVec.ofInt k.bits b).toNat))
  | .andNot => some (.int k (k.wrap (BitVec.ofInt k.bits a &&& ~~~BitVec.ofInt k.bits b).toNat))
  | .eql => some (.bool (a == b))
  | .neq => some (.bool (a != b))
  | .lss => some (.bool (a < b))
  | .leq => some (.bool (a ≤ b))
  | .gtr => some (.bool (a > b))
  | .geq => some (.bool (a ≥ b))
  | _ => none
def shiftBin (op : BinOp) (k : IntKind) (a b : Int) : Option AVal :=
  if b < 0 then none else
  match op with
  | .shl => some (.int k (k.wrap (a * 2 ^ (min b.toNat k.bits))))
  | .shr => some (.int k (a.fdiv (2 ^ (min b.toNat k.bits))))
  | _ => none
def strBin (op : BinOp) (a b : ByteArray) : Option AVal :=
  match op with
  | .add => if a.size + b.size < 9223372036854775808 then some (.str (a ++ b)) else none
  | .eql => some (.bool (a.toList == b.toList))
  | .neq => some (.bool !(a.toList == b.toList))
  | .lss => some (.bool (Op.bytesLess a.toList b.toList))
  | .leq => some (.bool (Op.bytesLess a.toList b.toList || a.toList == b.toList))
  | .gtr => some (.bool !(Op.bytesLess a.toList b.toList || a.toList == b.toList))
  | .geq => some (.bool !(Op.bytesLess a.toList b.toList))
  | _ => none
def isShift : BinOp → Bool
  | .shl => true
  | .shr => true
  | _ => false
def binA (op : BinOp) : AVal → AVal → Option AVal
  | .int k a, .int k' b => if isShift op then shiftBin op k a b else if k = k' then intBin op k a b else none
  | .str a, .str b => strBin op a b
  | _, _ => none
def nilA : Nat → AVal → Option Bool
  | 0, .nils => some true
  | 0, .emp => some false
  | 0, .slc _ _ => some false
  | 0, .sl .. => some false
  | 1, .nili => some true
  | 1, .ifc _ _ => some false
  | 2, .nilp => some true
  | 2, .ptr .. => some false
  | 2, .pvo .. => some false
  | _, _ => none
def liveA : AVal → Bool
  | .ptr .. => true
  | .pvo .. => true
  | .fn (.func _) _ _ => true
  | .ifc _ _ => true
  | _ => false
def unA (op : UnOp) : AVal → Option AVal
  | .int k n => match op with
    | .neg => some (.int k (k.wrap (0 - n)))
    | .xor => intBin .xor k (if k.signed then -1 else k.max) n
    | _ => none
  | .bool b => match op with
    | .not => some (.bool !b)
    | _ => none
  | _ => none
def eq1 : Nat → AVal → AVal → Option Bool
  | 0, .int k a, .int k' b => if k = k' then some (a == b) else none
  | 1, .bool a, .bool b => some (a == b)
  | 2, .str a, .str b => some (a.toList == b.toList)
  | _, _, _ => none
def eqCells : List Nat → List AVal → List AVal → Option Bool
  | [], [], [] => some true
  | k :: ks, x :: xs, y :: ys => match eq1 k x y, eqCells ks xs ys with
    | some a, some b => some (a && b)
    | _, _ => none
  | _, _, _ => none
def loadR (agg : Bool) (n : Nat) : AVal → Rd AVal
  | .ptr k g i es off => .get k fun b => match b with
    | none => .fail
    | some b => Rd.ofO ((b.cs g i es).bind (takeV agg n off))
  | .pvo cs off => Rd.ofO (takeV agg n off cs)
  | _ => .fail
def storeR (n : Nat) : AVal → AVal → Rd Outp
  | .ptr k g i es off, y => if (cellsOf y).length = n ∧ (cellsOf y).all isSc = true then
      .get k fun b => match b with
      | some (.var cells) => if g = 0 ∧ i * es + off + n ≤ cells.length then .ret (.undef, [(k, some (.var (splice cells (i * es + off) (cellsOf y))))]) else .fail
      | some (.row g' es' elems) => if g = g' ∧ es = es' then
          match elems[i]? with
          | some e => if off + n ≤ (cellsOf e).length then .ret (.undef, [(k, some (.row g' es' (elems.set i (remake e (splice (cellsOf e) off (cellsOf y))))))]) else .fail
          | none => .fail
        else .fail
      | some (.obj _) => .fail
      | none => .fail
    else .fail
  | _, _ => .fail
def faA (off : Nat) : AVal → Option AVal
  | .ptr k g i es o => some (.ptr k g i es (o + off))
  | .pvo cs o => some (.pvo cs (o + off))
  | _ => none
def iaAA (n es : Nat) : AVal → AVal → Option AVal
  | .ptr k g i es0 o, .int _ j => if 0 ≤ j ∧ j < n then some (.ptr k g i es0 (o + j.toNat * es)) else none
  | .pvo cs o, .int _ j => if 0 ≤ j ∧ j < n then some (.pvo cs (o + j.toNat * es)) else none
  | _, _ => none
def iaSA (es : Nat) : AVal → AVal → Option AVal
  | .slc es' xs, .int _ j => if es = es' ∧ 0 ≤ j then (xs[j.toNat]?).map fun x => .pvo (cellsOf x) 0 else none
  | .sl k g es' off len, .int _ j => if es = es' ∧ 0 ≤ j ∧ j < len then some (.ptr k g (off + j.toNat) es 0) else none
  | _, _ => none
def ixAA (agg : Bool) (n es : Nat) : AVal → AVal → Option AVal
  | .agg cs, .int _ j => if 0 ≤ j ∧ j < n then takeV agg es (j.toNat * es) cs else none
  | _, _ => none
def ixSA : AVal → AVal → Option AVal
  | .str s, .int _ j => if 0 ≤ j then (s[j.toNat]?).map fun b => .int .u8 b.toNat else none
  | _, _ => none
def fillA : List AVal → List (Nat × Nat × AVal) → Option (List AVal)
  | cs, [] => some cs
  | cs, (off, n, x) :: r => if (cellsOf x).length = n ∧ off + n ≤ cs.length ∧ (cellsOf x).all isSc = true then fillA (splice cs off (cellsOf x)) r else none
def fillE (es : Nat) : List AVal → List (Nat × AVal) → Option (List AVal)
  | xs, [] => some xs
  | xs, (i, x) :: r => if (cellsOf x).length = es ∧ i < xs.length ∧ (cellsOf x).all isSc = true then fillE es (xs.set i x) r else none
def bnd : Option AVal → Nat → Option Nat
  | none, d => some d
  | some (.int _ j), _ => if 0 ≤ j then some j.toNat else none
  | _, _ => none
def slSA (x : AVal) (lo hi : Option AVal) : Option AVal :=
  match x with
  | .str s => match bnd lo 0, bnd hi s.size with
    | some l, some h => if l ≤ h ∧ h ≤ s.size then some (.str (s.extract l h)) else none
    | _, _ => none
  | _ => none
def slVA (es0 : Nat) (x : AVal) (lo hi mx : Option AVal) : Option AVal :=
  match x, mx with
  | .slc es xs, none => match bnd lo 0, bnd hi xs.length with
    | some l, some h => if es = es0 ∧ l ≤ h ∧ h ≤ xs.length then some (.slc es ((xs.drop l).take (h - l))) else none
    | _, _ => none
  | .slc es xs, some m => match bnd lo 0, bnd hi xs.length, bnd (some m) 0 with
    | some l, some h, some m => if es = es0 ∧ l = h ∧ h = m ∧ m ≤ xs.length then some .emp else none
    | _, _, _ => none
  | .sl k g es off len, none => match bnd lo 0, bnd hi len with
    | some l, some h => if es = es0 ∧ l ≤ h ∧ h ≤ len then some (.sl k g es (off + l) (h - l)) else none
    | _, _ => none
  | .nils, none => match bnd lo 0, bnd hi 0 with
    | some 0, some 0 => some .nils
    | _, _ => none
  | .nils, some m => match bnd lo 0, bnd hi 0, bnd (some m) 0 with
    | some 0, some 0, some 0 => some .nils
    | _, _, _ => none
  | .emp, none => match bnd lo 0, bnd hi 0 with
    | some 0, some 0 => some .emp
    | _, _ => none
  | _, _ => none
def slAA (n es : Nat) (x : AVal) (lo hi : Option AVal) : Option AVal :=
  match x with
  | .ptr k 0 0 _ 0 => match bnd lo 0, bnd hi n with
    | some l, some h => if l ≤ h ∧ h ≤ n then some (.sl k 0 es l (h - l)) else none
    | _, _ => none
  | _ => none
def lenVA : AVal → Option AVal
  | .slc _ xs => some (.int .i64 xs.length)
  | .sl _ _ _ _ len => some (.int .i64 len)
  | .nils => some (.int .i64 0)
  | .emp => some (.int .i64 0)
  | _ => none
def elemsR (es : Nat) : AVal → Rd (List AVal)
  | .slc es' xs => if es = es' then .ret xs else .fail
  | .sl k g es' off len => if es = es' then .get k fun b => match b with
      | some b => Rd.ofO (b.els g es off len)
      | none => .fail
    else .fail
  | .nils => .ret []
  | .emp => .ret []
  | .str s => if es = 1 then .ret (s.data.toList.map fun b => .int .u8 b.toNat) else .fail
  | _ => .fail
def freeze : Nat := 64
def appR (es bytes : Nat) (key : Key) (x y : AVal) : Rd Outp :=
  (elemsR es y).bind fun new0 => (lendL freeze new0).bind fun r =>
  let new := r.1
  let gone : Wr := r.2.map fun k => (k, none)
  match x with
  | .nils => if new.isEmpty then .ret (.nils, gone) else
      if new.length * bytes ≤ 140737488355328 then .ret (.sl key 0 es 0 new.length, gone ++ [(key, some (.row 0 es new))]) else .fail
  | .emp => if new.isEmpty then .ret (.emp, gone) else
      if new.length * bytes ≤ 140737488355328 then .ret (.sl key 0 es 0 new.length, gone ++ [(key, some (.row 0 es new))]) else .fail
  | .sl k g es' off len => if es' = es ∧ r.2.contains k = false then .get k fun b => match b with
      | some (.row g' es'' elems) =>
        if g = g' ∧ es'' = es ∧ off + len = elems.length ∧ (len + new.length) * bytes ≤ 140737488355328 ∧ new.all (fun e => (cellsOf e).all isSc) = true then
          .ret (.sl k (g + 1) es 0 (len + new.length), gone ++ [(k, some (.row (g + 1) es (elems.drop off ++ new)))])
        else .fail
      | _ => .fail
    else .fail
  | _ => .fail
def cpyR (es : Nat) (x y : AVal) : Rd Outp :=
  (elemsR es y).bind fun ys =>
  match x with
  | .nils => .ret (.int .i64 0, [])
  | .emp => .ret (.int .i64 0, [])
  | .sl k g es' off len => if es' = es then .get k fun b => match b with
      | some (.row g' es'' elems) =>
        let new := ys.take len
        if g = g' ∧ es'' = es ∧ off + len ≤ elems.length ∧ new.all (fun e => (cellsOf e).length == es && (cellsOf e).all isSc) = true then
          .ret (.int .i64 new.length, [(k, some (.row g' es (splice elems off new)))])
        else .fail
      | some (.var cells) =>
        let new := ys.take len
        if g = 0 ∧ es = 1 ∧ off + len ≤ cells.length ∧ new.all isSc = true then
          .ret (.int .i64 new.length, [(k, some (.var (splice cells off new)))])
        else .fail
      | some (.obj _) => .fail
      | none => .fail
    else .fail
  | _ => .fail
def mnxA (isMax : Bool) : AVal → List AVal → Option AVal
  | x, [] => some x
  | .int k a, .int _ b :: r => mnxA isMax (.int k (if isMax then (if b > a then b else a) else (if b < a then b else a))) r
  | _, _ => none
def bytesOf : List AVal → Option (List UInt8)
  | [] => some []
  | .int .u8 n :: r => (bytesOf r).map (UInt8.ofNat n.toNat :: ·)
  | _ => none
def keq : Nat → AVal → AVal → Option Bool
  | 0, .int k a, .int k' b => if k = k' then some (a == b) else none
  | 1, .bool a, .bool b => some (a == b)
  | 2, .str a, .str b => some (a == b)
  | n + 3, .agg xs, .agg ys => eqCells (List.replicate n 0) xs ys
  | _, _, _ => none
def isIntA : AVal → Bool
  | .int _ _ => true
  | _ => false
def keyOk : Nat → AVal → Bool
  | n + 3, .agg xs => decide (xs.length = n) && xs.all isIntA
  | _ + 3, _ => false
  | _, _ => true
def findA (kd : Nat) (k : AVal) : List (AVal × AVal × Nat) → Nat → Option (Option (Nat × AVal × Nat))
  | [], _ => if keyOk kd k = true then some none else none
  | e :: es, i => match keq kd k e.1 with
    | some true => some (some (i, e.2.1, e.2.2))
    | some false => findA kd k es (i + 1)
    | none => none
def b2sR (x : AVal) : Rd Outp := match x with
  | .str _ => .fail
  | x => (elemsR 1 x).bind fun ys => (Rd.ofO (bytesOf ys)).bind fun s => .ret (.str ⟨s.toArray⟩, [])
def nxtSR : AVal → Rd Outp
  | .ptr k 0 0 _ 0 => .get k fun b => match b with
    | some (.obj (.iter s pos)) => if pos < s.size then
        .ret (.tup [.bool true, .int .i64 pos, .int .i32 (Utf8.decode s pos).1], [(k, some (.obj (.iter s (pos + (Utf8.decode s pos).2))))])
      else .ret (.tup [.bool false], [])
    | _ => .fail
  | _ => .fail
def lkpR (kd : Nat) (comma : Bool) (zero : AVal) (x i : AVal) : Rd Outp := match x with
  | .mp k => .get k fun b => match b with
    | some (.obj (.map es _)) => match findA kd i es 0 with
      | some (some (_, v, _)) => .ret (if comma then .tup [v, .bool true] else v, [])
      | some none => .ret (if comma then .tup [zero, .bool false] else zero, [])
      | none => .fail
    | _ => .fail
  | _ => .fail
def msetR (kd : Nat) (x i v : AVal) : Rd Outp := match x with
  | .mp k => .get k fun b => match b with
    | some (.obj (.map es cl)) => match findA kd i es 0 with
      | some (some (j, _, n)) => .ret (.undef, [(k, some (.obj (.map (es.set j (i, v, n)) cl)))])
      | some none => .ret (.undef, [(k, some (.obj (.map (es ++ [(i, v, cl)]) (cl + 1))))])
      | none => .fail
    | _ => .fail
  | _ => .fail
def mentR (kd : Nat) (zero x i : AVal) : Rd Outp := match x with
  | .mp k => .get k fun b => match b with
    | some (.obj (.map es cl)) => match findA kd i es 0 with
      | some (some (j, v, n)) => .ret (.tup [v, .int .i64 n], [(k, some (.obj (.map (es.set j (i, v, n)) cl)))])
      | some none => .ret (.tup [zero, .int .i64 cl], [(k, some (.obj (.map (es ++ [(i, zero, cl)]) (cl + 1))))])
      | none => .fail
    | _ => .fail
  | _ => .fail
def mdelR (kd : Nat) (x i : AVal) : Rd Outp := match x with
  | .mp k => .get k fun b => match b with
    | some (.obj (.map es cl)) => match findA kd i es 0 with
      | some (some (j, _, _)) => .ret (.tup [], [(k, some (.obj (.map (es.eraseIdx j) cl)))])
      | some none => .ret (.tup [], [(k, some (.obj (.map es cl)))])
      | none => .fail
    | _ => .fail
  | _ => .fail
def bornA (n : Int) (es : List (AVal × AVal × Nat)) : Option Nat := es.findIdx? fun e => (e.2.2 : Int) == n
def mstoR (x i v : AVal) : Rd Outp := match x, i with
  | .mp k, .int .i64 n => .get k fun b => match b with
    | some (.obj (.map es cl)) => match bornA n es with
      | some j => match es[j]? with
        | some e => .ret (.undef, [(k, some (.obj (.map (es.set j (e.1, v, e.2.2)) cl)))])
        | none => .fail
      | none => .fail
    | _ => .fail
  | _, _ => .fail
def tasA (t : TypeId) (z : AVal) : AVal → Option AVal
  | .ifc t' v => some (if t' = t then .tup [v, .bool true] else .tup [z, .bool false])
  | .nili => some (.tup [z, .bool false])
  | _ => none
def taiA (ys ns : List TypeId) : AVal → Option AVal
  | .ifc t v => if ys.contains t = true then some (.tup [.ifc t v, .bool true]) else if ns.contains t = true then some (.tup [.nili, .bool false]) else none
  | .nili => some (.tup [.nili, .bool false])
  | _ => none
def opR (key : Key) (op : XOp) (e : XArg → AVal) : Rd Outp :=
  match op with
  | .mv x => .ret (e x, [])
  | .pick c a b => match e c with
    | .bool t => .ret (if t then e a else e b, [])
    | _ => .fail
  | .alloc cells => .ret (.ptr key 0 0 0 0, [(key, some (.var cells))])
  | .box x => if (cellsOf (e x)).all isSc = true then .ret (.ptr key 0 0 0 0, [(key, some (.var (cellsOf (e x))))]) else .fail
  | .build zero parts => match fillA zero (parts.map fun p => (p.1, p.2.1, e p.2.2)) with
    | some cs => .ret (.agg cs, [])
    | none => .fail
  | .mkslice es zero n parts => match fillE es (List.replicate n zero) (parts.map fun p => (p.1, e p.2)) with
    | some xs => .ret (.sl key 0 es 0 n, [(key, some (.row 0 es xs))])
    | none => .fail
  | .load agg n x => (loadR agg n (e x)).bind fun v => .ret (v, [])
  | .store n x y => storeR n (e x) (e y)
  | .bin op x y => (Rd.ofO (binA op (e x) (e y))).bind fun v => .ret (v, [])
  | .eqB neg x y => match e x, e y with
    | .bool a, .bool b => .ret (.bool (if neg then !(a == b) else a == b), [])
    | _, _ => .fail
  | .eqN neg kd x => (Rd.ofO (nilA kd (e x))).bind fun b => .ret (.bool (if neg then !b else b), [])
  | .nilChk x => if liveA (e x) = true then .ret (e x, []) else .fail
  | .idS x => match e x with
    | .str s => .ret (.str s, [])
    | _ => .fail
  | .eqA neg ks x y => match e x, e y with
    | .agg xs, .agg ys => (Rd.ofO (eqCells ks xs ys)).bind fun b => .ret (.bool (if neg then !b else b), [])
    | _, _ => .fail
  | .un op x => (Rd.ofO (unA op (e x))).bind fun v => .ret (v, [])
  | .conv k x => match e x with
    | .int _ n => .ret (.int k (k.wrap n), [])
    | _ => .fail
  | .fa off x => (Rd.ofO (faA off (e x))).bind fun v => .ret (v, [])
  | .fld agg n off x => match e x with
    | .agg cs => (Rd.ofO (takeV agg n off cs)).bind fun v => .ret (v, [])
    | _ => .fail
  | .iaA n es x i => (Rd.ofO (iaAA n es (e x) (e i))).bind fun v => .ret (v, [])
  | .iaS es x i => (Rd.ofO (iaSA es (e x) (e i))).bind fun v => .ret (v, [])
  | .ixA agg n es x i => (Rd.ofO (ixAA agg n es (e x) (e i))).bind fun v => .ret (v, [])
  | .ixS x i => (Rd.ofO (ixSA (e x) (e i))).bind fun v => .ret (v, [])
  | .mkS es bytes zero l c => match e l, e c with
    | .int _ l, .int _ c => if 0 ≤ l ∧ l ≤ c ∧ bytes * c ≤ 281474976710656 then
        .ret (.sl key 0 es 0 l.toNat, [(key, some (.row 0 es (List.replicate l.toNat zero)))]) else .fail
    | _, _ => .fail
  | .slS x lo hi => (Rd.ofO (slSA (e x) (lo.map e) (hi.map e))).bind fun v => .ret (v, [])
  | .slV es x lo hi mx => (Rd.ofO (slVA es (e x) (lo.map e) (hi.map e) (mx.map e))).bind fun v => .ret (v, [])
  | .slA n es x lo hi => match e x with
    | .ptr k 0 0 es' 0 => .get k fun b => match b with
      | some (.var cells) => if n * es ≤ cells.length then (Rd.ofO (slAA n es (.ptr k 0 0 es' 0) (lo.map e) (hi.map e))).bind fun v => .ret (v, []) else .fail
      | _ => .fail
    | _ => .fail
  | .lenS x => match e x with
    | .str s => .ret (.int .i64 s.size, [])
    | _ => .fail
  | .lenV x => (Rd.ofO (lenVA (e x))).bind fun v => .ret (v, [])
  | .app es bytes x y => appR es bytes key (e x) (e y)
  | .cpy es x y => cpyR es (e x) (e y)
  | .mnx isMax x xs => (Rd.ofO (mnxA isMax (e x) (xs.map e))).bind fun v => .ret (v, [])
  | .call _ _ => .fail
  | .callN _ _ => .fail
  | .callM _ _ => .fail
  | .callA _ _ => .fail
  | .inv _ _ _ => .fail
  | .tas t z x => (Rd.ofO (tasA t z (e x))).bind fun v => .ret (v, [])
  | .tai ys ns x => (Rd.ofO (taiA ys ns (e x))).bind fun v => .ret (v, [])
  | .ext x i => match e x with
    | .tup xs => (Rd.ofO (xs[i]?)).bind fun v => .ret (v, [])
    | _ => .fail
  | .mkf f first cap => .ret (.fn f (first.map e) (cap.map e), [])
  | .mki t x => .ret (.ifc t (e x), [])
  | .bad => .fail
  | .b2s x => b2sR (e x)
  | .rngS x => match e x with
    | .str s => .ret (.ptr key 0 0 0 0, [(key, some (.obj (.iter s 0)))])
    | _ => .fail
  | .nxtS x => nxtSR (e x)
  | .mkM => .ret (.mp key, [(key, some (.obj (.map [] 0)))])
  | .lkp kd comma zero x i => lkpR kd comma zero (e x) (e i)
  | .mset kd x i v => msetR kd (e x) (e i) (e v)
  | .ment kd zero x i => mentR kd zero (e x) (e i)
  | .msto x i v => mstoR (e x) (e i) (e v)
  | .mdel kd x i => mdelR kd (e x) (e i)
structure XOper where
  dst : Option Nat
  g : Option (Nat × Bool)
  op : XOp
  deriving Inhabited
structure XDraw where
  hot : List (Nat × Nat)
  deriving Inhabited
inductive XCode where
  | skip
  | reg (id : Nat) (ops : List XOper) (draw : Option XDraw)
  | seq (a b : XCode)
  | cond (c : XArg) (a b : XCode)
  | block (id : Nat) (c : XCode)
  | loop (c : XCode)
  | exit (id : Nat)
  | ret
  | bad
  | scope (c : XCode)
  deriving Inhabited
inductive XRes where
  | tmp (t : Nat)
  | cell (a : Nat) (agg : Bool) (n : Nat)
  deriving Inhabited
structure XFunc where
  nt : Nat
  np : Nat
  res : List XRes
  body : XCode
  deriving Inhabited
structure Cfg where
  Γ : FuncId → Option (List AVal → Option AVal)
  xf : FuncId → Option XFunc
  Γn : FuncId → Option (List AVal → Option (Option (Nat × List AVal)))
  Γm : FuncId → Option (List (AVal × AVal × Nat) → Nat → Option (Option (Nat × List AVal)))
  Γa : FuncId → Option (List AVal → Rd Outp)
  μ : TypeId → String → Option FuncId
structure St where
  tm : Nat → AVal
  hp : Heap
  nc : Nat
def updT (tm : Nat → AVal) (d : Nat) (v : AVal) : Nat → AVal := fun m => if m = d then v else tm m
def putO (tm : Nat → AVal) (d : Option Nat) (v : AVal) : Nat → AVal :=
  match d with
  | some d => updT tm d v
  | none => tm
abbrev Inl := FuncId → List AVal → Heap → Nat → Option (AVal × Heap × Nat)
def target : AVal → List AVal → Option (FuncId × List AVal)
  | .fn (.func f) first cap, args => some (f, first ++ args ++ cap)
  | _, _ => none
def callR (F : List AVal → Option AVal) (args : List AVal) : Rd Outp :=
  (lendL freeze args).bind fun r => match F r.1 with
    | some v => .ret (v, if hasRef v then r.2.map (fun k => (k, none)) else [])
    | none => .fail
def entsOf (i : Nat) : List AVal → Option (List (AVal × AVal × Nat))
  | [] => some []
  | .tup [k, v] :: r => (entsOf (i + 1) r).map fun es => (k, v, i) :: es
  | _ => none
def callNR (key : Key) (F : List AVal → Option (Option (Nat × List AVal))) (args : List AVal) : Rd Outp :=
  (lendL freeze args).bind fun r => match F r.1 with
    | some (some p) => if p.1 = 0 then
        match entsOf 0 p.2 with
        | some es => if r.2.isEmpty = true then .ret (.mp key, [(key, some (.obj (.map es p.2.length)))]) else .fail
        | none => .fail
      else if hasRefL p.2 = false then .ret (.sl key 0 p.1 0 p.2.length, [(key, some (.row 0 p.1 p.2))]) else .fail
    | some none => .ret (.nils, [])
    | none => .fail
def callMR (key : Key) (F : List (AVal × AVal × Nat) → Nat → Option (Option (Nat × List AVal))) : List AVal → Rd Outp
  | [.mp k] => .get k fun b => match b with
    | some (.obj (.map es cl)) => match F es cl with
      | some (some p) => if hasRefL p.2 = false then .ret (.sl key 0 p.1 0 p.2.length, [(key, some (.row 0 p.1 p.2))]) else .fail
      | some none => .ret (.nils, [])
      | none => .fail
    | _ => .fail
  | _ => .fail
def callAR (t tp n : Nat) : List AVal → Rd Outp
  | [.nili, _] => .ret (.bool false, [])
  | [.ifc t' (.agg cs), .ifc tp' (.ptr k 0 0 0 0)] =>
    if t' = t ∧ tp' = tp ∧ cs.length = n ∧ (cs.all isSc) = true then .get k fun b => match b with
      | some (.var cells) => if cells.length = n then .ret (.bool true, [(k, some (.var cs))]) else .fail
      | _ => .fail
    else .fail
  | _ => .fail
def rdOf (C : Cfg) (key : Key) (op : XOp) (e : XArg → AVal) : Rd Outp ⊕ (FuncId × List AVal) :=
  match op with
  | .call f as0 => match target (e f) (as0.map e) with
    | some (g, vs) => match C.Γ g with
      | some F => .inl (callR F vs)
      | none => .inr (g, vs)
    | none => .inl .fail
  | .callN f as0 => match target (e f) (as0.map e) with
    | some (g, vs) => match C.Γn g with
      | some F => .inl (callNR key F vs)
      | none => .inl .fail
    | none => .inl .fail
  | .callM f as0 => match target (e f) (as0.map e) with
    | some (g, vs) => match C.Γm g with
      | some F => .inl (callMR key F vs)
      | none => .inl .fail
    | none => .inl .fail
  | .callA f as0 => match target (e f) (as0.map e) with
    | some (g, vs) => match C.Γa g with
      | some q => .inl (q vs)
      | none => .inl .fail
    | none => .inl .fail
  | .inv m x as0 => match e x with
    | .ifc t v => match C.μ t m with
      | some g => match C.Γ g with
        | some F => .inl (callR F (v :: as0.map e))
        | none => .inr (g, v :: as0.map e)
      | none => .inl .fail
    | _ => .inl .fail
  | op => .inl (opR key op e)
def runP (inl : Inl) (p : Rd Outp ⊕ (FuncId × List AVal)) (h : Heap) (nc : Nat) : Option (AVal × Heap × Nat) :=
  match p with
  | .inl r => (r.run h).map fun r => (r.1, applyW h r.2, nc)
  | .inr (g, vs) => inl g vs h nc
def goes (tm : Nat → AVal) : Option (Nat × Bool) → Option Bool
  | none => some true
  | some (s, want) => match tm s with
    | .bool b => some (b == want)
    | .undef => some false
    | _ => none
def site (fid rid i : Nat) : Nat := (fid * 1000 + rid) * 1000 + i
def progO (C : Cfg) (key : Key) (o : XOper) (tm : Nat → AVal) : Option (Rd Outp ⊕ (FuncId × List AVal)) :=
  match goes tm o.g with
  | none => none
  | some b => some (if b then rdOf C key o.op (arg tm) else .inl (.ret (.undef, [])))
def stepO (C : Cfg) (inl : Inl) (key : Key) (o : XOper) (st : St) : Option St :=
  match progO C key o st.tm with
  | none => none
  | some p => (runP inl p st.hp st.nc).map fun r => ⟨putO st.tm o.dst r.1, r.2.1, r.2.2⟩
def runOps (C : Cfg) (inl : Inl) (fid rid c : Nat) : Nat → List XOper → St → Option St
  | _, [], st => some st
  | i, o :: os, st => (stepO C inl (site fid rid i, c) o st).bind fun st' => runOps C inl fid rid c (i + 1) os st'
inductive Rds where
  | kn (l : List Key)
  | cl (kp : Key → Prop)
abbrev Foot := Rds × List Key
def footP (p : Rd Outp ⊕ (FuncId × List AVal)) (h h' : Heap) : Foot :=
  match p with
  | .inl r => (.kn (r.reads h), match r.run h with | some r => r.2.map (·.1) | none => [])
  | .inr _ => (.cl (fun k => h' k = h k), [])
def foot (C : Cfg) (key : Key) (o : XOper) (st : St) (h' : Heap) : Foot :=
  match progO C key o st.tm with
  | some p => footP p st.hp h'
  | none => (.kn [], [])
def runOpsF (C : Cfg) (inl : Inl) (fid rid c : Nat) : Nat → List XOper → St → Option (St × List Foot)
  | _, [], st => some (st, [])
  | i, o :: os, st => (stepO C inl (site fid rid i, c) o st).bind fun st' =>
      (runOpsF C inl fid rid c (i + 1) os st').map fun r => (r.1, foot C (site fid rid i, c) o st st'.hp :: r.2)
def disj (a b : List Key) : Bool := a.all fun k => !b.contains k
open Classical in
noncomputable def apartF (x y : Foot) : Bool :=
  match x.1, y.1 with
  | .kn rx, .kn ry => disj x.2 (ry ++ y.2) && disj y.2 rx
  | .cl p, .kn ry => y.2.isEmpty && decide (∀ k ∈ ry, p k)
  | .kn rx, .cl p => x.2.isEmpty && decide (∀ k ∈ rx, p k)
  | .cl _, .cl _ => false
noncomputable def hotOk (fs : List Foot) (hot : List (Nat × Nat)) : Bool :=
  hot.all fun p => match fs[p.1]?, fs[p.2]? with
    | some x, some y => apartF x y
    | _, _ => false
noncomputable def runReg (C : Cfg) (inl : Inl) (fid rid : Nat) (ops : List XOper) (draw : Option XDraw) (st : St) : Option St :=
  match draw with
  | none => runOps C inl fid rid st.nc 0 ops { st with nc := st.nc + 1 }
  | some d => match d.hot with
    | [] => runOps C inl fid rid st.nc 0 ops { st with nc := st.nc + 1 }
    | hot => match runOpsF C inl fid rid st.nc 0 ops { st with nc := st.nc + 1 } with
      | some (st', fs) => if hotOk fs hot = true then some st' else none
      | none => none
inductive Out where
  | nrm
  | ext (id : Nat)
  | ret
  deriving DecidableEq, Inhabited
abbrev Res := Option (Out × St)
def iterN : Nat → (St → Res) → St → Res
  | 0, _, _ => none
  | n + 1, f, st => match f st with
    | some (.nrm, st') => iterN n f st'
    | r => r
def fuelL : Nat := 4611686018427387904
noncomputable def execC (C : Cfg) (inl : Inl) (fid : Nat) : XCode → St → Res
  | .skip, st => some (.nrm, st)
  | .reg id ops draw, st => (runReg C inl fid id ops draw st).map fun st' => (.nrm, st')
  | .seq a b, st => match execC C inl fid a st with
    | some (.nrm, st') => execC C inl fid b st'
    | r => r
  | .cond c a b, st => match arg st.tm c with
    | .bool t => if t then execC C inl fid a st else execC C inl fid b st
    | _ => none
  | .block id c, st => match execC C inl fid c st with
    | some (.ext i, st') => if i = id then some (.nrm, st') else some (.ext i, st')
    | r => r
  | .loop c, st => iterN fuelL (fun s => execC C inl fid c s) st
  | .scope c, st => execC C inl fid c st
  | .exit id, st => some (.ext id, st)
  | .ret, st => some (.ret, st)
  | .bad, _ => none
def resR (st : St) : XRes → Option AVal
  | .tmp t => some (st.tm t)
  | .cell a agg n => (loadR agg n (st.tm a)).run st.hp
def resL (st : St) : List XRes → Option (List AVal)
  | [] => some []
  | r :: rs => match resR st r, resL st rs with
    | some v, some vs => some (v :: vs)
    | _, _ => none
def one : List AVal → AVal
  | [x] => x
  | xs => .tup xs
def tm0 (args : List AVal) : Nat → AVal := fun m => (args[m]?).getD .undef
noncomputable def execF (C : Cfg) (inl : Inl) (fid : Nat) (x : XFunc) (args : List AVal) (h : Heap) (nc : Nat) : Option (AVal × Heap × Nat) :=
  if args.length = x.np then
    match execC C inl fid x.body ⟨tm0 args, h, nc⟩ with
    | some (.nrm, st) => (resL st x.res).map fun vs => (one vs, st.hp, st.nc)
    | some (.ret, st) => (resL st x.res).map fun vs => (one vs, st.hp, st.nc)
    | _ => none
  else none
noncomputable def inlD (C : Cfg) : Nat → Inl
  | 0 => fun _ _ _ _ => none
  | d + 1 => fun f as0 h nc => match C.xf f with
    | some x => execF C (inlD C d) f x as0 h nc
    | none => none
noncomputable def pureF (C : Cfg) (d : Nat) (f : FuncId) (as0 : List AVal) : Option AVal :=
  match inlD C d f as0 (fun _ => none) 0 with
  | some (v, h, _) => ((lend freeze v).run h).map (·.1)
  | none => none
def bsz (w : World) (b : Nat) : Nat :=
  match w.heap[b]? with
  | some (.cells c _ _) => c.size
  | _ => 0
structure Ctx where
  w : World
  S : Nat → Prop
  ρ : Key → Nat → Option (Nat × Nat)
def ρ0 : Key → Nat → Option (Nat × Nat) := fun _ _ => none
def Ctx.bare (x : Ctx) : Ctx := { x with ρ := ρ0 }
mutual
def V : Ctx → AVal → Value → Prop
  | _, .undef, v => v = Go.undef
  | _, .any, _ => True
  | _, .bool b, v => v = .bool b
  | _, .int k n, v => v = .int k n
  | _, .str s, v => v = .string s
  | x, .agg xs, v => ∃ cs : List Value, v = .agg cs.toArray ∧ VL x xs cs
  | x, .tup xs, v => ∃ cs : List Value, v = .tuple cs.toArray ∧ VL x xs cs
  | _, .nilp, v => v = .pointer none
  | x, .ptr k g i es off, v => ∃ b o, x.ρ k g = some (b, o) ∧ v = .pointer (some ⟨b, o + i * es + off, none⟩)
  | x, .pvo cs off, v => ∃ b o, v = .pointer (some ⟨b, o + off, none⟩) ∧ x.S b ∧ VC x.bare cs b o
  | _, .nils, v => v = .slice none 0 0
  | _, .emp, v => ∃ a, v = .slice (some a) 0 0
  | x, .slc es xs, v => ∃ b o cap, v = .slice (some ⟨b, o, none⟩) xs.length cap ∧ xs.length ≤ cap ∧ (xs = [] ∨ x.S b) ∧ VR x.bare es xs b o
  | x, .sl k g es off len, v => ∃ b o a cap, x.ρ k g = some (b, o) ∧ v = .slice (some a) len cap ∧ len ≤ cap ∧
      (cap = 0 ∨ a = ⟨b, o + off * es, none⟩) ∧ o + (off + cap) * es ≤ bsz x.w b ∧ a.spot = none
  | _, .nili, v => v = .nilIface
  | x, .ifc t y, v => ∃ u, v = .iface t u ∧ V x y u
  | _, .nilf, v => v = .nilFunc
  | x, .fn f first cap, v => ∃ fs cs : List Value, v = .func f fs.toArray cs.toArray ∧ VL x first fs ∧ VL x cap cs
  | x, .mp k, v => ∃ b, x.ρ k 0 = some (b, 0) ∧ v = .map (some b)
  termination_by _ a _ => (SizeOf.sizeOf a, 0)
def VL : Ctx → List AVal → List Value → Prop
  | _, [], vs => vs = []
  | x, a :: as0, vs => ∃ v r, vs = v :: r ∧ V x a v ∧ VL x as0 r
  termination_by _ as0 _ => (SizeOf.sizeOf as0, 0)
def VC : Ctx → List AVal → Nat → Nat → Prop
  | _, [], _, _ => True
  | x, a :: as0, b, o => (∃ v, x.w.cell? ⟨b, o, none⟩ = some v ∧ V x a v) ∧ VC x as0 b (o + 1)
  termination_by _ as0 _ _ => (SizeOf.sizeOf as0, 0)
def VE : Ctx → Nat → AVal → Nat → Nat → Prop
  | x, es, .agg ys, b, o => ys.length = es ∧ VC x ys b o
  | x, es, a, b, o => es = 1 ∧ ∃ v, x.w.cell? ⟨b, o, none⟩ = some v ∧ V x a v
  termination_by _ _ a _ _ => (SizeOf.sizeOf a, 1)
def VR : Ctx → Nat → List AVal → Nat → Nat → Prop
  | _, _, [], _, _ => True
  | x, es, a :: as0, b, o => VE x es a b o ∧ VR x es as0 b (o + es)
  termination_by _ _ as0 _ _ => (SizeOf.sizeOf as0, 0)
end
structure Grow (x y : Ctx) : Prop where
  S : ∀ b, x.S b → y.S b
  keep : ∀ b, x.S b → y.w.heap[b]? = x.w.heap[b]?
  ρ : ∀ k g p, x.ρ k g = some p → y.ρ k g = some p
  sz : ∀ b, bsz x.w b ≤ bsz y.w b
theorem Grow.refl (x : Ctx) : Grow x x := ⟨fun _ h => h, fun _ _ => rfl, fun _ _ _ h => h, fun _ => Nat.le_refl _⟩
theorem Grow.trans {x y z : Ctx} (h : Grow x y) (h' : Grow y z) : Grow x z :=
  ⟨fun b hb => h'.S b (h.S b hb), fun b hb => (h'.keep b (h.S b hb)).trans (h.keep b hb), fun k g p hp => h'.ρ k g p (h.ρ k g p hp), fun b => Nat.le_trans (h.sz b) (h'.sz b)⟩
theorem Grow.bare {x y : Ctx} (h : Grow x y) : Grow x.bare y.bare := ⟨h.S, h.keep, fun _ _ _ hp => hp, h.sz⟩
theorem Grow.unbare (x : Ctx) : Grow x.bare x := ⟨fun _ h => h, fun _ _ => rfl, (fun _ _ _ hp => by cases hp), fun _ => Nat.le_refl _⟩
theorem cell_of_heap {w w' : World} {b o : Nat} (h : w'.heap[b]? = w.heap[b]?) : w'.cell? ⟨b, o, none⟩ = w.cell? ⟨b, o, none⟩ := by
  simp only [World.cell?, h]
def SameAt (x y : Ctx) (b : Nat) : Prop := y.w.heap[b]? = x.w.heap[b]?
mutual
theorem V_grow {x y : Ctx} (g : Grow x y) : ∀ (a : AVal) (v : Value), V x a v → V y a v
  | .undef, v, h => by simpa only [V] using h
  | .any, _, _ => by simp only [V]
  | .bool _, v, h => by simpa only [V] using h
  | .int _ _, v, h => by simpa only [V] using h
  | .str _, v, h => by simpa only [V] using h
  | .agg xs, v, h => by
    simp only [V] at h ⊢
    obtain ⟨cs, hv, hl⟩ := h
    exact ⟨cs, hv, VL_grow g xs cs hl⟩
  | .tup xs, v, h => by
    simp only [V] at h ⊢
    obtain ⟨cs, hv, hl⟩ := h
    exact ⟨cs, hv, VL_grow g xs cs hl⟩
  | .nilp, v, h => by simpa only [V] using h
  | .ptr k gg i es off, v, h => by
    simp only [V] at h ⊢
    obtain ⟨b, o, hr, hv⟩ := h
    exact ⟨b, o, g.ρ _ _ _ hr, hv⟩
  | .pvo cs off, v, h => by
    simp only [V] at h ⊢
    obtain ⟨b, o, hv, hS, hc⟩ := h
    exact ⟨b, o, hv, g.S b hS, VC_grow g.bare cs b o (g.keep b hS) hc⟩
  | .nils, v, h => by simpa only [V] using h
  | .emp, v, h => by simpa only [V] using h
  | .slc es xs, v, h => by
    simp only [V] at h ⊢
    obtain ⟨b, o, cap, hv, hc, hS, hr⟩ := h
    refine ⟨b, o, cap, hv, hc, hS.imp id (g.S b), ?_⟩
    rcases hS with rfl | hS
    · simp only [VR]
    · exact VR_grow g.bare es xs b o (g.keep b hS) hr
  | .sl k gg es off len, v, h => by
    simp only [V] at h ⊢
    obtain ⟨b, o, a, cap, hr, hv, hc, ha, hz, hsp⟩ := h
    exact ⟨b, o, a, cap, g.ρ _ _ _ hr, hv, hc, ha, Nat.le_trans hz (g.sz b), hsp⟩
  | .nili, v, h => by simpa only [V] using h
  | .ifc t a, v, h => by
    simp only [V] at h ⊢
    obtain ⟨u, hv, hu⟩ := h
    exact ⟨u, hv, V_grow g a u hu⟩
  | .nilf, v, h => by simpa only [V] using h
  | .fn f first cap, v, h => by
    simp only [V] at h ⊢
    obtain ⟨fs, cs, hv, h1, h2⟩ := h
    exact ⟨fs, cs, hv, VL_grow g first fs h1, VL_grow g cap cs h2⟩
  | .mp k, v, h => by
    simp only [V] at h ⊢
    obtain ⟨b, hr, hv⟩ := h
    exact ⟨b, g.ρ _ _ _ hr, hv⟩
  termination_by a _ _ => (SizeOf.sizeOf a, 0)
theorem VL_grow {x y : Ctx} (g : Grow x y) : ∀ (as0 : List AVal) (vs : List Value), VL x as0 vs → VL y as0 vs
  | [], vs, h => by simpa only [VL] using h
  | a :: as0, vs, h => by
    simp only [VL] at h ⊢
    obtain ⟨v, r, hv, h1, h2⟩ := h
    exact ⟨v, r, hv, V_grow g a v h1, VL_grow g as0 r h2⟩
  termination_by as0 _ _ => (SizeOf.sizeOf as0, 0)
theorem VC_grow {x y : Ctx} (g : Grow x y) : ∀ (as0 : List AVal) (b o : Nat), SameAt x y b → VC x as0 b o → VC y as0 b o
  | [], _, _, _, _ => by simp only [VC]
  | a :: as0, b, o, hs, h => by
    simp only [VC] at h ⊢
    obtain ⟨⟨v, hv, h1⟩, h2⟩ := h
    exact ⟨⟨v, (cell_of_heap hs).trans hv, V_grow g a v h1⟩, VC_grow g as0 b (o + 1) hs h2⟩
  termination_by as0 _ _ _ _ => (SizeOf.sizeOf as0, 0)
theorem VE_grow {x y : Ctx} (g : Grow x y) (es : Nat) : ∀ (a : AVal) (b o : Nat), SameAt x y b → VE x es a b o → VE y es a b o
  | .agg ys, b, o, hs, h => by
    simp only [VE] at h ⊢
    exact ⟨h.1, VC_grow g ys b o hs h.2⟩
  | .undef, b, o, hs, h => by simp only [VE] at h ⊢; obtain ⟨h0, v, hv, h1⟩ := h; exact ⟨h0, v, (cell_of_heap hs).trans hv, V_grow g .undef v h1⟩
  | .any, b, o, hs, h => by simp only [VE] at h ⊢; obtain ⟨h0, v, hv, h1⟩ := h; exact ⟨h0, v, (cell_of_heap hs).trans hv, V_grow g .any v h1⟩
  | .bool c, b, o, hs, h => by simp only [VE] at h ⊢; obtain ⟨h0, v, hv, h1⟩ := h; exact ⟨h0, v, (cell_of_heap hs).trans hv, V_grow g (.bool c) v h1⟩
  | .int k n, b, o, hs, h => by simp only [VE] at h ⊢; obtain ⟨h0, v, hv, h1⟩ := h; exact ⟨h0, v, (cell_of_heap hs).trans hv, V_grow g (.int k n) v h1⟩
  | .str s, b, o, hs, h => by simp only [VE] at h ⊢; obtain ⟨h0, v, hv, h1⟩ := h; exact ⟨h0, v, (cell_of_heap hs).trans hv, V_grow g (.str s) v h1⟩
  | .tup ts, b, o, hs, h => by simp only [VE] at h ⊢; obtain ⟨h0, v, hv, h1⟩ := h; exact ⟨h0, v, (cell_of_heap hs).trans hv, V_grow g (.tup ts) v h1⟩
  | .nilp, b, o, hs, h => by simp only [VE] at h ⊢; obtain ⟨h0, v, hv, h1⟩ := h; exact ⟨h0, v, (cell_of_heap hs).trans hv, V_grow g .nilp v h1⟩
  | .ptr k gg i es off, b, o, hs, h => by simp only [VE] at h ⊢; obtain ⟨h0, v, hv, h1⟩ := h; exact ⟨h0, v, (cell_of_heap hs).trans hv, V_grow g (.ptr k gg i es off) v h1⟩
  | .pvo cs off, b, o, hs, h => by simp only [VE] at h ⊢; obtain ⟨h0, v, hv, h1⟩ := h; exact ⟨h0, v, (cell_of_heap hs).trans hv, V_grow g (.pvo cs off) v h1⟩
  | .nils, b, o, hs, h => by simp only [VE] at h ⊢; obtain ⟨h0, v, hv, h1⟩ := h; exact ⟨h0, v, (cell_of_heap hs).trans hv, V_grow g .nils v h1⟩
  | .emp, b, o, hs, h => by simp only [VE] at h ⊢; obtain ⟨h0, v, hv, h1⟩ := h; exact ⟨h0, v, (cell_of_heap hs).trans hv, V_grow g .emp v h1⟩
  | .slc e xs, b, o, hs, h => by simp only [VE] at h ⊢; obtain ⟨h0, v, hv, h1⟩ := h; exact ⟨h0, v, (cell_of_heap hs).trans hv, V_grow g (.slc e xs) v h1⟩
  | .sl k gg es off len, b, o, hs, h => by simp only [VE] at h ⊢; obtain ⟨h0, v, hv, h1⟩ := h; exact ⟨h0, v, (cell_of_heap hs).trans hv, V_grow g (.sl k gg es off len) v h1⟩
  | .nili, b, o, hs, h => by simp only [VE] at h ⊢; obtain ⟨h0, v, hv, h1⟩ := h; exact ⟨h0, v, (cell_of_heap hs).trans hv, V_grow g .nili v h1⟩
  | .ifc t a, b, o, hs, h => by simp only [VE] at h ⊢; obtain ⟨h0, v, hv, h1⟩ := h; exact ⟨h0, v, (cell_of_heap hs).trans hv, V_grow g (.ifc t a) v h1⟩
  | .nilf, b, o, hs, h => by simp only [VE] at h ⊢; obtain ⟨h0, v, hv, h1⟩ := h; exact ⟨h0, v, (cell_of_heap hs).trans hv, V_grow g .nilf v h1⟩
  | .mp k, b, o, hs, h => by simp only [VE] at h ⊢; obtain ⟨h0, v, hv, h1⟩ := h; exact ⟨h0, v, (cell_of_heap hs).trans hv, V_grow g (.mp k) v h1⟩
  | .fn f first cap, b, o, hs, h => by simp only [VE] at h ⊢; obtain ⟨h0, v, hv, h1⟩ := h; exact ⟨h0, v, (cell_of_heap hs).trans hv, V_grow g (.fn f first cap) v h1⟩
  termination_by a _ _ _ _ => (SizeOf.sizeOf a, 1)
theorem VR_grow {x y : Ctx} (g : Grow x y) (es : Nat) : ∀ (as0 : List AVal) (b o : Nat), SameAt x y b → VR x es as0 b o → VR y es as0 b o
  | [], _, _, _, _ => by simp only [VR]
  | a :: as0, b, o, hs, h => by
    simp only [VR] at h ⊢
    exact ⟨VE_grow g es a b o hs h.1, VR_grow g es as0 b (o + es) hs h.2⟩
  termination_by as0 _ _ _ _ => (SizeOf.sizeOf as0, 0)
end
theorem VL.length {x : Ctx} : ∀ {as0 : List AVal} {vs : List Value}, VL x as0 vs → vs.length = as0.length
  | [], vs, h => by simp only [VL] at h; subst h; rfl
  | a :: as0, vs, h => by
    simp only [VL] at h
    obtain ⟨v, r, rfl, _, h2⟩ := h
    simp [VL.length h2]
theorem VL.get {x : Ctx} : ∀ {as0 : List AVal} {vs : List Value} {i : Nat} {a : AVal}, VL x as0 vs → as0[i]? = some a → ∃ v, vs[i]? = some v ∧ V x a v
  | [], vs, i, a, _, h => by simp at h
  | b :: bs, vs, i, a, h, hi => by
    simp only [VL] at h
    obtain ⟨v, r, rfl, h1, h2⟩ := h
    cases i with
    | zero => simp at hi; subst hi; exact ⟨v, rfl, h1⟩
    | succ i => simp at hi ⊢; exact VL.get h2 hi
theorem VL.append {x : Ctx} : ∀ {as0 bs : List AVal} {vs us : List Value}, VL x as0 vs → VL x bs us → VL x (as0 ++ bs) (vs ++ us)
  | [], bs, vs, us, h, h' => by simp only [VL] at h; subst h; simpa using h'
  | a :: as0, bs, vs, us, h, h' => by
    simp only [VL] at h
    obtain ⟨v, r, rfl, h1, h2⟩ := h
    simp only [List.cons_append, VL]
    exact ⟨v, r ++ us, rfl, h1, VL.append h2 h'⟩
theorem VL.drop {x : Ctx} : ∀ {as0 : List AVal} {vs : List Value} (n : Nat), VL x as0 vs → VL x (as0.drop n) (vs.drop n)
  | [], vs, n, h => by simp only [VL] at h; subst h; simp [VL]
  | a :: as0, vs, 0, h => by simpa using h
  | a :: as0, vs, n + 1, h => by
    simp only [VL] at h
    obtain ⟨v, r, rfl, h1, h2⟩ := h
    simpa using VL.drop n h2
theorem VL.take {x : Ctx} : ∀ {as0 : List AVal} {vs : List Value} (n : Nat), VL x as0 vs → VL x (as0.take n) (vs.take n)
  | [], vs, n, h => by simp only [VL] at h; subst h; simp [VL]
  | a :: as0, vs, 0, h => by simp [VL]
  | a :: as0, vs, n + 1, h => by
    simp only [VL] at h
    obtain ⟨v, r, rfl, h1, h2⟩ := h
    simp only [List.take_succ_cons, VL]
    exact ⟨v, _, rfl, h1, VL.take n h2⟩
theorem VC.get {x : Ctx} : ∀ {as0 : List AVal} {b o i : Nat} {a : AVal}, VC x as0 b o → as0[i]? = some a → ∃ v, x.w.cell? ⟨b, o + i, none⟩ = some v ∧ V x a v
  | [], b, o, i, a, _, h => by simp at h
  | c :: cs, b, o, i, a, h, hi => by
    simp only [VC] at h
    cases i with
    | zero => simp at hi; subst hi; exact h.1
    | succ i =>
      simp at hi
      obtain ⟨v, hv, h2⟩ := VC.get h.2 hi
      exact ⟨v, by rw [← hv]; congr 2; omega, h2⟩
theorem VC.drop {x : Ctx} : ∀ {as0 : List AVal} {b o : Nat} (n : Nat), VC x as0 b o → VC x (as0.drop n) b (o + n)
  | [], b, o, n, _ => by simp [VC]
  | c :: cs, b, o, 0, h => by simpa using h
  | c :: cs, b, o, n + 1, h => by
    simp only [VC] at h
    have := VC.drop n h.2
    simp only [List.drop_succ_cons]
    rw [show o + (n + 1) = o + 1 + n by omega]
    exact this
theorem VC.take {x : Ctx} : ∀ {as0 : List AVal} {b o : Nat} (n : Nat), VC x as0 b o → VC x (as0.take n) b o
  | [], b, o, n, _ => by simp [VC]
  | c :: cs, b, o, 0, h => by simp [VC]
  | c :: cs, b, o, n + 1, h => by
    simp only [VC] at h
    simp only [List.take_succ_cons, VC]
    exact ⟨h.1, VC.take n h.2⟩
theorem VC.append {x : Ctx} : ∀ {as0 bs : List AVal} {b o : Nat}, VC x as0 b o → VC x bs b (o + as0.length) → VC x (as0 ++ bs) b o
  | [], bs, b, o, _, h => by simpa using h
  | c :: cs, bs, b, o, h, h' => by
    simp only [VC] at h
    simp only [List.cons_append, VC]
    refine ⟨h.1, VC.append h.2 ?_⟩
    rw [show o + 1 + cs.length = o + (c :: cs).length by simp; omega]
    exact h'
theorem VE_cells {x : Ctx} {es : Nat} {a : AVal} {b o : Nat} (h : VE x es a b o) : (cellsOf a).length = es ∧ VC x (cellsOf a) b o := by
  cases a <;> first
    | (simp only [VE] at h; exact h)
    | (simp only [VE] at h; obtain ⟨rfl, h⟩ := h; simp only [cellsOf, VC, List.length_singleton]; exact ⟨trivial, h, trivial⟩)
theorem VE_of_cells {x : Ctx} {es : Nat} {a : AVal} {b o : Nat} (hl : (cellsOf a).length = es) (h : VC x (cellsOf a) b o) : VE x es a b o := by
  cases a <;> first
    | (simp only [VE]; exact ⟨hl, h⟩)
    | (simp only [VE]; simp only [cellsOf, VC, List.length_singleton] at h hl; exact ⟨hl.symm, h.1⟩)
theorem VR.get {x : Ctx} {es : Nat} : ∀ {as0 : List AVal} {b o i : Nat} {a : AVal}, VR x es as0 b o → as0[i]? = some a → VE x es a b (o + i * es)
  | [], b, o, i, a, _, h => by simp at h
  | c :: cs, b, o, i, a, h, hi => by
    simp only [VR] at h
    cases i with
    | zero => simp at hi; subst hi; simpa using h.1
    | succ i =>
      simp at hi
      have := VR.get h.2 hi
      rw [show o + (i + 1) * es = o + es + i * es by rw [Nat.succ_mul]; omega]
      exact this
theorem VR.drop {x : Ctx} {es : Nat} : ∀ {as0 : List AVal} {b o : Nat} (n : Nat), VR x es as0 b o → VR x es (as0.drop n) b (o + n * es)
  | [], b, o, n, _ => by simp [VR]
  | c :: cs, b, o, 0, h => by simpa using h
  | c :: cs, b, o, n + 1, h => by
    simp only [VR] at h
    have := VR.drop n h.2
    simp only [List.drop_succ_cons]
    rw [show o + (n + 1) * es = o + es + n * es by rw [Nat.succ_mul]; omega]
    exact this
theorem VR.take {x : Ctx} {es : Nat} : ∀ {as0 : List AVal} {b o : Nat} (n : Nat), VR x es as0 b o → VR x es (as0.take n) b o
  | [], b, o, n, _ => by simp [VR]
  | c :: cs, b, o, 0, h => by simp [VR]
  | c :: cs, b, o, n + 1, h => by
    simp only [VR] at h
    simp only [List.take_succ_cons, VR]
    exact ⟨h.1, VR.take n h.2⟩
theorem VR.append {x : Ctx} {es : Nat} : ∀ {as0 bs : List AVal} {b o : Nat}, VR x es as0 b o → VR x es bs b (o + as0.length * es) → VR x es (as0 ++ bs) b o
  | [], bs, b, o, _, h => by simpa using h
  | c :: cs, bs, b, o, h, h' => by
    simp only [VR] at h
    simp only [List.cons_append, VR]
    refine ⟨h.1, VR.append h.2 ?_⟩
    rw [show o + es + cs.length * es = o + (c :: cs).length * es by simp [Nat.succ_mul]; omega]
    exact h'
theorem VR_flat {x : Ctx} {es : Nat} : ∀ {as0 : List AVal} {b o : Nat}, VR x es as0 b o → VC x (as0.flatMap cellsOf) b o ∧ (as0.flatMap cellsOf).length = as0.length * es
  | [], b, o, _ => by simp [VC]
  | c :: cs, b, o, h => by
    simp only [VR] at h
    obtain ⟨h1, h2⟩ := VE_cells h.1
    obtain ⟨h3, h4⟩ := VR_flat h.2
    simp only [List.flatMap_cons]
    exact ⟨VC.append h2 (by rw [h1]; exact h3), by simp [h1, h4, Nat.succ_mul]; omega⟩
theorem VR_of_flat {x : Ctx} {es : Nat} : ∀ {as0 : List AVal} {b o : Nat}, (∀ a, a ∈ as0 → (cellsOf a).length = es) → VC x (as0.flatMap cellsOf) b o → VR x es as0 b o
  | [], b, o, _, _ => by simp [VR]
  | c :: cs, b, o, hl, h => by
    simp only [List.flatMap_cons] at h
    simp only [VR]
    have hc := hl c (by simp)
    refine ⟨VE_of_cells hc ?_, VR_of_flat (fun a ha => hl a (by simp [ha])) ?_⟩
    · have := VC.take (cellsOf c).length h; simpa using this
    · have := VC.drop (cellsOf c).length h; rw [hc] at this; simpa [← hc] using this
structure Base where
  S : Nat → Prop
  w0 : World
instance : CoeFun Base (fun _ => Nat → Prop) := ⟨Base.S⟩
def EL (x : Ctx) : List (AVal × AVal × Nat) → List MapEntry → Prop
  | [], es => es = []
  | a :: as0, es => ∃ e r, es = e :: r ∧ V x a.1 e.key ∧ V x a.2.1 e.val ∧ e.born = a.2.2 ∧ EL x as0 r
def OO (x : Ctx) : AObj → Obj → Prop
  | .iter s pos, ob => ob = .stringIter s pos
  | .map es cl, ob => ∃ arr : Array MapEntry, ob = .map arr cl ∧ EL x es arr.toList
theorem EL_grow {x y : Ctx} (g : Grow x y) : ∀ (as0 : List (AVal × AVal × Nat)) (es : List MapEntry), EL x as0 es → EL y as0 es
  | [], es, h => h
  | a :: as0, es, h => by
    obtain ⟨e, r, h1, h2, h3, h4, h5⟩ := h
    exact ⟨e, r, h1, V_grow g _ _ h2, V_grow g _ _ h3, h4, EL_grow g as0 r h5⟩
theorem OO_grow {x y : Ctx} (g : Grow x y) {a : AObj} {ob : Obj} (h : OO x a ob) : OO y a ob := by
  cases a with
  | iter s pos => exact h
  | map es cl =>
    obtain ⟨arr, h1, h2⟩ := h
    exact ⟨arr, h1, EL_grow g _ _ h2⟩
def BlkOk (x : Ctx) (b o : Nat) : Blk → Prop
  | .var cells => o = 0 ∧ ∃ c e, x.w.heap[b]? = some (.cells c e (0, 0)) ∧ c.size = cells.length ∧ VC x cells b 0
  | .row _ es elems => ∃ c e, x.w.heap[b]? = some (.cells c e (0, 0)) ∧ o + elems.length * es ≤ c.size ∧ VR x es elems b o
  | .obj a => o = 0 ∧ ∃ ob, x.w.heap[b]? = some ob ∧ OO x a ob
def mkS (B : Nat) (S0 : Base) (h : Heap) (w : World) (ρ : Key → Nat → Option (Nat × Nat)) : Nat → Prop :=
  fun b => S0 b ∨ (B ≤ b ∧ b < w.heap.size ∧ ∀ k blk o, h k = some blk → ρ k blk.gen ≠ some (b, o))
def SameEnv (w w' : World) : Prop := w'.os = w.os ∧ w'.tape = w.tape ∧ w'.output = w.output
def From (B : Nat) (S0 : Base) (w : World) : Prop := S0.w0.heap.size = B ∧ (∀ b, b < B → w.heap[b]? = S0.w0.heap[b]?) ∧ SameEnv S0.w0 w
structure Sim (B : Nat) (S0 : Base) (h : Heap) (nc : Nat) (x : Ctx) : Prop where
  s0 : ∀ b, S0 b → b < B
  sz : B ≤ x.w.heap.size
  live : ∀ k blk, h k = some blk → ∃ b o, x.ρ k blk.gen = some (b, o) ∧ B ≤ b ∧ b < x.w.heap.size ∧ BlkOk x b o blk
  inj : ∀ k k' blk blk' b o o', h k = some blk → h k' = some blk' → x.ρ k blk.gen = some (b, o) → x.ρ k' blk'.gen = some (b, o') → k = k'
  S : x.S = mkS B S0 h x.w x.ρ
  dom : ∀ k g p, x.ρ k g = some p → k.2 < nc
  gen : ∀ k blk g p, h k = some blk → x.ρ k g = some p → g ≤ blk.gen
  inv : From B S0 x.w
theorem SameEnv.refl (w : World) : SameEnv w w := ⟨rfl, rfl, rfl⟩
theorem SameEnv.trans {a b c : World} (h : SameEnv a b) (h' : SameEnv b c) : SameEnv a c := ⟨h'.1.trans h.1, h'.2.1.trans h.2.1, h'.2.2.trans h.2.2⟩
structure Step (B : Nat) (x y : Ctx) : Prop where
  grow : Grow x y
  below : ∀ b, b < B → y.w.heap[b]? = x.w.heap[b]?
  size : x.w.heap.size ≤ y.w.heap.size
  env : SameEnv x.w y.w
theorem From.step {B : Nat} {S0 : Base} {x y : Ctx} (h : From B S0 x.w) (hs : Step B x y) : From B S0 y.w :=
  ⟨h.1, fun b hb => (hs.below b hb).trans (h.2.1 b hb), h.2.2.trans hs.env⟩
theorem Step.refl (B : Nat) (x : Ctx) : Step B x x := ⟨Grow.refl x, fun _ _ => rfl, Nat.le_refl _, SameEnv.refl _⟩
theorem Step.trans {B : Nat} {x y z : Ctx} (h : Step B x y) (h' : Step B y z) : Step B x z :=
  ⟨h.grow.trans h'.grow, fun b hb => (h'.below b hb).trans (h.below b hb), Nat.le_trans h.size h'.size, h.env.trans h'.env⟩
theorem upd_same (h : Heap) (k : Key) (b : Option Blk) : upd h k b k = b := by simp [upd]
theorem upd_ne (h : Heap) {k k' : Key} (b : Option Blk) (hne : k' ≠ k) : upd h k b k' = h k' := by simp [upd, hne]
theorem BlkOk_grow {x y : Ctx} (g : Grow x y) {b o : Nat} {blk : Blk} (hs : y.w.heap[b]? = x.w.heap[b]?) (h : BlkOk x b o blk) : BlkOk y b o blk := by
  cases blk with
  | var cells =>
    obtain ⟨ho, c, e, hb, hc, hv⟩ := h
    exact ⟨ho, c, e, hs.trans hb, hc, VC_grow g cells b 0 hs hv⟩
  | row gg es elems =>
    obtain ⟨c, e, hb, hc, hv⟩ := h
    exact ⟨c, e, hs.trans hb, hc, VR_grow g es elems b o hs hv⟩
  | obj a =>
    obtain ⟨ho, ob, hb, hv⟩ := h
    exact ⟨ho, ob, hs.trans hb, OO_grow g hv⟩
theorem heap_lt {w : World} {b : Nat} {o : Obj} (h : w.heap[b]? = some o) : b < w.heap.size := by
  rcases Nat.lt_or_ge b w.heap.size with h' | h'
  · exact h'
  · rw [Array.getElem?_eq_none h'] at h; cases h
structure Puts (B : Nat) (S0 : Base) (h : Heap) (k : Key) (gn b o : Nat) (blk : Blk) (x y : Ctx) : Prop where
  ρx : ∀ k g p, x.ρ k g = some p → y.ρ k g = some p
  ρy : ∀ k' g p, y.ρ k' g = some p → x.ρ k' g = some p ∨ (k' = k ∧ g ≤ gn)
  at_ : y.ρ k gn = some (b, o)
  gen : blk.gen = gn
  lo : B ≤ b
  hi : b < y.w.heap.size
  own : x.w.heap.size ≤ b ∨ ∃ blk0 o0, h k = some blk0 ∧ x.ρ k blk0.gen = some (b, o0)
  same : ∀ b', b' < x.w.heap.size → b' ≠ b → y.w.heap[b']? = x.w.heap[b']?
  size : x.w.heap.size ≤ y.w.heap.size
  bsz : bsz x.w b ≤ bsz y.w b
  S : y.S = mkS B S0 (upd h k (some blk)) y.w y.ρ
  old : ∀ g p, x.ρ k g = some p → g ≤ gn
  env : SameEnv x.w y.w
theorem bsz_ge {w : World} {b : Nat} (h : w.heap.size ≤ b) : bsz w b = 0 := by
  simp only [Go.Xec.bsz, Array.getElem?_eq_none h]
theorem bsz_congr {w w' : World} {b : Nat} (h : w'.heap[b]? = w.heap[b]?) : bsz w' b = bsz w b := by
  simp only [Go.Xec.bsz, h]
theorem Puts.step {B : Nat} {S0 : Base} {h : Heap} {nc : Nat} {k : Key} {gn b o : Nat} {blk : Blk} {x y : Ctx} (hs : Sim B S0 h nc x) (hp : Puts B S0 h k gn b o blk x y) : Step B x y := by
  have hlive : ∀ b', x.S b' → b' ≠ b := by
    intro b' hS e
    subst e
    rw [hs.S] at hS
    rcases hS with hS | ⟨h1, h2, h3⟩
    · have := hs.s0 _ hS; have := hp.lo; omega
    · rcases hp.own with ho | ⟨blk0, o0, ho, hρ⟩
      · omega
      · exact h3 k blk0 o0 ho hρ
  have hin : ∀ b', x.S b' → b' < x.w.heap.size := by
    intro b' hS
    rw [hs.S] at hS
    rcases hS with hS | ⟨_, h2, _⟩
    · have := hs.s0 _ hS; have := hs.sz; omega
    · exact h2
  refine ⟨⟨?_, ?_, hp.ρx, ?_⟩, ?_, hp.size, hp.env⟩
  · intro b' hS
    have hne := hlive b' hS
    have hlt := hin b' hS
    rw [hs.S] at hS
    rw [hp.S]
    rcases hS with hS | ⟨h1, h2, h3⟩
    · exact .inl hS
    · refine .inr ⟨h1, Nat.lt_of_lt_of_le h2 hp.size, ?_⟩
      intro k' blk' o' hk' hρ
      by_cases e : k' = k
      · subst e
        rw [upd_same] at hk'
        cases hk'
        rw [hp.gen, hp.at_] at hρ
        cases hρ
        exact hne rfl
      · rw [upd_ne _ _ e] at hk'
        obtain ⟨b2, o2, h4, _⟩ := hs.live k' blk' hk'
        have := hp.ρx _ _ _ h4
        rw [this] at hρ
        cases hρ
        exact h3 k' blk' o' hk' h4
  · intro b' hS
    exact hp.same b' (hin b' hS) (hlive b' hS)
  · intro b'
    by_cases e : b' = b
    · subst e; exact hp.bsz
    · rcases Nat.lt_or_ge b' x.w.heap.size with hl | hl
      · rw [bsz_congr (hp.same b' hl e)]; exact Nat.le_refl _
      · rw [bsz_ge hl]; exact Nat.zero_le _
  · intro b' hb'
    have := hs.sz
    have := hp.lo
    exact hp.same b' (by omega) (by omega)
theorem Puts.sim {B : Nat} {S0 : Base} {h : Heap} {nc : Nat} {k : Key} {gn b o : Nat} {blk : Blk} {x y : Ctx} (hs : Sim B S0 h nc x) (hp : Puts B S0 h k gn b o blk x y) (hk : k.2 < nc)
    (hb : BlkOk y b o blk) : Sim B S0 (upd h k (some blk)) nc y := by
  have hst := hp.step hs
  refine ⟨hs.s0, Nat.le_trans hs.sz hp.size, ?_, ?_, hp.S, ?_, ?_, hs.inv.step hst⟩
  · intro k' blk' hk'
    by_cases e : k' = k
    · subst e
      rw [upd_same] at hk'
      cases hk'
      exact ⟨b, o, by rw [hp.gen]; exact hp.at_, hp.lo, hp.hi, hb⟩
    · rw [upd_ne _ _ e] at hk'
      obtain ⟨b2, o2, h1, h2, h3, h4⟩ := hs.live k' blk' hk'
      have hne : b2 ≠ b := by
        intro e2
        subst e2
        rcases hp.own with ho | ⟨blk0, o0, ho, hρ⟩
        · omega
        · exact e (hs.inj k' k blk' blk0 _ _ _ hk' ho h1 hρ)
      exact ⟨b2, o2, hp.ρx _ _ _ h1, h2, Nat.lt_of_lt_of_le h3 hp.size, BlkOk_grow hst.grow (hp.same b2 h3 hne) h4⟩
  · intro k1 k2 blk1 blk2 b' o1 o2 h1 h2 r1 r2
    have key : ∀ k' blk', k' ≠ k → h k' = some blk' → ∀ o', y.ρ k' blk'.gen ≠ some (b, o') := by
      intro k' blk' hne hk' o' hρ
      obtain ⟨b2, o2, h5, _, h6, _⟩ := hs.live k' blk' hk'
      rw [hp.ρx _ _ _ h5] at hρ
      cases hρ
      rcases hp.own with ho | ⟨blk0, o0, ho, hρ0⟩
      · omega
      · exact hne (hs.inj k' k blk' blk0 _ _ _ hk' ho h5 hρ0)
    by_cases e1 : k1 = k <;> by_cases e2 : k2 = k
    · rw [e1, e2]
    · subst e1
      rw [upd_same] at h1
      cases h1
      rw [hp.gen, hp.at_] at r1
      cases r1
      rw [upd_ne _ _ e2] at h2
      exact absurd r2 (key k2 blk2 e2 h2 _)
    · subst e2
      rw [upd_same] at h2
      cases h2
      rw [hp.gen, hp.at_] at r2
      cases r2
      rw [upd_ne _ _ e1] at h1
      exact absurd r1 (key k1 blk1 e1 h1 _)
    · rw [upd_ne _ _ e1] at h1
      rw [upd_ne _ _ e2] at h2
      obtain ⟨b3, o3, h5, _⟩ := hs.live k1 blk1 h1
      obtain ⟨b4, o4, h6, _⟩ := hs.live k2 blk2 h2
      rw [hp.ρx _ _ _ h5] at r1
      rw [hp.ρx _ _ _ h6] at r2
      cases r1; cases r2
      exact hs.inj k1 k2 blk1 blk2 _ _ _ h1 h2 h5 h6
  · intro k' g p hρ
    rcases hp.ρy k' g p hρ with h1 | ⟨rfl, _⟩
    · exact hs.dom _ _ _ h1
    · exact hk
  · intro k' blk' g p hk' hρ
    by_cases e : k' = k
    · subst e
      rw [upd_same] at hk'
      cases hk'
      rw [hp.gen]
      rcases hp.ρy k' g p hρ with h1 | ⟨_, h1⟩
      · exact hp.old g p h1
      · exact h1
    · rw [upd_ne _ _ e] at hk'
      rcases hp.ρy k' g p hρ with h1 | ⟨e', _⟩
      · exact hs.gen k' blk' g p hk' h1
      · exact absurd e' e
theorem Sim.drop {B : Nat} {S0 : Base} {h : Heap} {nc : Nat} {x : Ctx} (hs : Sim B S0 h nc x) (k : Key) :
    ∃ y, y.w = x.w ∧ y.ρ = x.ρ ∧ Sim B S0 (upd h k none) nc y ∧ Step B x y := by
  refine ⟨{ x with S := mkS B S0 (upd h k none) x.w x.ρ }, rfl, rfl, ?_, ?_⟩
  case refine_2 =>
    refine ⟨⟨?_, fun _ _ => rfl, fun _ _ _ h => h, fun _ => Nat.le_refl _⟩, fun _ _ => rfl, Nat.le_refl _, SameEnv.refl _⟩
    intro b hb
    rw [hs.S] at hb
    rcases hb with hb | ⟨h1, h2, h3⟩
    · exact .inl hb
    · refine .inr ⟨h1, h2, fun k' blk o hk' => ?_⟩
      by_cases e : k' = k
      · subst e; rw [upd_same] at hk'; cases hk'
      · rw [upd_ne _ _ e] at hk'; exact h3 k' blk o hk'
  case refine_1 =>
    have hg : Grow x { x with S := mkS B S0 (upd h k none) x.w x.ρ } := by
      refine ⟨?_, fun _ _ => rfl, fun _ _ _ h => h, fun _ => Nat.le_refl _⟩
      intro b hb
      rw [hs.S] at hb
      rcases hb with hb | ⟨h1, h2, h3⟩
      · exact .inl hb
      · refine .inr ⟨h1, h2, fun k' blk o hk' => ?_⟩
        by_cases e : k' = k
        · subst e; rw [upd_same] at hk'; cases hk'
        · rw [upd_ne _ _ e] at hk'; exact h3 k' blk o hk'
    have up : ∀ k' blk, upd h k none k' = some blk → h k' = some blk := by
      intro k' blk hk'
      by_cases e : k' = k
      · subst e; rw [upd_same] at hk'; cases hk'
      · rw [upd_ne _ _ e] at hk'; exact hk'
    refine ⟨hs.s0, hs.sz, ?_, ?_, rfl, hs.dom, fun k' blk g p hk' => hs.gen k' blk g p (up k' blk hk'), hs.inv⟩
    · intro k' blk hk'
      obtain ⟨b, o, h1, h2, h3, h4⟩ := hs.live k' blk (up k' blk hk')
      exact ⟨b, o, h1, h2, h3, BlkOk_grow hg rfl h4⟩
    · intro k1 k2 blk1 blk2 b o1 o2 h1 h2
      exact hs.inj k1 k2 blk1 blk2 b o1 o2 (up _ _ h1) (up _ _ h2)
theorem applyW_append (h : Heap) : ∀ (a b : Wr), applyW h (a ++ b) = applyW (applyW h a) b
  | [], _ => rfl
  | (k, x) :: a, b => by simp only [List.cons_append, applyW]; exact applyW_append (upd h k x) a b
theorem applyW_none : ∀ (ks : List Key) (h : Heap) (k : Key), applyW h (ks.map fun k => (k, none)) k = if k ∈ ks then none else h k
  | [], h, k => by simp [applyW]
  | a :: ks, h, k => by
    simp only [List.map_cons, applyW]
    rw [applyW_none ks]
    by_cases e : k = a
    · subst e; simp [upd_same]
    · simp [upd_ne _ _ e, e]
theorem Sim.drops {B : Nat} {S0 : Base} {nc : Nat} : ∀ (ks : List Key) {h : Heap} {x : Ctx}, Sim B S0 h nc x →
    ∃ y, y.w = x.w ∧ y.ρ = x.ρ ∧ Sim B S0 (applyW h (ks.map fun k => (k, none))) nc y ∧ Step B x y ∧ (∀ k ∈ ks, ∀ blk b o, h k = some blk → x.ρ k blk.gen = some (b, o) → y.S b) := by
  have go : ∀ (ks : List Key) {h : Heap} {x : Ctx}, Sim B S0 h nc x → ∃ y, y.w = x.w ∧ y.ρ = x.ρ ∧ Sim B S0 (applyW h (ks.map fun k => (k, none))) nc y ∧ Step B x y := by
    intro ks
    induction ks with
    | nil => intro h x hs; exact ⟨x, rfl, rfl, hs, Step.refl B x⟩
    | cons k ks ih =>
      intro h x hs
      obtain ⟨y, h1, h2, h3, h4⟩ := hs.drop k
      obtain ⟨z, h5, h6, h7, h8⟩ := ih h3
      exact ⟨z, h5.trans h1, h6.trans h2, h7, h4.trans h8⟩
  intro ks h x hs
  obtain ⟨y, h1, h2, h3, h4⟩ := go ks hs
  refine ⟨y, h1, h2, h3, h4, ?_⟩
  intro k hk blk b o hb hρ
  obtain ⟨b', o', e1, e2, e3, _⟩ := hs.live k blk hb
  rw [hρ] at e1
  cases e1
  rw [h3.S]
  refine .inr ⟨e2, by rw [h1]; exact e3, fun k' blk' o'' hk' hρ' => ?_⟩
  rw [applyW_none] at hk'
  split at hk'
  · cases hk'
  · rename_i hne
    rw [h2] at hρ'
    have := hs.inj k k' blk blk' _ _ _ hb hk' hρ hρ'
    subst this
    exact hne hk
def Ctx.draw (x : Ctx) (n : Nat) : Ctx := { x with w := { x.w with drawn := n } }
theorem Step.draw (B : Nat) (x : Ctx) (n : Nat) : Step B x (x.draw n) :=
  ⟨⟨fun _ h => h, fun _ _ => rfl, fun _ _ _ h => h, fun _ => Nat.le_refl _⟩, fun _ _ => rfl, Nat.le_refl _, ⟨rfl, rfl, rfl⟩⟩
theorem Sim.draw {B : Nat} {S0 : Base} {h : Heap} {nc : Nat} {x : Ctx} (hs : Sim B S0 h nc x) (n : Nat) : Sim B S0 h nc (x.draw n) := by
  have hg := (Step.draw B x n).grow
  refine ⟨hs.s0, hs.sz, ?_, hs.inj, ?_, hs.dom, hs.gen, hs.inv⟩
  · intro k blk hk
    obtain ⟨b, o, h1, h2, h3, h4⟩ := hs.live k blk hk
    exact ⟨b, o, h1, h2, h3, BlkOk_grow hg rfl h4⟩
  · exact hs.S
theorem Sim.more {B : Nat} {S0 : Base} {h : Heap} {nc : Nat} {x : Ctx} (hs : Sim B S0 h nc x) (nc' : Nat) (hn : nc ≤ nc') : Sim B S0 h nc' x :=
  ⟨hs.s0, hs.sz, hs.live, hs.inj, hs.S, fun k g p hp => Nat.lt_of_lt_of_le (hs.dom k g p hp) hn, hs.gen, hs.inv⟩
def ρset (ρ : Key → Nat → Option (Nat × Nat)) (k : Key) (g : Nat) (p : Nat × Nat) : Key → Nat → Option (Nat × Nat) :=
  fun k' g' => if k' = k ∧ g' = g then some p else ρ k' g'
theorem ρset_same (ρ : Key → Nat → Option (Nat × Nat)) (k : Key) (g : Nat) (p : Nat × Nat) : ρset ρ k g p k g = some p := by simp [ρset]
theorem ρset_old (ρ : Key → Nat → Option (Nat × Nat)) (k : Key) (g : Nat) (p : Nat × Nat) (h : ρ k g = none) {k' : Key} {g' : Nat} {q : Nat × Nat} (hq : ρ k' g' = some q) : ρset ρ k g p k' g' = some q := by
  simp only [ρset]
  split
  · rename_i e; obtain ⟨rfl, rfl⟩ := e; rw [h] at hq; cases hq
  · exact hq
theorem ρset_inv (ρ : Key → Nat → Option (Nat × Nat)) (k : Key) (g : Nat) (p : Nat × Nat) {k' : Key} {g' : Nat} {q : Nat × Nat} (hq : ρset ρ k g p k' g' = some q) : ρ k' g' = some q ∨ (k' = k ∧ g' = g) := by
  simp only [ρset] at hq
  split at hq
  · rename_i e; exact .inr e
  · exact .inl hq
theorem Sim.freshO {B : Nat} {S0 : Base} {h : Heap} {nc : Nat} {x : Ctx} (hs : Sim B S0 h nc x) (k : Key) (gn : Nat) (blk : Blk) (w' : World) (ob : Obj)
    (hk : k.2 < nc) (hg : blk.gen = gn) (hnew : ∀ g p, x.ρ k g = some p → g < gn) (hw : w'.heap = x.w.heap.push ob) (henv : SameEnv x.w w') :
    ∃ y, y.w = w' ∧ y.ρ = ρset x.ρ k gn (x.w.heap.size, 0) ∧ y.S = mkS B S0 (upd h k (some blk)) w' y.ρ ∧ Step B x y ∧ y.w.heap[x.w.heap.size]? = some ob ∧
      (BlkOk y x.w.heap.size 0 blk → Sim B S0 (upd h k (some blk)) nc y) := by
  have hn : x.ρ k gn = none := by
    cases hc : x.ρ k gn with
    | none => rfl
    | some p => exact absurd (hnew _ _ hc) (Nat.lt_irrefl _)
  have hp : Puts B S0 h k gn x.w.heap.size 0 blk x { w := w', S := mkS B S0 (upd h k (some blk)) w' (ρset x.ρ k gn (x.w.heap.size, 0)), ρ := ρset x.ρ k gn (x.w.heap.size, 0) } := by
    refine ⟨fun k' g' p => ρset_old _ _ _ _ hn, ?_, ρset_same _ _ _ _, hg, hs.sz, ?_, .inl (Nat.le_refl _), ?_, ?_, ?_, rfl, fun g p hp => Nat.le_of_lt (hnew g p hp), henv⟩
    · intro k' g p hq
      rcases ρset_inv _ _ _ _ hq with h1 | ⟨h1, h2⟩
      · exact .inl h1
      · exact .inr ⟨h1, Nat.le_of_eq h2⟩
    · simp [hw]
    · intro b' hb' _
      simp only [hw]
      rw [Array.getElem?_push]
      rw [if_neg (by omega)]
    · simp [hw]
    · rw [bsz_ge (Nat.le_refl _)]; exact Nat.zero_le _
  exact ⟨_, rfl, rfl, rfl, hp.step hs, by simp [hw], fun hb => hp.sim hs hk hb⟩
theorem Sim.fresh {B : Nat} {S0 : Base} {h : Heap} {nc : Nat} {x : Ctx} (hs : Sim B S0 h nc x) (k : Key) (gn : Nat) (blk : Blk) (w' : World) (c : Array Value) (e : TypeId)
    (hk : k.2 < nc) (hg : blk.gen = gn) (hnew : ∀ g p, x.ρ k g = some p → g < gn) (hw : w'.heap = x.w.heap.push (.cells c e (0, 0))) (henv : SameEnv x.w w') :
    ∃ y, y.w = w' ∧ y.ρ = ρset x.ρ k gn (x.w.heap.size, 0) ∧ y.S = mkS B S0 (upd h k (some blk)) w' y.ρ ∧ Step B x y ∧ y.w.heap[x.w.heap.size]? = some (.cells c e (0, 0)) ∧
      (BlkOk y x.w.heap.size 0 blk → Sim B S0 (upd h k (some blk)) nc y) := hs.freshO k gn blk w' _ hk hg hnew hw henv
def osz : Obj → Nat
  | .cells c _ _ => c.size
  | _ => 0
theorem bsz_osz {w : World} {b : Nat} {ob : Obj} (h : w.heap[b]? = some ob) : bsz w b = osz ob := by
  simp only [Go.Xec.bsz, h]
  cases ob <;> rfl
theorem Sim.writeO {B : Nat} {S0 : Base} {h : Heap} {nc : Nat} {x : Ctx} (hs : Sim B S0 h nc x) (k : Key) (blk0 : Blk) (b o : Nat) (hk : h k = some blk0) (hρ : x.ρ k blk0.gen = some (b, o))
    (gn o' : Nat) (blk : Blk) (w' : World) (ob ob' : Obj) (hb : x.w.heap[b]? = some ob) (hc : osz ob ≤ osz ob') (hg : blk.gen = gn)
    (hgn : (gn = blk0.gen ∧ o' = o) ∨ gn = blk0.gen + 1) (hw : w'.heap = x.w.heap.setIfInBounds b ob') (henv : SameEnv x.w w') :
    ∃ y, y.w = w' ∧ (∀ k' g p, x.ρ k' g = some p → y.ρ k' g = some p) ∧ y.ρ k gn = some (b, o') ∧ (∀ k' g p, y.ρ k' g = some p → x.ρ k' g = some p ∨ k' = k) ∧ Step B x y ∧ y.w.heap[b]? = some ob' ∧
      (BlkOk y b o' blk → Sim B S0 (upd h k (some blk)) nc y) := by
  have hlt := heap_lt hb
  have hn : gn = blk0.gen + 1 → x.ρ k gn = none := by
    intro e1
    cases hc : x.ρ k gn with
    | none => rfl
    | some p => have := hs.gen k blk0 gn p hk hc; omega
  have hget : w'.heap[b]? = some ob' := by rw [hw]; simp [hlt]
  have hold : ∀ g p, x.ρ k g = some p → g ≤ gn := by
    intro g p hp
    have := hs.gen k blk0 g p hk hp
    rcases hgn with ⟨h1, _⟩ | h1 <;> omega
  obtain ⟨b1, o1, h1, h2, h3, _⟩ := hs.live k blk0 hk
  rw [hρ] at h1
  cases h1
  have hp : Puts B S0 h k gn b o' blk x { w := w', S := mkS B S0 (upd h k (some blk)) w' (ρset x.ρ k gn (b, o')), ρ := ρset x.ρ k gn (b, o') } := by
    refine ⟨?_, ?_, ρset_same _ _ _ _, hg, h2, ?_, .inr ⟨blk0, o, hk, hρ⟩, ?_, ?_, ?_, rfl, hold, henv⟩
    · intro k' g' p hq
      rcases hgn with ⟨e1, e2⟩ | e1
      · simp only [ρset]
        split
        · rename_i e3; obtain ⟨rfl, rfl⟩ := e3; rw [e1, hρ] at hq; cases hq; rw [e2]
        · exact hq
      · exact ρset_old _ _ _ _ (hn e1) hq
    · intro k' g p hq
      rcases ρset_inv _ _ _ _ hq with h4 | ⟨h4, h5⟩
      · exact .inl h4
      · exact .inr ⟨h4, Nat.le_of_eq h5⟩
    · simp [hw, hlt]
    · intro b' hb' hne
      simp only [hw]
      rw [Array.getElem?_setIfInBounds_ne (Ne.symm hne)]
    · simp [hw]
    · rw [bsz_osz hb, bsz_osz (w := w') hget]; exact hc
  refine ⟨_, rfl, hp.ρx, hp.at_, ?_, hp.step hs, hget, fun hb' => hp.sim hs (hs.dom k _ _ hρ) hb'⟩
  intro k' g p hq
  rcases hp.ρy k' g p hq with h4 | ⟨h4, _⟩
  · exact .inl h4
  · exact .inr h4
theorem Sim.write {B : Nat} {S0 : Base} {h : Heap} {nc : Nat} {x : Ctx} (hs : Sim B S0 h nc x) (k : Key) (blk0 : Blk) (b o : Nat) (hk : h k = some blk0) (hρ : x.ρ k blk0.gen = some (b, o))
    (gn o' : Nat) (blk : Blk) (w' : World) (c c' : Array Value) (e : TypeId) (hb : x.w.heap[b]? = some (.cells c e (0, 0))) (hc : c'.size = c.size) (hg : blk.gen = gn)
    (hgn : (gn = blk0.gen ∧ o' = o) ∨ gn = blk0.gen + 1) (hw : w'.heap = x.w.heap.setIfInBounds b (.cells c' e (0, 0))) (henv : SameEnv x.w w') :
    ∃ y, y.w = w' ∧ (∀ k' g p, x.ρ k' g = some p → y.ρ k' g = some p) ∧ y.ρ k gn = some (b, o') ∧ (∀ k' g p, y.ρ k' g = some p → x.ρ k' g = some p ∨ k' = k) ∧ Step B x y ∧ y.w.heap[b]? = some (.cells c' e (0, 0)) ∧
      (BlkOk y b o' blk → Sim B S0 (upd h k (some blk)) nc y) :=
  hs.writeO k blk0 b o hk hρ gn o' blk w' _ _ hb (by simp [osz, hc]) hg hgn hw henv
def chkS : Value → AVal → Bool
  | .bool b, .bool c => b == c
  | .int k n, .int j m => decide (k = j) && decide (n = m)
  | .string s, .str t => decide (s = t)
  | .pointer none, .nilp => true
  | .slice none 0 0, .nils => true
  | .nilIface, .nili => true
  | .nilFunc, .nilf => true
  | .map none, .any => true
  | _, _ => false
def chkSL : List Value → List AVal → Bool
  | [], [] => true
  | v :: vs, a :: as0 => chkS v a && chkSL vs as0
  | _, _ => false
def chkV : Value → AVal → Bool
  | .agg cs, .agg as0 => chkSL cs.toList as0
  | v, a => chkS v a
def chkArg : Operand → XArg → Bool
  | .tmp t, .t n => t == n
  | .const v, .c a => chkV v a
  | .func f, .c (.fn (.func g) [] []) => f == g
  | _, _ => false
def chkArgs : List Operand → List XArg → Bool
  | [], [] => true
  | v :: vs, a :: as0 => chkArg v a && chkArgs vs as0
  | _, _ => false
def chkO : Option Operand → Option XArg → Bool
  | none, none => true
  | some v, some a => chkArg v a
  | _, _ => false
def isAggD : TypeDesc → Bool
  | .struct _ => true
  | .array _ _ => true
  | _ => false
def isIface : TypeDesc → Bool
  | .interface _ => true
  | _ => false
section
variable (P : Program)
def kindsF (one : TypeId → Option (List Nat)) : List Field → Nat → Option (List Nat)
  | [], _ => some []
  | f :: fs, off => if f.name = "_" then none else if f.offset = off then match one f.type with
      | some ks => match kindsF one fs (off + ks.length) with
        | some r => some (ks ++ r)
        | none => none
      | none => none
    else none
def kinds : Nat → TypeId → Option (List Nat)
  | 0, _ => none
  | d + 1, t => match P.underlying t with
    | some (.int _) => some [0]
    | some .bool => some [1]
    | some .string => some [2]
    | some (.struct fs) => if P.stoodInHeld t then none else match kindsF (kinds d) fs.toList 0 with
      | some ks => if (P.info? t).map (·.size) = some ks.length then some ks else none
      | none => none
    | some (.array n e) => match kinds d e with
      | some ks => if (P.info? t).map (·.size) = some (n * ks.length) ∧ (P.info? e).map (·.size) = some ks.length then some (List.replicate n ks).flatten else none
      | none => none
    | _ => none
def aggOf (t : TypeId) : Option Bool := (P.underlying t).map isAggD
def szOf (t : TypeId) : Option Nat := (P.info? t).map (·.size)
def byOf (t : TypeId) : Option Nat := (P.info? t).map (·.bytes)
def zeroOf (t : TypeId) : Option Value := (P.info? t).bind (·.zero)
def chkFields (fs : List Field) : Bool := fs.all fun f => (szOf P f.type).isSome
def chkPartsS (fs : Array Field) : List (Nat × Operand) → List (Nat × Nat × XArg) → Bool
  | [], [] => true
  | (i, x) :: ps, (off, n, y) :: qs => (match fs[i]? with
      | some f => f.offset == off && decide (szOf P f.type = some n)
      | none => false) && chkArg x y && chkPartsS fs ps qs
  | _, _ => false
def chkPartsA (s : Nat) : List (Nat × Operand) → List (Nat × Nat × XArg) → Bool
  | [], [] => true
  | (i, x) :: ps, (off, n, y) :: qs => off == i * s && n == s && chkArg x y && chkPartsA s ps qs
  | _, _ => false
def chkPartsE : List (Nat × Operand) → List (Nat × XArg) → Bool
  | [], [] => true
  | (i, x) :: ps, (j, y) :: qs => i == j && chkArg x y && chkPartsE ps qs
  | _, _ => false
def chkZ (e : TypeId) (es : Nat) (zero : AVal) : Bool :=
  match zeroOf P e with
  | some z => chkSL z.cells.toList (cellsOf zero) && (cellsOf zero).length == es && decide (1 ≤ es)
  | none => false
def intFs : List Field → Nat → Bool
  | [], _ => true
  | f :: fs, off => f.offset == off && (match P.underlying f.type with | some (.int _) => true | _ => false) && intFs fs (off + 1)
def keyTy (t : TypeId) (kd : Nat) : Bool := match P.underlying t with
  | some (.int _) => kd == 0
  | some .bool => kd == 1
  | some .string => kd == 2
  | some (.struct fs) => match kd with
    | n + 3 => decide (kinds P 20 t = some (List.replicate n 0)) && decide (fs.toList.length = n) && intFs P fs.toList 0
    | _ => false
  | _ => false
def chkZ1 (e : TypeId) (zero : AVal) : Bool := match zeroOf P e with
  | some z => chkV z zero
  | none => false
def chkOp2 : Op → XOp → Bool
  | _, .bad => true
  | .convert s d x, .b2s y => (match P.underlying s, P.underlying d with
    | some (.slice u), some .string => (match P.underlying u with | some (.int .u8) => true | _ => false)
    | _, _ => false) && chkArg x y
  | .range t x, .rngS y => (match P.underlying t with | some .string => true | _ => false) && chkArg x y
  | .next x true, .nxtS y => chkArg x y
  | .makeMap _ none, .mkM => true
  | .lookup t x i c, .lkp kd c' zero x' i' => (match P.underlying t with | some (.map k e) => keyTy P k kd && chkZ1 P e zero | _ => false) && c == c' && chkArg x x' && chkArg i i'
  | .mapUpdate t x i v, .mset kd x' i' v' => (match P.underlying t with | some (.map k _) => keyTy P k kd | _ => false) && chkArg x x' && chkArg i i' && chkArg v v'
  | .insert t x i v, .mset kd x' i' v' => (match P.underlying t with | some (.map k _) => keyTy P k kd | _ => false) && chkArg x x' && chkArg i i' && chkArg v v'
  | .mapEntry t x i, .ment kd zero x' i' => (match P.underlying t with | some (.map k e) => keyTy P k kd && chkZ1 P e zero | _ => false) && chkArg x x' && chkArg i i'
  | .entryStore _ x i v, .msto x' i' v' => chkArg x x' && chkArg i i' && chkArg v v'
  | .typeAssert x _ t true, .tas t' zero y => (match P.underlying t with | some d => !isIface d | none => false) && t == t' && chkZ1 P t zero && chkArg x y
  | .typeAssert x _ t true, .tai ys ns y => (match P.underlying t with
    | some (.interface want) => (ys.all fun u => match P.info? u with | some i => (Instr.missingMethod want i.methods).isNone | none => false) && (ns.all fun u => match P.info? u with | some i => (Instr.missingMethod want i.methods).isSome | none => false)
    | _ => false) && chkZ1 P t .nili && chkArg x y
  | _, _ => false
def chkOp : Op → XOp → Bool
  | .move x, .mv y => chkArg x y
  | .assign x, .mv y => chkArg x y
  | .pick c a b, .pick c' a' b' => chkArg c c' && chkArg a a' && chkArg b b'
  | .alloc t, .alloc cells => match zeroOf P t with
    | some z => chkSL z.cells.toList cells
    | none => false
  | .box _ x, .box y => chkArg x y
  | .build t parts, .build zero ps => match P.underlying t, zeroOf P t with
    | some (.struct fs), some z => chkSL z.cells.toList zero && chkFields P fs.toList && chkPartsS P fs parts.toList ps
    | some (.array _ e), some z => match szOf P e with
      | some s => chkSL z.cells.toList zero && chkPartsA s parts.toList ps
      | none => false
    | _, _ => false
  | .buildSlice t len parts, .mkslice es zero n ps => match P.underlying t with
    | some (.slice e) => decide (szOf P e = some es) && len == n && decide (n * es ≤ 16777216) && chkZ P e es zero && chkPartsE parts.toList ps
    | _ => false
  | .load t x, .load agg n y => decide (aggOf P t = some agg) && decide (szOf P t = some n) && chkArg x y
  | .store t x y, .store n x' y' => decide (szOf P t = some n) && chkArg x x' && chkArg y y'
  | .binOp op t x y _, .bin op' x' y' => decide (op = op') && chkArg x x' && chkArg y y' && (P.underlying t).isSome
  | .binOp op t x y _, .eqB neg x' y' => decide (op = if neg then .neq else .eql) && chkArg x x' && chkArg y y' && (match P.underlying t with | some .bool => true | _ => false)
  | .binOp op t x y _, .eqN neg kd x' => decide (op = if neg then .neq else .eql) && chkArg x x' && (match P.underlying t, y with
      | some (.slice _), .const (.slice none 0 0) => kd == 0
      | some (.interface _), .const .nilIface => kd == 1
      | some (.pointer _), .const (.pointer none) => kd == 2
      | _, _ => false)
  | .binOp op t x y _, .eqA neg ks x' y' => decide (op = if neg then .neq else .eql) && chkArg x x' && chkArg y y' && decide (kinds P 20 t = some ks) && !P.eqGuardType P.depth t && (match P.underlying t with | some (.struct _) => true | _ => false)
  | .nilCheck x, .nilChk y => chkArg x y
  | .unOp op _ x, .un op' y => decide (op = op') && chkArg x y
  | .convert s d x, .conv k y => (match P.underlying d with | some (.int k') => decide (k = k') | _ => false) && (P.underlying s).isSome && chkArg x y
  | .convert s d x, .idS y => (match P.underlying s, P.underlying d with | some .string, some .string => true | _, _ => false) && chkArg x y
  | .fieldAddr s x f, .fa off y => match P.underlying s with
    | some (.struct fs) => match fs[f]? with
      | some fd => fd.offset == off && (match szOf P fd.type with | some n => decide (n ≠ 0) | none => false) && chkArg x y
      | none => false
    | _ => false
  | .field s x f, .fld agg n off y => match P.underlying s with
    | some (.struct fs) => match fs[f]? with
      | some fd => fd.offset == off && decide (szOf P fd.type = some n) && decide (aggOf P fd.type = some agg) && chkArg x y
      | none => false
    | _ => false
  | .indexAddr t x i, .iaA n es x' i' => match P.underlying t with
    | some (.array m e) => m == n && decide (szOf P e = some es) && chkArg x x' && chkArg i i'
    | _ => false
  | .indexAddr t x i, .iaS es x' i' => match P.underlying t with
    | some (.slice e) => decide (szOf P e = some es) && chkArg x x' && chkArg i i'
    | _ => false
  | .index t x i, .ixA agg n es x' i' => match P.underlying t with
    | some (.array m e) => m == n && decide (szOf P e = some es) && decide (aggOf P e = some agg) && chkArg x x' && chkArg i i'
    | _ => false
  | .index t x i, .ixS x' i' => match P.underlying t with
    | some .string => chkArg x x' && chkArg i i'
    | _ => false
  | .makeSlice t l c, .mkS es bytes zero l' c' => match P.underlying t with
    | some (.slice e) => decide (szOf P e = some es) && decide (byOf P e = some bytes) && decide (1 ≤ bytes) && chkZ P e es zero && chkArg l l' && chkArg c c'
    | _ => false
  | .slice t x lo hi none, .slS x' lo' hi' => match P.underlying t with
    | some .string => chkArg x x' && chkO lo lo' && chkO hi hi'
    | _ => false
  | .slice t x lo hi mx, .slV es x' lo' hi' mx' => match P.underlying t with
    | some (.slice e) => decide (szOf P e = some es) && chkArg x x' && chkO lo lo' && chkO hi hi' && chkO mx mx' && (mx'.isNone || hi'.isSome)
    | _ => false
  | .slice t x lo hi none, .slA n es x' lo' hi' => match P.underlying t with
    | some (.array m e) => m == n && decide (szOf P e = some es) && chkArg x x' && chkO lo lo' && chkO hi hi'
    | _ => false
  | .extract x i, .ext y j => i == j && chkArg x y
  | .makeFunc f first cap, .mkf f' first' cap' => decide (f = f') && chkArgs first.toList first' && chkArgs cap.toList cap'
  | .makeInterface t x, .mki t' y => t == t' && chkArg x y && (match P.underlying t with | some d => !isIface d | none => false)
  | .call c, xo => match c.callee, xo with
    | _, .bad => true
    | .value f, .call f' args => chkArg f f' && chkArgs c.args.toList args
    | .value f, .callN f' args => chkArg f f' && chkArgs c.args.toList args
    | .value f, .callM f' args => chkArg f f' && chkArgs c.args.toList args
    | .value f, .callA f' args => chkArg f f' && chkArgs c.args.toList args
    | .invoke r m, .inv m' x args => m == m' && chkArg r x && chkArgs c.args.toList args
    | .builtin .delete, .mdel kd x' i' => match c.argTypes.toList, c.args.toList with
      | [t, _], [x, i] => (match P.underlying t with | some (.map k _) => keyTy P k kd | _ => false) && chkArg x x' && chkArg i i'
      | _, _ => false
    | .builtin .len, .lenS y => match c.argTypes[0]?, c.args[0]? with
      | some t, some x => (match P.underlying t with | some .string => true | _ => false) && chkArg x y
      | _, _ => false
    | .builtin .len, .lenV y => match c.argTypes[0]?, c.args[0]? with
      | some t, some x => (match P.underlying t with | some (.slice _) => true | _ => false) && chkArg x y
      | _, _ => false
    | .builtin .len, .mv (.c (.int .i64 n)) => match c.argTypes[0]?, c.args[0]? with
      | some t, some _ => (match P.underlying t with | some (.array m _) => decide (n = (m : Int)) | _ => false)
      | _, _ => false
    | .builtin .append, .app es bytes x' y' => match c.argTypes[0]?, c.argTypes[1]?, c.args[0]?, c.args[1]? with
      | some t, some t2, some x, some y => (match P.underlying t with
          | some (.slice e) => decide (szOf P e = some es) && decide (byOf P e = some bytes) && decide (1 ≤ bytes) && decide (1 ≤ es) &&
              (match zeroOf P e with | some z => z.cells.size == es | none => false)
          | _ => false) && (match P.underlying t2 with | some (.int _) => false | some _ => true | none => false) && chkArg x x' && chkArg y y'
      | _, _, _, _ => false
    | .builtin .copy, .cpy es x' y' => match c.argTypes[0]?, c.args[0]?, c.args[1]? with
      | some t, some x, some y => (match P.underlying t with | some (.slice e) => decide (szOf P e = some es) && decide (1 ≤ es) | _ => false) && chkArg x x' && chkArg y y'
      | _, _, _ => false
    | .builtin .max, .mnx true y ys => match c.args.toList with
      | x :: xs => chkArg x y && chkArgs xs ys
      | [] => false
    | .builtin .min, .mnx false y ys => match c.args.toList with
      | x :: xs => chkArg x y && chkArgs xs ys
      | [] => false
    | _, _ => false
  | op, xo => chkOp2 P op xo
end
def chkOper (P : Program) (nt : Nat) (ops : Array Oper) (o : Oper) (xo : XOper) : Bool :=
  decide (o.dst = xo.dst) && (match o.dst with | some d => decide (d < nt) | none => true) &&
  (match o.guard, xo.g with
   | none, none => true
   | some (j, b), some (s, c) => decide ((ops[j]?).bind (·.dst) = some s) && decide (s < nt) && b == c
   | _, _ => false) && chkOp P o.op xo.op
def chkOpers (P : Program) (nt : Nat) (ops : Array Oper) : List Oper → List XOper → Bool
  | [], [] => true
  | o :: os, x :: xs => chkOper P nt ops o x && chkOpers P nt ops os xs
  | _, _ => false
def isPure : XOp → Bool
  | .mv _ | .pick .. | .build .. | .bin .. | .eqB .. | .eqN .. | .idS _ | .nilChk _ | .eqA .. | .un .. | .conv .. | .fa .. | .fld .. | .iaA .. | .iaS .. | .ixA .. | .ixS .. | .slS .. | .slV ..
  | .lenS _ | .lenV _ | .mnx .. | .ext .. | .mkf .. | .mki .. | .bad | .tas .. | .tai .. => true
  | _ => false
def isLook : XOp → Bool
  | .load .. => true
  | _ => false
def eArgs : XOp → List XArg
  | .mv x | .box x | .un _ x | .conv _ x | .fa _ x | .fld _ _ _ x | .lenS x | .lenV x | .ext x _ | .mki _ x | .eqN _ _ x | .idS x | .nilChk x | .load _ _ x => [x]
  | .pick a b c => [a, b, c]
  | .alloc _ | .bad | .mkM => []
  | .b2s x | .rngS x | .nxtS x => [x]
  | .lkp _ _ _ x i | .ment _ _ x i | .mdel _ x i => [x, i]
  | .mset _ x i v | .msto x i v => [x, i, v]
  | .build _ ps => ps.map (·.2.2)
  | .mkslice _ _ _ ps => ps.map (·.2)
  | .store _ x y | .bin _ x y | .eqB _ x y | .eqA _ _ x y | .iaA _ _ x y | .iaS _ x y | .ixA _ _ _ x y | .ixS x y | .mkS _ _ _ x y | .app _ _ x y | .cpy _ x y => [x, y]
  | .slS x l h | .slA _ _ x l h => x :: (l.toList ++ h.toList)
  | .slV _ x l h m => x :: (l.toList ++ (h.toList ++ m.toList))
  | .mnx _ x xs => x :: xs
  | .call f as0 => f :: as0
  | .callN f as0 => f :: as0
  | .callM f as0 => f :: as0
  | .callA f as0 => f :: as0
  | .inv _ x as0 => x :: as0
  | .tas _ _ x | .tai _ _ x => [x]
  | .mkf _ f c => f ++ c
def looks (o : XOper) : List Nat :=
  (eArgs o.op).filterMap (fun | .t n => some n | .c _ => none) ++ (match o.g with | some (s, _) => [s] | none => [])
def apartT (x y : XOper) : Bool :=
  (match x.dst with | some d => !(looks y).contains d && y.dst != some d | none => true) &&
  (match y.dst with | some d => !(looks x).contains d | none => true)
def chkBef (ops : List Oper) (bef : List (List Nat)) : Bool :=
  ops.length == bef.length && (List.range ops.length).all fun i =>
    match ops[i]?, bef[i]? with
    | some o, some b => (o.after.toList.all fun e => !Region.binds .any e || decide (e.on < i)) &&
        (b.all fun a => o.after.toList.any fun e => Region.binds .any e && (e.on == a || (bef[e.on]?.getD []).contains a))
    | _, _ => false
def befC (acc : List (List Nat)) : List Oper → List (List Nat)
  | [] => acc
  | o :: os => befC (acc ++ [((o.after.toList.filter fun e => Region.binds .any e).flatMap fun e => e.on :: (acc[e.on]?.getD [])).eraseDups]) os
def chkDraw (ops : List Oper) (xs : List XOper) (d : XDraw) : Bool :=
  chkBef ops (befC [] ops) && (List.range xs.length).all fun j => (List.range j).all fun i =>
    ((befC [] ops)[j]?.getD []).contains i ||
      (match xs[i]?, xs[j]? with
       | some x, some y => apartT x y && (isPure x.op || isPure y.op || (isLook x.op && isLook y.op) || d.hot.contains (i, j))
       | _, _ => false)
def chkCode (P : Program) (nt : Nat) : Code → XCode → Bool
  | .skip, .skip => true
  | .label _, .skip => true
  | .region id ops draw, .reg id' xs d => id == id' && chkOpers P nt ops ops.toList xs && (match draw, d with
      | false, none => true
      | true, some d => chkDraw ops.toList xs d
      | _, _ => false)
  | .seq a b, .seq x y => chkCode P nt a x && chkCode P nt b y
  | .cond c a b, .cond c' x y => chkArg c c' && chkCode P nt a x && chkCode P nt b y
  | .block id a, .block id' x => id == id' && chkCode P nt a x
  | .loop a, .loop x => chkCode P nt a x
  | .scope a, .scope x => chkCode P nt a x
  | .exit id, .exit id' => id == id'
  | .ret, .ret => true
  | _, .bad => true
  | _, _ => false
def chkRes (P : Program) : List ResultVar → List XRes → Bool
  | [], [] => true
  | .tmp t :: rs, .tmp u :: xs => t == u && chkRes P rs xs
  | .cell a t :: rs, .cell b agg n :: xs => a == b && decide (aggOf P t = some agg) && decide (szOf P t = some n) && chkRes P rs xs
  | _, _ => false
def chkF (P : Program) (fn : Func) (x : XFunc) : Bool :=
  !(fn.name == "runtime.NumGoroutine") && fn.ntmps == x.nt && fn.params.size + fn.nfree == x.np && decide (x.np ≤ x.nt) && chkRes P fn.results.toList x.res &&
  (match fn.body with | some c => chkCode P x.nt c x.body | none => false)
end Go.Xec
namespace Go.Xec
open Go
theorem Rd.run_bind {α β : Type} (h : Heap) : ∀ (r : Rd α) (f : α → Rd β), (r.bind f).run h = (r.run h).bind fun a => (f a).run h
  | .ret a, f => rfl
  | .fail, f => rfl
  | .get k g, f => by simp only [Rd.bind, Rd.run]; exact Rd.run_bind h (g (h k)) f
theorem Rd.run_ofO {α : Type} (h : Heap) (a : Option α) : (Rd.ofO a).run h = a := by cases a <;> rfl
theorem Rd.run_ret {α : Type} (h : Heap) (a : α) : (Rd.ret a).run h = some a := rfl
theorem Rd.run_fail {α : Type} (h : Heap) : (Rd.fail : Rd α).run h = none := rfl
theorem Rd.run_get {α : Type} (h : Heap) (k : Key) (f : Option Blk → Rd α) : (Rd.get k f).run h = (f (h k)).run h := rfl
theorem run_pure1 {h : Heap} {a : Option AVal} {r : Outp} (hr : ((Rd.ofO a).bind fun v => Rd.ret (v, ([] : Wr))).run h = some r) : ∃ v, a = some v ∧ r = (v, []) := by
  rw [Rd.run_bind, Rd.run_ofO] at hr
  cases a with
  | none => cases hr
  | some v => simp only [Option.bind_some, Rd.run_ret, Option.some.injEq] at hr; exact ⟨v, rfl, hr.symm⟩
section
variable {P : Program} {B : Nat} {S0 : Base} {ρc : Operand → Value} {o : Oper} {x : Ctx} {h : Heap} {nc : Nat} {key : Key} {e : XArg → AVal}
def OpOk (P : Program) (B : Nat) (S0 : Base) (ρc : Operand → Value) (o : Oper) (x : Ctx) (h' : Heap) (nc : Nat) (key : Key) (v : AVal) : Prop :=
  ∃ u y, ((execOp ρc o).run P x.w = .ok (.value u) y.w ∨ ((execOp ρc o).run P x.w = .ok .skip y.w ∧ u = undef)) ∧ V y v u ∧ Sim B S0 h' nc y ∧ Step B x y ∧
    (∀ k g p, y.ρ k g = some p → (∃ g' p', x.ρ k g' = some p') ∨ k = key)
def ArgsOk (x : Ctx) (ρc : Operand → Value) (e : XArg → AVal) : Prop := ∀ a b, chkArg a b = true → V x (e b) (ρc a)
theorem pureOk (hs : Sim B S0 h nc x) {u : Value} {v : AVal} (hr : (execOp ρc o).run P x.w = .ok (.value u) x.w) (hv : V x v u) : OpOk P B S0 ρc o x (applyW h []) nc key v :=
  ⟨u, x, .inl hr, hv, hs, Step.refl _ _, fun _ g p hp => .inl ⟨g, p, hp⟩⟩
theorem chkS_ok {x : Ctx} {v : Value} {a : AVal} (h : chkS v a = true) : V x a v := by
  unfold chkS at h
  split at h <;> simp_all [V]
theorem chkSL_ok {x : Ctx} : ∀ {vs : List Value} {as0 : List AVal}, chkSL vs as0 = true → VL x as0 vs
  | [], [], _ => by simp [VL]
  | [], _ :: _, h => by simp [chkSL] at h
  | _ :: _, [], h => by simp [chkSL] at h
  | v :: vs, a :: as0, h => by
    simp only [chkSL, Bool.and_eq_true] at h
    simp only [VL]
    exact ⟨v, vs, rfl, chkS_ok h.1, chkSL_ok h.2⟩
theorem chkV_ok {x : Ctx} {v : Value} {a : AVal} (h : chkV v a = true) : V x a v := by
  unfold chkV at h
  split at h
  · rename_i cs as0
    simp only [V]
    exact ⟨cs.toList, by simp, chkSL_ok h⟩
  · exact chkS_ok h
theorem ok_mv (hs : Sim B S0 h nc x) {a : Operand} {b : XArg} (hop : o.op = .move a ∨ o.op = .assign a) (ha : V x (e b) (ρc a)) : OpOk P B S0 ρc o x (applyW h []) nc key (e b) := by
  refine pureOk hs (u := ρc a) ?_ ha
  rcases hop with hop | hop <;> simp [execOp, hop]
theorem ok_pick (hs : Sim B S0 h nc x) {c a b : Operand} {t : Bool} {va vb : AVal} (hop : o.op = .pick c a b) (hc : V x (.bool t) (ρc c)) (ha : V x va (ρc a)) (hb : V x vb (ρc b)) :
    OpOk P B S0 ρc o x (applyW h []) nc key (if t then va else vb) := by
  simp only [V] at hc
  refine pureOk hs (u := if t then ρc a else ρc b) ?_ ?_
  · simp [execOp, hop, hc, asBool]
  · cases t <;> simpa
theorem V_int {x : Ctx} {k : IntKind} {n : Int} {v : Value} (h : V x (.int k n) v) : v = .int k n := by simpa only [V] using h
theorem V_bool {x : Ctx} {b : Bool} {v : Value} (h : V x (.bool b) v) : v = .bool b := by simpa only [V] using h
theorem V_str {x : Ctx} {s : ByteArray} {v : Value} (h : V x (.str s) v) : v = .string s := by simpa only [V] using h
theorem run_intBits (op : BinOp) (k : IntKind) (a b : Int) (w : World) (v : AVal) (hop : op = .and ∨ op = .or ∨ op = .xor ∨ op = .andNot) (h : intBin op k a b = some v) :
    ∃ u, (Op.intBits op k a b).run P w = .ok u w ∧ V x v u := by
  rcases hop with rfl | rfl | rfl | rfl <;> (simp only [intBin, Option.some.injEq] at h; subst h; exact ⟨_, rfl, by simp [V]⟩)
theorem ok_bin (hs : Sim B S0 h nc x) {op : BinOp} {t yt : TypeId} {a b : Operand} {xa xb : XArg} {v : AVal} (hop : o.op = .binOp op t a b yt) (ha : V x (e xa) (ρc a)) (hb : V x (e xb) (ρc b))
    (ht : (P.underlying t).isSome = true) (hv : binA op (e xa) (e xb) = some v) : OpOk P B S0 ρc o x (applyW h []) nc key v := by
  unfold binA at hv
  split at hv
  · rename_i k n k' m h1 h2
    rw [h1] at ha; rw [h2] at hb
    have ha := V_int ha
    have hb := V_int hb
    split at hv
    · rename_i hsh
      unfold shiftBin at hv
      split at hv
      · cases hv
      · rename_i hneg
        cases op <;> simp [isShift] at hsh <;> simp only [Option.some.injEq] at hv <;> subst hv
        · exact pureOk hs (u := .int k (k.wrap (n * 2 ^ (min m.toNat k.bits)))) (by simp [execOp, hop, ha, hb, eqGuard, binOp, Op.shift, hneg]) (by simp [V])
        · exact pureOk hs (u := .int k (n.fdiv (2 ^ (min m.toNat k.bits)))) (by simp [execOp, hop, ha, hb, eqGuard, binOp, Op.shift, hneg]) (by simp [V])
    · rename_i hsh
      split at hv
      · rename_i hk
        subst hk
        cases op <;> simp [isShift] at hsh <;> simp only [intBin] at hv
        case add => cases hv; exact pureOk hs (u := .int k (k.wrap (n + m))) (by simp [execOp, hop, ha, hb, eqGuard, binOp, Op.intArith]) (by simp [V])
        case sub => cases hv; exact pureOk hs (u := .int k (k.wrap (n - m))) (by simp [execOp, hop, ha, hb, eqGuard, binOp, Op.intArith]) (by simp [V])
        case mul => cases hv; exact pureOk hs (u := .int k (k.wrap (n * m))) (by simp [execOp, hop, ha, hb, eqGuard, binOp, Op.intArith]) (by simp [V])
        case quo =>
          split at hv
          · cases hv
          · rename_i h0
            cases hv; exact pureOk hs (u := .int k (k.wrap (n.tdiv m))) (by simp [execOp, hop, ha, hb, eqGuard, binOp, Op.intDiv, h0]) (by simp [V])
        case rem =>
          split at hv
          · cases hv
          · rename_i h0
            cases hv; exact pureOk hs (u := .int k (n.tmod m)) (by simp [execOp, hop, ha, hb, eqGuard, binOp, Op.intDiv, h0]) (by simp [V])
        case and => cases hv; exact pureOk hs (u := .int k (k.wrap (BitVec.ofInt k.bits n &&& BitVec.ofInt k.bits m).toNat)) (by simp only [execOp, hop, ha, hb, eqGuard, binOp, Op.intBits, ne_eq, not_true, if_false, Bool.not_false, if_true]; rfl) (by simp only [V])
        case or => cases hv; exact pureOk hs (u := .int k (k.wrap (BitVec.ofInt k.bits n ||| BitVec.ofInt k.bits m).toNat)) (by simp only [execOp, hop, ha, hb, eqGuard, binOp, Op.intBits, ne_eq, not_true, if_false, Bool.not_false, if_true]; rfl) (by simp only [V])
        case xor => cases hv; exact pureOk hs (u := .int k (k.wrap (BitVec.ofInt k.bits n ^^^ BitVec.ofInt k.bits m).toNat)) (by simp only [execOp, hop, ha, hb, eqGuard, binOp, Op.intBits, ne_eq, not_true, if_false, Bool.not_false, if_true]; rfl) (by simp only [V])
        case andNot => cases hv; exact pureOk hs (u := .int k (k.wrap (BitVec.ofInt k.bits n &&& ~~~BitVec.ofInt k.bits m).toNat)) (by simp only [execOp, hop, ha, hb, eqGuard, binOp, Op.intBits, ne_eq, not_true, if_false, Bool.not_false, if_true]; rfl) (by simp only [V])
        case eql => cases hv; exact pureOk hs (u := .bool (n == m)) (by simp [execOp, hop, ha, hb, eqGuard, binOp, Op.intCmp]) (by simp [V])
        case neq => cases hv; exact pureOk hs (u := .bool (n != m)) (by simp [execOp, hop, ha, hb, eqGuard, binOp, Op.intCmp]) (by simp [V])
        case lss => cases hv; exact pureOk hs (u := .bool (n < m)) (by simp [execOp, hop, ha, hb, eqGuard, binOp, Op.intCmp]) (by simp [V])
        case leq => cases hv; exact pureOk hs (u := .bool (n ≤ m)) (by simp [execOp, hop, ha, hb, eqGuard, binOp, Op.intCmp]) (by simp [V])
        case gtr => cases hv; exact pureOk hs (u := .bool (n > m)) (by simp [execOp, hop, ha, hb, eqGuard, binOp, Op.intCmp]) (by simp [V])
        case geq => cases hv; exact pureOk hs (u := .bool (n ≥ m)) (by simp [execOp, hop, ha, hb, eqGuard, binOp, Op.intCmp]) (by simp [V])
      · cases hv
  · rename_i s s' h1 h2
    rw [h1] at ha; rw [h2] at hb
    have ha := V_str ha
    have hb := V_str hb
    cases op <;> simp only [strBin] at hv <;> try cases hv
    case add =>
      split at hv
      · rename_i hsz
        cases hv
        have : ¬ (((s.size + s'.size : Nat) : Int) > IntKind.i64.max) := by simp only [IntKind.max_i64]; omega
        exact pureOk hs (u := .string (s ++ s')) (by simp only [execOp, hop, ha, hb, eqGuard, binOp, Op.stringOp, this, if_false]; rfl) (by simp [V])
      · cases hv
    all_goals exact pureOk hs (u := .bool _) (by simp only [execOp, hop, ha, hb, eqGuard, binOp, Op.stringOp]; rfl) (by simp only [V])
  · cases hv
theorem equalIn_bool (d : Nat) {t : TypeId} (ht : P.underlying t = some .bool) (a b : Bool) (w : World) : (Op.equalIn (d + 1) t (.bool a) (.bool b)).run P w = .ok (a == b) w := by
  simp [Op.equalIn, run_underlying ht]
theorem equal_bool {t : TypeId} (ht : P.underlying t = some .bool) (a b : Bool) (w : World) : (Op.equal t (.bool a) (.bool b)).run P w = .ok (a == b) w := equalIn_bool 9999 ht a b w
theorem ok_eqB (hs : Sim B S0 h nc x) {neg : Bool} {op : BinOp} {t yt : TypeId} {a b : Operand} {s s' : Bool} (hop : o.op = .binOp op t a b yt) (hn : op = if neg then .neq else .eql) (ha : V x (.bool s) (ρc a)) (hb : V x (.bool s') (ρc b))
    (ht : P.underlying t = some .bool) : OpOk P B S0 ρc o x (applyW h []) nc key (.bool (if neg then !(s == s') else s == s')) := by
  have ha := V_bool ha
  have hb := V_bool hb
  have hu := fun w => equal_bool ht s s' w
  cases neg <;> simp only [Bool.false_eq_true, if_false, if_true] at hn ⊢ <;> subst hn
  · exact pureOk hs (u := .bool (s == s')) (by simp only [execOp, hop, ha, hb, eqGuard, binOp, Sem.run_bind, Sem.run_ite, Sem.run_pure, ite_self, Result.andThen_ok, hu]) (by simp only [V])
  · exact pureOk hs (u := .bool !(s == s')) (by simp only [execOp, hop, ha, hb, eqGuard, binOp, Sem.run_bind, Sem.run_ite, Sem.run_pure, ite_self, Result.andThen_ok, hu]) (by simp only [V])
theorem equalIn_nils (d : Nat) {t et : TypeId} (ht : P.underlying t = some (.slice et)) (v : Value) (r : Bool) (hv : (r = true ∧ v = .slice none 0 0) ∨ (r = false ∧ ∃ a n c, v = .slice (some a) n c)) (w : World) :
    (Op.equalIn (d + 1) t v (.slice none 0 0)).run P w = .ok r w := by
  rcases hv with ⟨rfl, rfl⟩ | ⟨rfl, a, n, c, rfl⟩ <;> simp [Op.equalIn, run_underlying ht]
theorem equalIn_nili (d : Nat) {t : TypeId} {ms : Array (String × TypeId)} (ht : P.underlying t = some (.interface ms)) (v : Value) (r : Bool) (hv : (r = true ∧ v = .nilIface) ∨ (r = false ∧ ∃ a u, v = .iface a u)) (w : World) :
    (Op.equalIn (d + 1) t v .nilIface).run P w = .ok r w := by
  rcases hv with ⟨rfl, rfl⟩ | ⟨rfl, a, n, rfl⟩ <;> simp [Op.equalIn, run_underlying ht]
theorem equalIn_nilp (d : Nat) {t et : TypeId} (ht : P.underlying t = some (.pointer et)) (v : Value) (r : Bool) (hv : (r = true ∧ v = .pointer none) ∨ (r = false ∧ ∃ a, v = .pointer (some a))) (w : World) :
    (Op.equalIn (d + 1) t v (.pointer none)).run P w = .ok r w := by
  rcases hv with ⟨rfl, rfl⟩ | ⟨rfl, a, rfl⟩ <;> simp [Op.equalIn, run_underlying ht]
theorem run_eq_of {neg : Bool} {op : BinOp} {t : TypeId} {a b : Operand} {va vb : Value} {r : Bool} (w : World) (hn : op = if neg then .neq else .eql) (hk : (∃ n c, ∃ ad, va = .slice ad n c) ∨ va = .nilIface ∨ (∃ tt u, va = .iface tt u) ∨ (∃ p, va = .pointer p) ∨ (∃ cs, va = .agg cs))
    (hg : (eqGuard op t a b va vb).run P w = .ok () w) (hr : (Op.equal t va vb).run P w = .ok r w) (hb : ∀ s, vb ≠ .string s) (hi : ∀ k n, vb ≠ .int k n) (hf : ∀ k n, vb ≠ .float k n) (hc : ∀ k n m, vb ≠ .complex k n m) (hp : ∀ p, va = .pointer p → ∃ q, vb = .pointer q) :
    ((do eqGuard op t a b va vb; binOp op t va vb) : Sem Value).run P w = .ok (.bool (if neg then !r else r)) w := by
  rw [Sem.run_bind, hg, Result.andThen_ok]
  cases neg <;> simp only [Bool.false_eq_true, if_false, if_true] at hn ⊢ <;> subst hn
  all_goals
    rcases hk with ⟨n, c, ad, rfl⟩ | rfl | ⟨tt, u, rfl⟩ | ⟨p, rfl⟩ | ⟨cs, rfl⟩ <;> first
      | (simp only [binOp, Sem.run_bind, hr, Result.andThen_ok, Sem.run_pure])
      | (obtain ⟨q, rfl⟩ := hp _ rfl; cases p <;> cases q <;> simp only [binOp, Sem.run_bind, hr, Result.andThen_ok, Sem.run_pure])
theorem ok_eqN (hs : Sim B S0 h nc x) {neg : Bool} {kd : Nat} {op : BinOp} {t yt : TypeId} {a : Operand} {cv : Value} {va : AVal} {r : Bool} (hop : o.op = .binOp op t a (.const cv) yt) (hn : op = if neg then .neq else .eql) (ha : V x va (ρc a)) (hcv : ρc (.const cv) = cv)
    (hb : (kd = 0 ∧ (∃ et, P.underlying t = some (.slice et)) ∧ cv = .slice none 0 0) ∨ (kd = 1 ∧ (∃ ms, P.underlying t = some (.interface ms)) ∧ cv = .nilIface) ∨ (kd = 2 ∧ (∃ et, P.underlying t = some (.pointer et)) ∧ cv = .pointer none))
    (hr : nilA kd va = some r) : OpOk P B S0 ρc o x (applyW h []) nc key (.bool (if neg then !r else r)) := by
  have main : (execOp ρc o).run P x.w = .ok (.value (.bool (if neg then !r else r))) x.w := by
    have hv : ((do eqGuard op t a (.const cv) (ρc a) cv; binOp op t (ρc a) cv) : Sem Value).run P x.w = .ok (.bool (if neg then !r else r)) x.w := by
      rcases hb with ⟨rfl, ⟨et, ht⟩, rfl⟩ | ⟨rfl, ⟨ms, ht⟩, rfl⟩ | ⟨rfl, ⟨et, ht⟩, rfl⟩
      · have hx : (r = true ∧ ρc a = .slice none 0 0) ∨ (r = false ∧ ∃ ad n c, ρc a = .slice (some ad) n c) := by
          cases va <;> simp only [nilA, Option.some.injEq, reduceCtorEq] at hr <;> subst hr <;> simp only [V] at ha
          · exact .inl ⟨rfl, ha⟩
          · obtain ⟨ad, ha⟩ := ha; exact .inr ⟨rfl, ad, _, _, ha⟩
          · obtain ⟨b, oo, cap, ha, _⟩ := ha; exact .inr ⟨rfl, _, _, _, ha⟩
          · obtain ⟨b, oo, ad, cap, _, ha, _⟩ := ha; exact .inr ⟨rfl, _, _, _, ha⟩
        refine run_eq_of x.w hn ?_ ?_ (equalIn_nils 9999 ht _ r hx x.w) (by simp) (by simp) (by simp) (by simp) ?_
        · rcases hx with ⟨_, hx⟩ | ⟨_, ad, n, c, hx⟩ <;> exact .inl ⟨_, _, _, hx⟩
        · rcases hx with ⟨_, hx⟩ | ⟨_, ad, n, c, hx⟩ <;> rw [hx] <;> cases neg <;> subst hn <;> simp [eqGuard]
        · intro p hp; rcases hx with ⟨_, hx⟩ | ⟨_, ad, n, c, hx⟩ <;> rw [hx] at hp <;> cases hp
      · have hx : (r = true ∧ ρc a = .nilIface) ∨ (r = false ∧ ∃ tt u, ρc a = .iface tt u) := by
          cases va <;> simp only [nilA, Option.some.injEq, reduceCtorEq] at hr <;> subst hr <;> simp only [V] at ha
          · exact .inl ⟨rfl, ha⟩
          · obtain ⟨u, ha, _⟩ := ha; exact .inr ⟨rfl, _, _, ha⟩
        refine run_eq_of x.w hn ?_ ?_ (equalIn_nili 9999 ht _ r hx x.w) (by simp) (by simp) (by simp) (by simp) ?_
        · rcases hx with ⟨_, hx⟩ | ⟨_, tt, u, hx⟩
          · exact .inr (.inl hx)
          · exact .inr (.inr (.inl ⟨_, _, hx⟩))
        · rcases hx with ⟨_, hx⟩ | ⟨_, tt, u, hx⟩ <;> rw [hx] <;> cases neg <;> subst hn <;> simp [eqGuard]
        · intro p hp; rcases hx with ⟨_, hx⟩ | ⟨_, tt, u, hx⟩ <;> rw [hx] at hp <;> cases hp
      · have hx : (r = true ∧ ρc a = .pointer none) ∨ (r = false ∧ ∃ ad, ρc a = .pointer (some ad)) := by
          cases va <;> simp only [nilA, Option.some.injEq, reduceCtorEq] at hr <;> subst hr <;> simp only [V] at ha
          · exact .inl ⟨rfl, ha⟩
          · obtain ⟨b, oo, _, ha⟩ := ha; exact .inr ⟨rfl, _, ha⟩
          · obtain ⟨b, oo, ha, _⟩ := ha; exact .inr ⟨rfl, _, ha⟩
        refine run_eq_of x.w hn ?_ ?_ (equalIn_nilp 9999 ht _ r hx x.w) (by simp) (by simp) (by simp) (by simp) ?_
        · rcases hx with ⟨_, hx⟩ | ⟨_, ad, hx⟩ <;> exact .inr (.inr (.inr (.inl ⟨_, hx⟩)))
        · rcases hx with ⟨_, hx⟩ | ⟨_, ad, hx⟩ <;> rw [hx] <;> cases neg <;> subst hn <;> simp [eqGuard]
        · intro p hp; exact ⟨none, rfl⟩
    simp only [execOp, hop, hcv]
    rw [Sem.run_bind, hv, Result.andThen_ok, Sem.run_pure]
  exact pureOk hs main (by simp only [V])
end
section
variable {P : Program} {B : Nat} {S0 : Base} {ρc : Operand → Value} {o : Oper} {x : Ctx} {h : Heap} {nc : Nat} {key : Key} {e : XArg → AVal}
theorem szOf_run {t : TypeId} {n : Nat} (h : szOf P t = some n) (w : World) : (sizeOf t).run P w = .ok n w := by
  unfold szOf at h
  cases hi : P.info? t with
  | none => rw [hi] at h; cases h
  | some i =>
    rw [hi] at h
    simp only [Option.map_some, Option.some.injEq] at h
    rw [run_sizeOf (w := w) hi, Program.cellsOf, hi]
    simp only [Option.map_some, Option.getD_some, h]
theorem aggOf_run {t : TypeId} {b : Bool} (h : aggOf P t = some b) (w : World) : (isAgg t).run P w = .ok b w := by
  unfold aggOf at h
  cases hu : P.underlying t with
  | none => rw [hu] at h; cases h
  | some d =>
    rw [hu] at h
    simp only [Option.map_some, Option.some.injEq] at h
    subst h
    simp only [isAgg, Sem.run_bind, run_underlying hu, Result.andThen_ok]
    cases d <;> simp [isAggD]
theorem info_run {t : TypeId} {n : Nat} (h : byOf P t = some n) (w : World) : ∃ i, (typeInfo t).run P w = .ok i w ∧ i.bytes = n := by
  unfold byOf at h
  cases hi : P.info? t with
  | none => rw [hi] at h; cases h
  | some i =>
    rw [hi] at h
    simp only [Option.map_some, Option.some.injEq] at h
    exact ⟨i, run_typeInfo (w := w) hi, h⟩
theorem zero_run {t : TypeId} {z : Value} (h : zeroOf P t = some z) (w : World) : (zeroValue t).run P w = .ok z w := by
  unfold zeroOf at h
  cases hi : P.info? t with
  | none => rw [hi] at h; cases h
  | some i =>
    rw [hi] at h
    simp only [Option.bind_some] at h
    simp only [zeroValue, Sem.run_bind, run_typeInfo (w := w) hi, Result.andThen_ok, h, Sem.run_pure]
theorem ok_un (hs : Sim B S0 h nc x) {op : UnOp} {t : TypeId} {a : Operand} {va v : AVal} (hop : o.op = .unOp op t a) (ha : V x va (ρc a)) (hv : unA op va = some v) : OpOk P B S0 ρc o x (applyW h []) nc key v := by
  unfold unA at hv
  split at hv
  · rename_i k n
    have ha := V_int ha
    cases op <;> simp only [reduceCtorEq] at hv
    · cases hv
      exact pureOk hs (u := .int k (k.wrap (0 - n))) (by simp only [execOp, hop, ha, Op.unary, Op.intArith, Sem.run_bind, Sem.run_pure, Result.andThen_ok]) (by simp only [V])
    · have hop' : (Op.unary .xor (.int k n)) = Op.intBits .xor k (if k.signed then -1 else k.max) n := rfl
      obtain ⟨u, hu, hvu⟩ := run_intBits (x := x) (P := P) .xor k (if k.signed then -1 else k.max) n x.w v (by simp) hv
      exact pureOk hs (u := u) (by simp only [execOp, hop, ha, hop', Sem.run_bind, hu, Sem.run_pure, Result.andThen_ok]) hvu
  · rename_i b
    have ha := V_bool ha
    cases op <;> simp only [reduceCtorEq] at hv
    cases hv
    exact pureOk hs (u := .bool !b) (by simp only [execOp, hop, ha, Op.unary, Sem.run_bind, Sem.run_pure, Result.andThen_ok]) (by simp only [V])
  · cases hv
theorem ok_conv (hs : Sim B S0 h nc x) {s d : TypeId} {k j : IntKind} {n : Int} {a : Operand} (hop : o.op = .convert s d a) (ha : V x (.int j n) (ρc a)) (hd : P.underlying d = some (.int k)) (hsrc : (P.underlying s).isSome = true) :
    OpOk P B S0 ρc o x (applyW h []) nc key (.int k (k.wrap n)) := by
  have ha := V_int ha
  obtain ⟨ds, hds⟩ := Option.isSome_iff_exists.1 hsrc
  refine pureOk hs (u := .int k (k.wrap n)) ?_ (by simp only [V])
  simp only [execOp, hop, ha, convert, Sem.run_bind, run_underlying hds, run_underlying hd, Result.andThen_ok, Conv.intToInt, Sem.run_pure]
theorem ok_idS (hs : Sim B S0 h nc x) {s d : TypeId} {a : Operand} {st : ByteArray} (hop : o.op = .convert s d a) (ha : V x (.str st) (ρc a)) (hd : P.underlying d = some .string) (hsrc : P.underlying s = some .string) :
    OpOk P B S0 ρc o x (applyW h []) nc key (.str st) := by
  have ha := V_str ha
  refine pureOk hs (u := .string st) ?_ (by simp only [V])
  simp only [execOp, hop, ha, convert, Sem.run_bind, run_underlying hsrc, run_underlying hd, Result.andThen_ok, Sem.run_pure]
theorem ok_nilChk (hs : Sim B S0 h nc x) {a : Operand} {va : AVal} (hop : o.op = .nilCheck a) (ha : V x va (ρc a)) (hl : liveA va = true) :
    OpOk P B S0 ρc o x (applyW h []) nc key va := by
  refine pureOk hs (u := ρc a) ?_ ha
  cases va <;> simp only [liveA] at hl <;> try cases hl
  · simp only [V] at ha
    obtain ⟨b, oo, _, hv⟩ := ha
    simp only [execOp, hop, hv, Sem.run_pure]
  · simp only [V] at ha
    obtain ⟨b, oo, hv, _⟩ := ha
    simp only [execOp, hop, hv, Sem.run_pure]
  · simp only [V] at ha
    obtain ⟨u, hv, _⟩ := ha
    simp only [execOp, hop, hv, Sem.run_pure]
  · simp only [V] at ha
    obtain ⟨fs, cs, hv, _⟩ := ha
    rename_i f _ _ _
    cases f
    · simp only [execOp, hop, hv, Sem.run_pure]
    all_goals cases hl
theorem add_off (b o n : Nat) : (⟨b, o, none⟩ : Addr).add n = ⟨b, o + n, none⟩ := by
  unfold Addr.add; split
  · simp_all
  · rfl
theorem ok_fa (hs : Sim B S0 h nc x) {s : TypeId} {a : Operand} {f : Nat} {fs : Array Field} {fd : Field} {n off : Nat} {va v : AVal} (hop : o.op = .fieldAddr s a f) (ha : V x va (ρc a)) (hst : P.underlying s = some (.struct fs)) (hf : fs[f]? = some fd)
    (hoff : fd.offset = off) (hn : szOf P fd.type = some n) (h0 : n ≠ 0) (hv : faA off va = some v) : OpOk P B S0 ρc o x (applyW h []) nc key v := by
  have run : ∀ b oo, ρc a = .pointer (some ⟨b, oo, none⟩) → (execOp ρc o).run P x.w = .ok (.value (.pointer (some ⟨b, oo + off, none⟩))) x.w := by
    intro b oo hp
    simp only [execOp, hop, hp, Instr.fieldAt, Sem.run_bind, run_underlying hst, Result.andThen_ok, hf, Instr.sureAddr, Sem.run_pure, fieldPlace, szOf_run hn, Sem.run_ite, h0, if_false, add_off, hoff]
  cases va <;> simp only [faA, Option.some.injEq, reduceCtorEq] at hv <;> subst hv <;> simp only [V] at ha
  · obtain ⟨b, oo, hρ, ha⟩ := ha
    refine pureOk hs (run _ _ ha) ?_
    simp only [V]
    exact ⟨b, oo, hρ, by congr 3; omega⟩
  · obtain ⟨b, oo, ha, hS, hc⟩ := ha
    refine pureOk hs (run _ _ ha) ?_
    simp only [V]
    exact ⟨b, oo, by congr 3; omega, hS, hc⟩
theorem part_ok {t : TypeId} {agg : Bool} {n off : Nat} {cs : List AVal} {vs : List Value} {v : AVal} (hagg : aggOf P t = some agg) (hn : szOf P t = some n) (hl : VL x cs vs) (hv : takeV agg n off cs = some v) (w : World) :
    ∃ u, (part t vs.toArray off).run P w = .ok u w ∧ V x v u := by
  have hlen := hl.length
  cases agg with
  | true =>
    simp only [takeV, if_true] at hv
    split at hv
    · cases hv
      refine ⟨.agg (vs.toArray.extract off (off + n)), ?_, ?_⟩
      · simp only [part, Sem.run_bind, aggOf_run hagg, Result.andThen_ok, szOf_run hn, if_true, Sem.run_pure]
      · simp only [V]
        refine ⟨(vs.drop off).take n, ?_, (hl.drop off).take n⟩
        simp [List.extract_eq_take_drop]
    · cases hv
  | false =>
    simp only [takeV, Bool.false_eq_true, if_false] at hv
    obtain ⟨u, hu, hvu⟩ := hl.get hv
    refine ⟨u, ?_, hvu⟩
    simp only [part, Sem.run_bind, aggOf_run hagg, Result.andThen_ok, Bool.false_eq_true, if_false]
    simp [hu]
theorem ok_fld (hs : Sim B S0 h nc x) {s : TypeId} {a : Operand} {f : Nat} {fs : Array Field} {fd : Field} {n off : Nat} {agg : Bool} {cs : List AVal} {v : AVal} (hop : o.op = .field s a f) (ha : V x (.agg cs) (ρc a)) (hst : P.underlying s = some (.struct fs))
    (hf : fs[f]? = some fd) (hoff : fd.offset = off) (hn : szOf P fd.type = some n) (hagg : aggOf P fd.type = some agg) (hv : takeV agg n off cs = some v) : OpOk P B S0 ρc o x (applyW h []) nc key v := by
  simp only [V] at ha
  obtain ⟨vs, ha, hl⟩ := ha
  obtain ⟨u, hu, hvu⟩ := part_ok (P := P) hagg hn hl hv x.w
  refine pureOk hs (u := u) ?_ hvu
  simp only [execOp, hop, ha, Instr.field, Sem.run_bind, run_underlying hst, Result.andThen_ok, hf, asAgg, Sem.run_pure, hoff, hu]
theorem ok_iaA (hs : Sim B S0 h nc x) {t et : TypeId} {a b : Operand} {n es : Nat} {va vb v : AVal} (hop : o.op = .indexAddr t a b) (ha : V x va (ρc a)) (hb : V x vb (ρc b)) (ht : P.underlying t = some (.array n et)) (hn : szOf P et = some es)
    (hv : iaAA n es va vb = some v) : OpOk P B S0 ρc o x (applyW h []) nc key v := by
  have run : ∀ k (j : Int) bb oo, ρc b = .int k j → 0 ≤ j ∧ j < n → ρc a = .pointer (some ⟨bb, oo, none⟩) → (execOp ρc o).run P x.w = .ok (.value (.pointer (some ⟨bb, oo + j.toNat * es, none⟩))) x.w := by
    intro k j bb oo hj hr hp
    simp only [execOp, hop, hp, hj, Instr.indexAt, asIntOf, Sem.run_bind, run_underlying ht, Result.andThen_ok, Instr.sureAddr, Sem.run_pure, Sem.run_ite, hr, and_self, if_true, szOf_run hn, add_off]
  unfold iaAA at hv
  split at hv
  · have hb := V_int hb
    split at hv
    · rename_i hr
      cases hv
      simp only [V] at ha
      obtain ⟨bb, oo, hρ, ha⟩ := ha
      refine pureOk hs (run _ _ _ _ hb hr ha) ?_
      simp only [V]
      exact ⟨bb, oo, hρ, by congr 3; omega⟩
    · cases hv
  · have hb := V_int hb
    split at hv
    · rename_i hr
      cases hv
      simp only [V] at ha
      obtain ⟨bb, oo, ha, hS, hc⟩ := ha
      refine pureOk hs (run _ _ _ _ hb hr ha) ?_
      simp only [V]
      exact ⟨bb, oo, by congr 3; omega, hS, hc⟩
    · cases hv
  · cases hv
theorem ok_iaS (hs : Sim B S0 h nc x) {t et : TypeId} {a b : Operand} {es : Nat} {va vb v : AVal} (hop : o.op = .indexAddr t a b) (ha : V x va (ρc a)) (hb : V x vb (ρc b)) (ht : P.underlying t = some (.slice et)) (hn : szOf P et = some es)
    (hv : iaSA es va vb = some v) : OpOk P B S0 ρc o x (applyW h []) nc key v := by
  have run : ∀ k (j : Int) ad (len cap : Nat), ρc b = .int k j → 0 ≤ j ∧ j < len → ρc a = .slice (some ad) len cap → (execOp ρc o).run P x.w = .ok (.value (.pointer (some (ad.add (j.toNat * es))))) x.w := by
    intro k j ad len cap hj hr hp
    simp only [execOp, hop, hp, hj, Instr.indexAt, asIntOf, Sem.run_bind, run_underlying ht, Result.andThen_ok, Instr.sureAddr, Sem.run_pure, Sem.run_ite, hr, and_self, if_true, szOf_run hn]
  unfold iaSA at hv
  split at hv
  · rename_i es' xs k j
    have hb := V_int hb
    split at hv
    · rename_i hr
      obtain ⟨rfl, hj⟩ := hr
      cases hx : xs[j.toNat]? with
      | none => rw [hx] at hv; cases hv
      | some y =>
        rw [hx] at hv
        simp only [Option.map_some, Option.some.injEq] at hv
        subst hv
        simp only [V] at ha
        obtain ⟨bb, oo, cap, ha, hcap, hS, hr⟩ := ha
        have hlt : j.toNat < xs.length := by
          rcases Nat.lt_or_ge j.toNat xs.length with h1 | h1
          · exact h1
          · rw [List.getElem?_eq_none h1] at hx; cases hx
        have hne : xs ≠ [] := by intro e; subst e; simp at hlt
        refine pureOk hs (run _ _ _ _ _ hb ⟨hj, by omega⟩ ha) ?_
        simp only [V]
        refine ⟨bb, oo + j.toNat * es, by rw [add_off, Nat.add_zero], hS.resolve_left hne, (VE_cells (hr.get hx)).2⟩
    · cases hv
  · have hb := V_int hb
    split at hv
    · rename_i hr
      obtain ⟨rfl, hj, hlt⟩ := hr
      cases hv
      simp only [V] at ha
      obtain ⟨bb, oo, ad, cap, hρ, ha, hlc, had, hz, hsp⟩ := ha
      refine pureOk hs (run _ _ _ _ _ hb ⟨hj, hlt⟩ ha) ?_
      simp only [V]
      have hc0 : cap ≠ 0 := by omega
      refine ⟨bb, oo, hρ, ?_⟩
      rw [had.resolve_left hc0, add_off, Nat.add_mul, Nat.add_zero, Nat.add_assoc]
    · cases hv
  · cases hv
theorem ok_ixA (hs : Sim B S0 h nc x) {t et : TypeId} {a b : Operand} {n es : Nat} {agg : Bool} {va vb v : AVal} (hop : o.op = .index t a b) (ha : V x va (ρc a)) (hb : V x vb (ρc b)) (ht : P.underlying t = some (.array n et)) (hn : szOf P et = some es)
    (hagg : aggOf P et = some agg) (hv : ixAA agg n es va vb = some v) : OpOk P B S0 ρc o x (applyW h []) nc key v := by
  unfold ixAA at hv
  split at hv
  · rename_i cs k j
    have hb := V_int hb
    split at hv
    · rename_i hr
      simp only [V] at ha
      obtain ⟨vs, ha, hl⟩ := ha
      obtain ⟨u, hu, hvu⟩ := part_ok (P := P) hagg hn hl hv x.w
      refine pureOk hs (u := u) ?_ hvu
      simp only [execOp, hop, ha, hb, Instr.index, asIntOf, Sem.run_bind, run_underlying ht, Result.andThen_ok, Sem.run_pure, Sem.run_ite, hr, and_self, if_true, szOf_run hn, hu]
    · cases hv
  · cases hv
theorem ok_ixS (hs : Sim B S0 h nc x) {t : TypeId} {a b : Operand} {va vb v : AVal} (hop : o.op = .index t a b) (ha : V x va (ρc a)) (hb : V x vb (ρc b)) (ht : P.underlying t = some .string)
    (hv : ixSA va vb = some v) : OpOk P B S0 ρc o x (applyW h []) nc key v := by
  unfold ixSA at hv
  split at hv
  · rename_i s k j
    have hb := V_int hb
    have ha := V_str ha
    split at hv
    · rename_i hj
      cases hx : s[j.toNat]? with
      | none => rw [hx] at hv; cases hv
      | some y =>
        rw [hx] at hv
        simp only [Option.map_some, Option.some.injEq] at hv
        subst hv
        refine pureOk hs (u := .int .u8 y.toNat) ?_ (by simp only [V])
        simp only [execOp, hop, ha, hb, Instr.index, asIntOf, Sem.run_bind, run_underlying ht, Result.andThen_ok, Sem.run_pure, hj, if_true, hx]
    · cases hv
  · cases hv
theorem ok_lenS (hs : Sim B S0 h nc x) {c : Call} {t : TypeId} {a : Operand} {s : ByteArray} (hop : o.op = .call c) (hc : c.callee = .builtin .len) (h0 : c.argTypes[0]? = some t) (h1 : c.args[0]? = some a) (ha : V x (.str s) (ρc a)) (ht : P.underlying t = some .string) :
    OpOk P B S0 ρc o x (applyW h []) nc key (.int .i64 s.size) := by
  have ha := V_str ha
  refine pureOk hs (u := .int .i64 s.size) ?_ (by simp only [V])
  simp only [execOp, hop, resolve, hc, Sem.run_bind, Sem.run_pure, Result.andThen_ok, invoke, builtin, Builtin.len_, h0, Array.getElem?_map, h1, Option.map_some, run_underlying ht, ha, goInt]
theorem ok_lenV (hs : Sim B S0 h nc x) {c : Call} {t et : TypeId} {a : Operand} {va v : AVal} (hop : o.op = .call c) (hc : c.callee = .builtin .len) (h0 : c.argTypes[0]? = some t) (h1 : c.args[0]? = some a) (ha : V x va (ρc a)) (ht : P.underlying t = some (.slice et)) (hv : lenVA va = some v) :
    OpOk P B S0 ρc o x (applyW h []) nc key v := by
  have run : ∀ ad (n cap : Nat), ρc a = .slice ad n cap → (execOp ρc o).run P x.w = .ok (.value (.int .i64 n)) x.w := by
    intro ad n cap hp
    simp only [execOp, hop, resolve, hc, Sem.run_bind, Sem.run_pure, Result.andThen_ok, invoke, builtin, Builtin.len_, h0, Array.getElem?_map, h1, Option.map_some, run_underlying ht, hp, goInt]
  cases va <;> simp only [lenVA, Option.some.injEq, reduceCtorEq] at hv <;> subst hv <;> simp only [V] at ha
  · exact pureOk hs (run _ _ _ ha) (by simp only [V]; rfl)
  · obtain ⟨ad, ha⟩ := ha; exact pureOk hs (run _ _ _ ha) (by simp only [V]; rfl)
  · obtain ⟨b, oo, cap, ha, _⟩ := ha; exact pureOk hs (run _ _ _ ha) (by simp only [V])
  · obtain ⟨b, oo, ad, cap, _, ha, _⟩ := ha; exact pureOk hs (run _ _ _ ha) (by simp only [V])
theorem ok_lenA (hs : Sim B S0 h nc x) {c : Call} {t et : TypeId} {n : Nat} {a : Operand} (hop : o.op = .call c) (hc : c.callee = .builtin .len) (h0 : c.argTypes[0]? = some t) (h1 : c.args[0]? = some a) (ht : P.underlying t = some (.array n et)) :
    OpOk P B S0 ρc o x (applyW h []) nc key (.int .i64 n) := by
  refine pureOk hs (u := .int .i64 n) ?_ (by simp only [V])
  simp only [execOp, hop, resolve, hc, Sem.run_bind, Sem.run_pure, Result.andThen_ok, invoke, builtin, Builtin.len_, h0, Array.getElem?_map, h1, Option.map_some, run_underlying ht, goInt]
theorem run_mnx (isMax : Bool) (w : World) : ∀ (vs : List AVal) (us : List Value) (a v : AVal) (u : Value), VL x vs us → V x a u → mnxA isMax a vs = some v →
    ∃ r, (us.foldlM (if isMax then Builtin.max2 else Builtin.min2) u).run P w = .ok r w ∧ V x v r
  | [], us, a, v, u, hl, ha, hv => by
    simp only [VL] at hl; subst hl
    simp only [mnxA, Option.some.injEq] at hv; subst hv
    exact ⟨u, by simp, ha⟩
  | b :: vs, us, a, v, u, hl, ha, hv => by
    unfold mnxA at hv
    split at hv
    · rename_i h; cases h
    · rename_i k n k' m r h
      cases h
      simp only [VL] at hl
      obtain ⟨ub, us', rfl, hb, hl⟩ := hl
      have ha := V_int ha
      have hb := V_int hb
      obtain ⟨r, hr, hvr⟩ := run_mnx isMax w vs us' _ v (.int k (if isMax then (if m > n then m else n) else (if m < n then m else n))) hl (by simp only [V]) hv
      refine ⟨r, ?_, hvr⟩
      rw [List.foldlM_cons, Sem.run_bind]
      cases isMax
      · simp only [Bool.false_eq_true, if_false, ha, hb, Builtin.min2, Sem.run_pure, Result.andThen_ok] at hr ⊢; exact hr
      · simp only [if_true, ha, hb, Builtin.max2, Sem.run_pure, Result.andThen_ok] at hr ⊢; exact hr
    · cases hv
theorem ok_mnx (hs : Sim B S0 h nc x) {c : Call} {isMax : Bool} {a : Operand} {as0 : List Operand} {va v : AVal} {vs : List AVal} (hop : o.op = .call c) (hc : c.callee = .builtin (if isMax then .max else .min)) (hargs : c.args.toList = a :: as0) (ha : V x va (ρc a)) (hl : VL x vs (as0.map ρc))
    (hv : mnxA isMax va vs = some v) : OpOk P B S0 ρc o x (applyW h []) nc key v := by
  obtain ⟨r, hr, hvr⟩ := run_mnx (P := P) isMax x.w vs _ va v _ hl ha hv
  refine pureOk hs (u := r) ?_ hvr
  have hm : (c.args.map ρc).toList = ρc a :: as0.map ρc := by rw [Array.toList_map, hargs]; rfl
  cases isMax
  · simp only [Bool.false_eq_true, if_false] at hc hr
    simp only [execOp, hop, resolve, hc, Sem.run_bind, Sem.run_pure, Result.andThen_ok, invoke, builtin, Builtin.min_, hm, hr]
  · simp only [if_true] at hc hr
    simp only [execOp, hop, resolve, hc, Sem.run_bind, Sem.run_pure, Result.andThen_ok, invoke, builtin, Builtin.max_, hm, hr]
theorem ok_ext (hs : Sim B S0 h nc x) {a : Operand} {i : Nat} {xs : List AVal} {v : AVal} (hop : o.op = .extract a i) (ha : V x (.tup xs) (ρc a)) (hv : xs[i]? = some v) : OpOk P B S0 ρc o x (applyW h []) nc key v := by
  simp only [V] at ha
  obtain ⟨vs, ha, hl⟩ := ha
  obtain ⟨u, hu, hvu⟩ := hl.get hv
  refine pureOk hs (u := u) ?_ hvu
  simp [execOp, hop, ha, Instr.extract, hu]
theorem ok_mkf (hs : Sim B S0 h nc x) {f : Fn} {first cap : Array Operand} {fs cs : List AVal} (hop : o.op = .makeFunc f first cap) (h1 : VL x fs (first.toList.map ρc)) (h2 : VL x cs (cap.toList.map ρc)) : OpOk P B S0 ρc o x (applyW h []) nc key (.fn f fs cs) := by
  refine pureOk hs (u := .func f (first.map ρc) (cap.map ρc)) ?_ ?_
  · simp only [execOp, hop, Instr.makeFunc, Sem.run_bind, Sem.run_pure, Result.andThen_ok]
  · simp only [V]
    exact ⟨first.toList.map ρc, cap.toList.map ρc, by rw [← Array.toList_map, ← Array.toList_map], h1, h2⟩
theorem ok_mki (hs : Sim B S0 h nc x) {t : TypeId} {a : Operand} {va : AVal} {d : TypeDesc} (hop : o.op = .makeInterface t a) (ha : V x va (ρc a)) (ht : P.underlying t = some d) (hd : isIface d = false) : OpOk P B S0 ρc o x (applyW h []) nc key (.ifc t va) := by
  refine pureOk hs (u := .iface t (ρc a)) ?_ ?_
  · simp only [execOp, hop, Instr.makeInterface, Sem.run_bind, run_underlying ht, Result.andThen_ok]
    cases d <;> simp [isIface] at hd ⊢
  · simp only [V]; exact ⟨_, rfl, ha⟩
theorem ok_tas (hs : Sim B S0 h nc x) {t xt : TypeId} {a : Operand} {va z v : AVal} {d : TypeDesc} {zv : Value} (hop : o.op = .typeAssert a xt t true) (ha : V x va (ρc a)) (ht : P.underlying t = some d) (hd : isIface d = false) (hz : zeroOf P t = some zv) (hzc : chkV zv z = true) (hv : tasA t z va = some v) :
    OpOk P B S0 ρc o x (applyW h []) nc key v := by
  have hzv := chkV_ok (x := x) hzc
  unfold tasA at hv
  split at hv
  · rename_i t' w
    simp only [V] at ha
    obtain ⟨u, ha, hu⟩ := ha
    by_cases h : t' = t
    · rw [if_pos h] at hv
      cases hv
      refine pureOk hs (u := .tuple #[u, .bool true]) ?_ ?_
      · simp only [execOp, hop, ha, Instr.typeAssert, Sem.run_bind, run_underlying ht, Result.andThen_ok]
        cases d <;> simp [isIface, h] at hd ⊢
      · simp only [V, VL]
        exact ⟨_, rfl, _, _, rfl, hu, _, _, rfl, rfl, rfl⟩
    · rw [if_neg h] at hv
      cases hv
      refine pureOk hs (u := .tuple #[zv, .bool false]) ?_ ?_
      · simp only [execOp, hop, ha, Instr.typeAssert, Sem.run_bind, run_underlying ht, Result.andThen_ok]
        cases d <;> simp [isIface, h, zero_run hz] at hd ⊢
      · simp only [V, VL]
        exact ⟨_, rfl, _, _, rfl, hzv, _, _, rfl, rfl, rfl⟩
  · cases hv
    simp only [V] at ha
    refine pureOk hs (u := .tuple #[zv, .bool false]) ?_ ?_
    · simp only [execOp, hop, ha, Instr.typeAssert, Sem.run_bind, run_underlying ht, Result.andThen_ok]
      cases d <;> simp [isIface, zero_run hz] at hd ⊢
    · simp only [V, VL]
      exact ⟨_, rfl, _, _, rfl, hzv, _, _, rfl, rfl, rfl⟩
  · cases hv
theorem tinfo_run {t : TypeId} {i : TypeInfo} (h : P.info? t = some i) (w : World) : (typeInfo t).run P w = .ok i w := by
  simp [typeInfo, Sem.run_bind, h]
theorem ok_tai (hs : Sim B S0 h nc x) {t xt : TypeId} {a : Operand} {va v : AVal} {want : Array (String × TypeId)} {zv : Value} {ys ns : List TypeId} (hop : o.op = .typeAssert a xt t true) (ha : V x va (ρc a)) (ht : P.underlying t = some (.interface want))
    (hy : (ys.all fun u => match P.info? u with | some i => (Instr.missingMethod want i.methods).isNone | none => false) = true) (hn : (ns.all fun u => match P.info? u with | some i => (Instr.missingMethod want i.methods).isSome | none => false) = true)
    (hz : zeroOf P t = some zv) (hzc : chkV zv .nili = true) (hv : taiA ys ns va = some v) : OpOk P B S0 ρc o x (applyW h []) nc key v := by
  have hzv := chkV_ok (x := x) hzc
  simp only [V] at hzv
  subst hzv
  unfold taiA at hv
  split at hv
  · rename_i t' w
    have ha' := ha
    simp only [V] at ha
    obtain ⟨u, ha, hu⟩ := ha
    split at hv
    · rename_i h
      cases hv
      have h1 := List.all_eq_true.1 hy t' (by simpa using h)
      cases hi : P.info? t' with
      | none => rw [hi] at h1; cases h1
      | some i =>
        rw [hi] at h1
        simp only [Option.isNone_iff_eq_none] at h1
        refine pureOk hs (u := .tuple #[.iface t' u, .bool true]) ?_ ?_
        · simp only [execOp, hop, ha, Instr.typeAssert, Sem.run_bind, run_underlying ht, Result.andThen_ok, tinfo_run hi, h1]; simp
        · simp only [V, VL]
          exact ⟨_, rfl, _, _, rfl, ⟨_, rfl, hu⟩, _, _, rfl, rfl, rfl⟩
    · split at hv
      · rename_i h
        cases hv
        have h1 := List.all_eq_true.1 hn t' (by simpa using h)
        cases hi : P.info? t' with
        | none => rw [hi] at h1; cases h1
        | some i =>
          rw [hi] at h1
          obtain ⟨m, h1⟩ := Option.isSome_iff_exists.1 h1
          refine pureOk hs (u := .tuple #[.nilIface, .bool false]) ?_ ?_
          · simp only [execOp, hop, ha, Instr.typeAssert, Sem.run_bind, run_underlying ht, Result.andThen_ok, tinfo_run hi, h1]; simp [zero_run hz]
          · simp only [V, VL]
            exact ⟨_, rfl, _, _, rfl, rfl, _, _, rfl, rfl, rfl⟩
      · cases hv
  · cases hv
    simp only [V] at ha
    refine pureOk hs (u := .tuple #[.nilIface, .bool false]) ?_ ?_
    · simp [execOp, hop, ha, Instr.typeAssert, Sem.run_bind, run_underlying ht, zero_run hz]
    · simp only [V, VL]
      exact ⟨_, rfl, _, _, rfl, rfl, _, _, rfl, rfl, rfl⟩
  · cases hv
theorem run_bound {v : AVal} {u : Value} {n : Nat} (y : Nat) (code : BoundsCode) (hb : bnd (some v) 0 = some n) (hv : V x v u) (hn : n ≤ y) (w : World) : (Instr.sliceBound u y code).run P w = .ok n w := by
  unfold bnd at hb
  split at hb
  · rename_i h; cases h
  · rename_i k j h
    cases h
    split at hb
    · rename_i hj
      cases hb
      have hv := V_int hv
      have : 0 ≤ j ∧ j ≤ (y : Int) := ⟨hj, by omega⟩
      simp only [Instr.sliceBound, hv, asIntOf, Sem.run_bind, Sem.run_pure, Result.andThen_ok, Sem.run_ite, this, and_self, if_true]
    · cases hb
  · cases hb
theorem bnd_some {v : AVal} {d d' : Nat} : bnd (some v) d = bnd (some v) d' := by cases v <;> rfl
def VO (x : Ctx) : Option AVal → Option Value → Prop
  | none, none => True
  | some a, some u => V x a u
  | _, _ => False
theorem run_bounds {lo hi : Option AVal} {ul uh : Option Value} {isSl : Bool} {len cap l hh : Nat} (hl : VO x lo ul) (hh' : VO x hi uh) (h1 : bnd lo 0 = some l) (h2 : bnd hi len = some hh) (hlh : l ≤ hh) (hc : hh ≤ cap) (w : World) :
    (Instr.sliceBounds isSl len cap ul uh none).run P w = .ok (l, hh, cap) w := by
  have low : (∃ v u, lo = some v ∧ ul = some u ∧ ∀ code, (Instr.sliceBound u hh code).run P w = .ok l w) ∨ (ul = none ∧ l = 0) := by
    cases ul with
    | none =>
      cases lo with
      | none => simp only [bnd, Option.some.injEq] at h1; exact .inr ⟨rfl, h1.symm⟩
      | some _ => exact hl.elim
    | some u =>
      cases lo with
      | none => exact hl.elim
      | some v => exact .inl ⟨v, u, rfl, rfl, fun code => run_bound hh code h1 hl hlh w⟩
  have high : (∃ v u, hi = some v ∧ uh = some u ∧ ∀ code, (Instr.sliceBound u cap code).run P w = .ok hh w) ∨ (uh = none ∧ hh = len) := by
    cases uh with
    | none =>
      cases hi with
      | none => simp only [bnd, Option.some.injEq] at h2; exact .inr ⟨rfl, h2.symm⟩
      | some _ => exact hh'.elim
    | some u =>
      cases hi with
      | none => exact hh'.elim
      | some v => exact .inl ⟨v, u, rfl, rfl, fun code => run_bound cap code (bnd_some.trans h2) hh' hc w⟩
  rcases low with ⟨_, u1, _, rfl, e1⟩ | ⟨rfl, rfl⟩ <;> rcases high with ⟨_, u2, _, rfl, e2⟩ | ⟨rfl, rfl⟩ <;>
    simp only [Instr.sliceBounds, Sem.run_bind, Sem.run_pure, Result.andThen_ok] <;> first
      | (rw [e2]; simp only [Result.andThen_ok]; rw [e1]; simp only [Result.andThen_ok])
      | (rw [e1]; simp only [Result.andThen_ok])
      | (rw [e2]; simp only [Result.andThen_ok])
theorem ok_slS (hs : Sim B S0 h nc x) {t : TypeId} {a : Operand} {lo hi : Option Operand} {va v : AVal} {l h' : Option AVal} (hop : o.op = .slice t a lo hi none) (ha : V x va (ρc a)) (hl : VO x l (lo.map ρc)) (hh : VO x h' (hi.map ρc)) (ht : P.underlying t = some .string)
    (hv : slSA va l h' = some v) : OpOk P B S0 ρc o x (applyW h []) nc key v := by
  unfold slSA at hv
  split at hv
  · rename_i s
    split at hv
    · rename_i ll hhh e1 e2
      split at hv
      · rename_i hb
        cases hv
        have ha := V_str ha
        refine pureOk hs (u := .string (s.extract ll hhh)) ?_ (by simp only [V])
        simp only [execOp, hop, Instr.sliceAt, Sem.run_bind, run_underlying ht, Result.andThen_ok, Instr.slice, ha, Option.map_none, Option.isSome_none, Bool.false_eq_true, if_false, Sem.run_pure, run_bounds hl hh e1 e2 hb.1 hb.2]
      · cases hv
    · cases hv
  · cases hv
theorem ok_slV1 (hs : Sim B S0 h nc x) {t et : TypeId} {es0 : Nat} {a : Operand} {lo hi : Option Operand} {va v : AVal} {l h' : Option AVal} (hop : o.op = .slice t a lo hi none) (ha : V x va (ρc a)) (hl : VO x l (lo.map ρc)) (hh : VO x h' (hi.map ρc)) (ht : P.underlying t = some (.slice et)) (hn : szOf P et = some es0)
    (hv : slVA es0 va l h' none = some v) : OpOk P B S0 ρc o x (applyW h []) nc key v := by
  have run : ∀ ad (len cap ll hhh : Nat), ρc a = .slice ad len cap → bnd l 0 = some ll → bnd h' len = some hhh → ll ≤ hhh → hhh ≤ cap →
      (execOp ρc o).run P x.w = .ok (.value (.slice (if cap = ll then ad else ad.map (·.add (ll * es0))) (hhh - ll) (cap - ll))) x.w := by
    intro ad len cap ll hhh hp e1 e2 h1 h2
    simp only [execOp, hop, Instr.sliceAt, Sem.run_bind, run_underlying ht, Result.andThen_ok, Instr.slice, hp, Option.map_none, run_bounds hl hh e1 e2 h1 h2, szOf_run hn, Sem.run_pure]
  cases va <;> simp only [slVA] at hv <;> try cases hv
  case slc es xs =>
    split at hv
    · rename_i ll hhh e1 e2
      split at hv
      · rename_i hb
        obtain ⟨rfl, hb1, hb2⟩ := hb
        cases hv
        simp only [V] at ha
        obtain ⟨b, oo, cap, ha, hcap, hS, hr⟩ := ha
        refine pureOk hs (run _ _ _ _ _ ha e1 e2 hb1 (by omega)) ?_
        simp only [V]
        by_cases hc : cap = ll
        · refine ⟨b, oo, cap - ll, ?_, by simp; omega, .inl ?_, ?_⟩
          · simp only [hc, if_true]; congr 1; simp; omega
          · have : hhh - ll = 0 := by omega
            simp [this]
          · have : hhh - ll = 0 := by omega
            simp [this, VR]
        · refine ⟨b, oo + ll * es, cap - ll, ?_, by simp; omega, ?_, (hr.drop ll).take _⟩
          · simp only [hc, if_false, Option.map_some, add_off]; congr 1; simp; omega
          · rcases hS with rfl | hS
            · exact .inl (by simp)
            · exact .inr hS
      · cases hv
    · cases hv
  case sl k g es off len =>
    split at hv
    · rename_i ll hhh e1 e2
      split at hv
      · rename_i hb
        obtain ⟨rfl, hb1, hb2⟩ := hb
        cases hv
        simp only [V] at ha
        obtain ⟨b, oo, ad, cap, hρ, ha, hcap, had, hz, hsp⟩ := ha
        refine pureOk hs (run _ _ _ _ _ ha e1 e2 hb1 (by omega)) ?_
        simp only [V]
        by_cases hc : cap = ll
        · refine ⟨b, oo, ad, cap - ll, hρ, by simp only [hc, if_true], by omega, .inl (by omega), ?_, hsp⟩
          have : off + ll + (cap - ll) = off + cap := by omega
          rw [this]; exact hz
        · refine ⟨b, oo, ad.add (ll * es), cap - ll, hρ, by simp only [hc, if_false, Option.map_some], by omega, .inr ?_, ?_, ?_⟩
          · rw [had.resolve_left (by omega), add_off, Nat.add_mul, Nat.add_assoc]
          · have : off + ll + (cap - ll) = off + cap := by omega
            rw [this]; exact hz
          · rw [had.resolve_left (by omega), add_off]
      · cases hv
    · cases hv
  case nils =>
    split at hv
    · rename_i e1 e2
      cases hv
      simp only [V] at ha
      refine pureOk hs (run _ _ _ _ _ ha e1 e2 (Nat.le_refl _) (Nat.le_refl _)) ?_
      simp [V]
    · cases hv
  case emp =>
    split at hv
    · rename_i e1 e2
      cases hv
      simp only [V] at ha
      obtain ⟨ad, ha⟩ := ha
      refine pureOk hs (run _ _ _ _ _ ha e1 e2 (Nat.le_refl _) (Nat.le_refl _)) ?_
      simp [V]
    · cases hv
theorem run_bounds3 {lo hi : Option AVal} {ul uh : Option Value} {um : Value} {vm : AVal} {isSl : Bool} {len cap l hh m : Nat} (hl : VO x lo ul) (hh' : VO x hi uh) (hm : V x vm um) (h1 : bnd lo 0 = some l) (h2 : bnd hi len = some hh) (h3 : bnd (some vm) 0 = some m) (hsome : hi ≠ none) (hlh : l ≤ hh) (hc : hh ≤ m) (hm' : m ≤ cap) (w : World) :
    (Instr.sliceBounds isSl len cap ul uh (some um)).run P w = .ok (l, hh, m) w := by
  have low : (∃ v u, lo = some v ∧ ul = some u ∧ ∀ code, (Instr.sliceBound u hh code).run P w = .ok l w) ∨ (ul = none ∧ l = 0) := by
    cases ul with
    | none =>
      cases lo with
      | none => simp only [bnd, Option.some.injEq] at h1; exact .inr ⟨rfl, h1.symm⟩
      | some _ => exact hl.elim
    | some u =>
      cases lo with
      | none => exact hl.elim
      | some v => exact .inl ⟨v, u, rfl, rfl, fun code => run_bound hh code h1 hl hlh w⟩
  have high : ∃ u, uh = some u ∧ ∀ code, (Instr.sliceBound u m code).run P w = .ok hh w := by
    cases uh with
    | none =>
      cases hi with
      | none => exact absurd rfl hsome
      | some _ => exact hh'.elim
    | some u =>
      cases hi with
      | none => exact hh'.elim
      | some v => exact ⟨u, rfl, fun code => run_bound m code (bnd_some.trans h2) hh' hc w⟩
  have e3 : ∀ code, (Instr.sliceBound um cap code).run P w = .ok m w := fun code => run_bound cap code h3 hm hm' w
  obtain ⟨u2, rfl, e2⟩ := high
  rcases low with ⟨_, u1, _, rfl, e1⟩ | ⟨rfl, rfl⟩
  · simp only [Instr.sliceBounds, Sem.run_bind, Sem.run_pure, Result.andThen_ok]
    rw [e3]; simp only [Result.andThen_ok]; rw [e2]; simp only [Result.andThen_ok]; rw [e1]; simp only [Result.andThen_ok]
  · simp only [Instr.sliceBounds, Sem.run_bind, Sem.run_pure, Result.andThen_ok]
    rw [e3]; simp only [Result.andThen_ok]; rw [e2]; simp only [Result.andThen_ok]
theorem ok_slV3 (hs : Sim B S0 h nc x) {t et : TypeId} {es0 : Nat} {a m : Operand} {lo hi : Option Operand} {va v vm : AVal} {l h' : Option AVal} (hop : o.op = .slice t a lo hi (some m)) (ha : V x va (ρc a)) (hl : VO x l (lo.map ρc)) (hh : VO x h' (hi.map ρc)) (hm : V x vm (ρc m)) (hsome : h' ≠ none)
    (ht : P.underlying t = some (.slice et)) (hn : szOf P et = some es0) (hv : slVA es0 va l h' (some vm) = some v) : OpOk P B S0 ρc o x (applyW h []) nc key v := by
  have run : ∀ ad (len cap ll hhh mm : Nat), ρc a = .slice ad len cap → bnd l 0 = some ll → bnd h' len = some hhh → bnd (some vm) 0 = some mm → ll ≤ hhh → hhh ≤ mm → mm ≤ cap →
      (execOp ρc o).run P x.w = .ok (.value (.slice (if mm = ll then ad else ad.map (·.add (ll * es0))) (hhh - ll) (mm - ll))) x.w := by
    intro ad len cap ll hhh mm hp e1 e2 e3 h1 h2 h3
    simp only [execOp, hop, Instr.sliceAt, Sem.run_bind, run_underlying ht, Result.andThen_ok, Instr.slice, hp, Option.map_some, run_bounds3 hl hh hm e1 e2 e3 hsome h1 h2 h3, szOf_run hn, Sem.run_pure]
  cases va <;> simp only [slVA] at hv <;> try cases hv
  case slc es xs =>
    split at hv
    · rename_i ll hhh mm e1 e2 e3
      split at hv
      · rename_i hb
        obtain ⟨rfl, hb1, hb2, hb3⟩ := hb
        cases hv
        simp only [V] at ha
        obtain ⟨b, oo, cap, ha, hcap, hS, hr⟩ := ha
        refine pureOk hs (run _ _ _ _ _ _ ha e1 e2 e3 (by omega) (by omega) (by omega)) ?_
        simp only [V]
        refine ⟨⟨b, oo, none⟩, ?_⟩
        rw [if_pos (by omega)]
        congr 1 <;> omega
      · cases hv
    · cases hv
  case nils =>
    split at hv
    · rename_i e1 e2 e3
      cases hv
      simp only [V] at ha
      refine pureOk hs (run _ _ _ _ _ _ ha e1 e2 e3 (Nat.le_refl _) (Nat.le_refl _) (Nat.le_refl _)) ?_
      simp [V]
    · cases hv
theorem ok_slA (hs : Sim B S0 h nc x) {t et : TypeId} {n es0 : Nat} {a : Operand} {lo hi : Option Operand} {va v : AVal} {l h' : Option AVal} (hop : o.op = .slice t a lo hi none) (ha : V x va (ρc a)) (hl : VO x l (lo.map ρc)) (hh : VO x h' (hi.map ρc)) (ht : P.underlying t = some (.array n et)) (hn : szOf P et = some es0)
    (hv : slAA n es0 va l h' = some v) (hbig : ∀ k es, va = .ptr k 0 0 es 0 → ∀ b oo, x.ρ k 0 = some (b, oo) → oo + n * es0 ≤ bsz x.w b) : OpOk P B S0 ρc o x (applyW h []) nc key v := by
  have run : ∀ ad (ll hhh : Nat), ρc a = .pointer (some ad) → bnd l 0 = some ll → bnd h' n = some hhh → ll ≤ hhh → hhh ≤ n →
      (execOp ρc o).run P x.w = .ok (.value (.slice (some (if n = ll then ad else ad.add (ll * es0))) (hhh - ll) (n - ll))) x.w := by
    intro ad ll hhh hp e1 e2 h1 h2
    simp only [execOp, hop, Instr.sliceAt, Sem.run_bind, run_underlying ht, Result.andThen_ok, hp, Instr.sureAddr, Option.map_none, run_bounds hl hh e1 e2 h1 h2, szOf_run hn, Sem.run_pure]
  unfold slAA at hv
  split at hv
  · rename_i k es
    split at hv
    · rename_i ll hhh e1 e2
      split at hv
      · rename_i hb
        cases hv
        simp only [V] at ha
        obtain ⟨b, oo, hρ, ha⟩ := ha
        have hbig' := hbig k es rfl b oo hρ
        simp only [Nat.zero_mul, Nat.add_zero] at ha
        refine pureOk hs (run _ _ _ ha e1 e2 hb.1 hb.2) ?_
        simp only [V]
        refine ⟨b, oo, _, n - ll, hρ, rfl, by omega, ?_, ?_, ?_⟩
        · by_cases hc : n = ll
          · exact .inl (by omega)
          · refine .inr ?_
            simp only [hc, if_false, add_off]
        · have : ll + (n - ll) = n := by omega
          rw [this]; exact hbig'
        · split <;> simp [add_off]
      · cases hv
    · cases hv
  · cases hv
end
section
variable {P : Program} {B : Nat} {S0 : Base} {ρc : Operand → Value} {o : Oper} {x : Ctx} {h : Heap} {nc : Nat} {key : Key} {e : XArg → AVal}
theorem VL.split {x : Ctx} : ∀ {as0 bs : List AVal} {vs : List Value}, VL x (as0 ++ bs) vs → VL x as0 (vs.take as0.length) ∧ VL x bs (vs.drop as0.length)
  | [], bs, vs, h => by simpa [VL] using h
  | a :: as0, bs, vs, h => by
    simp only [List.cons_append, VL] at h
    obtain ⟨v, r, rfl, h1, h2⟩ := h
    obtain ⟨h3, h4⟩ := VL.split h2
    simp only [List.length_cons, List.take_succ_cons, List.drop_succ_cons, VL]
    exact ⟨⟨v, _, rfl, h1, h3⟩, h4⟩
theorem eqCells_append : ∀ (ks ls : List Nat) (xs ys : List AVal) (b : Bool), eqCells (ks ++ ls) xs ys = some b →
    ∃ b1 b2, eqCells ks (xs.take ks.length) (ys.take ks.length) = some b1 ∧ eqCells ls (xs.drop ks.length) (ys.drop ks.length) = some b2 ∧ b = (b1 && b2) ∧ ks.length ≤ xs.length ∧ ks.length ≤ ys.length
  | [], ls, xs, ys, b, h => ⟨true, b, by simp [eqCells], by simpa using h, by simp, by simp, by simp⟩
  | k :: ks, ls, [], ys, b, h => by simp [eqCells] at h
  | k :: ks, ls, x :: xs, [], b, h => by simp [eqCells] at h
  | k :: ks, ls, x :: xs, y :: ys, b, h => by
    simp only [List.cons_append, eqCells] at h
    cases h1 : eq1 k x y with
    | none => rw [h1] at h; cases h
    | some a =>
      cases h2 : eqCells (ks ++ ls) xs ys with
      | none => rw [h1, h2] at h; cases h
      | some c =>
        rw [h1, h2] at h
        simp only [Option.some.injEq] at h
        obtain ⟨b1, b2, e1, e2, e3, e4, e5⟩ := eqCells_append ks ls xs ys c h2
        refine ⟨a && b1, b2, ?_, by simpa using e2, by rw [← h, e3, Bool.and_assoc], by simpa using e4, by simpa using e5⟩
        simp only [List.length_cons, List.take_succ_cons, eqCells, h1, e1]
def EqTy (P : Program) (d : Nat) (t : TypeId) (ks : List Nat) : Prop :=
  ∀ (x : Ctx) (D : Nat) (w : World) (xs ys : List AVal) (vs us : Array Value) (off : Nat) (b : Bool), VL x xs ((vs.toList.drop off).take ks.length) → VL x ys ((us.toList.drop off).take ks.length) → eqCells ks xs ys = some b →
    ∃ va vb, (part t vs off).run P w = .ok va w ∧ (part t us off).run P w = .ok vb w ∧ (Op.equalIn (D + d) t va vb).run P w = .ok b w
theorem eqFields_ok {d : Nat} {one : TypeId → Option (List Nat)} (hone : ∀ t ks, one t = some ks → EqTy P d t ks) : ∀ (fs : List Field) (off : Nat) (ks : List Nat), kindsF one fs off = some ks →
    ∀ (x : Ctx) (D : Nat) (w : World) (xs ys : List AVal) (vs us : Array Value) (b : Bool), VL x xs ((vs.toList.drop off).take ks.length) → VL x ys ((us.toList.drop off).take ks.length) → eqCells ks xs ys = some b →
      (Op.eqFields (D + d) vs us fs).run P w = .ok b w
  | [], off, ks, hk, x, D, w, xs, ys, vs, us, b, hx, hy, hb => by
    simp only [kindsF, Option.some.injEq] at hk
    subst hk
    cases xs <;> cases ys <;> simp [eqCells] at hb
    subst hb
    simp [Op.eqFields]
  | f :: fs, off, ks, hk, x, D, w, xs, ys, vs, us, b, hx, hy, hb => by
    simp only [kindsF] at hk
    split at hk
    · cases hk
    · rename_i hname
      split at hk
      · rename_i hoff
        split at hk
        · rename_i ks1 h1
          split at hk
          · rename_i r h2
            · cases hk
              obtain ⟨b1, b2, e1, e2, e3, e4, e5⟩ := eqCells_append _ _ _ _ _ hb
              have lx := hx.length
              have ly := hy.length
              have hx' : VL x (xs.take ks1.length) ((vs.toList.drop off).take ks1.length) := by
                have := hx.take ks1.length
                rw [List.take_take, Nat.min_eq_left (by simp)] at this
                exact this
              have hy' : VL x (ys.take ks1.length) ((us.toList.drop off).take ks1.length) := by
                have := hy.take ks1.length
                rw [List.take_take, Nat.min_eq_left (by simp)] at this
                exact this
              obtain ⟨va, vb, p1, p2, p3⟩ := hone _ _ h1 x D w _ _ vs us off b1 hx' hy' e1
              have hx'' : VL x (xs.drop ks1.length) ((vs.toList.drop (off + ks1.length)).take r.length) := by
                have := hx.drop ks1.length
                rw [List.drop_take, List.drop_drop] at this
                simpa using this
              have hy'' : VL x (ys.drop ks1.length) ((us.toList.drop (off + ks1.length)).take r.length) := by
                have := hy.drop ks1.length
                rw [List.drop_take, List.drop_drop] at this
                simpa using this
              have ih := eqFields_ok hone fs (off + ks1.length) r h2 x D w _ _ vs us b2 hx'' hy'' e2
              rw [Op.eqFields]
              subst hoff
              simp only [ne_eq, hname, not_false_eq_true, if_true, Sem.run_bind, p1, p2, p3, Result.andThen_ok]
              subst e3
              cases b1
              · simp
              · simpa using ih
          · cases hk
        · cases hk
      · cases hk
theorem eqItems_ok {d : Nat} {e : TypeId} {ks : List Nat} (hone : EqTy P d e ks) : ∀ (n i : Nat) (x : Ctx) (D : Nat) (w : World) (xs ys : List AVal) (vs us : Array Value) (b : Bool),
    VL x xs ((vs.toList.drop (i * ks.length)).take (n * ks.length)) → VL x ys ((us.toList.drop (i * ks.length)).take (n * ks.length)) → eqCells (List.replicate n ks).flatten xs ys = some b →
      (Op.eqItems (D + d) e ks.length vs us (List.range' i n)).run P w = .ok b w
  | 0, i, x, D, w, xs, ys, vs, us, b, hx, hy, hb => by
    simp only [List.replicate_zero, List.flatten_nil] at hb
    cases xs <;> cases ys <;> simp [eqCells] at hb
    subst hb
    simp [Op.eqItems]
  | n + 1, i, x, D, w, xs, ys, vs, us, b, hx, hy, hb => by
    rw [List.replicate_succ, List.flatten_cons] at hb
    obtain ⟨b1, b2, e1, e2, e3, e4, e5⟩ := eqCells_append _ _ _ _ _ hb
    have hmul : (n + 1) * ks.length = ks.length + n * ks.length := by rw [Nat.succ_mul, Nat.add_comm]
    rw [hmul] at hx hy
    have hx' : VL x (xs.take ks.length) ((vs.toList.drop (i * ks.length)).take ks.length) := by
      have := hx.take ks.length
      rw [List.take_take, Nat.min_eq_left (by omega)] at this
      exact this
    have hy' : VL x (ys.take ks.length) ((us.toList.drop (i * ks.length)).take ks.length) := by
      have := hy.take ks.length
      rw [List.take_take, Nat.min_eq_left (by omega)] at this
      exact this
    obtain ⟨va, vb, p1, p2, p3⟩ := hone x D w _ _ vs us (i * ks.length) b1 hx' hy' e1
    have hi1 : (i + 1) * ks.length = i * ks.length + ks.length := by rw [Nat.succ_mul]
    have hx'' : VL x (xs.drop ks.length) ((vs.toList.drop ((i + 1) * ks.length)).take (n * ks.length)) := by
      have := hx.drop ks.length
      rw [List.drop_take, List.drop_drop, Nat.add_sub_cancel_left] at this
      rw [hi1]
      exact this
    have hy'' : VL x (ys.drop ks.length) ((us.toList.drop ((i + 1) * ks.length)).take (n * ks.length)) := by
      have := hy.drop ks.length
      rw [List.drop_take, List.drop_drop, Nat.add_sub_cancel_left] at this
      rw [hi1]
      exact this
    have ih := eqItems_ok hone n (i + 1) x D w _ _ vs us b2 hx'' hy'' e2
    rw [List.range'_succ, Op.eqItems]
    simp only [Sem.run_bind, p1, p2, p3, Result.andThen_ok]
    subst e3
    cases b1
    · simp
    · simpa using ih
theorem part_cell {t : TypeId} {d : TypeDesc} (hu : P.underlying t = some d) (hd : isAggD d = false) {vs : Array Value} {off : Nat} {v : Value} (hv : vs[off]? = some v) (w : World) : (part t vs off).run P w = .ok v w := by
  have ha : aggOf P t = some false := by unfold aggOf; rw [hu]; simp [hd]
  simp only [part, Sem.run_bind, aggOf_run ha, Result.andThen_ok, Bool.false_eq_true, if_false, hv, Sem.run_pure]
theorem VL.head {x : Ctx} {a : AVal} {l : List Value} (h : VL x [a] l) : ∃ v, l = [v] ∧ V x a v := by
  simp only [VL] at h
  obtain ⟨v, r, rfl, h1, rfl⟩ := h
  exact ⟨v, rfl, h1⟩
theorem one_of_take {vs : Array Value} {off : Nat} {v : Value} (h : (vs.toList.drop off).take 1 = [v]) : vs[off]? = some v := by
  have : ((vs.toList.drop off).take 1)[0]? = some v := by rw [h]; rfl
  rw [List.getElem?_take] at this
  simpa using this
theorem part_agg {t : TypeId} {n : Nat} (ha : aggOf P t = some true) (hn : szOf P t = some n) (vs : Array Value) (off : Nat) (w : World) : (part t vs off).run P w = .ok (.agg (vs.extract off (off + n))) w := by
  simp only [part, Sem.run_bind, aggOf_run ha, Result.andThen_ok, szOf_run hn, if_true, Sem.run_pure]
theorem eqCells_len : ∀ (ks : List Nat) (xs ys : List AVal) (b : Bool), eqCells ks xs ys = some b → xs.length = ks.length ∧ ys.length = ks.length
  | [], [], [], b, h => ⟨rfl, rfl⟩
  | [], [], _ :: _, b, h => by simp [eqCells] at h
  | [], _ :: _, _, b, h => by simp [eqCells] at h
  | _ :: _, [], _, b, h => by simp [eqCells] at h
  | _ :: _, _ :: _, [], b, h => by simp [eqCells] at h
  | k :: ks, x :: xs, y :: ys, b, h => by
    simp only [eqCells] at h
    cases h1 : eq1 k x y with
    | none => rw [h1] at h; cases h
    | some a =>
      cases h2 : eqCells ks xs ys with
      | none => rw [h1, h2] at h; cases h
      | some c =>
        obtain ⟨e1, e2⟩ := eqCells_len ks xs ys c h2
        simp [e1, e2]
theorem eq1_ok {x : Ctx} {k : Nat} {a c : AVal} {v u : Value} {b : Bool} (h : eq1 k a c = some b) (hv : V x a v) (hu : V x c u) (D : Nat) {t : TypeId} (w : World)
    (ht : (k = 0 ∧ ∃ j, P.underlying t = some (.int j)) ∨ (k = 1 ∧ P.underlying t = some .bool) ∨ (k = 2 ∧ P.underlying t = some .string)) : (Op.equalIn (D + 1) t v u).run P w = .ok b w := by
  unfold eq1 at h
  split at h
  · have hv := V_int hv
    have hu := V_int hu
    split at h
    · rename_i hk
      cases h
      subst hk
      rcases ht with ⟨_, j, ht⟩ | ⟨e, _⟩ | ⟨e, _⟩
      · rw [hv, hu, run_equalIn_int (P := P) w D t _ _ _ _ ht]
      · cases e
      · cases e
    · cases h
  · have hv := V_bool hv
    have hu := V_bool hu
    cases h
    rcases ht with ⟨e, _⟩ | ⟨_, ht⟩ | ⟨e, _⟩
    · cases e
    · rw [hv, hu, equalIn_bool D ht]
    · cases e
  · have hv := V_str hv
    have hu := V_str hu
    cases h
    rcases ht with ⟨e, _⟩ | ⟨e, _⟩ | ⟨_, ht⟩
    · cases e
    · cases e
    · rw [hv, hu, run_equalIn_string (P := P) w D t _ _ ht]
  · cases h
theorem eqTy_scalar {t : TypeId} {k d : Nat} {dd : TypeDesc} (hu : P.underlying t = some dd) (hd : isAggD dd = false)
    (ht : (k = 0 ∧ ∃ j, P.underlying t = some (.int j)) ∨ (k = 1 ∧ P.underlying t = some .bool) ∨ (k = 2 ∧ P.underlying t = some .string)) : EqTy P (d + 1) t [k] := by
  intro x D w xs ys vs us off b hx hy hb
  obtain ⟨l1, l2⟩ := eqCells_len _ _ _ _ hb
  match xs, ys, l1, l2 with
  | [a], [c], _, _ =>
    obtain ⟨v, ev, hv⟩ := VL.head hx
    obtain ⟨u, eu, hu'⟩ := VL.head hy
    simp only [eqCells] at hb
    cases hq : eq1 k a c with
    | none => rw [hq] at hb; cases hb
    | some b' =>
      rw [hq] at hb
      simp only [Bool.and_true, Option.some.injEq] at hb
      subst hb
      exact ⟨v, u, part_cell hu hd (one_of_take ev) w, part_cell hu hd (one_of_take eu) w, eq1_ok hq hv hu' (D + d) w ht⟩
theorem kinds_ok : ∀ (d : Nat) (t : TypeId) (ks : List Nat), kinds P d t = some ks → EqTy P d t ks
  | 0, t, ks, hk => by simp [kinds] at hk
  | d + 1, t, ks, hk => by
    simp only [kinds] at hk
    split at hk
    · rename_i k hu; cases hk; exact eqTy_scalar hu rfl (.inl ⟨rfl, _, hu⟩)
    · rename_i hu; cases hk; exact eqTy_scalar hu rfl (.inr (.inl ⟨rfl, hu⟩))
    · rename_i hu; cases hk; exact eqTy_scalar hu rfl (.inr (.inr ⟨rfl, hu⟩))
    · rename_i fs hu
      split at hk
      · cases hk
      · rename_i hst
        split at hk
        · rename_i ks' hf
          split at hk
          · rename_i hsz
            cases hk
            intro x D w xs ys vs us off b hx hy hb
            have hag : aggOf P t = some true := by unfold aggOf; rw [hu]; rfl
            refine ⟨_, _, part_agg hag hsz vs off w, part_agg hag hsz us off w, ?_⟩
            have hfo : P.fieldsOf t = fs := by simp [Program.fieldsOf, hu]
            rw [show D + (d + 1) = (D + d) + 1 from rfl, run_equalIn_struct (P := P) w (D + d) t _ _ (by rw [hfo]; exact hu) (by simpa using hst), hfo]
            have sh : ∀ (zs : Array Value), (zs.extract off (off + ks.length)).toList = (zs.toList.drop off).take ks.length := by
              intro zs; simp [List.extract_eq_take_drop]
            refine eqFields_ok (kinds_ok d) fs.toList 0 ks hf x D w xs ys _ _ b ?_ ?_ hb
            · rw [sh, List.drop_zero, List.take_take, Nat.min_self]; exact hx
            · rw [sh, List.drop_zero, List.take_take, Nat.min_self]; exact hy
          · cases hk
        · cases hk
    · rename_i n e hu
      split at hk
      · rename_i ks' hke
        split at hk
        · rename_i hsz
          cases hk
          intro x D w xs ys vs us off b hx hy hb
          have hag : aggOf P t = some true := by unfold aggOf; rw [hu]; rfl
          have hln : (List.replicate n ks').flatten.length = n * ks'.length := by simp
          have hs1 : szOf P t = some (List.replicate n ks').flatten.length := by rw [hln]; exact hsz.1
          refine ⟨_, _, part_agg hag hs1 vs off w, part_agg hag hs1 us off w, ?_⟩
          cases hi : P.info? e with
          | none => rw [hi] at hsz; exact absurd hsz.2 (by simp)
          | some i =>
            have hce : P.cellsOf e = ks'.length := by
              have := hsz.2
              rw [hi] at this
              simp only [Option.map_some, Option.some.injEq] at this
              simp [Program.cellsOf, hi, this]
            rw [show D + (d + 1) = (D + d) + 1 from rfl, run_equalIn_array (P := P) w (D + d) _ _ hu hi, hce, List.range_eq_range']
            have sh : ∀ (zs : Array Value), ((zs.extract off (off + (List.replicate n ks').flatten.length)).toList.drop (0 * ks'.length)).take (n * ks'.length) = (zs.toList.drop off).take (List.replicate n ks').flatten.length := by
              intro zs
              rw [hln]
              simp [List.extract_eq_take_drop, List.take_take]
            refine eqItems_ok (kinds_ok d e ks' hke) n 0 x D w xs ys _ _ b ?_ ?_ hb
            · rw [sh]; exact hx
            · rw [sh]; exact hy
        · cases hk
      · cases hk
    · cases hk
theorem kinds_struct {d : Nat} {t : TypeId} {ks : List Nat} {fs : Array Field} (hk : kinds P (d + 1) t = some ks) (ht : P.underlying t = some (.struct fs)) : szOf P t = some ks.length := by
  simp only [kinds, ht] at hk
  split at hk
  · cases hk
  · split at hk
    · split at hk
      · rename_i hsz
        cases hk
        exact hsz
      · cases hk
    · cases hk
theorem ok_eqA (hs : Sim B S0 h nc x) {neg : Bool} {op : BinOp} {t yt : TypeId} {a b : Operand} {xs ys : List AVal} {ks : List Nat} {r : Bool} {fs : Array Field} (hop : o.op = .binOp op t a b yt) (hn : op = if neg then .neq else .eql) (ha : V x (.agg xs) (ρc a)) (hb : V x (.agg ys) (ρc b))
    (ht : P.underlying t = some (.struct fs)) (hk : kinds P 20 t = some ks) (hg : P.eqGuardType P.depth t = false) (hr : eqCells ks xs ys = some r) : OpOk P B S0 ρc o x (applyW h []) nc key (.bool (if neg then !r else r)) := by
  simp only [V] at ha hb
  obtain ⟨vs, ha, hl⟩ := ha
  obtain ⟨us, hb, hl'⟩ := hb
  obtain ⟨l1, l2⟩ := eqCells_len _ _ _ _ hr
  have hag : aggOf P t = some true := by unfold aggOf; rw [ht]; rfl
  have hsz := kinds_struct hk ht
  have e1 : vs.length = ks.length := by rw [hl.length, l1]
  have e2 : us.length = ks.length := by rw [hl'.length, l2]
  obtain ⟨va, vb, p1, p2, p3⟩ := kinds_ok 20 t ks hk x 9980 x.w xs ys vs.toArray us.toArray 0 r (by simp [← e1]; exact hl) (by simp [← e2]; exact hl') hr
  rw [part_agg hag hsz] at p1 p2
  cases p1; cases p2
  have q1 : vs.toArray.extract 0 (0 + ks.length) = vs.toArray := by simp [← e1]
  have q2 : us.toArray.extract 0 (0 + ks.length) = us.toArray := by simp [← e2]
  rw [q1, q2] at p3
  have hv := run_eq_of (P := P) (neg := neg) (op := op) (t := t) (a := a) (b := b) (va := .agg vs.toArray) (vb := .agg us.toArray) (r := r) x.w hn (.inr (.inr (.inr (.inr ⟨_, rfl⟩))))
    (by cases neg <;> subst hn <;> simp [eqGuard, hg]) p3 (by simp) (by simp) (by simp) (by simp) (by simp)
  refine pureOk hs (u := .bool (if neg then !r else r)) ?_ (by simp only [V])
  simp only [execOp, hop, ha, hb]
  rw [Sem.run_bind, hv, Result.andThen_ok, Sem.run_pure]
def spliceV (cs : List Value) (off : Nat) (new : List Value) : List Value := cs.take off ++ (new ++ cs.drop (off + new.length))
theorem VL_splice {x : Ctx} {cs new : List AVal} {vs us : List Value} (off : Nat) (h : VL x cs vs) (h' : VL x new us) : VL x (splice cs off new) (spliceV vs off us) := by
  unfold splice spliceV
  rw [h'.length]
  exact (h.take off).append (h'.append (h.drop _))
theorem splice_length {cs new : List AVal} {off : Nat} (h : off + new.length ≤ cs.length) : (splice cs off new).length = cs.length := by
  simp [splice]; omega
theorem list_set_splice (l : List Value) (off : Nat) (v : Value) (r : List Value) (h : off + (r.length + 1) ≤ l.length) : spliceV (l.set off v) (off + 1) r = spliceV l off (v :: r) := by
  unfold spliceV
  have h1 : (l.set off v).take (off + 1) = l.take off ++ [v] := by
    apply List.ext_getElem?
    intro j
    simp only [List.getElem?_take, List.getElem?_append, List.length_take, List.getElem?_set]
    by_cases hj : j < off
    · have : ¬ off = j := by omega
      have h2 : j < off + 1 := by omega
      have h3 : j < min off l.length := by omega
      simp [hj, h2, h3, this]
    · by_cases he : j = off
      · subst he
        have : min j l.length = j := by omega
        have hjl : j < l.length := by omega
        simp [this, hjl]
      · have : min off l.length = off := by omega
        have h3 : ¬ j < off + 1 := by omega
        simp [hj, this, h3]
        omega
  have h2 : (l.set off v).drop (off + 1 + r.length) = l.drop (off + (v :: r).length) := by
    apply List.ext_getElem?
    intro j
    simp only [List.getElem?_drop, List.getElem?_set, List.length_cons]
    have : ¬ off = off + 1 + r.length + j := by omega
    simp [this]
    congr 1
    omega
  rw [h1, h2]
  simp
theorem foldl_set (off : Nat) : ∀ (us : List Value) (i : Nat) (arr : Array Value), off + i + us.length ≤ arr.size →
    (us.zipIdx i).foldl (fun (cs : Array Value) (p : Value × Nat) => cs.setIfInBounds (off + p.2) p.1) arr = (spliceV arr.toList (off + i) us).toArray
  | [], i, arr, _ => by simp [spliceV]
  | u :: us, i, arr, h => by
    simp only [List.zipIdx_cons, List.foldl_cons]
    rw [foldl_set off us (i + 1) _ (by simp at h ⊢; omega)]
    congr 1
    rw [show off + (i + 1) = off + i + 1 by omega, Array.toList_setIfInBounds, list_set_splice _ _ _ _ (by simp at h ⊢; omega)]
theorem fill_step (vcells : Array Value) (cells : Array Value) (off : Nat) (h : off + vcells.size ≤ cells.size) :
    (vcells.zipIdx.foldl (fun cs (c, j) => cs.setIfInBounds (off + j) c) cells) = (spliceV cells.toList off vcells.toList).toArray := by
  have := foldl_set off vcells.toList 0 cells (by simpa using h)
  rw [← Array.foldl_toList, Array.toList_zipIdx]
  simpa using this
theorem V_cells {x : Ctx} {a : AVal} {u : Value} (h : V x a u) (hne : ∀ xs, a ≠ .tup xs) (hany : a ≠ .any) : VL x (cellsOf a) u.cells.toList := by
  cases a <;> first
    | (simp only [V] at h; obtain ⟨cs, rfl, hl⟩ := h; simpa [cellsOf, Value.cells] using hl)
    | exact absurd rfl (hne _)
    | exact absurd rfl hany
    | skip
  all_goals
    simp only [cellsOf, VL]
    refine ⟨u, [], ?_, h, rfl⟩
    simp only [V] at h
  case undef => rw [h]; rfl
  case bool => rw [h]; rfl
  case int => rw [h]; rfl
  case str => rw [h]; rfl
  case nilp => rw [h]; rfl
  case ptr => obtain ⟨b, oo, _, h⟩ := h; rw [h]; rfl
  case pvo => obtain ⟨b, oo, h, _⟩ := h; rw [h]; rfl
  case nils => rw [h]; rfl
  case emp => obtain ⟨b, h⟩ := h; rw [h]; rfl
  case slc => obtain ⟨b, oo, cap, h, _⟩ := h; rw [h]; rfl
  case sl => obtain ⟨b, oo, ad, cap, _, h, _⟩ := h; rw [h]; rfl
  case nili => rw [h]; rfl
  case ifc => obtain ⟨b, h, _⟩ := h; rw [h]; rfl
  case nilf => rw [h]; rfl
  case fn => obtain ⟨b, c, h, _⟩ := h; rw [h]; rfl
  case mp => obtain ⟨b, _, h⟩ := h; rw [h]; rfl
theorem V_sc {x : Ctx} {a : AVal} {u : Value} (h : V x a u) (hsc : isSc a = true) : u.oneCell' = true ∧ u.cells = #[u] := by
  cases a <;> simp only [isSc, Bool.false_eq_true] at hsc <;> simp only [V] at h
  case bool => subst h; exact ⟨rfl, rfl⟩
  case int => subst h; exact ⟨rfl, rfl⟩
  case str => subst h; exact ⟨rfl, rfl⟩
  case nilp => subst h; exact ⟨rfl, rfl⟩
  case ptr => obtain ⟨b, oo, _, rfl⟩ := h; exact ⟨rfl, rfl⟩
  case pvo => obtain ⟨b, oo, rfl, _⟩ := h; exact ⟨rfl, rfl⟩
  case nils => subst h; exact ⟨rfl, rfl⟩
  case emp => obtain ⟨b, rfl⟩ := h; exact ⟨rfl, rfl⟩
  case slc => obtain ⟨b, oo, cap, rfl, _⟩ := h; exact ⟨rfl, rfl⟩
  case sl => obtain ⟨b, oo, ad, cap, _, rfl, _⟩ := h; exact ⟨rfl, rfl⟩
  case nili => subst h; exact ⟨rfl, rfl⟩
  case ifc => obtain ⟨b, rfl, _⟩ := h; exact ⟨rfl, rfl⟩
  case nilf => subst h; exact ⟨rfl, rfl⟩
  case fn => obtain ⟨b, c, rfl, _⟩ := h; exact ⟨rfl, rfl⟩
  case mp => obtain ⟨b, _, rfl⟩ := h; exact ⟨rfl, rfl⟩
theorem VL_sc {x : Ctx} : ∀ {as0 : List AVal} {us : List Value}, VL x as0 us → as0.all isSc = true → ∀ u ∈ us, u.oneCell' = true
  | [], us, h, _, u, hu => by simp only [VL] at h; subst h; cases hu
  | a :: as0, us, h, hsc, u, hu => by
    simp only [VL] at h
    obtain ⟨v, r, rfl, h1, h2⟩ := h
    simp only [List.all_cons, Bool.and_eq_true] at hsc
    rcases List.mem_cons.1 hu with rfl | hu
    · exact (V_sc h1 hsc.1).1
    · exact VL_sc h2 hsc.2 u hu
theorem V_cells_sc {x : Ctx} {a : AVal} {u : Value} (h : V x a u) (hsc : (cellsOf a).all isSc = true) : VL x (cellsOf a) u.cells.toList := by
  refine V_cells h ?_ ?_
  · rintro xs rfl; simp [cellsOf, isSc] at hsc
  · rintro rfl; simp [cellsOf, isSc] at hsc
def PartsV (x : Ctx) : List (Nat × Nat × AVal) → List (Nat × Value) → (Nat → Option (Nat × Nat)) → Prop
  | [], [], _ => True
  | (off, n, a) :: ps, (i, u) :: qs, place => place i = some (off, n) ∧ V x a u ∧ PartsV x ps qs place
  | _, _, _ => False
theorem fill_ok {x : Ctx} : ∀ {ps : List (Nat × Nat × AVal)} {qs : List (Nat × Value)} {place : Nat → Option (Nat × Nat)} {cs r : List AVal} {vs : Array Value}, PartsV x ps qs place → VL x cs vs.toList → fillA cs ps = some r →
    ∃ us, Instr.fill place vs qs = some us ∧ VL x r us.toList
  | [], [], place, cs, r, vs, _, hl, hf => by
    simp only [fillA, Option.some.injEq] at hf
    subst hf
    exact ⟨vs, rfl, hl⟩
  | [], _ :: _, place, cs, r, vs, hp, hl, hf => by simp [PartsV] at hp
  | _ :: _, [], place, cs, r, vs, hp, hl, hf => by simp [PartsV] at hp
  | (off, n, a) :: ps, (i, u) :: qs, place, cs, r, vs, hp, hl, hf => by
    simp only [PartsV] at hp
    obtain ⟨hpl, hv, hp⟩ := hp
    simp only [fillA] at hf
    split at hf
    · rename_i hc
      obtain ⟨hc1, hc2, hc3⟩ := hc
      have hcl := V_cells_sc hv hc3
      have hlen := hcl.length
      have hlen' := hl.length
      simp only [Array.length_toList] at hlen hlen'
      have hstep := fill_step u.cells vs off (by omega)
      obtain ⟨us, h1, h2⟩ := fill_ok (vs := (spliceV vs.toList off u.cells.toList).toArray) hp (by simpa using VL_splice off hl hcl) hf
      refine ⟨us, ?_, h2⟩
      simp only [Instr.fill, hpl]
      rw [if_neg (by simp only [Bool.or_eq_true, decide_eq_true_eq]; omega), hstep]
      exact h1
    · cases hf
theorem places_run : ∀ (fs : List Field) (w : World), chkFields P fs = true → ∃ l, (fs.mapM fun (f : Field) => (do pure (f.offset, ← sizeOf f.type) : Sem (Nat × Nat))).run P w = .ok l w ∧ ∀ (i : Nat) (f : Field) (n : Nat), fs[i]? = some f → szOf P f.type = some n → l[i]? = some (f.offset, n)
  | [], w, _ => ⟨[], by simp, by simp⟩
  | f :: fs, w, hc => by
    simp only [chkFields, List.all_cons, Bool.and_eq_true] at hc
    obtain ⟨n, hn⟩ := Option.isSome_iff_exists.1 hc.1
    obtain ⟨l, h1, h2⟩ := places_run fs w hc.2
    refine ⟨(f.offset, n) :: l, ?_, ?_⟩
    · simp only [List.mapM_cons, Sem.run_bind, szOf_run hn, Result.andThen_ok, Sem.run_pure, h1]
    · intro i g m hg hm
      cases i with
      | zero => simp at hg; subst hg; rw [hn] at hm; cases hm; rfl
      | succ i => simp at hg ⊢; exact h2 i g m hg hm
theorem ok_buildS (hs : Sim B S0 h nc x) {t : TypeId} {parts : Array (Nat × Operand)} {fs : Array Field} {z : Value} {zero cs : List AVal} {ps : List (Nat × Nat × AVal)} (hop : o.op = .build t parts) (ht : P.underlying t = some (.struct fs)) (hz : zeroOf P t = some z) (hzc : chkSL z.cells.toList zero = true)
    (hf : chkFields P fs.toList = true) (hp : ∀ place : Nat → Option (Nat × Nat), (∀ (i : Nat) (f : Field) (n : Nat), fs[i]? = some f → szOf P f.type = some n → place i = some (f.offset, n)) → PartsV x ps (parts.toList.map fun p => (p.1, ρc p.2)) place)
    (hcs : fillA zero ps = some cs) : OpOk P B S0 ρc o x (applyW h []) nc key (.agg cs) := by
  obtain ⟨l, h1, h2⟩ := places_run (P := P) fs.toList x.w hf
  obtain ⟨us, h3, h4⟩ := fill_ok (hp (l.toArray[·]?) (fun i f n hi hn => by simpa using h2 i f n (by simpa using hi) hn)) (chkSL_ok hzc) hcs
  refine pureOk hs (u := .agg us) ?_ (by simp only [V]; exact ⟨us.toList, by simp, h4⟩)
  have hm : (fs.mapM fun (f : Field) => (do pure (f.offset, ← sizeOf f.type) : Sem (Nat × Nat))).run P x.w = .ok l.toArray x.w := by
    rw [Array.mapM_eq_mapM_toList]
    simp only [Sem.run_map, h1, Result.andThen_ok]
  simp only [execOp, hop, Instr.build, Sem.run_bind, zero_run hz, Result.andThen_ok, run_underlying ht, hm, Array.toList_map, h3, Sem.run_pure]
theorem ok_buildA (hs : Sim B S0 h nc x) {t et : TypeId} {n s : Nat} {parts : Array (Nat × Operand)} {z : Value} {zero cs : List AVal} {ps : List (Nat × Nat × AVal)} (hop : o.op = .build t parts) (ht : P.underlying t = some (.array n et)) (hz : zeroOf P t = some z) (hzc : chkSL z.cells.toList zero = true)
    (hsz : szOf P et = some s) (hp : PartsV x ps (parts.toList.map fun p => (p.1, ρc p.2)) (fun i => some (i * s, s)))
    (hcs : fillA zero ps = some cs) : OpOk P B S0 ρc o x (applyW h []) nc key (.agg cs) := by
  obtain ⟨us, h3, h4⟩ := fill_ok hp (chkSL_ok hzc) hcs
  refine pureOk hs (u := .agg us) ?_ (by simp only [V]; exact ⟨us.toList, by simp, h4⟩)
  simp only [execOp, hop, Instr.build, Sem.run_bind, zero_run hz, Result.andThen_ok, run_underlying ht, szOf_run hsz, Array.toList_map, h3, Sem.run_pure]
theorem VC_of_VL {x : Ctx} : ∀ {as0 : List AVal} {us : List Value} {b o : Nat}, VL x as0 us → (∀ i u, us[i]? = some u → x.w.cell? ⟨b, o + i, none⟩ = some u) → VC x as0 b o
  | [], us, b, o, h, _ => by simp [VC]
  | a :: as0, us, b, o, h, hc => by
    simp only [VL] at h
    obtain ⟨v, r, rfl, h1, h2⟩ := h
    simp only [VC]
    refine ⟨⟨v, by simpa using hc 0 v rfl, h1⟩, VC_of_VL h2 ?_⟩
    intro i u hi
    have := hc (i + 1) u (by simpa using hi)
    rw [show o + 1 + i = o + (i + 1) by omega]
    exact this
theorem VL_of_VC {x : Ctx} : ∀ {as0 : List AVal} {b o : Nat}, VC x as0 b o → ∃ us, VL x as0 us ∧ ∀ i u, us[i]? = some u → x.w.cell? ⟨b, o + i, none⟩ = some u
  | [], b, o, _ => ⟨[], by simp [VL], by simp⟩
  | a :: as0, b, o, h => by
    simp only [VC] at h
    obtain ⟨⟨v, hv, h1⟩, h2⟩ := h
    obtain ⟨us, h3, h4⟩ := VL_of_VC h2
    refine ⟨v :: us, by simp only [VL]; exact ⟨v, us, rfl, h1, h3⟩, ?_⟩
    intro i u hi
    cases i with
    | zero => simp at hi; subst hi; simpa using hv
    | succ i =>
      simp at hi
      have := h4 i u hi
      rw [show o + (i + 1) = o + 1 + i by omega]
      exact this
theorem run_loadCells_VC {as0 : List AVal} {b o : Nat} (h : VC x as0 b o) : ∃ us : List Value, (loadCells ⟨b, o, none⟩ as0.length).run P x.w = .ok us.toArray x.w ∧ VL x as0 us := by
  obtain ⟨us, h1, h2⟩ := VL_of_VC h
  refine ⟨us, ?_, h1⟩
  rw [← h1.length]
  exact run_loadCells_list x.w _ us (fun j v hj => by rw [add_off]; exact h2 j v hj)
theorem cs_ok (hs : Sim B S0 h nc x) {k : Key} {g i es : Nat} {blk : Blk} {cs : List AVal} {b oo : Nat} (hk : h k = some blk) (hρ : x.ρ k g = some (b, oo)) (hcs : blk.cs g i es = some cs) : blk.gen = g ∧ VC x cs b (oo + i * es) := by
  obtain ⟨b', o', h1, _, _, h4⟩ := hs.live k blk hk
  cases blk with
  | var cells =>
    simp only [Blk.cs] at hcs
    split at hcs
    · rename_i hg
      subst hg
      cases hcs
      simp only [Blk.gen] at h1
      rw [hρ] at h1
      cases h1
      obtain ⟨rfl, c, ee, _, _, hv⟩ := h4
      exact ⟨rfl, hv.drop _⟩
    · cases hcs
  | row g' es' elems =>
    simp only [Blk.cs] at hcs
    split at hcs
    · rename_i hg
      obtain ⟨rfl, rfl⟩ := hg
      simp only [Blk.gen] at h1
      rw [hρ] at h1
      cases h1
      obtain ⟨c, ee, _, _, hv⟩ := h4
      cases he : elems[i]? with
      | none => rw [he] at hcs; cases hcs
      | some a =>
        rw [he] at hcs
        simp only [Option.map_some, Option.some.injEq] at hcs
        subst hcs
        exact ⟨rfl, (VE_cells (hv.get he)).2⟩
    · cases hcs
  | obj a => simp [Blk.cs] at hcs
theorem run_loadVar_ok {t : TypeId} {agg : Bool} {n off : Nat} {cs : List AVal} {b oo : Nat} {v : AVal} (hagg : aggOf P t = some agg) (hn : szOf P t = some n) (hc : VC x cs b oo) (hv : takeV agg n off cs = some v) :
    ∃ u, (loadVar t ⟨b, oo + off, none⟩).run P x.w = .ok u x.w ∧ V x v u := by
  cases agg with
  | true =>
    simp only [takeV, if_true] at hv
    split at hv
    · rename_i hle
      cases hv
      obtain ⟨us, h1, h2⟩ := run_loadCells_VC (P := P) ((hc.drop off).take n)
      have hlen : ((cs.drop off).take n).length = n := by simp; omega
      rw [hlen] at h1
      refine ⟨.agg us.toArray, ?_, by simp only [V]; exact ⟨us, rfl, h2⟩⟩
      simp only [loadVar, Sem.run_bind, aggOf_run hagg, Result.andThen_ok, szOf_run hn, if_true, h1, Sem.run_pure]
    · cases hv
  | false =>
    simp only [takeV, Bool.false_eq_true, if_false] at hv
    obtain ⟨u, hu, hvu⟩ := hc.get hv
    refine ⟨u, ?_, hvu⟩
    simp only [loadVar, Sem.run_bind, aggOf_run hagg, Result.andThen_ok, Bool.false_eq_true, if_false, run_load, hu]
theorem ok_load (hs : Sim B S0 h nc x) {t : TypeId} {agg : Bool} {n : Nat} {a : Operand} {va v : AVal} (hop : o.op = .load t a) (ha : V x va (ρc a)) (hagg : aggOf P t = some agg) (hn : szOf P t = some n) (hv : (loadR agg n va).run h = some v) :
    OpOk P B S0 ρc o x (applyW h []) nc key v := by
  have run : ∀ bb oo u, ρc a = .pointer (some ⟨bb, oo, none⟩) → (loadVar t ⟨bb, oo, none⟩).run P x.w = .ok u x.w → (execOp ρc o).run P x.w = .ok (.value u) x.w := by
    intro bb oo u hp hr
    simp only [execOp, hop, hp, Instr.loadAt, Instr.sureAddr, Sem.run_bind, Sem.run_pure, Result.andThen_ok, hr]
  unfold loadR at hv
  split at hv
  · rename_i k g i es off
    simp only [V] at ha
    obtain ⟨bb, oo, hρ, ha⟩ := ha
    rw [Rd.run_get] at hv
    cases hk : h k with
    | none => rw [hk] at hv; cases hv
    | some blk =>
      rw [hk] at hv
      simp only [Rd.run_ofO] at hv
      cases hcs : blk.cs g i es with
      | none => rw [hcs] at hv; cases hv
      | some cs =>
        rw [hcs] at hv
        simp only [Option.bind_some] at hv
        obtain ⟨_, hc⟩ := cs_ok hs hk hρ hcs
        obtain ⟨u, hu, hvu⟩ := run_loadVar_ok (P := P) hagg hn hc hv
        exact pureOk hs (run _ _ _ ha hu) hvu
  · simp only [V] at ha
    obtain ⟨bb, oo, ha, hS, hc⟩ := ha
    rw [Rd.run_ofO] at hv
    obtain ⟨u, hu, hvu⟩ := run_loadVar_ok (P := P) hagg hn hc hv
    exact pureOk hs (run _ _ _ ha hu) (V_grow (Grow.unbare x) _ _ hvu)
  · cases hv
end
section
variable {P : Program} {B : Nat} {S0 : Base} {ρc : Operand → Value} {o : Oper} {x : Ctx} {h : Heap} {nc : Nat} {key : Key} {e : XArg → AVal}
theorem freshOk (hs : Sim B S0 h nc x) (hk : key.2 < nc) (hfresh : ∀ g, x.ρ key g = none) {u : Value} {w' : World} {c : Array Value} {el : TypeId} {blk : Blk} {v : AVal} (hr : (execOp ρc o).run P x.w = .ok (.value u) w') (hw : w'.heap = x.w.heap.push (.cells c el (0, 0))) (henv : SameEnv x.w w')
    (hg : blk.gen = 0) (hb : ∀ y : Ctx, Grow x y → y.w.heap[x.w.heap.size]? = some (.cells c el (0, 0)) → BlkOk y x.w.heap.size 0 blk)
    (hv : ∀ y : Ctx, Grow x y → y.w.heap[x.w.heap.size]? = some (.cells c el (0, 0)) → y.ρ key 0 = some (x.w.heap.size, 0) → V y v u) : OpOk P B S0 ρc o x (applyW h [(key, some blk)]) nc key v := by
  obtain ⟨y, h1, h2, h3, h4, h5, h6⟩ := hs.fresh key 0 blk w' c el hk hg (fun g p hp => by rw [hfresh] at hp; cases hp) hw henv
  refine ⟨u, y, .inl (by rw [h1]; exact hr), hv y h4.grow h5 (by rw [h2]; exact ρset_same _ _ _ _), h6 (hb y h4.grow h5), h4, ?_⟩
  intro k g p hp
  rw [h2] at hp
  rcases ρset_inv _ _ _ _ hp with h7 | ⟨h7, _⟩
  · exact .inl ⟨g, p, h7⟩
  · exact .inr h7
theorem cell_new {w : World} {b : Nat} {c : Array Value} {el : TypeId} {fr : Nat × Nat} (h : w.heap[b]? = some (.cells c el fr)) (i : Nat) : w.cell? ⟨b, i, none⟩ = c[i]? := by
  simp [World.cell?, h]
theorem VC_new {y : Ctx} {b : Nat} {c : Array Value} {el : TypeId} {fr : Nat × Nat} {as0 : List AVal} (h : y.w.heap[b]? = some (.cells c el fr)) (hl : VL y as0 c.toList) : VC y as0 b 0 := by
  refine VC_of_VL hl (fun i u hi => ?_)
  rw [Nat.zero_add, cell_new h, ← Array.getElem?_toList]
  exact hi
theorem V_ptr0 {y : Ctx} {k : Key} {b : Nat} (h : y.ρ k 0 = some (b, 0)) : V y (.ptr k 0 0 0 0) (.pointer (some ⟨b, 0, none⟩)) := by
  simp only [V]
  exact ⟨b, 0, h, by simp⟩
theorem ok_alloc (hs : Sim B S0 h nc x) (hk : key.2 < nc) (hfresh : ∀ g, x.ρ key g = none) {t : TypeId} {z : Value} {cells : List AVal} (hop : o.op = .alloc t) (hz : zeroOf P t = some z) (hc : chkSL z.cells.toList cells = true) :
    OpOk P B S0 ρc o x (applyW h [(key, some (.var cells))]) nc key (.ptr key 0 0 0 0) := by
  refine freshOk hs hk hfresh (u := .pointer (some ⟨x.w.heap.size, 0, none⟩)) (w' := { x.w with heap := x.w.heap.push (.cells z.cells t (0, 0)) }) (c := z.cells) (el := t) ?_ rfl ⟨rfl, rfl, rfl⟩ rfl ?_ (fun y _ _ hρ => V_ptr0 hρ)
  · simp only [execOp, hop, Instr.alloc, Sem.run_bind, zero_run hz, Result.andThen_ok, newVar, newRow, run_newObj, Sem.run_pure]
  · intro y g hb
    have hl : VL y cells z.cells.toList := chkSL_ok hc
    refine ⟨rfl, z.cells, t, hb, ?_, VC_new hb hl⟩
    simpa using hl.length
theorem ok_box (hs : Sim B S0 h nc x) (hk : key.2 < nc) (hfresh : ∀ g, x.ρ key g = none) {t : TypeId} {a : Operand} {va : AVal} (hop : o.op = .box t a) (ha : V x va (ρc a)) (hsc : (cellsOf va).all isSc = true) :
    OpOk P B S0 ρc o x (applyW h [(key, some (.var (cellsOf va)))]) nc key (.ptr key 0 0 0 0) := by
  have hl := V_cells_sc ha hsc
  refine freshOk hs hk hfresh (u := .pointer (some ⟨x.w.heap.size, 0, none⟩)) (w' := { x.w with heap := x.w.heap.push (.cells (ρc a).cells t (0, 0)) }) (c := (ρc a).cells) (el := t) ?_ rfl ⟨rfl, rfl, rfl⟩ rfl ?_ (fun y _ _ hρ => V_ptr0 hρ)
  · simp only [execOp, hop, Instr.box, Sem.run_bind, Result.andThen_ok, newVar, newRow, run_newObj, Sem.run_pure]
  · intro y g hb
    exact ⟨rfl, _, t, hb, by simpa using hl.length, VC_new hb (VL_grow g _ _ hl)⟩
theorem flat_replicate (n : Nat) (z : AVal) : (List.replicate n z).flatMap cellsOf = (List.replicate n (cellsOf z)).flatten := by
  induction n with
  | zero => rfl
  | succ n ih => simp [List.replicate_succ, ih]
theorem VL_flatten_replicate {x : Ctx} {as0 : List AVal} {us : List Value} (h : VL x as0 us) : ∀ n, VL x (List.replicate n as0).flatten (List.replicate n us).flatten
  | 0 => by simp [VL]
  | n + 1 => by simp only [List.replicate_succ, List.flatten_cons]; exact h.append (VL_flatten_replicate h n)
theorem zeros_eq (zc : Array Value) (n : Nat) (h : 1 ≤ zc.size) : ((Array.range (n * zc.size)).map fun i => zc[i % zc.size]!).toList = (List.replicate n zc.toList).flatten := by
  induction n with
  | zero => simp
  | succ n ih =>
    have h1 : (Array.range ((n + 1) * zc.size)).toList = (Array.range (n * zc.size)).toList ++ (List.range zc.size).map (n * zc.size + ·) := by
      simp only [Array.toList_range]
      rw [Nat.succ_mul, List.range_add]
    have h2 : (List.replicate (n + 1) zc.toList).flatten = (List.replicate n zc.toList).flatten ++ zc.toList := by
      rw [List.replicate_succ', List.flatten_append]; simp
    rw [Array.toList_map, h1, List.map_append, ← Array.toList_map, ih, h2]
    congr 1
    rw [List.map_map]
    apply List.ext_getElem?
    intro i
    by_cases hi : i < zc.size
    · simp only [List.getElem?_map, List.getElem?_range hi, Option.map_some, Function.comp]
      have : (n * zc.size + i) % zc.size = i := by rw [Nat.mul_comm, Nat.mul_add_mod]; exact Nat.mod_eq_of_lt hi
      rw [this]
      simp [hi]
    · rw [List.getElem?_eq_none (by simp; omega), List.getElem?_eq_none (by simp; omega)]
def PartsE (x : Ctx) : List (Nat × AVal) → List (Nat × Value) → Prop
  | [], [] => True
  | (i, a) :: ps, (j, u) :: qs => i = j ∧ V x a u ∧ PartsE x ps qs
  | _, _ => False
theorem flat_set {es : Nat} : ∀ {xs : List AVal} {i : Nat} {a : AVal}, (∀ b ∈ xs, (cellsOf b).length = es) → i < xs.length → (cellsOf a).length = es → (xs.set i a).flatMap cellsOf = splice (xs.flatMap cellsOf) (i * es) (cellsOf a)
  | [], i, a, _, hi, _ => by simp at hi
  | b :: bs, 0, a, hl, _, ha => by
    have hb := hl b (by simp)
    simp only [List.set_cons_zero, List.flatMap_cons, splice, Nat.zero_mul, List.take_zero, List.nil_append, Nat.zero_add, ha]
    rw [← hb, List.drop_left]
  | b :: bs, i + 1, a, hl, hi, ha => by
    have hb := hl b (by simp)
    simp only [List.set_cons_succ, List.flatMap_cons]
    rw [flat_set (fun c hc => hl c (by simp [hc])) (by simpa using hi) ha]
    have e1 : (i + 1) * es = (cellsOf b).length + i * es := by rw [hb, Nat.succ_mul]; omega
    unfold splice
    rw [e1, List.take_append, List.drop_append]
    have e2 : (cellsOf b).length + i * es + (cellsOf a).length - (cellsOf b).length = i * es + (cellsOf a).length := by omega
    have e3 : (cellsOf b).length + i * es - (cellsOf b).length = i * es := by omega
    rw [e2, e3, List.take_of_length_le (by omega : (cellsOf b).length ≤ (cellsOf b).length + i * es), List.drop_eq_nil_of_le (by omega : (cellsOf b).length ≤ (cellsOf b).length + i * es + (cellsOf a).length)]
    simp
theorem flat_len {es : Nat} : ∀ {xs : List AVal}, (∀ b ∈ xs, (cellsOf b).length = es) → (xs.flatMap cellsOf).length = xs.length * es
  | [], _ => by simp
  | b :: bs, hl => by
    have ih := flat_len (es := es) (xs := bs) (fun c hc => hl c (List.mem_cons_of_mem _ hc))
    simp only [List.flatMap_cons, List.length_append, List.length_cons, hl b (by simp), ih, Nat.succ_mul]
    omega
theorem all_set {es : Nat} {xs : List AVal} {i : Nat} {a : AVal} (hl : ∀ b ∈ xs, (cellsOf b).length = es) (ha : (cellsOf a).length = es) : ∀ b ∈ xs.set i a, (cellsOf b).length = es := by
  intro b hb
  rcases List.mem_or_eq_of_mem_set hb with h1 | h1
  · exact hl b h1
  · rw [h1]; exact ha
theorem fillE_ok {x : Ctx} {es : Nat} : ∀ {ps : List (Nat × AVal)} {qs : List (Nat × Value)} {xs r : List AVal} {vs : Array Value}, PartsE x ps qs → (∀ b ∈ xs, (cellsOf b).length = es) → VL x (xs.flatMap cellsOf) vs.toList → fillE es xs ps = some r →
    ∃ us, Instr.fill (fun i => some (i * es, es)) vs qs = some us ∧ VL x (r.flatMap cellsOf) us.toList ∧ (∀ b ∈ r, (cellsOf b).length = es) ∧ r.length = xs.length
  | [], [], xs, r, vs, _, hl, hv, hf => by
    simp only [fillE, Option.some.injEq] at hf
    subst hf
    exact ⟨vs, rfl, hv, hl, rfl⟩
  | [], _ :: _, xs, r, vs, hp, _, _, _ => by simp [PartsE] at hp
  | _ :: _, [], xs, r, vs, hp, _, _, _ => by simp [PartsE] at hp
  | (i, a) :: ps, (j, u) :: qs, xs, r, vs, hp, hl, hv, hf => by
    simp only [PartsE] at hp
    obtain ⟨rfl, hvu, hp⟩ := hp
    simp only [fillE] at hf
    split at hf
    · rename_i hc
      obtain ⟨hc1, hc2, hc3⟩ := hc
      have hcl := V_cells_sc hvu hc3
      have hlen := hcl.length
      have hlen' := hv.length
      rw [flat_len hl] at hlen'
      simp only [Array.length_toList] at hlen hlen'
      have hle : i * es + es ≤ xs.length * es := by
        have := Nat.mul_le_mul_right es (Nat.succ_le_of_lt hc2)
        rw [Nat.succ_mul] at this
        exact this
      have hstep := fill_step u.cells vs (i * es) (by omega)
      obtain ⟨us, h1, h2, h3, h4⟩ := fillE_ok (vs := (spliceV vs.toList (i * es) u.cells.toList).toArray) hp (all_set hl hc1) (by rw [flat_set hl hc2 hc1]; simpa using VL_splice (i * es) hv hcl) hf
      refine ⟨us, ?_, h2, h3, by simpa using h4⟩
      simp only [Instr.fill]
      rw [if_neg (by simp only [Bool.or_eq_true, decide_eq_true_eq]; omega), hstep]
      exact h1
    · cases hf
theorem V_sl0 {y : Ctx} {k : Key} {b es n cap : Nat} (h : y.ρ k 0 = some (b, 0)) (hc : n ≤ cap) (hz : cap * es ≤ bsz y.w b) : V y (.sl k 0 es 0 n) (.slice (some ⟨b, 0, none⟩) n cap) := by
  simp only [V]
  exact ⟨b, 0, _, cap, h, rfl, hc, .inr (by simp), by simpa using hz, rfl⟩
theorem bsz_of {w : World} {b : Nat} {c : Array Value} {el : TypeId} {fr : Nat × Nat} (h : w.heap[b]? = some (.cells c el fr)) : bsz w b = c.size := by
  simp only [Go.Xec.bsz, h]
theorem ok_mkslice (hs : Sim B S0 h nc x) (hk : key.2 < nc) (hfresh : ∀ g, x.ρ key g = none) {t et : TypeId} {n es : Nat} {parts : Array (Nat × Operand)} {z : Value} {zero : AVal} {xs : List AVal} {ps : List (Nat × AVal)} (hop : o.op = .buildSlice t n parts)
    (ht : P.underlying t = some (.slice et)) (hsz : szOf P et = some es) (hbig : n * es ≤ 16777216) (hz : zeroOf P et = some z) (hzc : chkSL z.cells.toList (cellsOf zero) = true) (hzl : (cellsOf zero).length = es) (hes : 1 ≤ es)
    (hp : PartsE x ps (parts.toList.map fun p => (p.1, ρc p.2))) (hxs : fillE es (List.replicate n zero) ps = some xs) :
    OpOk P B S0 ρc o x (applyW h [(key, some (.row 0 es xs))]) nc key (.sl key 0 es 0 n) := by
  have hzl' : VL x (cellsOf zero) z.cells.toList := chkSL_ok hzc
  have hzsz : z.cells.size = es := by rw [← Array.length_toList, hzl'.length, hzl]
  have hall : ∀ b ∈ List.replicate n zero, (cellsOf b).length = es := by
    intro b hb; rw [List.eq_of_mem_replicate hb]; exact hzl
  have hinit : ∃ zc : Array Value, ((n * es = 0 ∧ zc = #[]) ∨ (¬ n * es = 0 ∧ zc = z.cells)) ∧ ((Array.range (n * es)).map fun i => zc[i % zc.size]!).toList = (List.replicate n z.cells.toList).flatten := by
    by_cases h0 : n * es = 0
    · refine ⟨#[], .inl ⟨h0, rfl⟩, ?_⟩
      have : n = 0 := by
        rcases Nat.mul_eq_zero.1 h0 with h1 | h1
        · exact h1
        · omega
      subst this
      simp
    · refine ⟨z.cells, .inr ⟨h0, rfl⟩, ?_⟩
      have := zeros_eq z.cells n (by omega)
      rw [hzsz] at this
      rw [hzsz]
      exact this
  obtain ⟨zc, e1, e2⟩ := hinit
  obtain ⟨us, h1, h2, h3, h4⟩ := fillE_ok (vs := (Array.range (n * es)).map fun i => zc[i % zc.size]!) hp hall (by rw [e2, flat_replicate]; exact VL_flatten_replicate hzl' n) hxs
  have hlen := h2.length
  rw [flat_len h3, h4, List.length_replicate, Array.length_toList] at hlen
  refine freshOk hs hk hfresh (u := .slice (some ⟨x.w.heap.size, 0, none⟩) n n) (w' := { x.w with heap := x.w.heap.push (.cells us et (0, 0)) }) (c := us) (el := et) ?_ rfl ⟨rfl, rfl, rfl⟩ rfl ?_ ?_
  · simp only [execOp, hop, Instr.buildSlice, Sem.run_bind, run_underlying ht, Result.andThen_ok, szOf_run hsz]
    rw [if_neg (by omega)]
    rcases e1 with ⟨h0, rfl⟩ | ⟨h0, rfl⟩
    · simp only [h0, if_true, Sem.run_bind, Sem.run_pure, Result.andThen_ok, Array.toList_map] at h1 ⊢
      rw [h1]
      simp only [newRow, Sem.run_bind, run_newObj, Sem.run_pure, Result.andThen_ok]
    · simp only [h0, if_false, Sem.run_bind, Sem.run_pure, zero_run hz, Result.andThen_ok, Array.toList_map] at h1 ⊢
      rw [h1]
      simp only [newRow, Sem.run_bind, run_newObj, Sem.run_pure, Result.andThen_ok]
  · intro y g hb
    refine ⟨us, et, hb, by rw [h4]; simp; omega, VR_of_flat h3 (VC_new hb (VL_grow g _ _ h2))⟩
  · intro y g hb hρ
    exact V_sl0 hρ (Nat.le_refl _) (by rw [bsz_of hb]; omega)
end
section
variable {P : Program} {B : Nat} {S0 : Base} {ρc : Operand → Value} {o : Oper} {x : Ctx} {h : Heap} {nc : Nat} {key : Key} {e : XArg → AVal}
theorem setRow_heap' {w : World} {b : Nat} {c : Array Value} {el : TypeId} {fr : Nat × Nat} (hb : w.heap[b]? = some (.cells c el fr)) (c' : Array Value) : (w.setRow b c').heap = w.heap.setIfInBounds b (.cells c' el fr) := by
  have hlt := heap_lt hb
  apply Array.ext_getElem?
  intro i
  simp only [World.setRow]
  by_cases hi : i = b
  · subst hi
    rw [Array.getElem?_modify, if_pos rfl, hb]
    simp [hlt]
  · rw [Array.getElem?_modify, if_neg (Ne.symm hi), Array.getElem?_setIfInBounds_ne (Ne.symm hi)]
theorem VL_of_block {b oo : Nat} {c : Array Value} {el : TypeId} {fr : Nat × Nat} {as0 : List AVal} (hb : x.w.heap[b]? = some (.cells c el fr)) (hc : VC x as0 b oo) : VL x as0 ((c.toList.drop oo).take as0.length) := by
  obtain ⟨us, h1, h2⟩ := VL_of_VC hc
  have : us = (c.toList.drop oo).take as0.length := by
    have hl := h1.length
    apply List.ext_getElem?
    intro i
    by_cases hi : i < us.length
    · have h3 := h2 i _ (List.getElem?_eq_getElem hi)
      rw [cell_new hb] at h3
      rw [List.getElem?_take, if_pos (by omega), List.getElem?_drop]
      exact (List.getElem?_eq_getElem hi).trans (h3.symm.trans (by simp))
    · rw [List.getElem?_eq_none (by omega), List.getElem?_eq_none (by simp; omega)]
  rw [← this]
  exact h1
theorem VC_of_block {y : Ctx} {b oo : Nat} {c : Array Value} {el : TypeId} {fr : Nat × Nat} {as0 : List AVal} (hb : y.w.heap[b]? = some (.cells c el fr)) (hl : VL y as0 ((c.toList.drop oo).take as0.length)) : VC y as0 b oo := by
  refine VC_of_VL hl (fun i u hi => ?_)
  rw [cell_new hb]
  rw [List.getElem?_take] at hi
  split at hi
  · rw [List.getElem?_drop, Array.getElem?_toList] at hi; exact hi
  · cases hi
theorem spliceV_length {cs new : List Value} {off : Nat} (h : off + new.length ≤ cs.length) : (spliceV cs off new).length = cs.length := by
  simp [spliceV]; omega
theorem spliceV_window {l us : List Value} {o q L : Nat} (h1 : q + us.length ≤ L) (h2 : o + L ≤ l.length) : ((spliceV l (o + q) us).drop o).take L = spliceV ((l.drop o).take L) q us := by
  apply List.ext_getElem?
  intro i
  simp only [spliceV, List.getElem?_take, List.getElem?_drop, List.getElem?_append, List.length_take, List.length_drop, List.length_append]
  by_cases hi : i < L
  · simp only [hi, if_true]
    by_cases h3 : i < q
    · have a1 : o + i < min (o + q) l.length := by omega
      have a2 : o + i < o + q := by omega
      have a3 : i < min q (min L (l.length - o)) := by omega
      simp only [a1, a2, a3, h3, if_true]
    · have a1 : ¬ (o + i < min (o + q) l.length) := by omega
      have a3 : ¬ (i < min q (min L (l.length - o))) := by omega
      have a4 : o + i - min (o + q) l.length = i - q := by omega
      have a5 : i - min q (min L (l.length - o)) = i - q := by omega
      simp only [a1, a3, if_false, a4, a5]
      by_cases h4 : i - q < us.length
      · simp only [h4, if_true]
      · simp only [h4, if_false]
        have a6 : q + us.length + (i - q - us.length) = i := by omega
        have a7 : o + q + us.length + (i - q - us.length) = o + i := by omega
        rw [a6, a7]
        simp only [hi, if_true]
  · simp only [hi, if_false]
    have a3 : ¬ (i < min q (min L (l.length - o))) := by omega
    have a5 : i - min q (min L (l.length - o)) = i - q := by omega
    have a4 : ¬ (i - q < us.length) := by omega
    have a6 : q + us.length + (i - q - us.length) = i := by omega
    simp only [a3, a5, a4, a6, hi, if_false]
theorem writeOk (hs : Sim B S0 h nc x) {k : Key} {blk0 : Blk} {b oo : Nat} (hk : h k = some blk0) (hρ : x.ρ k blk0.gen = some (b, oo)) {c : Array Value} {el : TypeId} (hb : x.w.heap[b]? = some (.cells c el (0, 0))) {us : List Value} {q : Nat} (hq : oo + q + us.length ≤ c.size)
    {blk : Blk} (hg : blk.gen = blk0.gen) (hsc : ∀ u ∈ us, u.oneCell' = true)
    (hblk : ∀ y : Ctx, Grow x y → y.w.heap[b]? = some (.cells (spliceV c.toList (oo + q) us).toArray el (0, 0)) → BlkOk y b oo blk) :
    ∃ y, (storeCells ⟨b, oo + q, none⟩ us).run P x.w = .ok () y.w ∧ Sim B S0 (upd h k (some blk)) nc y ∧ Step B x y ∧ (∀ k' g p, y.ρ k' g = some p → ∃ g' p', x.ρ k' g' = some p') := by
  have hrun := run_storeCells_at (P := P) b (oo + q) el us 0 c x.w hb (by simpa using hq) hsc
  simp only [Nat.add_zero] at hrun
  have e1 : c.toList.take (oo + q) ++ us ++ c.toList.drop (oo + q + us.length) = spliceV c.toList (oo + q) us := by simp [spliceV]
  rw [e1] at hrun
  obtain ⟨y, h1, h2, h3, h4, h5, h6, h7⟩ := hs.write k blk0 b oo hk hρ blk0.gen oo blk (x.w.setRow b (spliceV c.toList (oo + q) us).toArray) c (spliceV c.toList (oo + q) us).toArray el hb
    (by simp only [List.size_toArray]; rw [spliceV_length (by simpa using hq)]; simp) hg (.inl ⟨rfl, rfl⟩) (setRow_heap' hb _) ⟨rfl, rfl, rfl⟩
  refine ⟨y, by rw [h1]; exact hrun, h7 (hblk y h5.grow h6), h5, ?_⟩
  intro k' g p hp
  rcases h4 k' g p hp with h8 | rfl
  · exact ⟨g, p, h8⟩
  · exact ⟨_, _, hρ⟩
theorem splice_in {cs seg new : List AVal} {p es off : Nat} (hseg : seg = (cs.drop p).take es) (hl : p + es ≤ cs.length) (ho : off + new.length ≤ es) : splice cs p (splice seg off new) = splice cs (p + off) new := by
  have hsl : seg.length = es := by rw [hseg]; simp; omega
  have hs' := splice_length (cs := seg) (new := new) (off := off) (by omega)
  have e0 : seg.take off = (cs.drop p).take off := by rw [hseg, List.take_take, Nat.min_eq_left (by omega)]
  have e1 : seg.drop (off + new.length) = (cs.drop (p + off + new.length)).take (es - (off + new.length)) := by
    rw [hseg, List.drop_take, List.drop_drop, Nat.add_assoc]
  have e2 : (cs.drop (p + off + new.length)).take (es - (off + new.length)) ++ cs.drop (p + es) = cs.drop (p + off + new.length) := by
    have : p + es = p + off + new.length + (es - (off + new.length)) := by omega
    have h5 := List.take_append_drop (es - (off + new.length)) (cs.drop (p + off + new.length))
    rw [List.drop_drop] at h5
    rw [this]
    exact h5
  have e3 : cs.take (p + off) = cs.take p ++ (cs.drop p).take off := by rw [List.take_add]
  show cs.take p ++ (splice seg off new ++ cs.drop (p + (splice seg off new).length)) = cs.take (p + off) ++ (new ++ cs.drop (p + off + new.length))
  rw [hs', hsl]
  unfold splice
  rw [e0, e1, e3]
  simp only [List.append_assoc]
  rw [e2]
theorem flat_seg {es : Nat} : ∀ {xs : List AVal} {i : Nat} {a : AVal}, (∀ b ∈ xs, (cellsOf b).length = es) → xs[i]? = some a → cellsOf a = ((xs.flatMap cellsOf).drop (i * es)).take es
  | [], i, a, _, hi => by simp at hi
  | b :: bs, 0, a, hl, hi => by
    simp at hi; subst hi
    have hb := hl b (by simp)
    simp only [List.flatMap_cons, Nat.zero_mul, List.drop_zero]
    rw [← hb, List.take_left]
  | b :: bs, i + 1, a, hl, hi => by
    simp at hi
    have hb := hl b (by simp)
    rw [flat_seg (fun c hc => hl c (List.mem_cons_of_mem _ hc)) hi]
    simp only [List.flatMap_cons]
    have e1 : (i + 1) * es = (cellsOf b).length + i * es := by rw [hb, Nat.succ_mul]; omega
    rw [e1, ← List.drop_drop, List.drop_left]
theorem cellsOf_sc {z : AVal} (h : isSc z = true) : cellsOf z = [z] := by
  cases z <;> simp_all [isSc, cellsOf]
theorem cellsOf_remake {a : AVal} {off : Nat} {new : List AVal} (ho : off + new.length ≤ (cellsOf a).length) (hsc : new.all isSc = true) : cellsOf (remake a (splice (cellsOf a) off new)) = splice (cellsOf a) off new := by
  by_cases ha : ∃ ys, a = .agg ys
  · obtain ⟨ys, rfl⟩ := ha; rfl
  · have hc : cellsOf a = [a] := by
      cases a <;> first | rfl | exact absurd ⟨_, rfl⟩ ha
    have hr : ∀ cs, remake a cs = cs.headD .undef := by
      intro cs
      cases a <;> first | rfl | exact absurd ⟨_, rfl⟩ ha
    rw [hc] at ho ⊢
    simp only [List.length_singleton] at ho
    match new, hsc, ho with
    | [], _, ho =>
      have : splice [a] off [] = [a] := by simp [splice]
      rw [this, hr]
      exact hc
    | [z], hsc, ho =>
      have h0 : off = 0 := by simp at ho; exact ho
      subst h0
      have : splice [a] 0 [z] = [z] := by simp [splice]
      rw [this, hr]
      simp only [List.all_cons, List.all_nil, Bool.and_true] at hsc
      exact cellsOf_sc hsc
    | _ :: _ :: _, _, ho => simp only [List.length_cons] at ho; omega
theorem VR_lens {x : Ctx} {es : Nat} : ∀ {as0 : List AVal} {b o : Nat}, VR x es as0 b o → ∀ a ∈ as0, (cellsOf a).length = es
  | [], _, _, _, a, ha => by cases ha
  | c :: cs, b, o, hv, a, ha => by
    simp only [VR] at hv
    rcases List.mem_cons.1 ha with rfl | ha
    · exact (VE_cells hv.1).1
    · exact VR_lens hv.2 a ha
theorem ok_store (hs : Sim B S0 h nc x) {t : TypeId} {n : Nat} {a b : Operand} {va vb v : AVal} {ws : Wr} (hop : o.op = .store t a b) (ha : V x va (ρc a)) (hb : V x vb (ρc b)) (hn : szOf P t = some n) (hv : (storeR n va vb).run h = some (v, ws)) :
    OpOk P B S0 ρc o x (applyW h ws) nc key v := by
  have run : ∀ bb oo (y : World), ρc a = .pointer (some ⟨bb, oo, none⟩) → (ρc b).cells.size = n → (storeCells ⟨bb, oo, none⟩ (ρc b).cells.toList).run P x.w = .ok () y → (execOp ρc o).run P x.w = .ok .skip y := by
    intro bb oo y hp hl hr
    simp only [execOp, hop, hp, Instr.storeAt, Instr.sureAddr, Sem.run_bind, Sem.run_pure, Result.andThen_ok, storeVar, szOf_run hn]
    rw [if_neg (by omega)]
    simp only [Sem.run_bind, Sem.run_pure, Result.andThen_ok, hr]
  unfold storeR at hv
  split at hv
  · rename_i k g i es off
    split at hv
    · rename_i hc
      obtain ⟨hc1, hc2⟩ := hc
      simp only [V] at ha
      obtain ⟨bb, oo, hρ, ha⟩ := ha
      have hcl := V_cells_sc hb hc2
      have hsz : (ρc b).cells.size = n := by rw [← Array.length_toList, hcl.length, hc1]
      have hsc := VL_sc hcl hc2
      rw [Rd.run_get] at hv
      cases hk : h k with
      | none => rw [hk] at hv; cases hv
      | some blk =>
        rw [hk] at hv
        obtain ⟨b', o', h1, h2, h3, h4⟩ := hs.live k blk hk
        cases blk with
        | var cells =>
          simp only at hv
          split at hv
          · rename_i hg
            obtain ⟨rfl, hle⟩ := hg
            simp only [Rd.run_ret, Option.some.injEq, Prod.mk.injEq] at hv
            obtain ⟨rfl, rfl⟩ := hv
            simp only [Blk.gen] at h1
            rw [hρ] at h1
            cases h1
            obtain ⟨rfl, c, el, hheap, hcsz, hvc⟩ := h4
            have hlen : (ρc b).cells.toList.length = n := by simpa using hsz
            obtain ⟨y, e1, e2, e3, e4⟩ := writeOk (P := P) hs hk (by simpa [Blk.gen] using hρ) hheap (us := (ρc b).cells.toList) (q := i * es + off) (blk := .var (splice cells (i * es + off) (cellsOf vb))) (by omega) rfl hsc (by
              intro y g hb'
              have hnew := VL_splice (i * es + off) (VL_grow g _ _ (VL_of_block hheap hvc)) (VL_grow g _ _ hcl)
              refine ⟨rfl, _, el, hb', ?_, ?_⟩
              · simp only [List.size_toArray]
                rw [spliceV_length (by simp; omega), splice_length (by omega)]
                simpa using hcsz
              · refine VC_new hb' ?_
                simp only [List.drop_zero] at hnew
                rw [List.take_of_length_le (by simp; omega)] at hnew
                simpa using hnew)
            refine ⟨undef, y, .inr ⟨run _ _ _ (by simpa [Nat.add_assoc] using ha) hsz (by simpa [Nat.add_assoc] using e1), rfl⟩, by simp only [V], e2, e3, fun k' g p hp => .inl (e4 k' g p hp)⟩
          · cases hv
        | row g' es' elems =>
          simp only at hv
          split at hv
          · rename_i hg
            obtain ⟨rfl, rfl⟩ := hg
            cases hel : elems[i]? with
            | none => rw [hel] at hv; cases hv
            | some ee =>
              rw [hel] at hv
              simp only at hv
              split at hv
              · rename_i hle
                simp only [Rd.run_ret, Option.some.injEq, Prod.mk.injEq] at hv
                obtain ⟨rfl, rfl⟩ := hv
                simp only [Blk.gen] at h1
                rw [hρ] at h1
                cases h1
                obtain ⟨c, el, hheap, hcsz, hvr⟩ := h4
                have hlens := VR_lens hvr
                have hes : (cellsOf ee).length = es := hlens ee (List.mem_of_getElem? hel)
                have hi : i < elems.length := by
                  rcases Nat.lt_or_ge i elems.length with h5 | h5
                  · exact h5
                  · rw [List.getElem?_eq_none h5] at hel; cases hel
                have hie : i * es + es ≤ elems.length * es := by
                  have := Nat.mul_le_mul_right es (Nat.succ_le_of_lt hi)
                  rw [Nat.succ_mul] at this
                  exact this
                obtain ⟨hfl, hfll⟩ := VR_flat hvr
                have hlen : (ρc b).cells.toList.length = n := by simpa using hsz
                have hrem := cellsOf_remake (a := ee) (off := off) (new := cellsOf vb) (by omega) hc2
                have hremlen : (cellsOf (remake ee (splice (cellsOf ee) off (cellsOf vb)))).length = es := by rw [hrem, splice_length (by omega), hes]
                have hflat : (elems.set i (remake ee (splice (cellsOf ee) off (cellsOf vb)))).flatMap cellsOf = splice (elems.flatMap cellsOf) (i * es + off) (cellsOf vb) := by
                  rw [flat_set hlens hi hremlen, hrem]
                  exact splice_in (flat_seg hlens hel) (by omega) (by omega)
                obtain ⟨y, e1, e2, e3, e4⟩ := writeOk (P := P) hs hk (by simpa [Blk.gen] using hρ) hheap (us := (ρc b).cells.toList) (q := i * es + off) (blk := .row g es (elems.set i (remake ee (splice (cellsOf ee) off (cellsOf vb))))) (by omega) rfl hsc (by
                  intro y gr hb'
                  have hnew := VL_splice (i * es + off) (VL_grow gr _ _ (VL_of_block hheap hfl)) (VL_grow gr _ _ hcl)
                  refine ⟨_, el, hb', ?_, ?_⟩
                  · simp only [List.size_toArray]
                    rw [spliceV_length (by simp; omega)]
                    simpa using hcsz
                  · refine VR_of_flat (all_set hlens hremlen) ?_
                    rw [hflat]
                    refine VC_of_block hb' ?_
                    rw [splice_length (by omega), hfll, List.toList_toArray, spliceV_window (by omega) (by simpa using hcsz), ← hfll]
                    exact hnew)
                refine ⟨undef, y, .inr ⟨run _ _ _ (by simpa [Nat.add_assoc] using ha) hsz (by simpa [Nat.add_assoc] using e1), rfl⟩, by simp only [V], e2, e3, fun k' g p hp => .inl (e4 k' g p hp)⟩
              · cases hv
          · cases hv
        | obj a => cases hv
    · cases hv
  · cases hv
theorem wrap_i64 {n : Int} (h1 : -9223372036854775808 ≤ n) (h2 : n < 9223372036854775808) : IntKind.i64.wrap n = n := by
  have e1 : ((2 : Int) ^ IntKind.i64.bits) = 18446744073709551616 := by decide
  have e2 : ((2 : Int) ^ (IntKind.i64.bits - 1)) = 9223372036854775808 := by decide
  have e3 : IntKind.i64.signed = true := rfl
  unfold IntKind.wrap
  rw [e1, e2, e3]
  simp only [Bool.true_and, decide_eq_true_eq, ge_iff_le]
  split <;> omega
theorem ok_mkS (hs : Sim B S0 h nc x) (hk : key.2 < nc) (hfresh : ∀ g, x.ρ key g = none) {t et : TypeId} {es bytes : Nat} {a b : Operand} {ka kb : IntKind} {l c : Int} {z : Value} {zero : AVal} (hop : o.op = .makeSlice t a b) (ha : V x (.int ka l) (ρc a)) (hb : V x (.int kb c) (ρc b))
    (ht : P.underlying t = some (.slice et)) (hsz : szOf P et = some es) (hby : byOf P et = some bytes) (hb1 : 1 ≤ bytes) (hz : zeroOf P et = some z) (hzc : chkSL z.cells.toList (cellsOf zero) = true) (hzl : (cellsOf zero).length = es) (hes : 1 ≤ es)
    (hr : 0 ≤ l ∧ l ≤ c ∧ (bytes : Int) * c ≤ 281474976710656) :
    OpOk P B S0 ρc o x (applyW h [(key, some (.row 0 es (List.replicate l.toNat zero)))]) nc key (.sl key 0 es 0 l.toNat) := by
  have ha := V_int ha
  have hb := V_int hb
  obtain ⟨i, hi, hib⟩ := info_run (P := P) hby x.w
  have hzl' : VL x (cellsOf zero) z.cells.toList := chkSL_ok hzc
  have hzsz : z.cells.size = es := by rw [← Array.length_toList, hzl'.length, hzl]
  have hc : 0 ≤ c ∧ c ≤ 281474976710656 := by
    refine ⟨by omega, ?_⟩
    have h1 : (1 : Int) ≤ bytes := by omega
    have h2 := Int.mul_le_mul_of_nonneg_right h1 (by omega : (0 : Int) ≤ c)
    omega
  have w1 : IntKind.i64.wrap l = l := wrap_i64 (by omega) (by omega)
  have w2 : IntKind.i64.wrap c = c := wrap_i64 (by omega) (by omega)
  have hinit : ∃ zc : Array Value, ((c.toNat * es = 0 ∧ zc = #[]) ∨ (¬ c.toNat * es = 0 ∧ zc = z.cells)) ∧ ((Array.range (c.toNat * es)).map fun i => zc[i % zc.size]!).toList = (List.replicate c.toNat z.cells.toList).flatten := by
    by_cases h0 : c.toNat * es = 0
    · refine ⟨#[], .inl ⟨h0, rfl⟩, ?_⟩
      have : c.toNat = 0 := by
        rcases Nat.mul_eq_zero.1 h0 with h1 | h1
        · exact h1
        · omega
      rw [this]
      simp
    · refine ⟨z.cells, .inr ⟨h0, rfl⟩, ?_⟩
      have := zeros_eq z.cells c.toNat (by omega)
      rw [hzsz] at this
      rw [hzsz]
      exact this
  obtain ⟨zc, e1, e2⟩ := hinit
  have hbig := VL_flatten_replicate hzl' c.toNat
  have hlen : ((Array.range (c.toNat * es)).map fun i => zc[i % zc.size]!).size = c.toNat * es := by simp
  refine freshOk hs hk hfresh (u := .slice (some ⟨x.w.heap.size, 0, none⟩) l.toNat c.toNat) (w' := { x.w with heap := x.w.heap.push (.cells ((Array.range (c.toNat * es)).map fun i => zc[i % zc.size]!) et (0, 0)) })
    (c := (Array.range (c.toNat * es)).map fun i => zc[i % zc.size]!) (el := et) ?_ rfl ⟨rfl, rfl, rfl⟩ rfl ?_ ?_
  · simp only [execOp, hop, ha, hb, Instr.makeSlice, Sem.run_bind, run_underlying ht, Result.andThen_ok, asInt, asIntOf, Sem.run_pure, hi, hib, w1, w2]
    rw [if_neg (by
      simp only [Bool.or_eq_true, decide_eq_true_eq, Bool.decide_or, Bool.decide_eq_true]
      omega)]
    simp only [Sem.run_bind, run_askRoom, Result.andThen_ok, szOf_run hsz]
    rcases e1 with ⟨h0, rfl⟩ | ⟨h0, rfl⟩
    · simp only [h0, if_true, Sem.run_bind, Sem.run_pure, Result.andThen_ok, newRow, run_newObj]
    · simp only [h0, if_false, Sem.run_bind, Sem.run_pure, zero_run hz, Result.andThen_ok, newRow, run_newObj]
  · intro y g hb'
    have hall : ∀ b ∈ List.replicate c.toNat zero, (cellsOf b).length = es := by
      intro b hb; rw [List.eq_of_mem_replicate hb]; exact hzl
    have hv : VR y es (List.replicate c.toNat zero) x.w.heap.size 0 := by
      refine VR_of_flat hall (VC_new hb' ?_)
      rw [e2, flat_replicate]
      exact VL_grow g _ _ hbig
    have hv' := hv.take l.toNat
    rw [List.take_replicate, Nat.min_eq_left (by omega)] at hv'
    refine ⟨_, et, hb', ?_, hv'⟩
    rw [hlen]
    simp only [List.length_replicate, Nat.zero_add]
    exact Nat.mul_le_mul_right es (by omega)
  · intro y g hb' hρ
    exact V_sl0 hρ (by omega) (by rw [bsz_of hb', hlen]; exact Nat.le_refl _)
end
section
variable {P : Program} {B : Nat} {S0 : Base} {ρc : Operand → Value} {o : Oper} {x : Ctx} {h : Heap} {nc : Nat} {key : Key} {e : XArg → AVal}
theorem VC_of_VC {y : Ctx} (hw : y.w = x.w) {as0 bs : List AVal} {b oo : Nat} (hc : VC x as0 b oo) (hl : ∀ us, VL x as0 us → VL y bs us) : VC y bs b oo := by
  obtain ⟨us, h1, h2⟩ := VL_of_VC hc
  exact VC_of_VL (hl us h1) (fun i u hi => by rw [hw]; exact h2 i u hi)
theorem els_ok (hs : Sim B S0 h nc x) {k : Key} {g es off len : Nat} {blk : Blk} {xs : List AVal} {b oo : Nat} (hk : h k = some blk) (hρ : x.ρ k g = some (b, oo)) (hcs : blk.els g es off len = some xs) : blk.gen = g ∧ xs.length = len ∧ VR x es xs b (oo + off * es) := by
  obtain ⟨b', o', h1, _, _, h4⟩ := hs.live k blk hk
  cases blk with
  | var cells =>
    simp only [Blk.els] at hcs
    split at hcs
    · rename_i hg
      obtain ⟨rfl, rfl, hle, hsc⟩ := hg
      cases hcs
      simp only [Blk.gen] at h1
      rw [hρ] at h1
      cases h1
      obtain ⟨rfl, c, ee, _, _, hv⟩ := h4
      refine ⟨rfl, by simp; omega, ?_⟩
      have hc := (hv.drop off).take len
      have hl : ∀ a ∈ (cells.drop off).take len, cellsOf a = [a] := fun a ha => cellsOf_sc (List.all_eq_true.1 hsc a ha)
      refine VR_of_flat (fun a ha => by rw [hl a ha]; rfl) ?_
      have : ((cells.drop off).take len).flatMap cellsOf = (cells.drop off).take len := by
        have : ∀ (l : List AVal), (∀ a ∈ l, cellsOf a = [a]) → l.flatMap cellsOf = l := by
          intro l
          induction l with
          | nil => simp
          | cons a l ih => intro hl; simp only [List.flatMap_cons, hl a (by simp), ih (fun b hb => hl b (by simp [hb]))]; rfl
        exact this _ hl
      rw [this]
      simpa using hc
    · cases hcs
  | row g' es' elems =>
    simp only [Blk.els] at hcs
    split at hcs
    · rename_i hg
      obtain ⟨rfl, rfl, hle⟩ := hg
      cases hcs
      simp only [Blk.gen] at h1
      rw [hρ] at h1
      cases h1
      obtain ⟨c, ee, _, _, hv⟩ := h4
      exact ⟨rfl, by simp; omega, (hv.drop off).take len⟩
    · cases hcs
  | obj a => simp [Blk.els] at hcs
def LendOk (x y : Ctx) (h : Heap) (KS : Key → Prop) (d : Nat) : Prop :=
  ∀ a a' ks, (lend d a).run h = some (a', ks) → (∀ k ∈ ks, KS k) → (∀ u, V x a u → V y.bare a' u) ∧ (∀ us, VL x (cellsOf a) us → VL y.bare (cellsOf a') us)
theorem run_lendL_cons {d : Nat} {a : AVal} {as0 : List AVal} {r : List AVal × List Key} (hr : (lendL d (a :: as0)).run h = some r) :
    ∃ a' ks as' ls, (lend d a).run h = some (a', ks) ∧ (lendL d as0).run h = some (as', ls) ∧ r = (a' :: as', ks ++ ls) := by
  rw [lendL, Rd.run_bind] at hr
  cases h1 : (lend d a).run h with
  | none => rw [h1] at hr; cases hr
  | some p =>
    rw [h1, Option.bind_some, Rd.run_bind] at hr
    cases h2 : (lendL d as0).run h with
    | none => rw [h2] at hr; cases hr
    | some q =>
      rw [h2, Option.bind_some, Rd.run_ret] at hr
      cases hr
      exact ⟨p.1, p.2, q.1, q.2, rfl, rfl, rfl⟩
theorem lendL_VL {x y : Ctx} {KS : Key → Prop} {d : Nat} (hd : LendOk x y h KS d) : ∀ {as0 as' : List AVal} {ks : List Key}, (lendL d as0).run h = some (as', ks) → (∀ k ∈ ks, KS k) → as'.length = as0.length ∧ (∀ us, VL x as0 us → VL y.bare as' us) ∧ (∀ us, VL x (as0.flatMap cellsOf) us → VL y.bare (as'.flatMap cellsOf) us)
  | [], as', ks, hr, _ => by
    rw [lendL, Rd.run_ret] at hr
    cases hr
    exact ⟨rfl, fun us hu => by simpa only [VL] using hu, fun us hu => by simpa only [List.flatMap_nil, VL] using hu⟩
  | a :: as0, as', ks, hr, hK => by
    obtain ⟨a', k1, bs, k2, h1, h2, e⟩ := run_lendL_cons hr
    cases e
    obtain ⟨hv, hc⟩ := hd a a' k1 h1 (fun k hk => hK k (by simp [hk]))
    obtain ⟨ih1, ih2, ih3⟩ := lendL_VL hd h2 (fun k hk => hK k (by simp [hk]))
    refine ⟨by simp [ih1], ?_, ?_⟩
    · intro us hu
      simp only [VL] at hu ⊢
      obtain ⟨v, r, rfl, e1, e2⟩ := hu
      exact ⟨v, r, rfl, hv v e1, ih2 r e2⟩
    · intro us hu
      simp only [List.flatMap_cons] at hu ⊢
      obtain ⟨e1, e2⟩ := hu.split
      have := (hc _ e1).append (ih3 _ e2)
      rwa [List.take_append_drop] at this
theorem lend_len {h : Heap} {d : Nat} {a a' : AVal} {ks : List Key} (hr : (lend d a).run h = some (a', ks)) (hL : ∀ d' as0 as' ks, d' < d → (lendL d' as0).run h = some (as', ks) → as'.length = as0.length) : (cellsOf a').length = (cellsOf a).length := by
  cases a <;> cases d <;> simp only [lend, Rd.run_ret, Rd.run_fail, Option.some.injEq, Prod.mk.injEq, reduceCtorEq] at hr <;> try (obtain ⟨rfl, _⟩ := hr; rfl)
  case agg.succ xs d =>
    rw [Rd.run_bind] at hr
    cases h1 : (lendL d xs).run h with
    | none => rw [h1] at hr; cases hr
    | some p => rw [h1, Option.bind_some, Rd.run_ret] at hr; cases hr; simpa [cellsOf] using hL d xs p.1 p.2 (Nat.lt_succ_self d) h1
  case tup.succ xs d =>
    rw [Rd.run_bind] at hr
    cases h1 : (lendL d xs).run h with
    | none => rw [h1] at hr; cases hr
    | some p => rw [h1, Option.bind_some, Rd.run_ret] at hr; cases hr; rfl
  case sl.succ k g es off len d =>
    rw [Rd.run_get] at hr
    cases hk : h k with
    | none => rw [hk] at hr; cases hr
    | some b =>
      rw [hk] at hr
      cases he : b.els g es off len with
      | none => simp only [he] at hr; cases hr
      | some xs =>
        simp only [he] at hr
        rw [Rd.run_bind] at hr
        cases h1 : (lendL d xs).run h with
        | none => rw [h1] at hr; cases hr
        | some p => rw [h1, Option.bind_some, Rd.run_ret] at hr; cases hr; rfl
  case ptr.succ k g i es off d =>
    rw [Rd.run_get] at hr
    cases hk : h k with
    | none => rw [hk] at hr; cases hr
    | some b =>
      rw [hk] at hr
      cases b with
      | row => cases hr
      | obj => cases hr
      | var cells =>
        simp only at hr
        split at hr
        · rw [Rd.run_bind] at hr
          cases h1 : (lendL d cells).run h with
          | none => rw [h1] at hr; cases hr
          | some p => rw [h1, Option.bind_some, Rd.run_ret] at hr; cases hr; rfl
        · cases hr
  case ifc.succ t v d =>
    rw [Rd.run_bind] at hr
    cases h1 : (lend d v).run h with
    | none => rw [h1] at hr; cases hr
    | some p => rw [h1, Option.bind_some, Rd.run_ret] at hr; cases hr; rfl
  case fn.succ f first cap d =>
    rw [Rd.run_bind] at hr
    cases h1 : (lendL d first).run h with
    | none => rw [h1] at hr; cases hr
    | some p =>
      rw [h1, Option.bind_some, Rd.run_bind] at hr
      cases h2 : (lendL d cap).run h with
      | none => rw [h2] at hr; cases hr
      | some q => rw [h2, Option.bind_some, Rd.run_ret] at hr; cases hr; rfl
theorem lendL_lens {h : Heap} : ∀ (d : Nat) (as0 as' : List AVal) (ks : List Key), (lendL d as0).run h = some (as', ks) → as'.length = as0.length ∧ ∀ es, (∀ a ∈ as0, (cellsOf a).length = es) → ∀ a ∈ as', (cellsOf a).length = es := by
  intro d
  induction d using Nat.strongRecOn with
  | _ d ih =>
    intro as0
    induction as0 with
    | nil =>
      intro as' ks hr
      rw [lendL, Rd.run_ret] at hr
      cases hr
      exact ⟨rfl, fun es _ a ha => by cases ha⟩
    | cons a as0 ihl =>
      intro as' ks hr
      obtain ⟨a', k1, bs, k2, h1, h2, e⟩ := run_lendL_cons hr
      cases e
      obtain ⟨i1, i2⟩ := ihl bs k2 h2
      have hlen := lend_len h1 (fun d' as0 as' ks hd' hr' => (ih d' hd' as0 as' ks hr').1)
      refine ⟨by simp [i1], ?_⟩
      intro es hes b hb
      rcases List.mem_cons.1 hb with rfl | hb
      · rw [hlen]; exact hes a (by simp)
      · exact i2 es (fun c hc => hes c (by simp [hc])) b hb
def isPlain : AVal → Bool
  | .agg _ => false
  | .tup _ => false
  | .ptr .. => false
  | .sl .. => false
  | .ifc _ _ => false
  | .fn .. => false
  | .mp .. => false
  | _ => true
theorem bare_same {x y : Ctx} (g : Grow x y) {a : AVal} (hp : isPlain a = true) : (∀ u, V x a u → V y.bare a u) ∧ (∀ us, VL x (cellsOf a) us → VL y.bare (cellsOf a) us) := by
  have hv : ∀ u, V x a u → V y.bare a u := by
    intro u hu
    have hu := V_grow g _ _ hu
    cases a <;> simp only [isPlain, Bool.false_eq_true] at hp <;> simp only [V] at hu ⊢ <;> exact hu
  have hc : cellsOf a = [a] := by cases a <;> simp_all [isPlain, cellsOf]
  refine ⟨hv, fun us hu => ?_⟩
  rw [hc] at hu ⊢
  simp only [VL] at hu ⊢
  obtain ⟨v, r, rfl, h1, h2⟩ := hu
  exact ⟨v, r, rfl, hv v h1, h2⟩
theorem lend_ok (hs : Sim B S0 h nc x) {y : Ctx} (g : Grow x y) (hw : y.w = x.w) {KS : Key → Prop} (hK : ∀ k, KS k → ∀ blk b oo, h k = some blk → x.ρ k blk.gen = some (b, oo) → y.S b) : ∀ d, LendOk x y h KS d := by
  intro d
  induction d with
  | zero =>
    intro a a' ks hr hks
    cases a <;> simp only [lend, Rd.run_ret, Rd.run_fail, Option.some.injEq, Prod.mk.injEq, reduceCtorEq] at hr <;>
      (obtain ⟨rfl, _⟩ := hr; exact bare_same g (by simp [isPlain]))
  | succ d ih =>
    intro a a' ks hr hks
    have lift : (∀ u, V x a u → V y.bare a' u) → cellsOf a = [a] → cellsOf a' = [a'] → (∀ u, V x a u → V y.bare a' u) ∧ (∀ us, VL x (cellsOf a) us → VL y.bare (cellsOf a') us) := by
      intro hv e1 e2
      refine ⟨hv, fun us hu => ?_⟩
      rw [e1] at hu
      rw [e2]
      simp only [VL] at hu ⊢
      obtain ⟨v, r, rfl, h1, h2⟩ := hu
      exact ⟨v, r, rfl, hv v h1, h2⟩
    cases a <;> simp only [lend, Rd.run_ret, Rd.run_fail, Option.some.injEq, Prod.mk.injEq, reduceCtorEq] at hr <;>
      try (obtain ⟨rfl, _⟩ := hr; exact bare_same g (by simp [isPlain]))
    case agg xs =>
      rw [Rd.run_bind] at hr
      cases h1 : (lendL d xs).run h with
      | none => rw [h1] at hr; cases hr
      | some p =>
        rw [h1, Option.bind_some, Rd.run_ret] at hr
        cases hr
        obtain ⟨_, e2, _⟩ := lendL_VL ih h1 hks
        refine ⟨fun u hu => ?_, fun us hu => e2 us hu⟩
        simp only [V] at hu ⊢
        obtain ⟨cs, hu, hl⟩ := hu
        exact ⟨cs, hu, e2 cs hl⟩
    case tup xs =>
      rw [Rd.run_bind] at hr
      cases h1 : (lendL d xs).run h with
      | none => rw [h1] at hr; cases hr
      | some p =>
        rw [h1, Option.bind_some, Rd.run_ret] at hr
        cases hr
        obtain ⟨_, e2, _⟩ := lendL_VL ih h1 hks
        refine lift (fun u hu => ?_) rfl rfl
        simp only [V] at hu ⊢
        obtain ⟨cs, hu, hl⟩ := hu
        exact ⟨cs, hu, e2 cs hl⟩
    case sl k gg es off len =>
      rw [Rd.run_get] at hr
      cases hk : h k with
      | none => rw [hk] at hr; cases hr
      | some b =>
        rw [hk] at hr
        cases he : b.els gg es off len with
        | none => simp only [he] at hr; cases hr
        | some xs =>
          simp only [he] at hr
          rw [Rd.run_bind] at hr
          cases h1 : (lendL d xs).run h with
          | none => rw [h1] at hr; cases hr
          | some p =>
            rw [h1, Option.bind_some, Rd.run_ret] at hr
            cases hr
            obtain ⟨e1, _, e3⟩ := lendL_VL ih h1 (fun k hk => hks k (by simp [hk]))
            refine lift (fun u hu => ?_) rfl rfl
            simp only [V] at hu ⊢
            obtain ⟨bb, oo, ad, cap, hρ, hu, hlc, had, hz, hsp⟩ := hu
            obtain ⟨f1, f2, f3⟩ := els_ok hs hk hρ he
            have hyS : y.S bb := hK k (hks k (by simp)) b bb oo hk (by rw [f1]; exact hρ)
            have hlen : p.1.length = len := by rw [e1, f2]
            by_cases hc : cap = 0
            · have : p.1 = [] := by
                apply List.eq_nil_of_length_eq_zero
                omega
              refine ⟨ad.block, ad.off, cap, ?_, by omega, .inl this, by rw [this]; simp only [VR]⟩
              rw [hlen, hu, ← hsp]
            · refine ⟨bb, oo + off * es, cap, ?_, by omega, .inr hyS, ?_⟩
              · rw [hlen, hu, had.resolve_left hc]
              · obtain ⟨g1, g2⟩ := VR_flat f3
                exact VR_of_flat ((lendL_lens d xs p.1 p.2 h1).2 es (VR_lens f3)) (VC_of_VC (y := y.bare) hw g1 e3)
    case ptr k gg i es off =>
      rw [Rd.run_get] at hr
      cases hk : h k with
      | none => rw [hk] at hr; cases hr
      | some b =>
        rw [hk] at hr
        cases b with
        | row => cases hr
        | obj => cases hr
        | var cells =>
          simp only at hr
          split at hr
          · rename_i hg
            subst hg
            rw [Rd.run_bind] at hr
            cases h1 : (lendL d cells).run h with
            | none => rw [h1] at hr; cases hr
            | some p =>
              rw [h1, Option.bind_some, Rd.run_ret] at hr
              cases hr
              obtain ⟨e1, e2, e3⟩ := lendL_VL ih h1 (fun k hk => hks k (by simp [hk]))
              refine lift (fun u hu => ?_) rfl rfl
              simp only [V] at hu ⊢
              obtain ⟨bb, oo, hρ, hu⟩ := hu
              obtain ⟨b', o', h1', h2, h3, h4⟩ := hs.live k _ hk
              simp only [Blk.gen] at h1'
              rw [hρ] at h1'
              cases h1'
              obtain ⟨rfl, c, el, hheap, hcsz, hvc⟩ := h4
              have hyS : y.S bb := hK k (hks k (by simp)) _ bb 0 hk hρ
              refine ⟨bb, 0, by rw [hu]; congr 3; omega, hyS, ?_⟩
              exact VC_of_VC (y := y.bare) hw hvc e2
          · cases hr
    case ifc t v =>
      rw [Rd.run_bind] at hr
      cases h1 : (lend d v).run h with
      | none => rw [h1] at hr; cases hr
      | some p =>
        rw [h1, Option.bind_some, Rd.run_ret] at hr
        cases hr
        obtain ⟨e1, _⟩ := ih v p.1 p.2 h1 hks
        refine lift (fun u hu => ?_) rfl rfl
        simp only [V] at hu ⊢
        obtain ⟨w, hu, hl⟩ := hu
        exact ⟨w, hu, e1 w hl⟩
    case fn f first cap =>
      rw [Rd.run_bind] at hr
      cases h1 : (lendL d first).run h with
      | none => rw [h1] at hr; cases hr
      | some p =>
        rw [h1, Option.bind_some, Rd.run_bind] at hr
        cases h2 : (lendL d cap).run h with
        | none => rw [h2] at hr; cases hr
        | some q =>
          rw [h2, Option.bind_some, Rd.run_ret] at hr
          cases hr
          obtain ⟨_, e2, _⟩ := lendL_VL ih h1 (fun k hk => hks k (by simp [hk]))
          obtain ⟨_, e4, _⟩ := lendL_VL ih h2 (fun k hk => hks k (by simp [hk]))
          refine lift (fun u hu => ?_) rfl rfl
          simp only [V] at hu ⊢
          obtain ⟨fs, cs, hu, l1, l2⟩ := hu
          exact ⟨fs, cs, hu, e2 fs l1, e4 cs l2⟩
end
section
variable {P : Program} {B : Nat} {S0 : Base} {ρc : Operand → Value} {o : Oper} {x : Ctx} {h : Heap} {nc : Nat} {key : Key} {e : XArg → AVal}
theorem elems_ok (hs : Sim B S0 h nc x) {es : Nat} {va : AVal} {u : Value} {ys : List AVal} (hr : (elemsR es va).run h = some ys) (hv : V x va u) :
    (Builtin.lenOf u).run P x.w = .ok ys.length x.w ∧ (∀ a ∈ ys, (cellsOf a).length = es) ∧
      ∃ vs, VL x (ys.flatMap cellsOf) vs ∧ ∀ m, m ≤ ys.length → ∀ w' : World, w'.heap = x.w.heap → (Builtin.firstCells es m u).run P w' = .ok (vs.take (m * es)).toArray w' := by
  have rowCase : ∀ (b oo : Nat) (ad : Option Addr) (cap : Nat), u = .slice ad ys.length cap → (ys ≠ [] → ad = some ⟨b, oo, none⟩) → VR x es ys b oo →
      (Builtin.lenOf u).run P x.w = .ok ys.length x.w ∧ (∀ a ∈ ys, (cellsOf a).length = es) ∧
      ∃ vs, VL x (ys.flatMap cellsOf) vs ∧ ∀ m, m ≤ ys.length → ∀ w' : World, w'.heap = x.w.heap → (Builtin.firstCells es m u).run P w' = .ok (vs.take (m * es)).toArray w' := by
    intro b oo ad cap hu had hvr
    obtain ⟨hfl, hfll⟩ := VR_flat hvr
    obtain ⟨vs, h1, h2⟩ := VL_of_VC hfl
    refine ⟨by simp only [hu, Builtin.lenOf, Sem.run_pure], VR_lens hvr, vs, h1, ?_⟩
    intro m hm w' hw'
    by_cases hne : ys = []
    · subst hne
      have : m = 0 := by simpa using hm
      subst this
      rw [hu]
      cases ad <;> simp [Builtin.firstCells, loadCells, loadCellsFrom]
    · rw [hu, had hne]
      have hl : (vs.take (m * es)).length = m * es := by
        rw [List.length_take, h1.length, hfll]
        exact Nat.min_eq_left (Nat.mul_le_mul_right es hm)
      have hc : ∀ j v, (vs.take (m * es))[j]? = some v → w'.cell? ((⟨b, oo, none⟩ : Addr).add j) = some v := by
        intro j v hj
        rw [add_off]
        rw [List.getElem?_take] at hj
        split at hj
        · rw [← h2 j v hj]
          simp only [World.cell?, hw']
        · cases hj
      have := run_loadCells_list (P := P) w' ⟨b, oo, none⟩ (vs.take (m * es)) hc
      rw [hl] at this
      exact this
  unfold elemsR at hr
  split at hr
  · rename_i es' xs
    split at hr
    · rename_i he
      subst he
      cases hr
      simp only [V] at hv
      obtain ⟨b, oo, cap, hv, hcap, hS, hvr⟩ := hv
      exact rowCase b oo _ cap hv (fun _ => rfl) (VR_grow (Grow.unbare x) _ _ _ _ rfl hvr)
    · cases hr
  · rename_i k g es' off len
    split at hr
    · rename_i he
      subst he
      simp only [V] at hv
      obtain ⟨b, oo, ad, cap, hρ, hv, hcap, had, hz, hsp⟩ := hv
      rw [Rd.run_get] at hr
      cases hk : h k with
      | none => rw [hk] at hr; cases hr
      | some blk =>
        rw [hk] at hr
        simp only [Rd.run_ofO] at hr
        obtain ⟨_, hl, hvr⟩ := els_ok hs hk hρ hr
        refine rowCase b (oo + off * es) (some ad) cap (by rw [hl]; exact hv) ?_ hvr
        intro hne
        rw [had.resolve_left]
        intro h0
        apply hne
        apply List.eq_nil_of_length_eq_zero
        omega
    · cases hr
  · cases hr
    simp only [V] at hv
    exact rowCase 0 0 none 0 hv (fun hne => absurd rfl hne) (by simp only [VR])
  · cases hr
    simp only [V] at hv
    obtain ⟨ad, hv⟩ := hv
    exact rowCase 0 0 (some ad) 0 hv (fun hne => absurd rfl hne) (by simp only [VR])
  · rename_i s
    split at hr
    · rename_i he
      subst he
      cases hr
      have hv := V_str hv
      refine ⟨by simp [hv, Builtin.lenOf], ?_, s.data.toList.map fun b => .int .u8 b.toNat, ?_, ?_⟩
      · intro a ha
        obtain ⟨b, _, rfl⟩ := List.mem_map.1 ha
        rfl
      · have : ∀ (l : List UInt8), VL x ((l.map fun b => AVal.int .u8 b.toNat).flatMap cellsOf) (l.map fun b => Value.int .u8 b.toNat) := by
          intro l
          induction l with
          | nil => simp [VL]
          | cons b l ih =>
            simp only [List.map_cons, List.flatMap_cons, cellsOf, List.singleton_append, VL]
            exact ⟨_, _, rfl, by simp only [V], ih⟩
        exact this _
      · intro m hm w' _
        rw [hv]
        simp only [Builtin.firstCells, Sem.run_pure, Nat.mul_one]
        congr 1
        apply Array.ext'
        simp [List.map_take, List.extract_eq_take_drop]
    · cases hr
  · cases hr
theorem growBy_le (newLen : Nat) : ∀ (r c : Nat), 256 ≤ c → c ≤ 2 * newLen → Builtin.growBy newLen r c ≤ 2 * newLen
  | 0, c, _, h => by simpa [Builtin.growBy] using h
  | r + 1, c, h0, h => by
    simp only [Builtin.growBy]
    split
    · exact h
    · exact growBy_le newLen r _ (by omega) (by omega)
theorem nextcap_le {need cap : Nat} (h : cap < need) : Builtin.nextslicecap need cap ≤ 2 * need := by
  unfold Builtin.nextslicecap
  split
  · omega
  · split
    · omega
    · exact growBy_le need 4 cap (by omega) (by omega)
theorem run_choose_cap (need old : Nat) (elem : TypeId) (w : World) (hn : need < 2 ^ 63) : ∃ c, need ≤ c ∧ (choose (.appendCap need old elem)).run P w = .ok c { w with drawn := w.drawn + 1 } := by
  refine ⟨need + w.tape w.drawn (.appendCap need old elem) % (2 ^ 63 - need), Nat.le_add_right _ _, ?_⟩
  simp [run_choose, Question.forced, Question.cut]
theorem ok_app (hs0 : Sim B S0 h nc x) (hk : key.2 < nc) (hfresh : ∀ g, x.ρ key g = none) {c : Call} {t t2 et : TypeId} {es bytes : Nat} {a b : Operand} {va vb v : AVal} {ws : Wr} {z : Value} {d2 : TypeDesc}
    (hop : o.op = .call c) (hc : c.callee = .builtin .append) (h0 : c.argTypes[0]? = some t) (h1 : c.argTypes[1]? = some t2) (h2 : c.args[0]? = some a) (h3 : c.args[1]? = some b) (ha : V x va (ρc a)) (hb : V x vb (ρc b))
    (ht : P.underlying t = some (.slice et)) (ht2 : P.underlying t2 = some d2) (hd2 : ∀ k, d2 ≠ .int k) (hsz : szOf P et = some es) (hby : byOf P et = some bytes) (hb1 : 1 ≤ bytes) (hes : 1 ≤ es) (hz : zeroOf P et = some z) (hzl : z.cells.size = es)
    (hv : (appR es bytes key va vb).run h = some (v, ws)) : OpOk P B S0 ρc o x (applyW h ws) nc key v := by
  obtain ⟨ti, hti, htib⟩ := info_run (P := P) hby x.w
  have hti' : ∀ w : World, (typeInfo et).run P w = .ok ti w := by
    intro w
    obtain ⟨ti', h4, h5⟩ := info_run (P := P) hby w
    have e1 : ∀ w : World, (typeInfo et).run P w = match P.info? et with | some i => .ok i w | none => .halt (.stuck "no such type") w := by
      intro w
      simp only [typeInfo, Sem.run_bind, run_program, Result.andThen_ok]
      cases P.info? et <;> simp
    rw [e1] at hti ⊢
    cases hi : P.info? et with
    | none => rw [hi] at hti; cases hti
    | some i => rw [hi] at hti; simp only [Result.ok.injEq] at hti; rw [hti.1]
  unfold appR at hv
  rw [Rd.run_bind] at hv
  cases hys : (elemsR es vb).run h with
  | none => rw [hys] at hv; cases hv
  | some ys =>
    rw [hys, Option.bind_some, Rd.run_bind] at hv
    cases hln : (lendL freeze ys).run h with
    | none => rw [hln] at hv; cases hv
    | some p =>
      rw [hln, Option.bind_some] at hv
      obtain ⟨new, ks⟩ := p
      simp only at hv
      obtain ⟨hlen0, hlens0, vs, hvs, hfirst⟩ := elems_ok (P := P) hs0 hys hb
      obtain ⟨hnl, hnlens⟩ := lendL_lens freeze ys new ks hln
      obtain ⟨x1, e1, e2, hs, hst1, hK⟩ := hs0.drops ks
      obtain ⟨_, _, hlv⟩ := lendL_VL (lend_ok (y := x1) hs0 hst1.grow e1 (KS := (· ∈ ks)) (fun k hk' => hK k hk') freeze) hln (fun k hk' => hk')
      have hnew : VL x1 (new.flatMap cellsOf) vs := VL_grow (Grow.unbare x1) _ _ (hlv vs hvs)
      have hnl' := hnlens es hlens0
      have hvl : vs.length = new.length * es := by rw [hnew.length, flat_len hnl']
      have ha1 := V_grow hst1.grow _ _ ha
      have hfr1 : ∀ g, x1.ρ key g = none := fun g => by rw [e2]; exact hfresh g
      have hall : ∀ w' : World, w'.heap = x1.w.heap → (Builtin.firstCells es new.length (ρc b)).run P w' = .ok vs.toArray w' := by
        intro w' hw'
        rw [hnl, hfirst ys.length (Nat.le_refl _) w' (by rw [hw', e1]), ← hnl, ← hvl, List.take_length]

      have hz' : ∀ w, (zeroValue et).run P w = .ok z w := fun w => zero_run hz w
      have run : ∀ (base : Option Addr) (sLen sCap : Nat), ρc a = .slice base sLen sCap →
          (sLen + new.length ≤ sCap → ∀ y : World, (match base with | some ad => storeCells (ad.add (sLen * es)) vs | none => pure ()).run P x1.w = .ok () y → (execOp ρc o).run P x.w = .ok (.value (.slice base (sLen + new.length) sCap)) y) ∧
          (sCap < sLen + new.length → (sLen + new.length) * bytes ≤ 140737488355328 → ∀ old : List Value, (∀ w' : World, w'.heap = x1.w.heap → (Builtin.firstCells es sLen (ρc a)).run P w' = .ok old.toArray w') →
            ∃ (cap : Nat) (rest : Array Value), sLen + new.length ≤ cap ∧ rest.size = (cap - (sLen + new.length)) * es ∧
            (execOp ρc o).run P x.w = .ok (.value (.slice (some ⟨x1.w.heap.size, 0, none⟩) (sLen + new.length) cap)) { x1.w with drawn := x1.w.drawn + 1, heap := x1.w.heap.push (.cells (old.toArray ++ vs.toArray ++ rest) et (0, 0)) }) := by
        intro base sLen sCap hp
        have pre : ∀ k : Nat → Sem Value, ((match (some t2 : Option TypeId) with
            | some xType => do pure ((← underlying xType) matches .int _)
            | none => pure false) : Sem Bool).run P x.w = .ok false x.w := by
          intro _
          simp only [Sem.run_bind, run_underlying ht2, Result.andThen_ok]
          cases d2 <;> simp at hd2 ⊢
        have hw : x1.w = x.w := e1
        have hstart : ∀ r, ((do
            let new' ← Builtin.firstCells es new.length (ρc b)
            pure new' : Sem (Array Value)).run P x.w) = r → True := fun _ _ => trivial
        constructor
        · intro hle y hy
          have hfc := hall x.w (by rw [hw])
          have hl0 : (Builtin.lenOf (ρc b)).run P x.w = .ok new.length x.w := by rw [hlen0, hnl]
          rw [hw] at hy
          simp only [execOp, hop, resolve, hc, Sem.run_bind, Sem.run_pure, Result.andThen_ok, invoke, builtin, Builtin.append_, h0, h1, Array.getElem?_map, h2, h3, Option.map_some, run_underlying ht, hp, szOf_run hsz, run_underlying ht2]
          have hf2 : (match d2 with | TypeDesc.int _ => true | _ => false) = false := by cases d2 <;> simp at hd2 ⊢
          simp only [hf2, Bool.false_eq_true, if_false, Bool.not_false, if_true, hl0, Result.andThen_ok, Sem.run_bind, hle, hfc]
          cases base with
          | none =>
            simp only [Sem.run_pure, Result.ok.injEq, true_and] at hy
            subst hy
            simp
          | some ad =>
            simp only at hy
            simp only [Sem.run_bind, hy, Result.andThen_ok, Sem.run_pure]
        · intro hgt hbnd old hold
          have hfc : ∀ w' : World, w'.heap = x.w.heap → (Builtin.firstCells es new.length (ρc b)).run P w' = .ok vs.toArray w' := fun w' hw' => hall w' (by rw [hw', hw])
          have hold' : ∀ w' : World, w'.heap = x.w.heap → (Builtin.firstCells es sLen (ρc a)).run P w' = .ok old.toArray w' := fun w' hw' => hold w' (by rw [hw', hw])
          have hl0 : (Builtin.lenOf (ρc b)).run P x.w = .ok new.length x.w := by rw [hlen0, hnl]
          have hneed : sLen + new.length ≤ 140737488355328 := by
            have := Nat.mul_le_mul_left (sLen + new.length) hb1
            omega
          obtain ⟨cap, hcap, hch⟩ := run_choose_cap (P := P) (sLen + new.length) sCap et x.w (by omega)
          refine ⟨cap, Builtin.zeroCells z.cells (cap - (sLen + new.length)), hcap, by simp [Builtin.zeroCells, hzl], ?_⟩
          simp only [execOp, hop, resolve, hc, Sem.run_bind, Sem.run_pure, Result.andThen_ok, invoke, builtin, Builtin.append_, h0, h1, Array.getElem?_map, h2, h3, Option.map_some, run_underlying ht, hp, szOf_run hsz, run_underlying ht2]
          have hf2 : (match d2 with | TypeDesc.int _ => true | _ => false) = false := by cases d2 <;> simp at hd2 ⊢
          have hnle : ¬ (sLen + new.length ≤ sCap) := by omega
          have hb0 : ¬ (((sLen + new.length : Nat) : Int) > IntKind.i64.max ∧ (False ∨ ti.bytes = 0)) := by
            rintro ⟨_, h9 | h9⟩
            · exact h9
            · omega
          have hnc : ¬ (Builtin.nextslicecap (sLen + new.length) sCap * ti.bytes > 2 ^ 48) := by
            have h7 := nextcap_le hgt
            have h8 := Nat.mul_le_mul_right bytes h7
            rw [htib]
            rw [Nat.mul_assoc] at h8
            omega
          have hold2 := hold' { x.w with drawn := x.w.drawn + 1 } rfl
          have hfc2 := hfc { x.w with drawn := x.w.drawn + 1 } rfl
          rw [hp] at hold2
          simp only [hf2, Bool.false_eq_true, if_false, Bool.not_false, if_true, hl0, Result.andThen_ok, Sem.run_bind, hnle, hti', hb0, hnc, Sem.run_pure, hch, run_askRoom, hold2, hfc2, hz', newRow, run_newObj, hw]

      have fresh0 : ∀ (kk : Key) (gn : Nat) (y0 : Ctx) (hd : Heap) (old : List Value) (olds : List AVal) (cap : Nat) (rest : Array Value) (n : Nat), Sim B S0 hd nc y0 → y0.w = x1.w → kk.2 < nc → (∀ g p, y0.ρ kk g = some p → g < gn) → VL y0 (olds.flatMap cellsOf) old → (∀ a ∈ olds, (cellsOf a).length = es) → VL y0 (new.flatMap cellsOf) vs →
          n = olds.length + new.length → n ≤ cap → rest.size = (cap - n) * es →
          ∃ y, y.w = { x1.w with drawn := x1.w.drawn + 1, heap := x1.w.heap.push (.cells (old.toArray ++ vs.toArray ++ rest) et (0, 0)) } ∧ Sim B S0 (upd hd kk (some (.row gn es (olds ++ new)))) nc y ∧ Step B y0 y ∧ V y (.sl kk gn es 0 n) (.slice (some ⟨x1.w.heap.size, 0, none⟩) n cap) ∧
            (∀ k g p, y.ρ k g = some p → y0.ρ k g = some p ∨ k = kk) := by
        intro kk gn y0 hd old olds cap rest n hs' hw' hkk hnew' hold holds hnv hn hcap hrest
        obtain ⟨y, f1, f2, f3, f4, f5, f6⟩ := hs'.fresh kk gn (.row gn es (olds ++ new)) { x1.w with drawn := x1.w.drawn + 1, heap := x1.w.heap.push (.cells (old.toArray ++ vs.toArray ++ rest) et (0, 0)) } (old.toArray ++ vs.toArray ++ rest) et hkk rfl hnew' (by rw [hw']) (by rw [hw']; exact ⟨rfl, rfl, rfl⟩)
        have hol : old.length = olds.length * es := by rw [hold.length, flat_len holds]
        have hsize : (old.toArray ++ vs.toArray ++ rest).size = cap * es := by
          simp only [Array.size_append, List.size_toArray, hol, hvl, hrest]
          rw [← Nat.add_mul, ← Nat.add_mul]
          congr 1
          omega
        rw [hw'] at f5 f2
        refine ⟨y, f1, f6 ?_, f4, ?_, ?_⟩
        · refine ⟨_, et, by rw [hw']; exact f5, ?_, ?_⟩
          · rw [hsize, List.length_append]
            simp only [Nat.zero_add]
            exact Nat.mul_le_mul_right es (by omega)
          · rw [hw']
            refine VR_of_flat ?_ ?_
            · intro a ha
              rcases List.mem_append.1 ha with h7 | h7
              · exact holds a h7
              · exact hnl' a h7
            · refine VC_of_block f5 ?_
              have := (VL_grow f4.grow _ _ hold).append (VL_grow f4.grow _ _ hnv)
              rw [List.flatMap_append]
              have hl7 := this.length
              have : ((old.toArray ++ vs.toArray ++ rest).toList.drop 0).take (olds.flatMap cellsOf ++ new.flatMap cellsOf).length = old ++ vs := by
                rw [← hl7]
                simp only [List.drop_zero, Array.toList_append, List.length_append]
                exact List.take_left' (by simp)
              rw [this]
              assumption
        · simp only [V]
          refine ⟨x1.w.heap.size, 0, _, cap, by rw [f2]; exact ρset_same _ _ _ _, rfl, hcap, .inr (by simp), ?_, rfl⟩
          rw [bsz_of f5, hsize]
          simp
        · intro k g p hp
          rw [f2] at hp
          rcases ρset_inv _ _ _ _ hp with h7 | ⟨h7, _⟩
          · exact .inl h7
          · exact .inr h7
      have keys : ∀ (y : Ctx), (∀ k g p, y.ρ k g = some p → x1.ρ k g = some p ∨ k = key) → ∀ k g p, y.ρ k g = some p → (∃ g' p', x.ρ k g' = some p') ∨ k = key := by
        intro y hy k g p hp
        rcases hy k g p hp with h7 | h7
        · rw [e2] at h7; exact .inl ⟨g, p, h7⟩
        · exact .inr h7
      have gone : applyW h (ks.map fun k => (k, none)) = applyW h (ks.map fun k => (k, none)) := rfl
      cases va <;> simp only at hv <;> try (cases hv; done)
      case nils =>
        simp only [V] at ha
        obtain ⟨r1, r2⟩ := run none 0 0 ha
        split at hv
        · rename_i hemp
          simp only [Rd.run_ret, Option.some.injEq, Prod.mk.injEq] at hv
          obtain ⟨rfl, rfl⟩ := hv
          have hn0 : new.length = 0 := by simpa using hemp
          refine ⟨_, x1, .inl (r1 (by omega) x1.w (by simp)), by simp [V, hn0], hs, hst1, keys x1 (fun k g p hp => .inl hp)⟩
        · rename_i hemp
          have hn0 : new.length ≠ 0 := by simpa using hemp
          split at hv
          · rename_i hbnd
            simp only [Rd.run_ret, Option.some.injEq, Prod.mk.injEq] at hv
            obtain ⟨rfl, rfl⟩ := hv
            obtain ⟨cap, rest, hcap, hrest, hrun⟩ := r2 (by omega) (by simpa using hbnd) [] (by intro w' _; rw [ha]; simp [Builtin.firstCells])
            rw [Nat.zero_add] at hcap hrest hrun
            obtain ⟨y, f1, f2, f3, f4, f5⟩ := fresh0 key 0 x1 _ [] [] cap rest new.length hs rfl hk (fun g p hp => by rw [hfr1] at hp; cases hp) (by simp [VL]) (by simp) hnew (by simp) hcap hrest
            refine ⟨_, y, .inl (by rw [f1]; exact hrun), f4, ?_, hst1.trans f3, keys y f5⟩
            rw [applyW_append]
            exact f2
          · cases hv
      case emp =>
        simp only [V] at ha
        obtain ⟨ad, ha⟩ := ha
        obtain ⟨r1, r2⟩ := run (some ad) 0 0 ha
        split at hv
        · rename_i hemp
          simp only [Rd.run_ret, Option.some.injEq, Prod.mk.injEq] at hv
          obtain ⟨rfl, rfl⟩ := hv
          have hn0 : new.length = 0 := by simpa using hemp
          have hvs0 : vs = [] := by apply List.eq_nil_of_length_eq_zero; rw [hvl, hn0]; simp
          refine ⟨_, x1, .inl (r1 (by omega) x1.w (by simp [hvs0, storeCells])), by simp [V, hn0], hs, hst1, keys x1 (fun k g p hp => .inl hp)⟩
        · rename_i hemp
          have hn0 : new.length ≠ 0 := by simpa using hemp
          split at hv
          · rename_i hbnd
            simp only [Rd.run_ret, Option.some.injEq, Prod.mk.injEq] at hv
            obtain ⟨rfl, rfl⟩ := hv
            obtain ⟨cap, rest, hcap, hrest, hrun⟩ := r2 (by omega) (by simpa using hbnd) [] (by intro w' _; rw [ha]; simp [Builtin.firstCells, loadCells, loadCellsFrom])
            rw [Nat.zero_add] at hcap hrest hrun
            obtain ⟨y, f1, f2, f3, f4, f5⟩ := fresh0 key 0 x1 _ [] [] cap rest new.length hs rfl hk (fun g p hp => by rw [hfr1] at hp; cases hp) (by simp [VL]) (by simp) hnew (by simp) hcap hrest
            refine ⟨_, y, .inl (by rw [f1]; exact hrun), f4, ?_, hst1.trans f3, keys y f5⟩
            rw [applyW_append]
            exact f2
          · cases hv
      case sl k g es' off len =>
        split at hv
        · rename_i hcond
          obtain ⟨rfl, hnk⟩ := hcond
          have hnk' : k ∉ ks := by
            intro hm
            rw [List.contains_iff_mem.2 hm] at hnk
            cases hnk
          rw [Rd.run_get] at hv
          cases hkk : h k with
          | none => rw [hkk] at hv; cases hv
          | some blk =>
            rw [hkk] at hv
            cases blk with
            | var cells => cases hv
            | obj a => cases hv
            | row g' es'' elems =>
              simp only at hv
              split at hv
              · rename_i hcond
                obtain ⟨rfl, rfl, hlen, hbnd, hallsc⟩ := hcond
                simp only [Rd.run_ret, Option.some.injEq, Prod.mk.injEq] at hv
                obtain ⟨rfl, rfl⟩ := hv
                simp only [V] at ha ha1
                obtain ⟨bb, oo, ad, cap, hρ, ha, hlc, had, hzz, hsp⟩ := ha1
                obtain ⟨r1, r2⟩ := run (some ad) len cap ha
                have hk1 : applyW h (ks.map fun k => (k, none)) k = some (.row g es'' elems) := by rw [applyW_none, if_neg hnk', hkk]
                obtain ⟨b', o', j1, j2, j3, j4⟩ := hs.live k _ hk1
                simp only [Blk.gen] at j1
                rw [hρ] at j1
                cases j1
                obtain ⟨cc, el, hheap, hcsz, hvr⟩ := j4
                have hknc := hs.dom _ _ _ hρ
                have hvr' := hvr.drop off
                have holds := VR_lens hvr'
                obtain ⟨hfl, hfll⟩ := VR_flat hvr'
                have hdl : (elems.drop off).length = len := by simp; omega
                rw [bsz_of hheap] at hzz
                have hal : ∀ a ∈ elems.drop off ++ new, (cellsOf a).length = es'' := by
                  intro a ha
                  rcases List.mem_append.1 ha with h7 | h7
                  · exact holds a h7
                  · exact hnl' a h7
                by_cases hin : len + new.length ≤ cap
                ·
                  have hmul : (len + new.length) * es'' ≤ cap * es'' := Nat.mul_le_mul_right es'' hin
                  rw [Nat.add_mul] at hmul
                  rw [Nat.add_mul] at hzz
                  have hvsz : oo + off * es'' + len * es'' + vs.length ≤ cc.size := by rw [hvl]; omega
                  have hrunS : (storeCells (ad.add (len * es'')) vs).run P x1.w = .ok () (x1.w.setRow bb (spliceV cc.toList (oo + off * es'' + len * es'') vs).toArray) := by
                    by_cases hvs0 : vs = []
                    · subst hvs0
                      have : (spliceV cc.toList (oo + off * es'' + len * es'') []).toArray = cc := by simp [spliceV]
                      rw [this, setRow_self x1.w bb cc el (0, 0) hheap]
                      simp [storeCells]
                    · have hc0 : cap ≠ 0 := by
                        intro h0
                        apply hvs0
                        apply List.eq_nil_of_length_eq_zero
                        have : new.length = 0 := by omega
                        rw [hvl, this]
                        simp
                      rw [had.resolve_left hc0, add_off]
                      have hone : ∀ u ∈ vs, u.oneCell' = true := by
                        refine VL_sc hnew ?_
                        rw [List.all_flatMap]
                        exact hallsc
                      have := run_storeCells_at (P := P) bb (oo + off * es'' + len * es'') el vs 0 cc x1.w hheap (by simpa using hvsz) hone
                      simp only [Nat.add_zero] at this
                      rw [this]
                      congr 2
                      simp [spliceV]
                  obtain ⟨y, q1, q2, q3, q4, q5, q6, q7⟩ := hs.write k (.row g es'' elems) bb oo hk1 hρ (g + 1) (oo + off * es'') (.row (g + 1) es'' (elems.drop off ++ new)) _ cc (spliceV cc.toList (oo + off * es'' + len * es'') vs).toArray el hheap
                    (by simp only [List.size_toArray]; rw [spliceV_length (by simpa using hvsz)]; simp) rfl (.inr rfl) (setRow_heap' hheap _) ⟨rfl, rfl, rfl⟩
                  refine ⟨_, y, .inl (by rw [q1]; exact r1 hin _ hrunS), ?_, ?_, hst1.trans q5, ?_⟩
                  · simp only [V]
                    refine ⟨bb, oo + off * es'', ad, cap, q3, rfl, hin, ?_, ?_, hsp⟩
                    · rcases had with h7 | h7
                      · exact .inl h7
                      · exact .inr (by rw [h7]; simp)
                    · rw [bsz_of q6]
                      simp only [List.size_toArray]
                      rw [spliceV_length (by simpa using hvsz)]
                      simp only [Nat.zero_add, Array.length_toList]
                      omega
                  · rw [applyW_append]
                    refine q7 ⟨_, el, q6, ?_, ?_⟩
                    · simp only [List.size_toArray]
                      rw [spliceV_length (by simpa using hvsz)]
                      simp only [List.length_append, hdl, Array.length_toList, Nat.add_mul]
                      rw [← hvl]
                      omega
                    · refine VR_of_flat hal ?_
                      refine VC_of_block q6 ?_
                      have h8 := (VL_grow q5.grow _ _ (VL_of_block hheap hfl)).append (VL_grow q5.grow _ _ hnew)
                      rw [List.flatMap_append]
                      have hl8 := h8.length
                      have : ((spliceV cc.toList (oo + off * es'' + len * es'') vs).toArray.toList.drop (oo + off * es'')).take ((elems.drop off).flatMap cellsOf ++ new.flatMap cellsOf).length = (cc.toList.drop (oo + off * es'')).take ((elems.drop off).flatMap cellsOf).length ++ vs := by
                        rw [List.length_append, hfll, hdl, hnew.length.symm]
                        simp only [List.toList_toArray]
                        rw [spliceV_window (L := len * es'' + vs.length) (by omega) (by simp only [Array.length_toList]; omega)]
                        unfold spliceV
                        rw [List.take_take, Nat.min_eq_left (by omega)]
                        congr 1
                        rw [List.drop_eq_nil_of_le (by simp; omega)]
                        simp
                      rw [this]
                      exact h8
                  · intro k' g' p hp
                    rcases q4 k' g' p hp with h7 | rfl
                    · rw [e2] at h7; exact .inl ⟨g', p, h7⟩
                    · rw [e2] at hρ; exact .inl ⟨_, _, hρ⟩
                ·
                  have hold : ∀ w' : World, w'.heap = x1.w.heap → (Builtin.firstCells es'' len (ρc a)).run P w' = .ok ((cc.toList.drop (oo + off * es'')).take (len * es'')).toArray w' := by
                    intro w' hw'
                    rw [ha]
                    by_cases hl0 : len = 0
                    · subst hl0
                      simp [Builtin.firstCells, loadCells, loadCellsFrom]
                    · rw [had.resolve_left (by omega)]
                      have hln2 : ((cc.toList.drop (oo + off * es'')).take (len * es'')).length = len * es'' := by
                        have h9 := VL_of_block hheap hfl
                        have h10 := h9.length
                        rw [hfll, hdl] at h10
                        exact h10
                      have hcells : ∀ j v, ((cc.toList.drop (oo + off * es'')).take (len * es''))[j]? = some v → w'.cell? ((⟨bb, oo + off * es'', none⟩ : Addr).add j) = some v := by
                        intro j v hj
                        rw [add_off]
                        rw [List.getElem?_take] at hj
                        split at hj
                        · rw [List.getElem?_drop, Array.getElem?_toList] at hj
                          rw [← hj]
                          simp [World.cell?, hw', hheap]
                        · cases hj
                      have := run_loadCells_list (P := P) w' ⟨bb, oo + off * es'', none⟩ _ hcells
                      rw [hln2] at this
                      exact this
                  obtain ⟨cap', rest, hcap', hrest, hrun⟩ := r2 (by omega) hbnd _ hold
                  have hgen := fun g' p hp => hs.gen k _ g' p hk1 hp
                  have hv0 := VL_of_block hheap hfl
                  rw [hfll, hdl] at hv0
                  obtain ⟨y, f1, f2, f3, f4, f5⟩ := fresh0 k (g + 1) x1 _ _ (elems.drop off) cap' rest (len + new.length) hs rfl hknc (fun g' p hp => Nat.lt_succ_of_le (hgen g' p hp)) hv0 holds hnew (by rw [hdl]) hcap' hrest
                  refine ⟨_, y, .inl (by rw [f1]; exact hrun), f4, ?_, hst1.trans f3, ?_⟩
                  · rw [applyW_append]
                    exact f2
                  · intro k' g' p hp
                    rcases f5 k' g' p hp with h7 | rfl
                    · rw [e2] at h7; exact .inl ⟨g', p, h7⟩
                    · rw [e2] at hρ; exact .inl ⟨_, _, hρ⟩
              · cases hv
        · cases hv
end
section
variable {P : Program} {B : Nat} {S0 : Base} {ρc : Operand → Value} {o : Oper} {x : Ctx} {h : Heap} {nc : Nat} {key : Key} {e : XArg → AVal}
theorem splice_nil (cs : List AVal) (off : Nat) : splice cs off [] = cs := by simp [splice]
theorem take_flat {es : Nat} : ∀ (l : List AVal) (n : Nat), (∀ b ∈ l, (cellsOf b).length = es) → (l.take n).flatMap cellsOf = (l.flatMap cellsOf).take (n * es)
  | [], n, _ => by simp
  | b :: l, 0, _ => by simp
  | b :: l, n + 1, hl => by
    have hb := hl b (by simp)
    have e1 : (cellsOf b).take ((n + 1) * es) = cellsOf b := List.take_of_length_le (by rw [hb, Nat.succ_mul]; omega)
    have e2 : (n + 1) * es - (cellsOf b).length = n * es := by rw [hb, Nat.succ_mul]; omega
    simp only [List.take_succ_cons, List.flatMap_cons]
    rw [take_flat l n (fun c hc => hl c (by simp [hc])), List.take_append, e1, e2]
theorem drop_flat {es : Nat} : ∀ (l : List AVal) (n : Nat), (∀ b ∈ l, (cellsOf b).length = es) → (l.drop n).flatMap cellsOf = (l.flatMap cellsOf).drop (n * es)
  | [], n, _ => by simp
  | b :: l, 0, _ => by simp
  | b :: l, n + 1, hl => by
    have hb := hl b (by simp)
    have e1 : (cellsOf b).drop ((n + 1) * es) = [] := List.drop_eq_nil_of_le (by rw [hb, Nat.succ_mul]; omega)
    have e2 : (n + 1) * es - (cellsOf b).length = n * es := by rw [hb, Nat.succ_mul]; omega
    simp only [List.drop_succ_cons, List.flatMap_cons]
    rw [drop_flat l n (fun c hc => hl c (by simp [hc])), List.drop_append, e1, e2, List.nil_append]
theorem flat_splice {es : Nat} {xs ys : List AVal} {i : Nat} (hx : ∀ b ∈ xs, (cellsOf b).length = es) (hy : ∀ b ∈ ys, (cellsOf b).length = es) (hi : i + ys.length ≤ xs.length) : (splice xs i ys).flatMap cellsOf = splice (xs.flatMap cellsOf) (i * es) (ys.flatMap cellsOf) := by
  unfold splice
  rw [List.flatMap_append, List.flatMap_append, take_flat _ _ hx, drop_flat _ _ hx, flat_len hy, Nat.add_mul]
theorem mem_splice {xs ys : List AVal} {i : Nat} {a : AVal} (h : a ∈ splice xs i ys) : a ∈ xs ∨ a ∈ ys := by
  unfold splice at h
  rcases List.mem_append.1 h with h | h
  · exact .inl (List.mem_of_mem_take h)
  · rcases List.mem_append.1 h with h | h
    · exact .inr h
    · exact .inl (List.mem_of_mem_drop h)
theorem ok_cpy (hs : Sim B S0 h nc x) {c : Call} {t et : TypeId} {es : Nat} {a b : Operand} {va vb v : AVal} {ws : Wr} (hop : o.op = .call c) (hc : c.callee = .builtin .copy) (h0 : c.argTypes[0]? = some t) (h2 : c.args[0]? = some a) (h3 : c.args[1]? = some b) (ha : V x va (ρc a)) (hb : V x vb (ρc b))
    (ht : P.underlying t = some (.slice et)) (hsz : szOf P et = some es) (hes : 1 ≤ es) (hv : (cpyR es va vb).run h = some (v, ws)) : OpOk P B S0 ρc o x (applyW h ws) nc key v := by
  unfold cpyR at hv
  rw [Rd.run_bind] at hv
  cases hys : (elemsR es vb).run h with
  | none => rw [hys] at hv; cases hv
  | some ys =>
    rw [hys, Option.bind_some] at hv
    obtain ⟨hlen0, hlens0, vs, hvs, hfirst⟩ := elems_ok (P := P) hs hys hb
    have run : ∀ (base : Option Addr) (sLen sCap : Nat), ρc a = .slice base sLen sCap → ∀ y : World, (match base with | some ad => storeCells ad (vs.take (min ys.length sLen * es)) | none => pure ()).run P x.w = .ok () y →
        (execOp ρc o).run P x.w = .ok (.value (.int .i64 (min ys.length sLen : Nat))) y := by
      intro base sLen sCap hp y hy
      have hm : Nat.min ys.length sLen = min ys.length sLen := rfl
      have hf := hfirst (min ys.length sLen) (Nat.min_le_left _ _) x.w rfl
      simp only [execOp, hop, resolve, hc, Sem.run_bind, Sem.run_pure, Result.andThen_ok, invoke, builtin, Builtin.copy_, h0, Array.getElem?_map, h2, h3, Option.map_some, run_underlying ht, hp, szOf_run hsz, hlen0, hm, hf, goInt]
      cases base with
      | none =>
        simp only [Sem.run_pure, Result.ok.injEq, true_and] at hy
        subst hy
        simp
      | some ad =>
        simp only at hy
        simp only [Sem.run_bind, hy, Result.andThen_ok, Sem.run_pure]
    cases va <;> simp only at hv <;> try (cases hv; done)
    case nils =>
      cases hv
      simp only [V] at ha
      refine pureOk hs (run none 0 0 ha x.w (by simp)) ?_
      simp [V]
    case emp =>
      cases hv
      simp only [V] at ha
      obtain ⟨ad, ha⟩ := ha
      refine pureOk hs (run (some ad) 0 0 ha x.w (by simp [storeCells])) ?_
      simp [V]
    case sl k g es' off len =>
      split at hv
      · rename_i he
        subst he
        simp only [V] at ha
        obtain ⟨bb, oo, ad, cap, hρ, ha, hlc, had, hz, hsp⟩ := ha
        rw [Rd.run_get] at hv
        cases hk : h k with
        | none => rw [hk] at hv; cases hv
        | some blk =>
          rw [hk] at hv
          obtain ⟨b', o', j1, j2, j3, j4⟩ := hs.live k blk hk
          have htl : (ys.take len).length = min ys.length len := by rw [List.length_take, Nat.min_comm]
          have htake : ∀ b ∈ ys.take len, (cellsOf b).length = es' := fun b hb => hlens0 b (List.mem_of_mem_take hb)
          have hnew : VL x ((ys.take len).flatMap cellsOf) (vs.take (min ys.length len * es')) := by
            have h7 := hvs.take (min ys.length len * es')
            have : (ys.flatMap cellsOf).take (min ys.length len * es') = (ys.take len).flatMap cellsOf := by
              rw [← take_flat ys _ hlens0]
              congr 1
              rw [Nat.min_comm, ← List.take_eq_take_min]
            rw [this] at h7
            exact h7
          have hvl : (vs.take (min ys.length len * es')).length = min ys.length len * es' := by
            rw [hnew.length, flat_len htake, htl]
          have finish : ∀ (blk' : Blk) (cc : Array Value) (el : TypeId), x.w.heap[bb]? = some (.cells cc el (0, 0)) → blk'.gen = blk.gen → x.ρ k blk.gen = some (bb, oo) → oo + off * es' + min ys.length len * es' ≤ cc.size → (∀ u ∈ vs.take (min ys.length len * es'), u.oneCell' = true) →
              (ys.take len = [] → blk' = blk) →
              (∀ y : Ctx, Grow x y → y.w.heap[bb]? = some (.cells (spliceV cc.toList (oo + off * es') (vs.take (min ys.length len * es'))).toArray el (0, 0)) → BlkOk y bb oo blk') →
              OpOk P B S0 ρc o x (applyW h [(k, some blk')]) nc key (.int .i64 (ys.take len).length) := by
            intro blk' cc el hheap hg hρ' hfit hone hnil hblk
            by_cases hn : ys.take len = []
            · have h0 : min ys.length len = 0 := by rw [← htl, hn]; rfl
              have hx : applyW h [(k, some blk')] = h := by
                simp only [applyW]
                funext k'
                by_cases e : k' = k
                · subst e; rw [upd_same, hk, hnil hn]
                · rw [upd_ne _ _ e]
              rw [hx, hn]
              refine pureOk (h := h) hs (run (some ad) len cap ha x.w ?_) ?_
              · simp [h0, storeCells]
              · simp [V, h0]
            · have hc0 : cap ≠ 0 := by
                intro h0
                apply hn
                have : len = 0 := by omega
                rw [this]; simp
              obtain ⟨y, e1, e2, e3, e4⟩ := writeOk (P := P) hs hk hρ' hheap (us := vs.take (min ys.length len * es')) (q := off * es') (blk := blk') (by rw [hvl]; exact hfit) hg hone hblk
              refine ⟨_, y, .inl (run (some ad) len cap ha y.w ?_), ?_, e2, e3, fun k' g p hp => .inl (e4 k' g p hp)⟩
              · simp only
                rw [had.resolve_left hc0]
                exact e1
              · simp only [V]
                rw [htl]
          cases blk with
          | obj a => cases hv
          | var cells =>
            simp only at hv
            split at hv
            · rename_i hcond
              obtain ⟨rfl, rfl, hle, hsc⟩ := hcond
              simp only [Rd.run_ret, Option.some.injEq, Prod.mk.injEq] at hv
              obtain ⟨rfl, rfl⟩ := hv
              simp only [Blk.gen] at j1
              rw [hρ] at j1
              cases j1
              obtain ⟨rfl, cc, el, hheap, hcsz, hvc⟩ := j4
              have hflat : (ys.take len).flatMap cellsOf = ys.take len := by
                have : ∀ (l : List AVal), (∀ a ∈ l, isSc a = true) → l.flatMap cellsOf = l := by
                  intro l
                  induction l with
                  | nil => simp
                  | cons a l ih => intro hl; simp only [List.flatMap_cons, cellsOf_sc (hl a (by simp)), ih (fun b hb => hl b (by simp [hb]))]; rfl
                exact this _ (List.all_eq_true.1 hsc)
              rw [hflat] at hnew
              refine finish (.var (splice cells off (ys.take len))) cc el hheap rfl (by simpa [Blk.gen] using hρ) (by omega) (VL_sc hnew hsc) (fun hn => by rw [hn, splice_nil]) ?_
              intro y g hb'
              have h8 := VL_splice off (VL_grow g _ _ (VL_of_block hheap hvc)) (VL_grow g _ _ hnew)
              have hle2 : off + (ys.take len).length ≤ cells.length := by rw [htl]; omega
              refine ⟨rfl, _, el, hb', ?_, ?_⟩
              · simp only [List.size_toArray]
                rw [spliceV_length (by rw [hvl]; simp; omega), splice_length hle2]
                simpa using hcsz
              · refine VC_new hb' ?_
                have h9 : (cc.toList.drop 0).take cells.length = cc.toList := by
                  rw [List.drop_zero]; exact List.take_of_length_le (by simp; omega)
                rw [h9] at h8
                simp only [Nat.zero_add, Nat.mul_one] at h8 ⊢
                exact h8
            · cases hv
          | row g' es'' elems =>
            simp only at hv
            split at hv
            · rename_i hcond
              obtain ⟨rfl, rfl, hle, hall⟩ := hcond
              simp only [Rd.run_ret, Option.some.injEq, Prod.mk.injEq] at hv
              obtain ⟨rfl, rfl⟩ := hv
              simp only [Blk.gen] at j1
              rw [hρ] at j1
              cases j1
              obtain ⟨cc, el, hheap, hcsz, hvr⟩ := j4
              have hsc : ((ys.take len).flatMap cellsOf).all isSc = true := by
                rw [List.all_flatMap]
                refine List.all_eq_true.2 fun a ha => ?_
                have := List.all_eq_true.1 hall a ha
                simp only [Bool.and_eq_true] at this
                exact this.2
              have hlens := VR_lens hvr
              obtain ⟨hfl, hfll⟩ := VR_flat hvr
              have hmul : (off + min ys.length len) * es'' ≤ elems.length * es'' := Nat.mul_le_mul_right es'' (by omega)
              rw [Nat.add_mul] at hmul
              have hle2 : off + (ys.take len).length ≤ elems.length := by rw [htl]; omega
              refine finish (.row g es'' (splice elems off (ys.take len))) cc el hheap rfl (by simpa [Blk.gen] using hρ) (by omega) (VL_sc hnew hsc) (fun hn => by rw [hn, splice_nil]) ?_
              intro y gr hb'
              have h8 := VL_splice (off * es'') (VL_grow gr _ _ (VL_of_block hheap hfl)) (VL_grow gr _ _ hnew)
              refine ⟨_, el, hb', ?_, ?_⟩
              · simp only [List.size_toArray]
                rw [spliceV_length (by rw [hvl]; simp; omega), splice_length hle2]
                simpa using hcsz
              · refine VR_of_flat (fun a ha => ?_) ?_
                · rcases mem_splice ha with h9 | h9
                  · exact hlens a h9
                  · exact htake a h9
                · rw [flat_splice hlens htake hle2]
                  refine VC_of_block hb' ?_
                  rw [splice_length (by rw [hfll, flat_len htake, htl]; exact hmul), hfll, List.toList_toArray, spliceV_window (by rw [hvl]; omega) (by simpa using hcsz), ← hfll]
                  exact h8
            · cases hv
      · cases hv
theorem chkArgs_ok (he : ArgsOk x ρc e) : ∀ {as0 : List Operand} {bs : List XArg}, chkArgs as0 bs = true → VL x (bs.map e) (as0.map ρc)
  | [], [], _ => by simp [VL]
  | [], _ :: _, hc => by simp [chkArgs] at hc
  | _ :: _, [], hc => by simp [chkArgs] at hc
  | a :: as0, b :: bs, hc => by
    simp only [chkArgs, Bool.and_eq_true] at hc
    simp only [List.map_cons, VL]
    exact ⟨_, _, rfl, he _ _ hc.1, chkArgs_ok he hc.2⟩
theorem chkO_ok (he : ArgsOk x ρc e) {a : Option Operand} {b : Option XArg} (hc : chkO a b = true) : VO x (b.map e) (a.map ρc) := by
  cases a <;> cases b <;> simp only [chkO, Bool.false_eq_true] at hc
  · trivial
  · exact he _ _ hc
theorem chkPartsS_ok (he : ArgsOk x ρc e) {fs : Array Field} : ∀ {ps : List (Nat × Operand)} {qs : List (Nat × Nat × XArg)}, chkPartsS P fs ps qs = true →
    ∀ place : Nat → Option (Nat × Nat), (∀ (i : Nat) (f : Field) (n : Nat), fs[i]? = some f → szOf P f.type = some n → place i = some (f.offset, n)) → PartsV x (qs.map fun p => (p.1, p.2.1, e p.2.2)) (ps.map fun p => (p.1, ρc p.2)) place
  | [], [], _, _, _ => by simp [PartsV]
  | [], _ :: _, hc, _, _ => by simp [chkPartsS] at hc
  | _ :: _, [], hc, _, _ => by simp [chkPartsS] at hc
  | (i, a) :: ps, (off, n, b) :: qs, hc, place, hp => by
    simp only [chkPartsS, Bool.and_eq_true] at hc
    obtain ⟨⟨h1, h2⟩, h3⟩ := hc
    simp only [List.map_cons, PartsV]
    refine ⟨?_, he _ _ h2, chkPartsS_ok he h3 place hp⟩
    cases hf : fs[i]? with
    | none => rw [hf] at h1; cases h1
    | some f =>
      rw [hf] at h1
      simp only [Bool.and_eq_true, beq_iff_eq, decide_eq_true_eq] at h1
      rw [hp i f n hf h1.2, h1.1]
theorem chkPartsA_ok (he : ArgsOk x ρc e) {s : Nat} : ∀ {ps : List (Nat × Operand)} {qs : List (Nat × Nat × XArg)}, chkPartsA s ps qs = true → PartsV x (qs.map fun p => (p.1, p.2.1, e p.2.2)) (ps.map fun p => (p.1, ρc p.2)) (fun i => some (i * s, s))
  | [], [], _ => by simp [PartsV]
  | [], _ :: _, hc => by simp [chkPartsA] at hc
  | _ :: _, [], hc => by simp [chkPartsA] at hc
  | (i, a) :: ps, (off, n, b) :: qs, hc => by
    simp only [chkPartsA, Bool.and_eq_true, beq_iff_eq] at hc
    obtain ⟨⟨⟨h1, h2⟩, h3⟩, h4⟩ := hc
    simp only [List.map_cons, PartsV]
    exact ⟨by rw [h1, h2], he _ _ h3, chkPartsA_ok he h4⟩
theorem chkPartsE_ok (he : ArgsOk x ρc e) : ∀ {ps : List (Nat × Operand)} {qs : List (Nat × XArg)}, chkPartsE ps qs = true → PartsE x (qs.map fun p => (p.1, e p.2)) (ps.map fun p => (p.1, ρc p.2))
  | [], [], _ => by simp [PartsE]
  | [], _ :: _, hc => by simp [chkPartsE] at hc
  | _ :: _, [], hc => by simp [chkPartsE] at hc
  | (i, a) :: ps, (j, b) :: qs, hc => by
    simp only [chkPartsE, Bool.and_eq_true, beq_iff_eq] at hc
    simp only [List.map_cons, PartsE]
    exact ⟨hc.1.1.symm, he _ _ hc.1.2, chkPartsE_ok he hc.2⟩
theorem run_pureR {a : Option AVal} {v : AVal} {ws : Wr} (hr : ((Rd.ofO a).bind fun v => Rd.ret (v, ([] : Wr))).run h = some (v, ws)) : a = some v ∧ ws = [] := by
  obtain ⟨v', e1, e2⟩ := run_pure1 hr
  cases e2
  exact ⟨e1, rfl⟩
end
end Go.Xec
