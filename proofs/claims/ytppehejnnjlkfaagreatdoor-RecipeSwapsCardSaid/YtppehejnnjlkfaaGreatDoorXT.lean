/-
  When a text of the interpreter's fits a translated function: a check by computing.
-/
import Derived.Test.YtppehejnnjlkfaaGreatDoorXA
namespace Go.Xec
open Go

/-! ### constants -/
def chkS : Value → AVal → Bool
  | .bool b, .bool c => b == c
  | .int k n, .int j m => decide (k = j) && decide (n = m)
  | .string s, .str t => decide (s = t)
  | .pointer none, .nilp => true
  | .slice none 0 0, .nils => true
  | .nilIface, .nili => true
  | .nilFunc, .nilf => true
  | .map none, .any => true
  | _, _ => false
def chkSL : List Value → List AVal → Bool
  | [], [] => true
  | v :: vs, a :: as => chkS v a && chkSL vs as
  | _, _ => false
def chkV : Value → AVal → Bool
  | .agg cs, .agg as => chkSL cs.toList as
  | v, a => chkS v a
def chkArg : Operand → XArg → Bool
  | .tmp t, .t n => t == n
  | .const v, .c a => chkV v a
  | .func f, .c (.fn (.func g) [] []) => f == g
  | _, _ => false
def chkArgs : List Operand → List XArg → Bool
  | [], [] => true
  | v :: vs, a :: as => chkArg v a && chkArgs vs as
  | _, _ => false
def chkO : Option Operand → Option XArg → Bool
  | none, none => true
  | some v, some a => chkArg v a
  | _, _ => false

/-! ### types -/
def isAggD : TypeDesc → Bool
  | .struct _ => true
  | .array _ _ => true
  | _ => false
def isIface : TypeDesc → Bool
  | .interface _ => true
  | _ => false
section
variable (P : Program)
/-- Structs that are compared scalar by scalar: their kinds. -/
def kindsF (one : TypeId → Option (List Nat)) : List Field → Nat → Option (List Nat)
  | [], _ => some []
  | f :: fs, off => if f.name = "_" then none else if f.offset = off then match one f.type with
      | some ks => match kindsF one fs (off + ks.length) with
        | some r => some (ks ++ r)
        | none => none
      | none => none
    else none
def kinds : Nat → TypeId → Option (List Nat)
  | 0, _ => none
  | d + 1, t => match P.underlying t with
    | some (.int _) => some [0]
    | some .bool => some [1]
    | some .string => some [2]
    | some (.struct fs) => if P.stoodInHeld t then none else match kindsF (kinds d) fs.toList 0 with
      | some ks => if (P.info? t).map (·.size) = some ks.length then some ks else none
      | none => none
    | _ => none
def aggOf (t : TypeId) : Option Bool := (P.underlying t).map isAggD
def szOf (t : TypeId) : Option Nat := (P.info? t).map (·.size)
def byOf (t : TypeId) : Option Nat := (P.info? t).map (·.bytes)
def zeroOf (t : TypeId) : Option Value := (P.info? t).bind (·.zero)

def chkFields (fs : List Field) : Bool := fs.all fun f => (szOf P f.type).isSome
def chkPartsS (fs : Array Field) : List (Nat × Operand) → List (Nat × Nat × XArg) → Bool
  | [], [] => true
  | (i, x) :: ps, (off, n, y) :: qs => (match fs[i]? with
      | some f => f.offset == off && decide (szOf P f.type = some n)
      | none => false) && chkArg x y && chkPartsS fs ps qs
  | _, _ => false
def chkPartsA (s : Nat) : List (Nat × Operand) → List (Nat × Nat × XArg) → Bool
  | [], [] => true
  | (i, x) :: ps, (off, n, y) :: qs => off == i * s && n == s && chkArg x y && chkPartsA s ps qs
  | _, _ => false
def chkPartsE : List (Nat × Operand) → List (Nat × XArg) → Bool
  | [], [] => true
  | (i, x) :: ps, (j, y) :: qs => i == j && chkArg x y && chkPartsE ps qs
  | _, _ => false
/-- an element's zero -/
def chkZ (e : TypeId) (es : Nat) (zero : AVal) : Bool :=
  match zeroOf P e with
  | some z => chkSL z.cells.toList (cellsOf zero) && (cellsOf zero).length == es && decide (1 ≤ es)
  | none => false

/-- Keys that are told apart at once. -/
def intFs : List Field → Nat → Bool
  | [], _ => true
  | f :: fs, off => f.offset == off && (match P.underlying f.type with | some (.int _) => true | _ => false) && intFs fs (off + 1)
def keyTy (t : TypeId) (kd : Nat) : Bool := match P.underlying t with
  | some (.int _) => kd == 0
  | some .bool => kd == 1
  | some .string => kd == 2
  | some (.struct fs) => match kd with
    | n + 3 => decide (kinds P 20 t = some (List.replicate n 0)) && decide (fs.toList.length = n) && intFs P fs.toList 0
    | _ => false
  | _ => false
def chkZ1 (e : TypeId) (zero : AVal) : Bool := match zeroOf P e with
  | some z => chkV z zero
  | none => false
def chkOp2 : Op → XOp → Bool
  | _, .bad => true
  | .convert s d x, .b2s y => (match P.underlying s, P.underlying d with
    | some (.slice u), some .string => (match P.underlying u with | some (.int .u8) => true | _ => false)
    | _, _ => false) && chkArg x y
  | .range t x, .rngS y => (match P.underlying t with | some .string => true | _ => false) && chkArg x y
  | .next x true, .nxtS y => chkArg x y
  | .makeMap _ none, .mkM => true
  | .lookup t x i c, .lkp kd c' zero x' i' => (match P.underlying t with | some (.map k e) => keyTy P k kd && chkZ1 P e zero | _ => false) && c == c' && chkArg x x' && chkArg i i'
  | .mapUpdate t x i v, .mset kd x' i' v' => (match P.underlying t with | some (.map k _) => keyTy P k kd | _ => false) && chkArg x x' && chkArg i i' && chkArg v v'
  | .mapEntry t x i, .ment kd zero x' i' => (match P.underlying t with | some (.map k e) => keyTy P k kd && chkZ1 P e zero | _ => false) && chkArg x x' && chkArg i i'
  | .entryStore _ x i v, .msto x' i' v' => chkArg x x' && chkArg i i' && chkArg v v'
  | _, _ => false

def chkOp : Op → XOp → Bool
  | .move x, .mv y => chkArg x y
  | .assign x, .mv y => chkArg x y
  | .pick c a b, .pick c' a' b' => chkArg c c' && chkArg a a' && chkArg b b'
  | .alloc t, .alloc cells => match zeroOf P t with
    | some z => chkSL z.cells.toList cells
    | none => false
  | .box _ x, .box y => chkArg x y
  | .build t parts, .build zero ps => match P.underlying t, zeroOf P t with
    | some (.struct fs), some z => chkSL z.cells.toList zero && chkFields P fs.toList && chkPartsS P fs parts.toList ps
    | some (.array _ e), some z => match szOf P e with
      | some s => chkSL z.cells.toList zero && chkPartsA s parts.toList ps
      | none => false
    | _, _ => false
  | .buildSlice t len parts, .mkslice es zero n ps => match P.underlying t with
    | some (.slice e) => decide (szOf P e = some es) && len == n && decide (n * es ≤ 16777216) && chkZ P e es zero && chkPartsE parts.toList ps
    | _ => false
  | .load t x, .load agg n y => decide (aggOf P t = some agg) && decide (szOf P t = some n) && chkArg x y
  | .store t x y, .store n x' y' => decide (szOf P t = some n) && chkArg x x' && chkArg y y'
  | .binOp op t x y _, .bin op' x' y' => decide (op = op') && chkArg x x' && chkArg y y' && (P.underlying t).isSome
  | .binOp op t x y _, .eqB neg x' y' => decide (op = if neg then .neq else .eql) && chkArg x x' && chkArg y y' && (match P.underlying t with | some .bool => true | _ => false)
  | .binOp op t x y _, .eqN neg kd x' => decide (op = if neg then .neq else .eql) && chkArg x x' && (match P.underlying t, y with
      | some (.slice _), .const (.slice none 0 0) => kd == 0
      | some (.interface _), .const .nilIface => kd == 1
      | some (.pointer _), .const (.pointer none) => kd == 2
      | _, _ => false)
  | .binOp op t x y _, .eqA neg ks x' y' => decide (op = if neg then .neq else .eql) && chkArg x x' && chkArg y y' && decide (kinds P 20 t = some ks) && !P.eqGuardType P.depth t && (match P.underlying t with | some (.struct _) => true | _ => false)
  | .nilCheck x, .nilChk y => chkArg x y
  | .unOp op _ x, .un op' y => decide (op = op') && chkArg x y
  | .convert s d x, .conv k y => (match P.underlying d with | some (.int k') => decide (k = k') | _ => false) && (P.underlying s).isSome && chkArg x y
  | .convert s d x, .idS y => (match P.underlying s, P.underlying d with | some .string, some .string => true | _, _ => false) && chkArg x y
  | .fieldAddr s x f, .fa off y => match P.underlying s with
    | some (.struct fs) => match fs[f]? with
      | some fd => fd.offset == off && (match szOf P fd.type with | some n => decide (n ≠ 0) | none => false) && chkArg x y
      | none => false
    | _ => false
  | .field s x f, .fld agg n off y => match P.underlying s with
    | some (.struct fs) => match fs[f]? with
      | some fd => fd.offset == off && decide (szOf P fd.type = some n) && decide (aggOf P fd.type = some agg) && chkArg x y
      | none => false
    | _ => false
  | .indexAddr t x i, .iaA n es x' i' => match P.underlying t with
    | some (.array m e) => m == n && decide (szOf P e = some es) && chkArg x x' && chkArg i i'
    | _ => false
  | .indexAddr t x i, .iaS es x' i' => match P.underlying t with
    | some (.slice e) => decide (szOf P e = some es) && chkArg x x' && chkArg i i'
    | _ => false
  | .index t x i, .ixA agg n es x' i' => match P.underlying t with
    | some (.array m e) => m == n && decide (szOf P e = some es) && decide (aggOf P e = some agg) && chkArg x x' && chkArg i i'
    | _ => false
  | .index t x i, .ixS x' i' => match P.underlying t with
    | some .string => chkArg x x' && chkArg i i'
    | _ => false
  | .makeSlice t l c, .mkS es bytes zero l' c' => match P.underlying t with
    | some (.slice e) => decide (szOf P e = some es) && decide (byOf P e = some bytes) && decide (1 ≤ bytes) && chkZ P e es zero && chkArg l l' && chkArg c c'
    | _ => false
  | .slice t x lo hi none, .slS x' lo' hi' => match P.underlying t with
    | some .string => chkArg x x' && chkO lo lo' && chkO hi hi'
    | _ => false
  | .slice t x lo hi mx, .slV es x' lo' hi' mx' => match P.underlying t with
    | some (.slice e) => decide (szOf P e = some es) && chkArg x x' && chkO lo lo' && chkO hi hi' && chkO mx mx' && (mx'.isNone || hi'.isSome)
    | _ => false
  | .slice t x lo hi none, .slA n es x' lo' hi' => match P.underlying t with
    | some (.array m e) => m == n && decide (szOf P e = some es) && chkArg x x' && chkO lo lo' && chkO hi hi'
    | _ => false
  | .extract x i, .ext y j => i == j && chkArg x y
  | .makeFunc f first cap, .mkf f' first' cap' => decide (f = f') && chkArgs first.toList first' && chkArgs cap.toList cap'
  | .makeInterface t x, .mki t' y => t == t' && chkArg x y && (match P.underlying t with | some d => !isIface d | none => false)
  | .call c, xo => match c.callee, xo with
    | _, .bad => true
    | .value f, .call f' args => chkArg f f' && chkArgs c.args.toList args
    | .value f, .callN f' args => chkArg f f' && chkArgs c.args.toList args
    | .value f, .callM f' args => chkArg f f' && chkArgs c.args.toList args
    | .value f, .callA f' args => chkArg f f' && chkArgs c.args.toList args
    | .builtin .delete, .mdel kd x' i' => match c.argTypes.toList, c.args.toList with
      | [t, _], [x, i] => (match P.underlying t with | some (.map k _) => keyTy P k kd | _ => false) && chkArg x x' && chkArg i i'
      | _, _ => false
    | .builtin .len, .lenS y => match c.argTypes[0]?, c.args[0]? with
      | some t, some x => (match P.underlying t with | some .string => true | _ => false) && chkArg x y
      | _, _ => false
    | .builtin .len, .lenV y => match c.argTypes[0]?, c.args[0]? with
      | some t, some x => (match P.underlying t with | some (.slice _) => true | _ => false) && chkArg x y
      | _, _ => false
    | .builtin .len, .mv (.c (.int .i64 n)) => match c.argTypes[0]?, c.args[0]? with
      | some t, some _ => (match P.underlying t with | some (.array m _) => decide (n = (m : Int)) | _ => false)
      | _, _ => false
    | .builtin .append, .app es bytes x' y' => match c.argTypes[0]?, c.argTypes[1]?, c.args[0]?, c.args[1]? with
      | some t, some t2, some x, some y => (match P.underlying t with
          | some (.slice e) => decide (szOf P e = some es) && decide (byOf P e = some bytes) && decide (1 ≤ bytes) && decide (1 ≤ es) &&
              (match zeroOf P e with | some z => z.cells.size == es | none => false)
          | _ => false) && (match P.underlying t2 with | some (.int _) => false | some _ => true | none => false) && chkArg x x' && chkArg y y'
      | _, _, _, _ => false
    | .builtin .copy, .cpy es x' y' => match c.argTypes[0]?, c.args[0]?, c.args[1]? with
      | some t, some x, some y => (match P.underlying t with | some (.slice e) => decide (szOf P e = some es) && decide (1 ≤ es) | _ => false) && chkArg x x' && chkArg y y'
      | _, _, _ => false
    | .builtin .max, .mnx true y ys => match c.args.toList with
      | x :: xs => chkArg x y && chkArgs xs ys
      | [] => false
    | .builtin .min, .mnx false y ys => match c.args.toList with
      | x :: xs => chkArg x y && chkArgs xs ys
      | [] => false
    | _, _ => false
  | op, xo => chkOp2 P op xo
end

/-! ### code -/
def chkOper (P : Program) (nt : Nat) (ops : Array Oper) (o : Oper) (xo : XOper) : Bool :=
  decide (o.dst = xo.dst) && (match o.dst with | some d => decide (d < nt) | none => true) &&
  (match o.guard, xo.g with
   | none, none => true
   | some (j, b), some (s, c) => decide ((ops[j]?).bind (·.dst) = some s) && decide (s < nt) && b == c
   | _, _ => false) && chkOp P o.op xo.op

def chkOpers (P : Program) (nt : Nat) (ops : Array Oper) : List Oper → List XOper → Bool
  | [], [] => true
  | o :: os, x :: xs => chkOper P nt ops o x && chkOpers P nt ops os xs
  | _, _ => false

/-- Operations that look at no memory and change none. -/
def isPure : XOp → Bool
  | .mv _ | .pick .. | .build .. | .bin .. | .eqB .. | .eqN .. | .idS _ | .nilChk _ | .eqA .. | .un .. | .conv .. | .fa .. | .fld .. | .iaA .. | .iaS .. | .ixA .. | .ixS .. | .slS .. | .slV ..
  | .lenS _ | .lenV _ | .mnx .. | .ext .. | .mkf .. | .mki .. | .bad => true
  | _ => false

/-- Operations that change no memory. -/
def isLook : XOp → Bool
  | .load .. => true
  | _ => false

def eArgs : XOp → List XArg
  | .mv x | .box x | .un _ x | .conv _ x | .fa _ x | .fld _ _ _ x | .lenS x | .lenV x | .ext x _ | .mki _ x | .eqN _ _ x | .idS x | .nilChk x | .load _ _ x => [x]
  | .pick a b c => [a, b, c]
  | .alloc _ | .bad | .mkM => []
  | .b2s x | .rngS x | .nxtS x => [x]
  | .lkp _ _ _ x i | .ment _ _ x i | .mdel _ x i => [x, i]
  | .mset _ x i v | .msto x i v => [x, i, v]
  | .build _ ps => ps.map (·.2.2)
  | .mkslice _ _ _ ps => ps.map (·.2)
  | .store _ x y | .bin _ x y | .eqB _ x y | .eqA _ _ x y | .iaA _ _ x y | .iaS _ x y | .ixA _ _ _ x y | .ixS x y | .mkS _ _ _ x y | .app _ _ x y | .cpy _ x y => [x, y]
  | .slS x l h | .slA _ _ x l h => x :: (l.toList ++ h.toList)
  | .slV _ x l h m => x :: (l.toList ++ (h.toList ++ m.toList))
  | .mnx _ x xs => x :: xs
  | .call f as => f :: as
  | .callN f as => f :: as
  | .callM f as => f :: as
  | .callA f as => f :: as
  | .mkf _ f c => f ++ c
def looks (o : XOper) : List Nat :=
  (eArgs o.op).filterMap (fun | .t n => some n | .c _ => none) ++ (match o.g with | some (s, _) => [s] | none => [])
/-- Two operations' slots are apart. -/
def apartT (x y : XOper) : Bool :=
  (match x.dst with | some d => !(looks y).contains d && y.dst != some d | none => true) &&
  (match y.dst with | some d => !(looks x).contains d | none => true)

def chkBef (ops : List Oper) (bef : List (List Nat)) : Bool :=
  ops.length == bef.length && (List.range ops.length).all fun i =>
    match ops[i]?, bef[i]? with
    | some o, some b => (o.after.toList.all fun e => !Region.binds .any e || decide (e.on < i)) &&
        (b.all fun a => o.after.toList.any fun e => Region.binds .any e && (e.on == a || (bef[e.on]?.getD []).contains a))
    | _, _ => false
/-- What each operation waits for, through others too. -/
def befC (acc : List (List Nat)) : List Oper → List (List Nat)
  | [] => acc
  | o :: os => befC (acc ++ [((o.after.toList.filter fun e => Region.binds .any e).flatMap fun e => e.on :: (acc[e.on]?.getD [])).eraseDups]) os
def chkDraw (ops : List Oper) (xs : List XOper) (d : XDraw) : Bool :=
  chkBef ops (befC [] ops) && (List.range xs.length).all fun j => (List.range j).all fun i =>
    ((befC [] ops)[j]?.getD []).contains i ||
      (match xs[i]?, xs[j]? with
       | some x, some y => apartT x y && (isPure x.op || isPure y.op || (isLook x.op && isLook y.op) || d.hot.contains (i, j))
       | _, _ => false)

def chkCode (P : Program) (nt : Nat) : Code → XCode → Bool
  | .skip, .skip => true
  | .label _, .skip => true
  | .region id ops draw, .reg id' xs d => id == id' && chkOpers P nt ops ops.toList xs && (match draw, d with
      | false, none => true
      | true, some d => chkDraw ops.toList xs d
      | _, _ => false)
  | .seq a b, .seq x y => chkCode P nt a x && chkCode P nt b y
  | .cond c a b, .cond c' x y => chkArg c c' && chkCode P nt a x && chkCode P nt b y
  | .block id a, .block id' x => id == id' && chkCode P nt a x
  | .loop a, .loop x => chkCode P nt a x
  | .exit id, .exit id' => id == id'
  | .ret, .ret => true
  | _, .bad => true
  | _, _ => false

def chkRes (P : Program) : List ResultVar → List XRes → Bool
  | [], [] => true
  | .tmp t :: rs, .tmp u :: xs => t == u && chkRes P rs xs
  | .cell a t :: rs, .cell b agg n :: xs => a == b && decide (aggOf P t = some agg) && decide (szOf P t = some n) && chkRes P rs xs
  | _, _ => false

def chkF (P : Program) (fn : Func) (x : XFunc) : Bool :=
  !(fn.name == "runtime.NumGoroutine") && fn.ntmps == x.nt && fn.params.size + fn.nfree == x.np && decide (x.np ≤ x.nt) && chkRes P fn.results.toList x.res &&
  (match fn.body with | some c => chkCode P x.nt c x.body | none => false)

end Go.Xec
