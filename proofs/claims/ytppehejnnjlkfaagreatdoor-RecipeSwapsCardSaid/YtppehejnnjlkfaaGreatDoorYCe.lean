/-
  The contract of (*strings.Builder).WriteString, laid at this program.
-/
import Derived.Test.YtppehejnnjlkfaaGreatDoorYCd
import Derived.Shelf.Strings.BuilderK
set_option linter.unusedVariables false
namespace Go.Proofs.YtppehejnnjlkfaaGreatDoor
open Go Go.RowKit

def ren166 : Go.Shelf.Ren := ⟨fun | 166 => 22 | 240 => 56 | 276 => 82 | n => n, fun | 70 => 57 | 9 => 9 | 0 => 0 | 72 => 60 | 37 => 58 | 3 => 3 | 5 => 5 | 4 => 4 | 20 => 20 | 75 => 46 | 80 => 75 | 164 => 95 | n => n, fun | n => n⟩
theorem l166_f166 : Tryz.prog.funcs[22]? = some (Go.Proofs.Body.n166 ren166) := Tryz.func22.trans (congrArg some (by kernel_rfl))
theorem l166_f240 : Tryz.prog.funcs[56]? = some (Go.Proofs.Body.n240 ren166) := Tryz.func56.trans (congrArg some (by kernel_rfl))
theorem l166_f276 : Tryz.prog.funcs[82]? = some (Go.Proofs.Body.n276 ren166) := Tryz.func82.trans (congrArg some (by kernel_rfl))
theorem lays166 : Go.Proofs.Lays.n166 Tryz.prog ren166 := {
  mixed := by kernel_rfl
  f166 := l166_f166
  f240 := l166_f240
  f276 := l166_f276
  t0 := Tryz.underlying0
  a0 := Tryz.isAgg0
  z0 := Tryz.sizeOf0
  v0 := Tryz.zeroValue0
  t3 := Tryz.underlying3
  a3 := Tryz.isAgg3
  z3 := Tryz.sizeOf3
  v3 := Tryz.zeroValue3
  t4 := Tryz.underlying4
  a4 := Tryz.isAgg4
  z4 := Tryz.sizeOf4
  v4 := Tryz.zeroValue4
  t9 := Tryz.underlying9
  a9 := Tryz.isAgg9
  z9 := Tryz.sizeOf9
  v9 := Tryz.zeroValue9
  t20 := Tryz.underlying20
  a20 := Tryz.isAgg20
  z20 := Tryz.sizeOf20
  v20 := Tryz.zeroValue20
  t37 := Tryz.underlying58
  a37 := Tryz.isAgg58
  z37 := Tryz.sizeOf58
  v37 := Tryz.zeroValue58
  t70 := Tryz.underlying57
  a70 := Tryz.isAgg57
  z70 := Tryz.sizeOf57
  v70 := Tryz.zeroValue57
  t72 := Tryz.underlying60
  a72 := Tryz.isAgg60
  z72 := Tryz.sizeOf60
  v72 := Tryz.zeroValue60
  t75 := Tryz.underlying46
  a75 := Tryz.isAgg46
  z75 := Tryz.sizeOf46
  v75 := Tryz.zeroValue46
  t164 := Tryz.underlying95
  a164 := Tryz.isAgg95
  z164 := Tryz.sizeOf95
  v164 := Tryz.zeroValue95
}
theorem ext166 : Builder.Extra Tryz.prog ren166 := {
  sizeBuilder := by kernel_rfl
  liesBuilder := by kernel_rfl
  t5 := Tryz.underlying5
  a5 := Tryz.isAgg5
  z5 := Tryz.sizeOf5
  v5 := Tryz.zeroValue5
  infoByte := by kernel_rfl
  cellsByte := by kernel_rfl
  sizeByte := by kernel_rfl
  neB5 := by decide }
theorem bld_write (B b : Nat) (cs : List Value) (s : ByteArray) (w : World) (h : Lib.IsBuilderF 60 5 B b cs w) (hlen : cs.length + s.size ≤ 140737488355328) (hBw : B ≤ w.heap.size) :
    Calls Tryz.prog 22 #[.pointer (some ⟨b, 0, none⟩), .string s] w fun e w' => e = .returned (.tuple #[.int .i64 s.size, .nilIface]) ∧ (Lib.BuilderAtF 60 5 B b (.pointer (some ⟨b, 0, none⟩)) (cs ++ Lib.strCells s) w' ∧ Below B w w' ∧ Lib.OthersKept 5 (some b) w w') :=
  Any.Builder_WriteString_k lays166 ext166 B b cs s w h hlen hBw
theorem bld_string (B b : Nat) (l : List UInt8) (w : World) (h : Lib.IsBuilderF 60 5 B b (Lib.byteCells l) w) (hBw : B ≤ w.heap.size) :
    Calls Tryz.prog 28 #[.pointer (some ⟨b, 0, none⟩)] w fun e w' => e = .returned (.string ⟨l.toArray⟩) ∧ Below B w w' :=
  (Tryz.Builder_String_any_k B b l w h hBw).mono fun e w' h => ⟨h.1, h.2.2.1⟩
end Go.Proofs.YtppehejnnjlkfaaGreatDoor
