/-
  No cell of these rows narrows 'for every input' (looked for: loops, veiled, ifaces, maps, wideKeys, modest, calm, conditions, laid).
  DERIVED. THE GIVEN ROWS OF THIS SEAT. 3 by the template 'for every input the law returns true; each argument reads behind the call as it read before'; 0 by the template 'total and deterministic' (their statements: YthnjboiecahbgaaTotals.lean).
  GIVEN WITH THE SEED: the statements are not yours to turn. If you find one false, say at which input.
  Laid BY PROGRAM, IN A SANDBOX (cutbox-rows.mjs): the forced cells as the released guide's own fill.sh prints them over the translation 9359ec9f05c6f594… (all of the seat's roots in one cut). By AI agents, Wed Nov 11 2026. No macro, syntax, notation, axiom, sorry.
-/
import Derived.Test.YthnjboiecahbgaaChecked
import GoSem.Claim
import GoSem.ClaimJoined
import GoSem.ClaimMapViews
import Derived.JoinedTies
import Derived.KernelRfl
namespace Go.Proofs.Ythnjboiecahbgaa
/- THE CELL 'sum', in the pinned program and in every row, IS THE sha256 OF THE DUMP (.gsa) THAT YthnjboiecahbgaaProg.lean LOADS. Nothing in Lean hashes anything: it is a label: what it is worth is what the hold of that sum in a sandbox is worth. -/
noncomputable def Try.pinned : Pinned := { name := "ythnjboiecahbgaa", sum := "9359ec9f05c6f5946a6503a0d7e70f30bf17ed0755d81109ccd56c724d552247", checked := Try.checked }
namespace Rows
def none {H : Type} : Left H := { results := [], args := [] }

/-- 'datumlaw18.CusumRuns': WHATEVER THE INPUT: true; the input reads as it did. -/
def cusumRunsSpec : ChangeSpec := { name := "cusumRuns", fn := fun _ => fun
  | [d1, d2] => { results := [.lit (.bool true)], args := [d1, d2] }
  | _ => none }
def cusumRunsRow : OpenClaim := { program := "ythnjboiecahbgaa", sum := "9359ec9f05c6f5946a6503a0d7e70f30bf17ed0755d81109ccd56c724d552247", func := "datum/datumlaw18.CusumRuns", spec := "cusumRuns", unfollowed := true, recurses := true, apart := false }
def CusumRunsSaid : Prop := cusumRunsRow.holds Try.pinned (OpenSpec.ofChange cusumRunsSpec)

/-- ITS FALSE NEIGHBOUR: 'it returns false'. Refute it at one input. -/
def cusumRunsWrong : ChangeSpec := { name := "cusumRuns", fn := fun _ => fun
  | [d1, d2] => { results := [.lit (.bool false)], args := [d1, d2] }
  | _ => none }
def CusumRunsWrongFalsely : Prop := cusumRunsRow.holds Try.pinned (OpenSpec.ofChange cusumRunsWrong)

/-- 'datumlaw18.CusumSums': WHATEVER THE INPUT: true; the input reads as it did. -/
def cusumSumsSpec : ChangeSpec := { name := "cusumSums", fn := fun _ => fun
  | [d1, d2, d3, d4] => { results := [.lit (.bool true)], args := [d1, d2, d3, d4] }
  | _ => none }
def cusumSumsRow : OpenClaim := { program := "ythnjboiecahbgaa", sum := "9359ec9f05c6f5946a6503a0d7e70f30bf17ed0755d81109ccd56c724d552247", func := "datum/datumlaw18.CusumSums", spec := "cusumSums", unfollowed := true, recurses := true, apart := false }
def CusumSumsSaid : Prop := cusumSumsRow.holds Try.pinned (OpenSpec.ofChange cusumSumsSpec)

/-- ITS FALSE NEIGHBOUR: 'it returns false'. Refute it at one input. -/
def cusumSumsWrong : ChangeSpec := { name := "cusumSums", fn := fun _ => fun
  | [d1, d2, d3, d4] => { results := [.lit (.bool false)], args := [d1, d2, d3, d4] }
  | _ => none }
def CusumSumsWrongFalsely : Prop := cusumSumsRow.holds Try.pinned (OpenSpec.ofChange cusumSumsWrong)

/-- 'datumlaw18.CusumTurns': WHATEVER THE INPUT: true; the input reads as it did. -/
def cusumTurnsSpec : ChangeSpec := { name := "cusumTurns", fn := fun _ => fun
  | [d1, d2, d3, d4, d5] => { results := [.lit (.bool true)], args := [d1, d2, d3, d4, d5] }
  | _ => none }
def cusumTurnsRow : OpenClaim := { program := "ythnjboiecahbgaa", sum := "9359ec9f05c6f5946a6503a0d7e70f30bf17ed0755d81109ccd56c724d552247", func := "datum/datumlaw18.CusumTurns", spec := "cusumTurns", unfollowed := true, recurses := true, apart := false }
def CusumTurnsSaid : Prop := cusumTurnsRow.holds Try.pinned (OpenSpec.ofChange cusumTurnsSpec)

/-- ITS FALSE NEIGHBOUR: 'it returns false'. Refute it at one input. -/
def cusumTurnsWrong : ChangeSpec := { name := "cusumTurns", fn := fun _ => fun
  | [d1, d2, d3, d4, d5] => { results := [.lit (.bool false)], args := [d1, d2, d3, d4, d5] }
  | _ => none }
def CusumTurnsWrongFalsely : Prop := cusumTurnsRow.holds Try.pinned (OpenSpec.ofChange cusumTurnsWrong)

/- THE SECOND FORM. 'bulk': how many values and letters a reading holds, each counted each time it is reached (what is shared counts as often as it is met; a slice's spare places count too). A statement '..UptoSaid' is the law's where the arguments, and the package variables that the reading takes, are together of bulk at most 1048576: NARROWER than '..Said'. Prove '..Said' where nothing that the law and all that it calls make is longer than what came in: it says more and counts as full. Else prove '..UptoSaid'. A law counts once. -/
mutual
def uptoBulk {H : Type} : DataW H → Nat
  | .lit (.string bytes) => bytes.length + 1
  | .lit _ => 1
  | .nil => 1
  | .ptr d => uptoBulk d + 1
  | .slice elems spare => uptoBulkAll elems + uptoBulkAll spare + 1
  | .agg parts => uptoBulkAll parts + 1
  | .iface _ d => uptoBulk d + 1
  | .map entries => uptoBulkEntries entries + 1
  | .held _ => 1
def uptoBulkAll {H : Type} : List (DataW H) → Nat
  | [] => 0
  | d :: r => uptoBulk d + uptoBulkAll r
def uptoBulkEntries {H : Type} : List (Lit × DataW H) → Nat
  | [] => 0
  | x :: r => uptoBulkEntry x + uptoBulkEntries r
def uptoBulkEntry {H : Type} : Lit × DataW H → Nat
  | (.string bytes, d) => bytes.length + uptoBulk d + 1
  | (_, d) => uptoBulk d + 1
 end
def uptoSmall : (H : Type) → List (DataW H) → Bool := fun _ ds => decide (uptoBulkAll ds ≤ 1048576)
def OpenSpec.upto (s : _root_.Go.ChangeSpec) : _root_.Go.OpenSpec := { _root_.Go.OpenSpec.ofChange s with cond := some uptoSmall }

/-- 'datumlaw18.CusumRuns', WHERE WHAT IT READS IS OF BULK AT MOST 1048576: true; the input reads as it did. -/
def cusumRunsUptoRow : OpenClaim := { program := "ythnjboiecahbgaa", sum := "9359ec9f05c6f5946a6503a0d7e70f30bf17ed0755d81109ccd56c724d552247", func := "datum/datumlaw18.CusumRuns", spec := "cusumRuns", unfollowed := true, recurses := true, apart := false, narrowed := true }
def CusumRunsUptoSaid : Prop := cusumRunsUptoRow.holds Try.pinned (OpenSpec.upto cusumRunsSpec)

/-- 'datumlaw18.CusumSums', WHERE WHAT IT READS IS OF BULK AT MOST 1048576: true; the input reads as it did. -/
def cusumSumsUptoRow : OpenClaim := { program := "ythnjboiecahbgaa", sum := "9359ec9f05c6f5946a6503a0d7e70f30bf17ed0755d81109ccd56c724d552247", func := "datum/datumlaw18.CusumSums", spec := "cusumSums", unfollowed := true, recurses := true, apart := false, narrowed := true }
def CusumSumsUptoSaid : Prop := cusumSumsUptoRow.holds Try.pinned (OpenSpec.upto cusumSumsSpec)

/-- 'datumlaw18.CusumTurns', WHERE WHAT IT READS IS OF BULK AT MOST 1048576: true; the input reads as it did. -/
def cusumTurnsUptoRow : OpenClaim := { program := "ythnjboiecahbgaa", sum := "9359ec9f05c6f5946a6503a0d7e70f30bf17ed0755d81109ccd56c724d552247", func := "datum/datumlaw18.CusumTurns", spec := "cusumTurns", unfollowed := true, recurses := true, apart := false, narrowed := true }
def CusumTurnsUptoSaid : Prop := cusumTurnsUptoRow.holds Try.pinned (OpenSpec.upto cusumTurnsSpec)

end Rows
end Go.Proofs.Ythnjboiecahbgaa
