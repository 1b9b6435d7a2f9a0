/-
  No cell of these rows narrows 'for every input' (looked for: loops, veiled, ifaces, maps, wideKeys, modest, calm, conditions, laid).
  DERIVED. THE GIVEN ROWS OF THIS SEAT. 3 by the template 'for every input the law returns true; each argument reads behind the call as it read before'; 0 by the template 'total and deterministic' (their statements: YtkihpjehigmnpaaTotals.lean).
  GIVEN WITH THE SEED: the statements are not yours to turn. If you find one false, say at which input.
  Laid BY PROGRAM, IN A SANDBOX (cutbox-rows.mjs): the forced cells as the released guide's own fill.sh prints them over the translation 3810a5c3a000f482… (all of the seat's roots in one cut). By AI agents, Wed Nov 11 2026. No macro, syntax, notation, axiom, sorry.
-/
import Derived.Test.YtkihpjehigmnpaaChecked
import GoSem.Claim
import GoSem.ClaimJoined
import GoSem.ClaimMapViews
import Derived.JoinedTies
import Derived.KernelRfl
namespace Go.Proofs.Ytkihpjehigmnpaa
/- THE CELL 'sum', in the pinned program and in every row, IS THE sha256 OF THE DUMP (.gsa) THAT YtkihpjehigmnpaaProg.lean LOADS. Nothing in Lean hashes anything: it is a label: what it is worth is what the hold of that sum in a sandbox is worth. -/
noncomputable def Try.pinned : Pinned := { name := "ytkihpjehigmnpaa", sum := "3810a5c3a000f482ff9e4acd98fd963a865e3b52eee3a85195653a3d8c3789a4", checked := Try.checked }
namespace Rows
def none {H : Type} : Left H := { results := [], args := [] }

/-- 'datumlaw21.AlarmRound': WHATEVER THE INPUT: true; the input reads as it did. -/
def alarmRoundSpec : ChangeSpec := { name := "alarmRound", fn := fun _ => fun
  | [d1, d2, d3] => { results := [.lit (.bool true)], args := [d1, d2, d3] }
  | _ => none }
def alarmRoundRow : OpenClaim := { program := "ytkihpjehigmnpaa", sum := "3810a5c3a000f482ff9e4acd98fd963a865e3b52eee3a85195653a3d8c3789a4", func := "datum/datumlaw21.AlarmRound", spec := "alarmRound", unfollowed := true, recurses := true, plainKeys := false, apart := false }
def AlarmRoundSaid : Prop := alarmRoundRow.holds Try.pinned (OpenSpec.ofChange alarmRoundSpec)

/-- ITS FALSE NEIGHBOUR: 'it returns false'. Refute it at one input. -/
def alarmRoundWrong : ChangeSpec := { name := "alarmRound", fn := fun _ => fun
  | [d1, d2, d3] => { results := [.lit (.bool false)], args := [d1, d2, d3] }
  | _ => none }
def AlarmRoundWrongFalsely : Prop := alarmRoundRow.holds Try.pinned (OpenSpec.ofChange alarmRoundWrong)

/-- 'datumlaw21.AlarmTells': WHATEVER THE INPUT: true; the input reads as it did. -/
def alarmTellsSpec : ChangeSpec := { name := "alarmTells", fn := fun _ => fun
  | [d1, d2, d3] => { results := [.lit (.bool true)], args := [d1, d2, d3] }
  | _ => none }
def alarmTellsRow : OpenClaim := { program := "ytkihpjehigmnpaa", sum := "3810a5c3a000f482ff9e4acd98fd963a865e3b52eee3a85195653a3d8c3789a4", func := "datum/datumlaw21.AlarmTells", spec := "alarmTells", unfollowed := true, recurses := true, plainKeys := false, apart := false }
def AlarmTellsSaid : Prop := alarmTellsRow.holds Try.pinned (OpenSpec.ofChange alarmTellsSpec)

/-- ITS FALSE NEIGHBOUR: 'it returns false'. Refute it at one input. -/
def alarmTellsWrong : ChangeSpec := { name := "alarmTells", fn := fun _ => fun
  | [d1, d2, d3] => { results := [.lit (.bool false)], args := [d1, d2, d3] }
  | _ => none }
def AlarmTellsWrongFalsely : Prop := alarmTellsRow.holds Try.pinned (OpenSpec.ofChange alarmTellsWrong)

/-- 'datumlaw21.AlarmApart': WHATEVER THE INPUT: true; the input reads as it did. -/
def alarmApartSpec : ChangeSpec := { name := "alarmApart", fn := fun _ => fun
  | [d1, d2, d3, d4, d5] => { results := [.lit (.bool true)], args := [d1, d2, d3, d4, d5] }
  | _ => none }
def alarmApartRow : OpenClaim := { program := "ytkihpjehigmnpaa", sum := "3810a5c3a000f482ff9e4acd98fd963a865e3b52eee3a85195653a3d8c3789a4", func := "datum/datumlaw21.AlarmApart", spec := "alarmApart", unfollowed := true, recurses := true, plainKeys := false, apart := false }
def AlarmApartSaid : Prop := alarmApartRow.holds Try.pinned (OpenSpec.ofChange alarmApartSpec)

/-- ITS FALSE NEIGHBOUR: 'it returns false'. Refute it at one input. -/
def alarmApartWrong : ChangeSpec := { name := "alarmApart", fn := fun _ => fun
  | [d1, d2, d3, d4, d5] => { results := [.lit (.bool false)], args := [d1, d2, d3, d4, d5] }
  | _ => none }
def AlarmApartWrongFalsely : Prop := alarmApartRow.holds Try.pinned (OpenSpec.ofChange alarmApartWrong)

/- THE SECOND FORM. 'bulk': how many values and letters a reading holds, each counted each time it is reached (what is shared counts as often as it is met; a slice's spare places count too). A statement '..UptoSaid' is the law's where the arguments, and the package variables that the reading takes, are together of bulk at most 1048576: NARROWER than '..Said'. Prove '..Said' where nothing that the law and all that it calls make is longer than what came in: it says more and counts as full. Else prove '..UptoSaid'. A law counts once. -/
mutual
def uptoBulk {H : Type} : DataW H → Nat
  | .lit (.string bytes) => bytes.length + 1
  | .lit _ => 1
  | .nil => 1
  | .ptr d => uptoBulk d + 1
  | .slice elems spare => uptoBulkAll elems + uptoBulkAll spare + 1
  | .agg parts => uptoBulkAll parts + 1
  | .iface _ d => uptoBulk d + 1
  | .map entries => uptoBulkEntries entries + 1
  | .held _ => 1
def uptoBulkAll {H : Type} : List (DataW H) → Nat
  | [] => 0
  | d :: r => uptoBulk d + uptoBulkAll r
def uptoBulkEntries {H : Type} : List (Lit × DataW H) → Nat
  | [] => 0
  | x :: r => uptoBulkEntry x + uptoBulkEntries r
def uptoBulkEntry {H : Type} : Lit × DataW H → Nat
  | (.string bytes, d) => bytes.length + uptoBulk d + 1
  | (_, d) => uptoBulk d + 1
 end
def uptoSmall : (H : Type) → List (DataW H) → Bool := fun _ ds => decide (uptoBulkAll ds ≤ 1048576)
def OpenSpec.upto (s : _root_.Go.ChangeSpec) : _root_.Go.OpenSpec := { _root_.Go.OpenSpec.ofChange s with cond := some uptoSmall }

/-- 'datumlaw21.AlarmRound', WHERE WHAT IT READS IS OF BULK AT MOST 1048576: true; the input reads as it did. -/
def alarmRoundUptoRow : OpenClaim := { program := "ytkihpjehigmnpaa", sum := "3810a5c3a000f482ff9e4acd98fd963a865e3b52eee3a85195653a3d8c3789a4", func := "datum/datumlaw21.AlarmRound", spec := "alarmRound", unfollowed := true, recurses := true, plainKeys := false, apart := false, narrowed := true }
def AlarmRoundUptoSaid : Prop := alarmRoundUptoRow.holds Try.pinned (OpenSpec.upto alarmRoundSpec)

/-- 'datumlaw21.AlarmTells', WHERE WHAT IT READS IS OF BULK AT MOST 1048576: true; the input reads as it did. -/
def alarmTellsUptoRow : OpenClaim := { program := "ytkihpjehigmnpaa", sum := "3810a5c3a000f482ff9e4acd98fd963a865e3b52eee3a85195653a3d8c3789a4", func := "datum/datumlaw21.AlarmTells", spec := "alarmTells", unfollowed := true, recurses := true, plainKeys := false, apart := false, narrowed := true }
def AlarmTellsUptoSaid : Prop := alarmTellsUptoRow.holds Try.pinned (OpenSpec.upto alarmTellsSpec)

/-- 'datumlaw21.AlarmApart', WHERE WHAT IT READS IS OF BULK AT MOST 1048576: true; the input reads as it did. -/
def alarmApartUptoRow : OpenClaim := { program := "ytkihpjehigmnpaa", sum := "3810a5c3a000f482ff9e4acd98fd963a865e3b52eee3a85195653a3d8c3789a4", func := "datum/datumlaw21.AlarmApart", spec := "alarmApart", unfollowed := true, recurses := true, plainKeys := false, apart := false, narrowed := true }
def AlarmApartUptoSaid : Prop := alarmApartUptoRow.holds Try.pinned (OpenSpec.upto alarmApartSpec)

end Rows
end Go.Proofs.Ytkihpjehigmnpaa
