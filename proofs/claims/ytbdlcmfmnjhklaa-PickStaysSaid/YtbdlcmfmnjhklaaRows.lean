/-
  No cell of these rows narrows 'for every input' (looked for: loops, veiled, ifaces, maps, wideKeys, modest, calm, conditions, laid).
  DERIVED. THE GIVEN ROWS OF THIS SEAT. 6 by the template 'for every input the law returns true; each argument reads behind the call as it read before'; 0 by the template 'total and deterministic' (their statements: YtbdlcmfmnjhklaaTotals.lean).
  GIVEN WITH THE SEED: the statements are not yours to turn. If you find one false, say at which input.
  Laid BY PROGRAM, IN A SANDBOX (cutbox-rows.mjs): the forced cells as the released guide's own fill.sh prints them over the translation d40b088e1d23f8dc… (all of the seat's roots in one cut). By AI agents, Wed Nov 11 2026. No macro, syntax, notation, axiom, sorry.
-/
import Derived.Test.YtbdlcmfmnjhklaaChecked
import GoSem.Claim
import GoSem.ClaimJoined
import GoSem.ClaimMapViews
import Derived.JoinedTies
import Derived.KernelRfl
namespace Go.Proofs.Ytbdlcmfmnjhklaa
/- THE CELL 'sum', in the pinned program and in every row, IS THE sha256 OF THE DUMP (.gsa) THAT YtbdlcmfmnjhklaaProg.lean LOADS. Nothing in Lean hashes anything: it is a label: what it is worth is what the hold of that sum in a sandbox is worth. -/
noncomputable def Try.pinned : Pinned := { name := "ytbdlcmfmnjhklaa", sum := "d40b088e1d23f8dce1a54970ede97a7bba134e6ae818cc65d8dc9d58431c25e8", checked := Try.checked }
namespace Rows
def none {H : Type} : Left H := { results := [], args := [] }

/-- 'gemellaw11.PickHashes': WHATEVER THE INPUT: true; the input reads as it did. -/
def pickHashesSpec : ChangeSpec := { name := "pickHashes", fn := fun _ => fun
  | [d1, d2, d3] => { results := [.lit (.bool true)], args := [d1, d2, d3] }
  | _ => none }
def pickHashesRow : OpenClaim := { program := "ytbdlcmfmnjhklaa", sum := "d40b088e1d23f8dce1a54970ede97a7bba134e6ae818cc65d8dc9d58431c25e8", func := "gemel/gemellaw11.PickHashes", spec := "pickHashes", unfollowed := true, recurses := true, apart := false }
def PickHashesSaid : Prop := pickHashesRow.holds Try.pinned (OpenSpec.ofChange pickHashesSpec)

/-- ITS FALSE NEIGHBOUR: 'it returns false'. Refute it at one input. -/
def pickHashesWrong : ChangeSpec := { name := "pickHashes", fn := fun _ => fun
  | [d1, d2, d3] => { results := [.lit (.bool false)], args := [d1, d2, d3] }
  | _ => none }
def PickHashesWrongFalsely : Prop := pickHashesRow.holds Try.pinned (OpenSpec.ofChange pickHashesWrong)

/-- 'gemellaw11.PickChooses': WHATEVER THE INPUT: true; the input reads as it did. -/
def pickChoosesSpec : ChangeSpec := { name := "pickChooses", fn := fun _ => fun
  | [d1, d2] => { results := [.lit (.bool true)], args := [d1, d2] }
  | _ => none }
def pickChoosesRow : OpenClaim := { program := "ytbdlcmfmnjhklaa", sum := "d40b088e1d23f8dce1a54970ede97a7bba134e6ae818cc65d8dc9d58431c25e8", func := "gemel/gemellaw11.PickChooses", spec := "pickChooses", unfollowed := true, recurses := true, apart := false }
def PickChoosesSaid : Prop := pickChoosesRow.holds Try.pinned (OpenSpec.ofChange pickChoosesSpec)

/-- ITS FALSE NEIGHBOUR: 'it returns false'. Refute it at one input. -/
def pickChoosesWrong : ChangeSpec := { name := "pickChooses", fn := fun _ => fun
  | [d1, d2] => { results := [.lit (.bool false)], args := [d1, d2] }
  | _ => none }
def PickChoosesWrongFalsely : Prop := pickChoosesRow.holds Try.pinned (OpenSpec.ofChange pickChoosesWrong)

/-- 'gemellaw11.PickTurned': WHATEVER THE INPUT: true; the input reads as it did. -/
def pickTurnedSpec : ChangeSpec := { name := "pickTurned", fn := fun _ => fun
  | [d1, d2] => { results := [.lit (.bool true)], args := [d1, d2] }
  | _ => none }
def pickTurnedRow : OpenClaim := { program := "ytbdlcmfmnjhklaa", sum := "d40b088e1d23f8dce1a54970ede97a7bba134e6ae818cc65d8dc9d58431c25e8", func := "gemel/gemellaw11.PickTurned", spec := "pickTurned", unfollowed := true, recurses := true, apart := false }
def PickTurnedSaid : Prop := pickTurnedRow.holds Try.pinned (OpenSpec.ofChange pickTurnedSpec)

/-- ITS FALSE NEIGHBOUR: 'it returns false'. Refute it at one input. -/
def pickTurnedWrong : ChangeSpec := { name := "pickTurned", fn := fun _ => fun
  | [d1, d2] => { results := [.lit (.bool false)], args := [d1, d2] }
  | _ => none }
def PickTurnedWrongFalsely : Prop := pickTurnedRow.holds Try.pinned (OpenSpec.ofChange pickTurnedWrong)

/-- 'gemellaw11.PickStays': WHATEVER THE INPUT: true; the input reads as it did. -/
def pickStaysSpec : ChangeSpec := { name := "pickStays", fn := fun _ => fun
  | [d1, d2, d3] => { results := [.lit (.bool true)], args := [d1, d2, d3] }
  | _ => none }
def pickStaysRow : OpenClaim := { program := "ytbdlcmfmnjhklaa", sum := "d40b088e1d23f8dce1a54970ede97a7bba134e6ae818cc65d8dc9d58431c25e8", func := "gemel/gemellaw11.PickStays", spec := "pickStays", unfollowed := true, recurses := true, apart := false }
def PickStaysSaid : Prop := pickStaysRow.holds Try.pinned (OpenSpec.ofChange pickStaysSpec)

/-- ITS FALSE NEIGHBOUR: 'it returns false'. Refute it at one input. -/
def pickStaysWrong : ChangeSpec := { name := "pickStays", fn := fun _ => fun
  | [d1, d2, d3] => { results := [.lit (.bool false)], args := [d1, d2, d3] }
  | _ => none }
def PickStaysWrongFalsely : Prop := pickStaysRow.holds Try.pinned (OpenSpec.ofChange pickStaysWrong)

/-- 'gemellaw11.PickTalks': WHATEVER THE INPUT: true; the input reads as it did. -/
def pickTalksSpec : ChangeSpec := { name := "pickTalks", fn := fun _ => fun
  | [d1, d2, d3] => { results := [.lit (.bool true)], args := [d1, d2, d3] }
  | _ => none }
def pickTalksRow : OpenClaim := { program := "ytbdlcmfmnjhklaa", sum := "d40b088e1d23f8dce1a54970ede97a7bba134e6ae818cc65d8dc9d58431c25e8", func := "gemel/gemellaw11.PickTalks", spec := "pickTalks", unfollowed := true, recurses := true, apart := false }
def PickTalksSaid : Prop := pickTalksRow.holds Try.pinned (OpenSpec.ofChange pickTalksSpec)

/-- ITS FALSE NEIGHBOUR: 'it returns false'. Refute it at one input. -/
def pickTalksWrong : ChangeSpec := { name := "pickTalks", fn := fun _ => fun
  | [d1, d2, d3] => { results := [.lit (.bool false)], args := [d1, d2, d3] }
  | _ => none }
def PickTalksWrongFalsely : Prop := pickTalksRow.holds Try.pinned (OpenSpec.ofChange pickTalksWrong)

/-- 'gemellaw11.PickSpreads': WHATEVER THE INPUT: true; the input reads as it did. -/
def pickSpreadsSpec : ChangeSpec := { name := "pickSpreads", fn := fun _ => fun
  | [d1, d2, d3] => { results := [.lit (.bool true)], args := [d1, d2, d3] }
  | _ => none }
def pickSpreadsRow : OpenClaim := { program := "ytbdlcmfmnjhklaa", sum := "d40b088e1d23f8dce1a54970ede97a7bba134e6ae818cc65d8dc9d58431c25e8", func := "gemel/gemellaw11.PickSpreads", spec := "pickSpreads", unfollowed := true, recurses := true, apart := false }
def PickSpreadsSaid : Prop := pickSpreadsRow.holds Try.pinned (OpenSpec.ofChange pickSpreadsSpec)

/-- ITS FALSE NEIGHBOUR: 'it returns false'. Refute it at one input. -/
def pickSpreadsWrong : ChangeSpec := { name := "pickSpreads", fn := fun _ => fun
  | [d1, d2, d3] => { results := [.lit (.bool false)], args := [d1, d2, d3] }
  | _ => none }
def PickSpreadsWrongFalsely : Prop := pickSpreadsRow.holds Try.pinned (OpenSpec.ofChange pickSpreadsWrong)

/- THE SECOND FORM. 'bulk': how many values and letters a reading holds, each counted each time it is reached (what is shared counts as often as it is met; a slice's spare places count too). A statement '..UptoSaid' is the law's where the arguments, and the package variables that the reading takes, are together of bulk at most 1048576: NARROWER than '..Said'. Prove '..Said' where nothing that the law and all that it calls make is longer than what came in: it says more and counts as full. Else prove '..UptoSaid'. A law counts once. -/
mutual
def uptoBulk {H : Type} : DataW H → Nat
  | .lit (.string bytes) => bytes.length + 1
  | .lit _ => 1
  | .nil => 1
  | .ptr d => uptoBulk d + 1
  | .slice elems spare => uptoBulkAll elems + uptoBulkAll spare + 1
  | .agg parts => uptoBulkAll parts + 1
  | .iface _ d => uptoBulk d + 1
  | .map entries => uptoBulkEntries entries + 1
  | .held _ => 1
def uptoBulkAll {H : Type} : List (DataW H) → Nat
  | [] => 0
  | d :: r => uptoBulk d + uptoBulkAll r
def uptoBulkEntries {H : Type} : List (Lit × DataW H) → Nat
  | [] => 0
  | x :: r => uptoBulkEntry x + uptoBulkEntries r
def uptoBulkEntry {H : Type} : Lit × DataW H → Nat
  | (.string bytes, d) => bytes.length + uptoBulk d + 1
  | (_, d) => uptoBulk d + 1
 end
def uptoSmall : (H : Type) → List (DataW H) → Bool := fun _ ds => decide (uptoBulkAll ds ≤ 1048576)
def OpenSpec.upto (s : _root_.Go.ChangeSpec) : _root_.Go.OpenSpec := { _root_.Go.OpenSpec.ofChange s with cond := some uptoSmall }

/-- 'gemellaw11.PickHashes', WHERE WHAT IT READS IS OF BULK AT MOST 1048576: true; the input reads as it did. -/
def pickHashesUptoRow : OpenClaim := { program := "ytbdlcmfmnjhklaa", sum := "d40b088e1d23f8dce1a54970ede97a7bba134e6ae818cc65d8dc9d58431c25e8", func := "gemel/gemellaw11.PickHashes", spec := "pickHashes", unfollowed := true, recurses := true, apart := false, narrowed := true }
def PickHashesUptoSaid : Prop := pickHashesUptoRow.holds Try.pinned (OpenSpec.upto pickHashesSpec)

/-- 'gemellaw11.PickChooses', WHERE WHAT IT READS IS OF BULK AT MOST 1048576: true; the input reads as it did. -/
def pickChoosesUptoRow : OpenClaim := { program := "ytbdlcmfmnjhklaa", sum := "d40b088e1d23f8dce1a54970ede97a7bba134e6ae818cc65d8dc9d58431c25e8", func := "gemel/gemellaw11.PickChooses", spec := "pickChooses", unfollowed := true, recurses := true, apart := false, narrowed := true }
def PickChoosesUptoSaid : Prop := pickChoosesUptoRow.holds Try.pinned (OpenSpec.upto pickChoosesSpec)

/-- 'gemellaw11.PickTurned', WHERE WHAT IT READS IS OF BULK AT MOST 1048576: true; the input reads as it did. -/
def pickTurnedUptoRow : OpenClaim := { program := "ytbdlcmfmnjhklaa", sum := "d40b088e1d23f8dce1a54970ede97a7bba134e6ae818cc65d8dc9d58431c25e8", func := "gemel/gemellaw11.PickTurned", spec := "pickTurned", unfollowed := true, recurses := true, apart := false, narrowed := true }
def PickTurnedUptoSaid : Prop := pickTurnedUptoRow.holds Try.pinned (OpenSpec.upto pickTurnedSpec)

/-- 'gemellaw11.PickStays', WHERE WHAT IT READS IS OF BULK AT MOST 1048576: true; the input reads as it did. -/
def pickStaysUptoRow : OpenClaim := { program := "ytbdlcmfmnjhklaa", sum := "d40b088e1d23f8dce1a54970ede97a7bba134e6ae818cc65d8dc9d58431c25e8", func := "gemel/gemellaw11.PickStays", spec := "pickStays", unfollowed := true, recurses := true, apart := false, narrowed := true }
def PickStaysUptoSaid : Prop := pickStaysUptoRow.holds Try.pinned (OpenSpec.upto pickStaysSpec)

/-- 'gemellaw11.PickTalks', WHERE WHAT IT READS IS OF BULK AT MOST 1048576: true; the input reads as it did. -/
def pickTalksUptoRow : OpenClaim := { program := "ytbdlcmfmnjhklaa", sum := "d40b088e1d23f8dce1a54970ede97a7bba134e6ae818cc65d8dc9d58431c25e8", func := "gemel/gemellaw11.PickTalks", spec := "pickTalks", unfollowed := true, recurses := true, apart := false, narrowed := true }
def PickTalksUptoSaid : Prop := pickTalksUptoRow.holds Try.pinned (OpenSpec.upto pickTalksSpec)

/-- 'gemellaw11.PickSpreads', WHERE WHAT IT READS IS OF BULK AT MOST 1048576: true; the input reads as it did. -/
def pickSpreadsUptoRow : OpenClaim := { program := "ytbdlcmfmnjhklaa", sum := "d40b088e1d23f8dce1a54970ede97a7bba134e6ae818cc65d8dc9d58431c25e8", func := "gemel/gemellaw11.PickSpreads", spec := "pickSpreads", unfollowed := true, recurses := true, apart := false, narrowed := true }
def PickSpreadsUptoSaid : Prop := pickSpreadsUptoRow.holds Try.pinned (OpenSpec.upto pickSpreadsSpec)

end Rows
end Go.Proofs.Ytbdlcmfmnjhklaa
