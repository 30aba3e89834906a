/-
  No cell of these rows narrows 'for every input' (looked for: loops, veiled, ifaces, maps, wideKeys, modest, calm, conditions, laid).
  DERIVED. THE GIVEN ROWS OF THIS SEAT. 6 by the template 'for every input the law returns true; each argument reads behind the call as it read before'; 0 by the template 'total and deterministic' (their statements: YtfpdfenepelcdaaTotals.lean).
  GIVEN WITH THE SEED: the statements are not yours to turn. If you find one false, say at which input.
  Laid BY PROGRAM, IN A SANDBOX (cutbox-rows.mjs): the forced cells as the released guide's own fill.sh prints them over the translation 5ae7add17fe5054a… (all of the seat's roots in one cut). By AI agents, Wed Nov 11 2026. No macro, syntax, notation, axiom, sorry.
-/
import Derived.Test.YtfpdfenepelcdaaChecked
import GoSem.Claim
import GoSem.ClaimJoined
import GoSem.ClaimMapViews
import Derived.JoinedTies
import Derived.KernelRfl
namespace Go.Proofs.Ytfpdfenepelcdaa
/- THE CELL 'sum', in the pinned program and in every row, IS THE sha256 OF THE DUMP (.gsa) THAT YtfpdfenepelcdaaProg.lean LOADS. Nothing in Lean hashes anything: it is a label: what it is worth is what the hold of that sum in a sandbox is worth. -/
noncomputable def Try.pinned : Pinned := { name := "ytfpdfenepelcdaa", sum := "5ae7add17fe5054a3247be3a642e0a149a37d6a9832fbf93cd4d4a2400c1803c", checked := Try.checked }
namespace Rows
def none {H : Type} : Left H := { results := [], args := [] }

/-- 'gemellaw05.BpduEncodes': WHATEVER THE INPUT: true; the input reads as it did. -/
def bpduEncodesSpec : ChangeSpec := { name := "bpduEncodes", fn := fun _ => fun
  | [d] => { results := [.lit (.bool true)], args := [d] }
  | _ => none }
def bpduEncodesRow : OpenClaim := { program := "ytfpdfenepelcdaa", sum := "5ae7add17fe5054a3247be3a642e0a149a37d6a9832fbf93cd4d4a2400c1803c", func := "gemel/gemellaw05.BpduEncodes", spec := "bpduEncodes", unfollowed := true, recurses := true, apart := false }
def BpduEncodesSaid : Prop := bpduEncodesRow.holds Try.pinned (OpenSpec.ofChange bpduEncodesSpec)

/-- ITS FALSE NEIGHBOUR: 'it returns false'. Refute it at one input. -/
def bpduEncodesWrong : ChangeSpec := { name := "bpduEncodes", fn := fun _ => fun
  | [d] => { results := [.lit (.bool false)], args := [d] }
  | _ => none }
def BpduEncodesWrongFalsely : Prop := bpduEncodesRow.holds Try.pinned (OpenSpec.ofChange bpduEncodesWrong)

/-- 'gemellaw05.BpduLong': WHATEVER THE INPUT: true; the input reads as it did. -/
def bpduLongSpec : ChangeSpec := { name := "bpduLong", fn := fun _ => fun
  | [d1, d2] => { results := [.lit (.bool true)], args := [d1, d2] }
  | _ => none }
def bpduLongRow : OpenClaim := { program := "ytfpdfenepelcdaa", sum := "5ae7add17fe5054a3247be3a642e0a149a37d6a9832fbf93cd4d4a2400c1803c", func := "gemel/gemellaw05.BpduLong", spec := "bpduLong", unfollowed := true, recurses := true, apart := false }
def BpduLongSaid : Prop := bpduLongRow.holds Try.pinned (OpenSpec.ofChange bpduLongSpec)

/-- ITS FALSE NEIGHBOUR: 'it returns false'. Refute it at one input. -/
def bpduLongWrong : ChangeSpec := { name := "bpduLong", fn := fun _ => fun
  | [d1, d2] => { results := [.lit (.bool false)], args := [d1, d2] }
  | _ => none }
def BpduLongWrongFalsely : Prop := bpduLongRow.holds Try.pinned (OpenSpec.ofChange bpduLongWrong)

/-- 'gemellaw05.BpduRight': WHATEVER THE INPUT: true; the input reads as it did. -/
def bpduRightSpec : ChangeSpec := { name := "bpduRight", fn := fun _ => fun
  | [d] => { results := [.lit (.bool true)], args := [d] }
  | _ => none }
def bpduRightRow : OpenClaim := { program := "ytfpdfenepelcdaa", sum := "5ae7add17fe5054a3247be3a642e0a149a37d6a9832fbf93cd4d4a2400c1803c", func := "gemel/gemellaw05.BpduRight", spec := "bpduRight", unfollowed := true, recurses := true, apart := false }
def BpduRightSaid : Prop := bpduRightRow.holds Try.pinned (OpenSpec.ofChange bpduRightSpec)

/-- ITS FALSE NEIGHBOUR: 'it returns false'. Refute it at one input. -/
def bpduRightWrong : ChangeSpec := { name := "bpduRight", fn := fun _ => fun
  | [d] => { results := [.lit (.bool false)], args := [d] }
  | _ => none }
def BpduRightWrongFalsely : Prop := bpduRightRow.holds Try.pinned (OpenSpec.ofChange bpduRightWrong)

/-- 'gemellaw05.BpduDecodes': WHATEVER THE INPUT: true; the input reads as it did. -/
def bpduDecodesSpec : ChangeSpec := { name := "bpduDecodes", fn := fun _ => fun
  | [d] => { results := [.lit (.bool true)], args := [d] }
  | _ => none }
def bpduDecodesRow : OpenClaim := { program := "ytfpdfenepelcdaa", sum := "5ae7add17fe5054a3247be3a642e0a149a37d6a9832fbf93cd4d4a2400c1803c", func := "gemel/gemellaw05.BpduDecodes", spec := "bpduDecodes", unfollowed := true, recurses := true, apart := false }
def BpduDecodesSaid : Prop := bpduDecodesRow.holds Try.pinned (OpenSpec.ofChange bpduDecodesSpec)

/-- ITS FALSE NEIGHBOUR: 'it returns false'. Refute it at one input. -/
def bpduDecodesWrong : ChangeSpec := { name := "bpduDecodes", fn := fun _ => fun
  | [d] => { results := [.lit (.bool false)], args := [d] }
  | _ => none }
def BpduDecodesWrongFalsely : Prop := bpduDecodesRow.holds Try.pinned (OpenSpec.ofChange bpduDecodesWrong)

/-- 'gemellaw05.BpduBack': WHATEVER THE INPUT: true; the input reads as it did. -/
def bpduBackSpec : ChangeSpec := { name := "bpduBack", fn := fun _ => fun
  | [d1, d2] => { results := [.lit (.bool true)], args := [d1, d2] }
  | _ => none }
def bpduBackRow : OpenClaim := { program := "ytfpdfenepelcdaa", sum := "5ae7add17fe5054a3247be3a642e0a149a37d6a9832fbf93cd4d4a2400c1803c", func := "gemel/gemellaw05.BpduBack", spec := "bpduBack", unfollowed := true, recurses := true, apart := false }
def BpduBackSaid : Prop := bpduBackRow.holds Try.pinned (OpenSpec.ofChange bpduBackSpec)

/-- ITS FALSE NEIGHBOUR: 'it returns false'. Refute it at one input. -/
def bpduBackWrong : ChangeSpec := { name := "bpduBack", fn := fun _ => fun
  | [d1, d2] => { results := [.lit (.bool false)], args := [d1, d2] }
  | _ => none }
def BpduBackWrongFalsely : Prop := bpduBackRow.holds Try.pinned (OpenSpec.ofChange bpduBackWrong)

/-- 'gemellaw05.BpduOrder': WHATEVER THE INPUT: true; the input reads as it did. -/
def bpduOrderSpec : ChangeSpec := { name := "bpduOrder", fn := fun _ => fun
  | [d1, d2, d3] => { results := [.lit (.bool true)], args := [d1, d2, d3] }
  | _ => none }
def bpduOrderRow : OpenClaim := { program := "ytfpdfenepelcdaa", sum := "5ae7add17fe5054a3247be3a642e0a149a37d6a9832fbf93cd4d4a2400c1803c", func := "gemel/gemellaw05.BpduOrder", spec := "bpduOrder", inPlace := ["internal/bytealg.Compare"], unfollowed := true, recurses := true, apart := false }
def BpduOrderSaid : Prop := bpduOrderRow.holds Try.pinned (OpenSpec.ofChange bpduOrderSpec)

/-- ITS FALSE NEIGHBOUR: 'it returns false'. Refute it at one input. -/
def bpduOrderWrong : ChangeSpec := { name := "bpduOrder", fn := fun _ => fun
  | [d1, d2, d3] => { results := [.lit (.bool false)], args := [d1, d2, d3] }
  | _ => none }
def BpduOrderWrongFalsely : Prop := bpduOrderRow.holds Try.pinned (OpenSpec.ofChange bpduOrderWrong)

/- THE SECOND FORM. 'bulk': how many values and letters a reading holds, each counted each time it is reached (what is shared counts as often as it is met; a slice's spare places count too). A statement '..UptoSaid' is the law's where the arguments, and the package variables that the reading takes, are together of bulk at most 1048576: NARROWER than '..Said'. Prove '..Said' where nothing that the law and all that it calls make is longer than what came in: it says more and counts as full. Else prove '..UptoSaid'. A law counts once. -/
mutual
def uptoBulk {H : Type} : DataW H → Nat
  | .lit (.string bytes) => bytes.length + 1
  | .lit _ => 1
  | .nil => 1
  | .ptr d => uptoBulk d + 1
  | .slice elems spare => uptoBulkAll elems + uptoBulkAll spare + 1
  | .agg parts => uptoBulkAll parts + 1
  | .iface _ d => uptoBulk d + 1
  | .map entries => uptoBulkEntries entries + 1
  | .held _ => 1
def uptoBulkAll {H : Type} : List (DataW H) → Nat
  | [] => 0
  | d :: r => uptoBulk d + uptoBulkAll r
def uptoBulkEntries {H : Type} : List (Lit × DataW H) → Nat
  | [] => 0
  | x :: r => uptoBulkEntry x + uptoBulkEntries r
def uptoBulkEntry {H : Type} : Lit × DataW H → Nat
  | (.string bytes, d) => bytes.length + uptoBulk d + 1
  | (_, d) => uptoBulk d + 1
 end
def uptoSmall : (H : Type) → List (DataW H) → Bool := fun _ ds => decide (uptoBulkAll ds ≤ 1048576)
def OpenSpec.upto (s : _root_.Go.ChangeSpec) : _root_.Go.OpenSpec := { _root_.Go.OpenSpec.ofChange s with cond := some uptoSmall }

/-- 'gemellaw05.BpduEncodes', WHERE WHAT IT READS IS OF BULK AT MOST 1048576: true; the input reads as it did. -/
def bpduEncodesUptoRow : OpenClaim := { program := "ytfpdfenepelcdaa", sum := "5ae7add17fe5054a3247be3a642e0a149a37d6a9832fbf93cd4d4a2400c1803c", func := "gemel/gemellaw05.BpduEncodes", spec := "bpduEncodes", unfollowed := true, recurses := true, apart := false, narrowed := true }
def BpduEncodesUptoSaid : Prop := bpduEncodesUptoRow.holds Try.pinned (OpenSpec.upto bpduEncodesSpec)

/-- 'gemellaw05.BpduLong', WHERE WHAT IT READS IS OF BULK AT MOST 1048576: true; the input reads as it did. -/
def bpduLongUptoRow : OpenClaim := { program := "ytfpdfenepelcdaa", sum := "5ae7add17fe5054a3247be3a642e0a149a37d6a9832fbf93cd4d4a2400c1803c", func := "gemel/gemellaw05.BpduLong", spec := "bpduLong", unfollowed := true, recurses := true, apart := false, narrowed := true }
def BpduLongUptoSaid : Prop := bpduLongUptoRow.holds Try.pinned (OpenSpec.upto bpduLongSpec)

/-- 'gemellaw05.BpduRight', WHERE WHAT IT READS IS OF BULK AT MOST 1048576: true; the input reads as it did. -/
def bpduRightUptoRow : OpenClaim := { program := "ytfpdfenepelcdaa", sum := "5ae7add17fe5054a3247be3a642e0a149a37d6a9832fbf93cd4d4a2400c1803c", func := "gemel/gemellaw05.BpduRight", spec := "bpduRight", unfollowed := true, recurses := true, apart := false, narrowed := true }
def BpduRightUptoSaid : Prop := bpduRightUptoRow.holds Try.pinned (OpenSpec.upto bpduRightSpec)

/-- 'gemellaw05.BpduDecodes', WHERE WHAT IT READS IS OF BULK AT MOST 1048576: true; the input reads as it did. -/
def bpduDecodesUptoRow : OpenClaim := { program := "ytfpdfenepelcdaa", sum := "5ae7add17fe5054a3247be3a642e0a149a37d6a9832fbf93cd4d4a2400c1803c", func := "gemel/gemellaw05.BpduDecodes", spec := "bpduDecodes", unfollowed := true, recurses := true, apart := false, narrowed := true }
def BpduDecodesUptoSaid : Prop := bpduDecodesUptoRow.holds Try.pinned (OpenSpec.upto bpduDecodesSpec)

/-- 'gemellaw05.BpduBack', WHERE WHAT IT READS IS OF BULK AT MOST 1048576: true; the input reads as it did. -/
def bpduBackUptoRow : OpenClaim := { program := "ytfpdfenepelcdaa", sum := "5ae7add17fe5054a3247be3a642e0a149a37d6a9832fbf93cd4d4a2400c1803c", func := "gemel/gemellaw05.BpduBack", spec := "bpduBack", unfollowed := true, recurses := true, apart := false, narrowed := true }
def BpduBackUptoSaid : Prop := bpduBackUptoRow.holds Try.pinned (OpenSpec.upto bpduBackSpec)

/-- 'gemellaw05.BpduOrder', WHERE WHAT IT READS IS OF BULK AT MOST 1048576: true; the input reads as it did. -/
def bpduOrderUptoRow : OpenClaim := { program := "ytfpdfenepelcdaa", sum := "5ae7add17fe5054a3247be3a642e0a149a37d6a9832fbf93cd4d4a2400c1803c", func := "gemel/gemellaw05.BpduOrder", spec := "bpduOrder", inPlace := ["internal/bytealg.Compare"], unfollowed := true, recurses := true, apart := false, narrowed := true }
def BpduOrderUptoSaid : Prop := bpduOrderUptoRow.holds Try.pinned (OpenSpec.upto bpduOrderSpec)

end Rows
end Go.Proofs.Ytfpdfenepelcdaa
