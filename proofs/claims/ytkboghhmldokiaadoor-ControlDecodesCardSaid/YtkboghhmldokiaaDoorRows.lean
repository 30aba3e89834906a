/-
  NARROWER THAN 'FOR EVERY INPUT', by the rows' own cells (each row's printed sentence says how): ControlEncodes: laid · ControlOnce: laid · ControlKinds: laid · ControlAlive: laid · ControlDecodes: laid · ControlLong: laid · ControlBack: laid.
  DERIVED. THE GIVEN ROWS OF THIS SEAT. 7 by the template 'for every input the law returns true; each argument reads behind the call as it read before'; 0 by the template 'total and deterministic' (their statements: YtkboghhmldokiaaDoorTotals.lean).
  GIVEN WITH THE SEED: the statements are not yours to turn. If you find one false, say at which input.
  Laid BY PROGRAM, IN A SANDBOX (cutbox-rows.mjs): the forced cells as the released guide's own fill.sh prints them over the translation 5c134dfda9cae98a… (all of the seat's roots in one cut). By AI agents, Wed Nov 11 2026. No macro, syntax, notation, axiom, sorry.
-/
import Derived.Test.YtkboghhmldokiaaDoorChecked
import GoSem.Claim
import GoSem.ClaimJoined
import GoSem.ClaimMapViews
import Derived.JoinedTies
import Derived.KernelRfl
namespace Go.Proofs.YtkboghhmldokiaaDoor
/- THE CELL 'sum', in the pinned program and in every row, IS THE sha256 OF THE DUMP (.gsa) THAT YtkboghhmldokiaaDoorProg.lean LOADS. Nothing in Lean hashes anything: it is a label: what it is worth is what the hold of that sum in a sandbox is worth. -/
noncomputable def Tryd.pinned : Pinned := { name := "ytkboghhmldokiaadoor", sum := "5c134dfda9cae98a782dd90727fc8c830a203c3c72db31862d95ae3c2307168b", checked := Tryd.checked }
namespace Rows
def none {H : Type} : Left H := { results := [], args := [] }

/- WHAT THE LISTED PACKAGE-LEVEL VARIABLES READ AS WHEN THE CALL BEGINS. Each datum BY PROGRAM (the guide's laid-datum.mjs) off the statement by which the dump's own 'gosem.cut.vars' lays the variable. In a bare row this is a premise. The card (YtkboghhmldokiaaDoorCards.lean) ties it to the program's text. -/
def laid_gemel_control_has {H : Type} : DataW H := .agg [.lit (.int .u8 0), .lit (.int .u8 7), .lit (.int .u8 3), .lit (.int .u8 12), .lit (.int .u8 12), .lit (.int .u8 20), .lit (.int .u8 12), .lit (.int .u8 8), .lit (.int .u8 29)]

/-- 'gemellaw06.ControlEncodes': WHATEVER THE INPUT: true; the input reads as it did. -/
def controlEncodesSpec : ChangeSpec := { name := "controlEncodes", fn := fun _ => fun
  | [d] => { results := [.lit (.bool true)], args := [d] }
  | _ => none }
def controlEncodesRow : OpenClaim := { program := "ytkboghhmldokiaadoor", sum := "5c134dfda9cae98a782dd90727fc8c830a203c3c72db31862d95ae3c2307168b", func := "gemel/gemellaw06.ControlEncodes", spec := "controlEncodes", unfollowed := true, recurses := true, named := ["gemel/control.has"], apart := false, laid := [("gemel/control.has", laid_gemel_control_has)] }
def ControlEncodesSaid : Prop := controlEncodesRow.holds Tryd.pinned (OpenSpec.ofChange controlEncodesSpec)

/-- ITS FALSE NEIGHBOUR: 'it returns false'. Refute it at one input. -/
def controlEncodesWrong : ChangeSpec := { name := "controlEncodes", fn := fun _ => fun
  | [d] => { results := [.lit (.bool false)], args := [d] }
  | _ => none }
def ControlEncodesWrongFalsely : Prop := controlEncodesRow.holds Tryd.pinned (OpenSpec.ofChange controlEncodesWrong)

/-- 'gemellaw06.ControlOnce': WHATEVER THE INPUT: true; the input reads as it did. -/
def controlOnceSpec : ChangeSpec := { name := "controlOnce", fn := fun _ => fun
  | [d1, d2] => { results := [.lit (.bool true)], args := [d1, d2] }
  | _ => none }
def controlOnceRow : OpenClaim := { program := "ytkboghhmldokiaadoor", sum := "5c134dfda9cae98a782dd90727fc8c830a203c3c72db31862d95ae3c2307168b", func := "gemel/gemellaw06.ControlOnce", spec := "controlOnce", unfollowed := true, recurses := true, named := ["gemel/control.has"], apart := false, laid := [("gemel/control.has", laid_gemel_control_has)] }
def ControlOnceSaid : Prop := controlOnceRow.holds Tryd.pinned (OpenSpec.ofChange controlOnceSpec)

/-- ITS FALSE NEIGHBOUR: 'it returns false'. Refute it at one input. -/
def controlOnceWrong : ChangeSpec := { name := "controlOnce", fn := fun _ => fun
  | [d1, d2] => { results := [.lit (.bool false)], args := [d1, d2] }
  | _ => none }
def ControlOnceWrongFalsely : Prop := controlOnceRow.holds Tryd.pinned (OpenSpec.ofChange controlOnceWrong)

/-- 'gemellaw06.ControlKinds': WHATEVER THE INPUT: true; the input reads as it did. -/
def controlKindsSpec : ChangeSpec := { name := "controlKinds", fn := fun _ => fun
  | [d1, d2] => { results := [.lit (.bool true)], args := [d1, d2] }
  | _ => none }
def controlKindsRow : OpenClaim := { program := "ytkboghhmldokiaadoor", sum := "5c134dfda9cae98a782dd90727fc8c830a203c3c72db31862d95ae3c2307168b", func := "gemel/gemellaw06.ControlKinds", spec := "controlKinds", unfollowed := true, recurses := true, named := ["gemel/control.has"], apart := false, laid := [("gemel/control.has", laid_gemel_control_has)] }
def ControlKindsSaid : Prop := controlKindsRow.holds Tryd.pinned (OpenSpec.ofChange controlKindsSpec)

/-- ITS FALSE NEIGHBOUR: 'it returns false'. Refute it at one input. -/
def controlKindsWrong : ChangeSpec := { name := "controlKinds", fn := fun _ => fun
  | [d1, d2] => { results := [.lit (.bool false)], args := [d1, d2] }
  | _ => none }
def ControlKindsWrongFalsely : Prop := controlKindsRow.holds Tryd.pinned (OpenSpec.ofChange controlKindsWrong)

/-- 'gemellaw06.ControlAlive': WHATEVER THE INPUT: true; the input reads as it did. -/
def controlAliveSpec : ChangeSpec := { name := "controlAlive", fn := fun _ => fun
  | [d1, d2, d3] => { results := [.lit (.bool true)], args := [d1, d2, d3] }
  | _ => none }
def controlAliveRow : OpenClaim := { program := "ytkboghhmldokiaadoor", sum := "5c134dfda9cae98a782dd90727fc8c830a203c3c72db31862d95ae3c2307168b", func := "gemel/gemellaw06.ControlAlive", spec := "controlAlive", unfollowed := true, recurses := true, named := ["gemel/control.has"], apart := false, laid := [("gemel/control.has", laid_gemel_control_has)] }
def ControlAliveSaid : Prop := controlAliveRow.holds Tryd.pinned (OpenSpec.ofChange controlAliveSpec)

/-- ITS FALSE NEIGHBOUR: 'it returns false'. Refute it at one input. -/
def controlAliveWrong : ChangeSpec := { name := "controlAlive", fn := fun _ => fun
  | [d1, d2, d3] => { results := [.lit (.bool false)], args := [d1, d2, d3] }
  | _ => none }
def ControlAliveWrongFalsely : Prop := controlAliveRow.holds Tryd.pinned (OpenSpec.ofChange controlAliveWrong)

/-- 'gemellaw06.ControlDecodes': WHATEVER THE INPUT: true; the input reads as it did. -/
def controlDecodesSpec : ChangeSpec := { name := "controlDecodes", fn := fun _ => fun
  | [d] => { results := [.lit (.bool true)], args := [d] }
  | _ => none }
def controlDecodesRow : OpenClaim := { program := "ytkboghhmldokiaadoor", sum := "5c134dfda9cae98a782dd90727fc8c830a203c3c72db31862d95ae3c2307168b", func := "gemel/gemellaw06.ControlDecodes", spec := "controlDecodes", unfollowed := true, recurses := true, named := ["gemel/control.has"], apart := false, laid := [("gemel/control.has", laid_gemel_control_has)] }
def ControlDecodesSaid : Prop := controlDecodesRow.holds Tryd.pinned (OpenSpec.ofChange controlDecodesSpec)

/-- ITS FALSE NEIGHBOUR: 'it returns false'. Refute it at one input. -/
def controlDecodesWrong : ChangeSpec := { name := "controlDecodes", fn := fun _ => fun
  | [d] => { results := [.lit (.bool false)], args := [d] }
  | _ => none }
def ControlDecodesWrongFalsely : Prop := controlDecodesRow.holds Tryd.pinned (OpenSpec.ofChange controlDecodesWrong)

/-- 'gemellaw06.ControlLong': WHATEVER THE INPUT: true; the input reads as it did. -/
def controlLongSpec : ChangeSpec := { name := "controlLong", fn := fun _ => fun
  | [d1, d2, d3] => { results := [.lit (.bool true)], args := [d1, d2, d3] }
  | _ => none }
def controlLongRow : OpenClaim := { program := "ytkboghhmldokiaadoor", sum := "5c134dfda9cae98a782dd90727fc8c830a203c3c72db31862d95ae3c2307168b", func := "gemel/gemellaw06.ControlLong", spec := "controlLong", unfollowed := true, recurses := true, named := ["gemel/control.has"], apart := false, laid := [("gemel/control.has", laid_gemel_control_has)] }
def ControlLongSaid : Prop := controlLongRow.holds Tryd.pinned (OpenSpec.ofChange controlLongSpec)

/-- ITS FALSE NEIGHBOUR: 'it returns false'. Refute it at one input. -/
def controlLongWrong : ChangeSpec := { name := "controlLong", fn := fun _ => fun
  | [d1, d2, d3] => { results := [.lit (.bool false)], args := [d1, d2, d3] }
  | _ => none }
def ControlLongWrongFalsely : Prop := controlLongRow.holds Tryd.pinned (OpenSpec.ofChange controlLongWrong)

/-- 'gemellaw06.ControlBack': WHATEVER THE INPUT: true; the input reads as it did. -/
def controlBackSpec : ChangeSpec := { name := "controlBack", fn := fun _ => fun
  | [d1, d2] => { results := [.lit (.bool true)], args := [d1, d2] }
  | _ => none }
def controlBackRow : OpenClaim := { program := "ytkboghhmldokiaadoor", sum := "5c134dfda9cae98a782dd90727fc8c830a203c3c72db31862d95ae3c2307168b", func := "gemel/gemellaw06.ControlBack", spec := "controlBack", unfollowed := true, recurses := true, named := ["gemel/control.has"], apart := false, laid := [("gemel/control.has", laid_gemel_control_has)] }
def ControlBackSaid : Prop := controlBackRow.holds Tryd.pinned (OpenSpec.ofChange controlBackSpec)

/-- ITS FALSE NEIGHBOUR: 'it returns false'. Refute it at one input. -/
def controlBackWrong : ChangeSpec := { name := "controlBack", fn := fun _ => fun
  | [d1, d2] => { results := [.lit (.bool false)], args := [d1, d2] }
  | _ => none }
def ControlBackWrongFalsely : Prop := controlBackRow.holds Tryd.pinned (OpenSpec.ofChange controlBackWrong)

/- THE SECOND FORM. 'bulk': how many values and letters a reading holds, each counted each time it is reached (what is shared counts as often as it is met; a slice's spare places count too). A statement '..UptoSaid' is the law's where the arguments, and the package variables that the reading takes, are together of bulk at most 1048576: NARROWER than '..Said'. Prove '..Said' where nothing that the law and all that it calls make is longer than what came in: it says more and counts as full. Else prove '..UptoSaid'. A law counts once. -/
mutual
def uptoBulk {H : Type} : DataW H → Nat
  | .lit (.string bytes) => bytes.length + 1
  | .lit _ => 1
  | .nil => 1
  | .ptr d => uptoBulk d + 1
  | .slice elems spare => uptoBulkAll elems + uptoBulkAll spare + 1
  | .agg parts => uptoBulkAll parts + 1
  | .iface _ d => uptoBulk d + 1
  | .map entries => uptoBulkEntries entries + 1
  | .held _ => 1
def uptoBulkAll {H : Type} : List (DataW H) → Nat
  | [] => 0
  | d :: r => uptoBulk d + uptoBulkAll r
def uptoBulkEntries {H : Type} : List (Lit × DataW H) → Nat
  | [] => 0
  | x :: r => uptoBulkEntry x + uptoBulkEntries r
def uptoBulkEntry {H : Type} : Lit × DataW H → Nat
  | (.string bytes, d) => bytes.length + uptoBulk d + 1
  | (_, d) => uptoBulk d + 1
 end
def uptoSmall : (H : Type) → List (DataW H) → Bool := fun _ ds => decide (uptoBulkAll ds ≤ 1048576)
def OpenSpec.upto (s : _root_.Go.ChangeSpec) : _root_.Go.OpenSpec := { _root_.Go.OpenSpec.ofChange s with cond := some uptoSmall }

/-- 'gemellaw06.ControlEncodes', WHERE WHAT IT READS IS OF BULK AT MOST 1048576: true; the input reads as it did. -/
def controlEncodesUptoRow : OpenClaim := { program := "ytkboghhmldokiaadoor", sum := "5c134dfda9cae98a782dd90727fc8c830a203c3c72db31862d95ae3c2307168b", func := "gemel/gemellaw06.ControlEncodes", spec := "controlEncodes", unfollowed := true, recurses := true, named := ["gemel/control.has"], apart := false, laid := [("gemel/control.has", laid_gemel_control_has)], narrowed := true }
def ControlEncodesUptoSaid : Prop := controlEncodesUptoRow.holds Tryd.pinned (OpenSpec.upto controlEncodesSpec)

/-- 'gemellaw06.ControlOnce', WHERE WHAT IT READS IS OF BULK AT MOST 1048576: true; the input reads as it did. -/
def controlOnceUptoRow : OpenClaim := { program := "ytkboghhmldokiaadoor", sum := "5c134dfda9cae98a782dd90727fc8c830a203c3c72db31862d95ae3c2307168b", func := "gemel/gemellaw06.ControlOnce", spec := "controlOnce", unfollowed := true, recurses := true, named := ["gemel/control.has"], apart := false, laid := [("gemel/control.has", laid_gemel_control_has)], narrowed := true }
def ControlOnceUptoSaid : Prop := controlOnceUptoRow.holds Tryd.pinned (OpenSpec.upto controlOnceSpec)

/-- 'gemellaw06.ControlKinds', WHERE WHAT IT READS IS OF BULK AT MOST 1048576: true; the input reads as it did. -/
def controlKindsUptoRow : OpenClaim := { program := "ytkboghhmldokiaadoor", sum := "5c134dfda9cae98a782dd90727fc8c830a203c3c72db31862d95ae3c2307168b", func := "gemel/gemellaw06.ControlKinds", spec := "controlKinds", unfollowed := true, recurses := true, named := ["gemel/control.has"], apart := false, laid := [("gemel/control.has", laid_gemel_control_has)], narrowed := true }
def ControlKindsUptoSaid : Prop := controlKindsUptoRow.holds Tryd.pinned (OpenSpec.upto controlKindsSpec)

/-- 'gemellaw06.ControlAlive', WHERE WHAT IT READS IS OF BULK AT MOST 1048576: true; the input reads as it did. -/
def controlAliveUptoRow : OpenClaim := { program := "ytkboghhmldokiaadoor", sum := "5c134dfda9cae98a782dd90727fc8c830a203c3c72db31862d95ae3c2307168b", func := "gemel/gemellaw06.ControlAlive", spec := "controlAlive", unfollowed := true, recurses := true, named := ["gemel/control.has"], apart := false, laid := [("gemel/control.has", laid_gemel_control_has)], narrowed := true }
def ControlAliveUptoSaid : Prop := controlAliveUptoRow.holds Tryd.pinned (OpenSpec.upto controlAliveSpec)

/-- 'gemellaw06.ControlDecodes', WHERE WHAT IT READS IS OF BULK AT MOST 1048576: true; the input reads as it did. -/
def controlDecodesUptoRow : OpenClaim := { program := "ytkboghhmldokiaadoor", sum := "5c134dfda9cae98a782dd90727fc8c830a203c3c72db31862d95ae3c2307168b", func := "gemel/gemellaw06.ControlDecodes", spec := "controlDecodes", unfollowed := true, recurses := true, named := ["gemel/control.has"], apart := false, laid := [("gemel/control.has", laid_gemel_control_has)], narrowed := true }
def ControlDecodesUptoSaid : Prop := controlDecodesUptoRow.holds Tryd.pinned (OpenSpec.upto controlDecodesSpec)

/-- 'gemellaw06.ControlLong', WHERE WHAT IT READS IS OF BULK AT MOST 1048576: true; the input reads as it did. -/
def controlLongUptoRow : OpenClaim := { program := "ytkboghhmldokiaadoor", sum := "5c134dfda9cae98a782dd90727fc8c830a203c3c72db31862d95ae3c2307168b", func := "gemel/gemellaw06.ControlLong", spec := "controlLong", unfollowed := true, recurses := true, named := ["gemel/control.has"], apart := false, laid := [("gemel/control.has", laid_gemel_control_has)], narrowed := true }
def ControlLongUptoSaid : Prop := controlLongUptoRow.holds Tryd.pinned (OpenSpec.upto controlLongSpec)

/-- 'gemellaw06.ControlBack', WHERE WHAT IT READS IS OF BULK AT MOST 1048576: true; the input reads as it did. -/
def controlBackUptoRow : OpenClaim := { program := "ytkboghhmldokiaadoor", sum := "5c134dfda9cae98a782dd90727fc8c830a203c3c72db31862d95ae3c2307168b", func := "gemel/gemellaw06.ControlBack", spec := "controlBack", unfollowed := true, recurses := true, named := ["gemel/control.has"], apart := false, laid := [("gemel/control.has", laid_gemel_control_has)], narrowed := true }
def ControlBackUptoSaid : Prop := controlBackUptoRow.holds Tryd.pinned (OpenSpec.upto controlBackSpec)

end Rows
end Go.Proofs.YtkboghhmldokiaaDoor
