/-
  NARROWER THAN 'FOR EVERY INPUT', by the rows' own cells (each row's printed sentence says how): StreamScripts: laid · StreamOnce: laid · StreamApart: laid · StreamWindow: laid.
  DERIVED. THE GIVEN ROWS OF THIS SEAT. 4 by the template 'for every input the law returns true; each argument reads behind the call as it read before'; 0 by the template 'total and deterministic' (their statements: YtgchepijbpcckaaDoorTotals.lean).
  GIVEN WITH THE SEED: the statements are not yours to turn. If you find one false, say at which input.
  Laid BY PROGRAM, IN A SANDBOX (cutbox-rows.mjs): the forced cells as the released guide's own fill.sh prints them over the translation 6dffb85356035e18… (all of the seat's roots in one cut). By AI agents, Wed Nov 11 2026. No macro, syntax, notation, axiom, sorry.
-/
import Derived.Test.YtgchepijbpcckaaDoorChecked
import GoSem.Claim
import GoSem.ClaimJoined
import GoSem.ClaimMapViews
import Derived.JoinedTies
import Derived.KernelRfl
namespace Go.Proofs.YtgchepijbpcckaaDoor
/- THE CELL 'sum', in the pinned program and in every row, IS THE sha256 OF THE DUMP (.gsa) THAT YtgchepijbpcckaaDoorProg.lean LOADS. Nothing in Lean hashes anything: it is a label: what it is worth is what the hold of that sum in a sandbox is worth. -/
noncomputable def Tryd.pinned : Pinned := { name := "ytgchepijbpcckaadoor", sum := "6dffb85356035e18ff96d7a7a36cc8f12fb78386c85d2724b64c76a516690fc6", checked := Tryd.checked }
namespace Rows
def none {H : Type} : Left H := { results := [], args := [] }

/- WHAT THE LISTED PACKAGE-LEVEL VARIABLES READ AS WHEN THE CALL BEGINS. Each datum BY PROGRAM (the guide's laid-datum.mjs) off the statement by which the dump's own 'gosem.cut.vars' lays the variable. In a bare row this is a premise. The card (YtgchepijbpcckaaDoorCards.lean) ties it to the program's text. -/
def laid_gemel_control_has {H : Type} : DataW H := .agg [.lit (.int .u8 0), .lit (.int .u8 7), .lit (.int .u8 3), .lit (.int .u8 12), .lit (.int .u8 12), .lit (.int .u8 20), .lit (.int .u8 12), .lit (.int .u8 8), .lit (.int .u8 29)]

/-- 'gemellaw20.StreamScripts': WHATEVER THE INPUT: true; the input reads as it did. -/
def streamScriptsSpec : ChangeSpec := { name := "streamScripts", fn := fun _ => fun
  | [d1, d2] => { results := [.lit (.bool true)], args := [d1, d2] }
  | _ => none }
def streamScriptsRow : OpenClaim := { program := "ytgchepijbpcckaadoor", sum := "6dffb85356035e18ff96d7a7a36cc8f12fb78386c85d2724b64c76a516690fc6", func := "gemel/gemellaw20.StreamScripts", spec := "streamScripts", unfollowed := true, recurses := true, named := ["gemel/control.has"], apart := false, laid := [("gemel/control.has", laid_gemel_control_has)] }
def StreamScriptsSaid : Prop := streamScriptsRow.holds Tryd.pinned (OpenSpec.ofChange streamScriptsSpec)

/-- ITS FALSE NEIGHBOUR: 'it returns false'. Refute it at one input. -/
def streamScriptsWrong : ChangeSpec := { name := "streamScripts", fn := fun _ => fun
  | [d1, d2] => { results := [.lit (.bool false)], args := [d1, d2] }
  | _ => none }
def StreamScriptsWrongFalsely : Prop := streamScriptsRow.holds Tryd.pinned (OpenSpec.ofChange streamScriptsWrong)

/-- 'gemellaw20.StreamOnce': WHATEVER THE INPUT: true; the input reads as it did. -/
def streamOnceSpec : ChangeSpec := { name := "streamOnce", fn := fun _ => fun
  | [d1, d2] => { results := [.lit (.bool true)], args := [d1, d2] }
  | _ => none }
def streamOnceRow : OpenClaim := { program := "ytgchepijbpcckaadoor", sum := "6dffb85356035e18ff96d7a7a36cc8f12fb78386c85d2724b64c76a516690fc6", func := "gemel/gemellaw20.StreamOnce", spec := "streamOnce", unfollowed := true, recurses := true, named := ["gemel/control.has"], apart := false, laid := [("gemel/control.has", laid_gemel_control_has)] }
def StreamOnceSaid : Prop := streamOnceRow.holds Tryd.pinned (OpenSpec.ofChange streamOnceSpec)

/-- ITS FALSE NEIGHBOUR: 'it returns false'. Refute it at one input. -/
def streamOnceWrong : ChangeSpec := { name := "streamOnce", fn := fun _ => fun
  | [d1, d2] => { results := [.lit (.bool false)], args := [d1, d2] }
  | _ => none }
def StreamOnceWrongFalsely : Prop := streamOnceRow.holds Tryd.pinned (OpenSpec.ofChange streamOnceWrong)

/-- 'gemellaw20.StreamApart': WHATEVER THE INPUT: true; the input reads as it did. -/
def streamApartSpec : ChangeSpec := { name := "streamApart", fn := fun _ => fun
  | [d1, d2] => { results := [.lit (.bool true)], args := [d1, d2] }
  | _ => none }
def streamApartRow : OpenClaim := { program := "ytgchepijbpcckaadoor", sum := "6dffb85356035e18ff96d7a7a36cc8f12fb78386c85d2724b64c76a516690fc6", func := "gemel/gemellaw20.StreamApart", spec := "streamApart", unfollowed := true, recurses := true, named := ["gemel/control.has"], apart := false, laid := [("gemel/control.has", laid_gemel_control_has)] }
def StreamApartSaid : Prop := streamApartRow.holds Tryd.pinned (OpenSpec.ofChange streamApartSpec)

/-- ITS FALSE NEIGHBOUR: 'it returns false'. Refute it at one input. -/
def streamApartWrong : ChangeSpec := { name := "streamApart", fn := fun _ => fun
  | [d1, d2] => { results := [.lit (.bool false)], args := [d1, d2] }
  | _ => none }
def StreamApartWrongFalsely : Prop := streamApartRow.holds Tryd.pinned (OpenSpec.ofChange streamApartWrong)

/-- 'gemellaw20.StreamWindow': WHATEVER THE INPUT: true; the input reads as it did. -/
def streamWindowSpec : ChangeSpec := { name := "streamWindow", fn := fun _ => fun
  | [d1, d2] => { results := [.lit (.bool true)], args := [d1, d2] }
  | _ => none }
def streamWindowRow : OpenClaim := { program := "ytgchepijbpcckaadoor", sum := "6dffb85356035e18ff96d7a7a36cc8f12fb78386c85d2724b64c76a516690fc6", func := "gemel/gemellaw20.StreamWindow", spec := "streamWindow", unfollowed := true, recurses := true, named := ["gemel/control.has"], apart := false, laid := [("gemel/control.has", laid_gemel_control_has)] }
def StreamWindowSaid : Prop := streamWindowRow.holds Tryd.pinned (OpenSpec.ofChange streamWindowSpec)

/-- ITS FALSE NEIGHBOUR: 'it returns false'. Refute it at one input. -/
def streamWindowWrong : ChangeSpec := { name := "streamWindow", fn := fun _ => fun
  | [d1, d2] => { results := [.lit (.bool false)], args := [d1, d2] }
  | _ => none }
def StreamWindowWrongFalsely : Prop := streamWindowRow.holds Tryd.pinned (OpenSpec.ofChange streamWindowWrong)

/- THE SECOND FORM. 'bulk': how many values and letters a reading holds, each counted each time it is reached (what is shared counts as often as it is met; a slice's spare places count too). A statement '..UptoSaid' is the law's where the arguments, and the package variables that the reading takes, are together of bulk at most 1048576: NARROWER than '..Said'. Prove '..Said' where nothing that the law and all that it calls make is longer than what came in: it says more and counts as full. Else prove '..UptoSaid'. A law counts once. -/
mutual
def uptoBulk {H : Type} : DataW H → Nat
  | .lit (.string bytes) => bytes.length + 1
  | .lit _ => 1
  | .nil => 1
  | .ptr d => uptoBulk d + 1
  | .slice elems spare => uptoBulkAll elems + uptoBulkAll spare + 1
  | .agg parts => uptoBulkAll parts + 1
  | .iface _ d => uptoBulk d + 1
  | .map entries => uptoBulkEntries entries + 1
  | .held _ => 1
def uptoBulkAll {H : Type} : List (DataW H) → Nat
  | [] => 0
  | d :: r => uptoBulk d + uptoBulkAll r
def uptoBulkEntries {H : Type} : List (Lit × DataW H) → Nat
  | [] => 0
  | x :: r => uptoBulkEntry x + uptoBulkEntries r
def uptoBulkEntry {H : Type} : Lit × DataW H → Nat
  | (.string bytes, d) => bytes.length + uptoBulk d + 1
  | (_, d) => uptoBulk d + 1
 end
def uptoSmall : (H : Type) → List (DataW H) → Bool := fun _ ds => decide (uptoBulkAll ds ≤ 1048576)
def OpenSpec.upto (s : _root_.Go.ChangeSpec) : _root_.Go.OpenSpec := { _root_.Go.OpenSpec.ofChange s with cond := some uptoSmall }

/-- 'gemellaw20.StreamScripts', WHERE WHAT IT READS IS OF BULK AT MOST 1048576: true; the input reads as it did. -/
def streamScriptsUptoRow : OpenClaim := { program := "ytgchepijbpcckaadoor", sum := "6dffb85356035e18ff96d7a7a36cc8f12fb78386c85d2724b64c76a516690fc6", func := "gemel/gemellaw20.StreamScripts", spec := "streamScripts", unfollowed := true, recurses := true, named := ["gemel/control.has"], apart := false, laid := [("gemel/control.has", laid_gemel_control_has)], narrowed := true }
def StreamScriptsUptoSaid : Prop := streamScriptsUptoRow.holds Tryd.pinned (OpenSpec.upto streamScriptsSpec)

/-- 'gemellaw20.StreamOnce', WHERE WHAT IT READS IS OF BULK AT MOST 1048576: true; the input reads as it did. -/
def streamOnceUptoRow : OpenClaim := { program := "ytgchepijbpcckaadoor", sum := "6dffb85356035e18ff96d7a7a36cc8f12fb78386c85d2724b64c76a516690fc6", func := "gemel/gemellaw20.StreamOnce", spec := "streamOnce", unfollowed := true, recurses := true, named := ["gemel/control.has"], apart := false, laid := [("gemel/control.has", laid_gemel_control_has)], narrowed := true }
def StreamOnceUptoSaid : Prop := streamOnceUptoRow.holds Tryd.pinned (OpenSpec.upto streamOnceSpec)

/-- 'gemellaw20.StreamApart', WHERE WHAT IT READS IS OF BULK AT MOST 1048576: true; the input reads as it did. -/
def streamApartUptoRow : OpenClaim := { program := "ytgchepijbpcckaadoor", sum := "6dffb85356035e18ff96d7a7a36cc8f12fb78386c85d2724b64c76a516690fc6", func := "gemel/gemellaw20.StreamApart", spec := "streamApart", unfollowed := true, recurses := true, named := ["gemel/control.has"], apart := false, laid := [("gemel/control.has", laid_gemel_control_has)], narrowed := true }
def StreamApartUptoSaid : Prop := streamApartUptoRow.holds Tryd.pinned (OpenSpec.upto streamApartSpec)

/-- 'gemellaw20.StreamWindow', WHERE WHAT IT READS IS OF BULK AT MOST 1048576: true; the input reads as it did. -/
def streamWindowUptoRow : OpenClaim := { program := "ytgchepijbpcckaadoor", sum := "6dffb85356035e18ff96d7a7a36cc8f12fb78386c85d2724b64c76a516690fc6", func := "gemel/gemellaw20.StreamWindow", spec := "streamWindow", unfollowed := true, recurses := true, named := ["gemel/control.has"], apart := false, laid := [("gemel/control.has", laid_gemel_control_has)], narrowed := true }
def StreamWindowUptoSaid : Prop := streamWindowUptoRow.holds Tryd.pinned (OpenSpec.upto streamWindowSpec)

end Rows
end Go.Proofs.YtgchepijbpcckaaDoor
