/-
  NARROWER THAN 'FOR EVERY INPUT', by the rows' own cells (each row's printed sentence says how): SessionMeets: laid · SessionSticks: laid · SessionOne: laid · SessionScripts: laid · SessionRises: laid.
  DERIVED. THE GIVEN ROWS OF THIS SEAT. 5 by the template 'for every input the law returns true; each argument reads behind the call as it read before'; 0 by the template 'total and deterministic' (their statements: YtaacpjihkmklbaaDoorTotals.lean).
  GIVEN WITH THE SEED: the statements are not yours to turn. If you find one false, say at which input.
  Laid BY PROGRAM, IN A SANDBOX (cutbox-rows.mjs): the forced cells as the released guide's own fill.sh prints them over the translation 94e86a2f1c8ad5e0… (all of the seat's roots in one cut). By AI agents, Wed Nov 11 2026. No macro, syntax, notation, axiom, sorry.
-/
import Derived.Test.YtaacpjihkmklbaaDoorChecked
import GoSem.Claim
import GoSem.ClaimJoined
import GoSem.ClaimMapViews
import Derived.JoinedTies
import Derived.KernelRfl
namespace Go.Proofs.YtaacpjihkmklbaaDoor
/- THE CELL 'sum', in the pinned program and in every row, IS THE sha256 OF THE DUMP (.gsa) THAT YtaacpjihkmklbaaDoorProg.lean LOADS. Nothing in Lean hashes anything: it is a label: what it is worth is what the hold of that sum in a sandbox is worth. -/
noncomputable def Tryd.pinned : Pinned := { name := "ytaacpjihkmklbaadoor", sum := "94e86a2f1c8ad5e0d18b27d6fcc419bcec0377954fcefe241d6d3c36ef55150b", checked := Tryd.checked }
namespace Rows
def none {H : Type} : Left H := { results := [], args := [] }

/- WHAT THE LISTED PACKAGE-LEVEL VARIABLES READ AS WHEN THE CALL BEGINS. Each datum BY PROGRAM (the guide's laid-datum.mjs) off the statement by which the dump's own 'gosem.cut.vars' lays the variable. In a bare row this is a premise. The card (YtaacpjihkmklbaaDoorCards.lean) ties it to the program's text. -/
def laid_gemel_control_has {H : Type} : DataW H := .agg [.lit (.int .u8 0), .lit (.int .u8 7), .lit (.int .u8 3), .lit (.int .u8 12), .lit (.int .u8 12), .lit (.int .u8 20), .lit (.int .u8 12), .lit (.int .u8 8), .lit (.int .u8 29)]

/-- 'gemellaw21.SessionMeets': WHATEVER THE INPUT: true; the input reads as it did. -/
def sessionMeetsSpec : ChangeSpec := { name := "sessionMeets", fn := fun _ => fun
  | [d1, d2] => { results := [.lit (.bool true)], args := [d1, d2] }
  | _ => none }
def sessionMeetsRow : OpenClaim := { program := "ytaacpjihkmklbaadoor", sum := "94e86a2f1c8ad5e0d18b27d6fcc419bcec0377954fcefe241d6d3c36ef55150b", func := "gemel/gemellaw21.SessionMeets", spec := "sessionMeets", unfollowed := true, recurses := true, named := ["gemel/control.has"], apart := false, laid := [("gemel/control.has", laid_gemel_control_has)] }
def SessionMeetsSaid : Prop := sessionMeetsRow.holds Tryd.pinned (OpenSpec.ofChange sessionMeetsSpec)

/-- ITS FALSE NEIGHBOUR: 'it returns false'. Refute it at one input. -/
def sessionMeetsWrong : ChangeSpec := { name := "sessionMeets", fn := fun _ => fun
  | [d1, d2] => { results := [.lit (.bool false)], args := [d1, d2] }
  | _ => none }
def SessionMeetsWrongFalsely : Prop := sessionMeetsRow.holds Tryd.pinned (OpenSpec.ofChange sessionMeetsWrong)

/-- 'gemellaw21.SessionSticks': WHATEVER THE INPUT: true; the input reads as it did. -/
def sessionSticksSpec : ChangeSpec := { name := "sessionSticks", fn := fun _ => fun
  | [d1, d2, d3] => { results := [.lit (.bool true)], args := [d1, d2, d3] }
  | _ => none }
def sessionSticksRow : OpenClaim := { program := "ytaacpjihkmklbaadoor", sum := "94e86a2f1c8ad5e0d18b27d6fcc419bcec0377954fcefe241d6d3c36ef55150b", func := "gemel/gemellaw21.SessionSticks", spec := "sessionSticks", unfollowed := true, recurses := true, named := ["gemel/control.has"], apart := false, laid := [("gemel/control.has", laid_gemel_control_has)] }
def SessionSticksSaid : Prop := sessionSticksRow.holds Tryd.pinned (OpenSpec.ofChange sessionSticksSpec)

/-- ITS FALSE NEIGHBOUR: 'it returns false'. Refute it at one input. -/
def sessionSticksWrong : ChangeSpec := { name := "sessionSticks", fn := fun _ => fun
  | [d1, d2, d3] => { results := [.lit (.bool false)], args := [d1, d2, d3] }
  | _ => none }
def SessionSticksWrongFalsely : Prop := sessionSticksRow.holds Tryd.pinned (OpenSpec.ofChange sessionSticksWrong)

/-- 'gemellaw21.SessionOne': WHATEVER THE INPUT: true; the input reads as it did. -/
def sessionOneSpec : ChangeSpec := { name := "sessionOne", fn := fun _ => fun
  | [d1, d2] => { results := [.lit (.bool true)], args := [d1, d2] }
  | _ => none }
def sessionOneRow : OpenClaim := { program := "ytaacpjihkmklbaadoor", sum := "94e86a2f1c8ad5e0d18b27d6fcc419bcec0377954fcefe241d6d3c36ef55150b", func := "gemel/gemellaw21.SessionOne", spec := "sessionOne", unfollowed := true, recurses := true, named := ["gemel/control.has"], apart := false, laid := [("gemel/control.has", laid_gemel_control_has)] }
def SessionOneSaid : Prop := sessionOneRow.holds Tryd.pinned (OpenSpec.ofChange sessionOneSpec)

/-- ITS FALSE NEIGHBOUR: 'it returns false'. Refute it at one input. -/
def sessionOneWrong : ChangeSpec := { name := "sessionOne", fn := fun _ => fun
  | [d1, d2] => { results := [.lit (.bool false)], args := [d1, d2] }
  | _ => none }
def SessionOneWrongFalsely : Prop := sessionOneRow.holds Tryd.pinned (OpenSpec.ofChange sessionOneWrong)

/-- 'gemellaw21.SessionScripts': WHATEVER THE INPUT: true; the input reads as it did. -/
def sessionScriptsSpec : ChangeSpec := { name := "sessionScripts", fn := fun _ => fun
  | [d1, d2] => { results := [.lit (.bool true)], args := [d1, d2] }
  | _ => none }
def sessionScriptsRow : OpenClaim := { program := "ytaacpjihkmklbaadoor", sum := "94e86a2f1c8ad5e0d18b27d6fcc419bcec0377954fcefe241d6d3c36ef55150b", func := "gemel/gemellaw21.SessionScripts", spec := "sessionScripts", unfollowed := true, recurses := true, named := ["gemel/control.has"], apart := false, laid := [("gemel/control.has", laid_gemel_control_has)] }
def SessionScriptsSaid : Prop := sessionScriptsRow.holds Tryd.pinned (OpenSpec.ofChange sessionScriptsSpec)

/-- ITS FALSE NEIGHBOUR: 'it returns false'. Refute it at one input. -/
def sessionScriptsWrong : ChangeSpec := { name := "sessionScripts", fn := fun _ => fun
  | [d1, d2] => { results := [.lit (.bool false)], args := [d1, d2] }
  | _ => none }
def SessionScriptsWrongFalsely : Prop := sessionScriptsRow.holds Tryd.pinned (OpenSpec.ofChange sessionScriptsWrong)

/-- 'gemellaw21.SessionRises': WHATEVER THE INPUT: true; the input reads as it did. -/
def sessionRisesSpec : ChangeSpec := { name := "sessionRises", fn := fun _ => fun
  | [d] => { results := [.lit (.bool true)], args := [d] }
  | _ => none }
def sessionRisesRow : OpenClaim := { program := "ytaacpjihkmklbaadoor", sum := "94e86a2f1c8ad5e0d18b27d6fcc419bcec0377954fcefe241d6d3c36ef55150b", func := "gemel/gemellaw21.SessionRises", spec := "sessionRises", unfollowed := true, recurses := true, named := ["gemel/control.has"], apart := false, laid := [("gemel/control.has", laid_gemel_control_has)] }
def SessionRisesSaid : Prop := sessionRisesRow.holds Tryd.pinned (OpenSpec.ofChange sessionRisesSpec)

/-- ITS FALSE NEIGHBOUR: 'it returns false'. Refute it at one input. -/
def sessionRisesWrong : ChangeSpec := { name := "sessionRises", fn := fun _ => fun
  | [d] => { results := [.lit (.bool false)], args := [d] }
  | _ => none }
def SessionRisesWrongFalsely : Prop := sessionRisesRow.holds Tryd.pinned (OpenSpec.ofChange sessionRisesWrong)

/- THE SECOND FORM. 'bulk': how many values and letters a reading holds, each counted each time it is reached (what is shared counts as often as it is met; a slice's spare places count too). A statement '..UptoSaid' is the law's where the arguments, and the package variables that the reading takes, are together of bulk at most 1048576: NARROWER than '..Said'. Prove '..Said' where nothing that the law and all that it calls make is longer than what came in: it says more and counts as full. Else prove '..UptoSaid'. A law counts once. -/
mutual
def uptoBulk {H : Type} : DataW H → Nat
  | .lit (.string bytes) => bytes.length + 1
  | .lit _ => 1
  | .nil => 1
  | .ptr d => uptoBulk d + 1
  | .slice elems spare => uptoBulkAll elems + uptoBulkAll spare + 1
  | .agg parts => uptoBulkAll parts + 1
  | .iface _ d => uptoBulk d + 1
  | .map entries => uptoBulkEntries entries + 1
  | .held _ => 1
def uptoBulkAll {H : Type} : List (DataW H) → Nat
  | [] => 0
  | d :: r => uptoBulk d + uptoBulkAll r
def uptoBulkEntries {H : Type} : List (Lit × DataW H) → Nat
  | [] => 0
  | x :: r => uptoBulkEntry x + uptoBulkEntries r
def uptoBulkEntry {H : Type} : Lit × DataW H → Nat
  | (.string bytes, d) => bytes.length + uptoBulk d + 1
  | (_, d) => uptoBulk d + 1
 end
def uptoSmall : (H : Type) → List (DataW H) → Bool := fun _ ds => decide (uptoBulkAll ds ≤ 1048576)
def OpenSpec.upto (s : _root_.Go.ChangeSpec) : _root_.Go.OpenSpec := { _root_.Go.OpenSpec.ofChange s with cond := some uptoSmall }

/-- 'gemellaw21.SessionMeets', WHERE WHAT IT READS IS OF BULK AT MOST 1048576: true; the input reads as it did. -/
def sessionMeetsUptoRow : OpenClaim := { program := "ytaacpjihkmklbaadoor", sum := "94e86a2f1c8ad5e0d18b27d6fcc419bcec0377954fcefe241d6d3c36ef55150b", func := "gemel/gemellaw21.SessionMeets", spec := "sessionMeets", unfollowed := true, recurses := true, named := ["gemel/control.has"], apart := false, laid := [("gemel/control.has", laid_gemel_control_has)], narrowed := true }
def SessionMeetsUptoSaid : Prop := sessionMeetsUptoRow.holds Tryd.pinned (OpenSpec.upto sessionMeetsSpec)

/-- 'gemellaw21.SessionSticks', WHERE WHAT IT READS IS OF BULK AT MOST 1048576: true; the input reads as it did. -/
def sessionSticksUptoRow : OpenClaim := { program := "ytaacpjihkmklbaadoor", sum := "94e86a2f1c8ad5e0d18b27d6fcc419bcec0377954fcefe241d6d3c36ef55150b", func := "gemel/gemellaw21.SessionSticks", spec := "sessionSticks", unfollowed := true, recurses := true, named := ["gemel/control.has"], apart := false, laid := [("gemel/control.has", laid_gemel_control_has)], narrowed := true }
def SessionSticksUptoSaid : Prop := sessionSticksUptoRow.holds Tryd.pinned (OpenSpec.upto sessionSticksSpec)

/-- 'gemellaw21.SessionOne', WHERE WHAT IT READS IS OF BULK AT MOST 1048576: true; the input reads as it did. -/
def sessionOneUptoRow : OpenClaim := { program := "ytaacpjihkmklbaadoor", sum := "94e86a2f1c8ad5e0d18b27d6fcc419bcec0377954fcefe241d6d3c36ef55150b", func := "gemel/gemellaw21.SessionOne", spec := "sessionOne", unfollowed := true, recurses := true, named := ["gemel/control.has"], apart := false, laid := [("gemel/control.has", laid_gemel_control_has)], narrowed := true }
def SessionOneUptoSaid : Prop := sessionOneUptoRow.holds Tryd.pinned (OpenSpec.upto sessionOneSpec)

/-- 'gemellaw21.SessionScripts', WHERE WHAT IT READS IS OF BULK AT MOST 1048576: true; the input reads as it did. -/
def sessionScriptsUptoRow : OpenClaim := { program := "ytaacpjihkmklbaadoor", sum := "94e86a2f1c8ad5e0d18b27d6fcc419bcec0377954fcefe241d6d3c36ef55150b", func := "gemel/gemellaw21.SessionScripts", spec := "sessionScripts", unfollowed := true, recurses := true, named := ["gemel/control.has"], apart := false, laid := [("gemel/control.has", laid_gemel_control_has)], narrowed := true }
def SessionScriptsUptoSaid : Prop := sessionScriptsUptoRow.holds Tryd.pinned (OpenSpec.upto sessionScriptsSpec)

/-- 'gemellaw21.SessionRises', WHERE WHAT IT READS IS OF BULK AT MOST 1048576: true; the input reads as it did. -/
def sessionRisesUptoRow : OpenClaim := { program := "ytaacpjihkmklbaadoor", sum := "94e86a2f1c8ad5e0d18b27d6fcc419bcec0377954fcefe241d6d3c36ef55150b", func := "gemel/gemellaw21.SessionRises", spec := "sessionRises", unfollowed := true, recurses := true, named := ["gemel/control.has"], apart := false, laid := [("gemel/control.has", laid_gemel_control_has)], narrowed := true }
def SessionRisesUptoSaid : Prop := sessionRisesUptoRow.holds Tryd.pinned (OpenSpec.upto sessionRisesSpec)

end Rows
end Go.Proofs.YtaacpjihkmklbaaDoor
