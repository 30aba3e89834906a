/-
  NARROWER THAN 'FOR EVERY INPUT', by the rows' own cells (each row's printed sentence says how): ShakeScripts: laid · ShakeOnce: laid · ShakeCalm: laid · ShakeAlone: laid · ShakeOwed: laid.
  DERIVED. THE GIVEN ROWS OF THIS SEAT. 5 by the template 'for every input the law returns true; each argument reads behind the call as it read before'; 0 by the template 'total and deterministic' (their statements: YthebgpbofjgcoaaDoorTotals.lean).
  GIVEN WITH THE SEED: the statements are not yours to turn. If you find one false, say at which input.
  Laid BY PROGRAM, IN A SANDBOX (cutbox-rows.mjs): the forced cells as the released guide's own fill.sh prints them over the translation d4064ca7ffa6de6b… (all of the seat's roots in one cut). By AI agents, Wed Nov 11 2026. No macro, syntax, notation, axiom, sorry.
-/
import Derived.Test.YthebgpbofjgcoaaDoorChecked
import GoSem.Claim
import GoSem.ClaimJoined
import GoSem.ClaimMapViews
import Derived.JoinedTies
import Derived.KernelRfl
namespace Go.Proofs.YthebgpbofjgcoaaDoor
/- THE CELL 'sum', in the pinned program and in every row, IS THE sha256 OF THE DUMP (.gsa) THAT YthebgpbofjgcoaaDoorProg.lean LOADS. Nothing in Lean hashes anything: it is a label: what it is worth is what the hold of that sum in a sandbox is worth. -/
noncomputable def Tryd.pinned : Pinned := { name := "ythebgpbofjgcoaadoor", sum := "d4064ca7ffa6de6b1e4025555b7ff61fc92e6f77949cd46475ea8274edfbf9c2", checked := Tryd.checked }
namespace Rows
def none {H : Type} : Left H := { results := [], args := [] }

/- WHAT THE LISTED PACKAGE-LEVEL VARIABLES READ AS WHEN THE CALL BEGINS. Each datum BY PROGRAM (the guide's laid-datum.mjs) off the statement by which the dump's own 'gosem.cut.vars' lays the variable. In a bare row this is a premise. The card (YthebgpbofjgcoaaDoorCards.lean) ties it to the program's text. -/
def laid_gemel_control_has {H : Type} : DataW H := .agg [.lit (.int .u8 0), .lit (.int .u8 7), .lit (.int .u8 3), .lit (.int .u8 12), .lit (.int .u8 12), .lit (.int .u8 20), .lit (.int .u8 12), .lit (.int .u8 8), .lit (.int .u8 29)]

/-- 'gemellaw22.ShakeScripts': WHATEVER THE INPUT: true; the input reads as it did. -/
def shakeScriptsSpec : ChangeSpec := { name := "shakeScripts", fn := fun _ => fun
  | [d1, d2] => { results := [.lit (.bool true)], args := [d1, d2] }
  | _ => none }
def shakeScriptsRow : OpenClaim := { program := "ythebgpbofjgcoaadoor", sum := "d4064ca7ffa6de6b1e4025555b7ff61fc92e6f77949cd46475ea8274edfbf9c2", func := "gemel/gemellaw22.ShakeScripts", spec := "shakeScripts", unfollowed := true, recurses := true, named := ["gemel/control.has"], apart := false, laid := [("gemel/control.has", laid_gemel_control_has)] }
def ShakeScriptsSaid : Prop := shakeScriptsRow.holds Tryd.pinned (OpenSpec.ofChange shakeScriptsSpec)

/-- ITS FALSE NEIGHBOUR: 'it returns false'. Refute it at one input. -/
def shakeScriptsWrong : ChangeSpec := { name := "shakeScripts", fn := fun _ => fun
  | [d1, d2] => { results := [.lit (.bool false)], args := [d1, d2] }
  | _ => none }
def ShakeScriptsWrongFalsely : Prop := shakeScriptsRow.holds Tryd.pinned (OpenSpec.ofChange shakeScriptsWrong)

/-- 'gemellaw22.ShakeOnce': WHATEVER THE INPUT: true; the input reads as it did. -/
def shakeOnceSpec : ChangeSpec := { name := "shakeOnce", fn := fun _ => fun
  | [d] => { results := [.lit (.bool true)], args := [d] }
  | _ => none }
def shakeOnceRow : OpenClaim := { program := "ythebgpbofjgcoaadoor", sum := "d4064ca7ffa6de6b1e4025555b7ff61fc92e6f77949cd46475ea8274edfbf9c2", func := "gemel/gemellaw22.ShakeOnce", spec := "shakeOnce", unfollowed := true, recurses := true, named := ["gemel/control.has"], apart := false, laid := [("gemel/control.has", laid_gemel_control_has)] }
def ShakeOnceSaid : Prop := shakeOnceRow.holds Tryd.pinned (OpenSpec.ofChange shakeOnceSpec)

/-- ITS FALSE NEIGHBOUR: 'it returns false'. Refute it at one input. -/
def shakeOnceWrong : ChangeSpec := { name := "shakeOnce", fn := fun _ => fun
  | [d] => { results := [.lit (.bool false)], args := [d] }
  | _ => none }
def ShakeOnceWrongFalsely : Prop := shakeOnceRow.holds Tryd.pinned (OpenSpec.ofChange shakeOnceWrong)

/-- 'gemellaw22.ShakeCalm': WHATEVER THE INPUT: true; the input reads as it did. -/
def shakeCalmSpec : ChangeSpec := { name := "shakeCalm", fn := fun _ => fun
  | [d] => { results := [.lit (.bool true)], args := [d] }
  | _ => none }
def shakeCalmRow : OpenClaim := { program := "ythebgpbofjgcoaadoor", sum := "d4064ca7ffa6de6b1e4025555b7ff61fc92e6f77949cd46475ea8274edfbf9c2", func := "gemel/gemellaw22.ShakeCalm", spec := "shakeCalm", unfollowed := true, recurses := true, named := ["gemel/control.has"], apart := false, laid := [("gemel/control.has", laid_gemel_control_has)] }
def ShakeCalmSaid : Prop := shakeCalmRow.holds Tryd.pinned (OpenSpec.ofChange shakeCalmSpec)

/-- ITS FALSE NEIGHBOUR: 'it returns false'. Refute it at one input. -/
def shakeCalmWrong : ChangeSpec := { name := "shakeCalm", fn := fun _ => fun
  | [d] => { results := [.lit (.bool false)], args := [d] }
  | _ => none }
def ShakeCalmWrongFalsely : Prop := shakeCalmRow.holds Tryd.pinned (OpenSpec.ofChange shakeCalmWrong)

/-- 'gemellaw22.ShakeAlone': WHATEVER THE INPUT: true; the input reads as it did. -/
def shakeAloneSpec : ChangeSpec := { name := "shakeAlone", fn := fun _ => fun
  | [d1, d2, d3] => { results := [.lit (.bool true)], args := [d1, d2, d3] }
  | _ => none }
def shakeAloneRow : OpenClaim := { program := "ythebgpbofjgcoaadoor", sum := "d4064ca7ffa6de6b1e4025555b7ff61fc92e6f77949cd46475ea8274edfbf9c2", func := "gemel/gemellaw22.ShakeAlone", spec := "shakeAlone", unfollowed := true, recurses := true, named := ["gemel/control.has"], apart := false, laid := [("gemel/control.has", laid_gemel_control_has)] }
def ShakeAloneSaid : Prop := shakeAloneRow.holds Tryd.pinned (OpenSpec.ofChange shakeAloneSpec)

/-- ITS FALSE NEIGHBOUR: 'it returns false'. Refute it at one input. -/
def shakeAloneWrong : ChangeSpec := { name := "shakeAlone", fn := fun _ => fun
  | [d1, d2, d3] => { results := [.lit (.bool false)], args := [d1, d2, d3] }
  | _ => none }
def ShakeAloneWrongFalsely : Prop := shakeAloneRow.holds Tryd.pinned (OpenSpec.ofChange shakeAloneWrong)

/-- 'gemellaw22.ShakeOwed': WHATEVER THE INPUT: true; the input reads as it did. -/
def shakeOwedSpec : ChangeSpec := { name := "shakeOwed", fn := fun _ => fun
  | [d1, d2] => { results := [.lit (.bool true)], args := [d1, d2] }
  | _ => none }
def shakeOwedRow : OpenClaim := { program := "ythebgpbofjgcoaadoor", sum := "d4064ca7ffa6de6b1e4025555b7ff61fc92e6f77949cd46475ea8274edfbf9c2", func := "gemel/gemellaw22.ShakeOwed", spec := "shakeOwed", unfollowed := true, recurses := true, named := ["gemel/control.has"], apart := false, laid := [("gemel/control.has", laid_gemel_control_has)] }
def ShakeOwedSaid : Prop := shakeOwedRow.holds Tryd.pinned (OpenSpec.ofChange shakeOwedSpec)

/-- ITS FALSE NEIGHBOUR: 'it returns false'. Refute it at one input. -/
def shakeOwedWrong : ChangeSpec := { name := "shakeOwed", fn := fun _ => fun
  | [d1, d2] => { results := [.lit (.bool false)], args := [d1, d2] }
  | _ => none }
def ShakeOwedWrongFalsely : Prop := shakeOwedRow.holds Tryd.pinned (OpenSpec.ofChange shakeOwedWrong)

/- THE SECOND FORM. 'bulk': how many values and letters a reading holds, each counted each time it is reached (what is shared counts as often as it is met; a slice's spare places count too). A statement '..UptoSaid' is the law's where the arguments, and the package variables that the reading takes, are together of bulk at most 1048576: NARROWER than '..Said'. Prove '..Said' where nothing that the law and all that it calls make is longer than what came in: it says more and counts as full. Else prove '..UptoSaid'. A law counts once. -/
mutual
def uptoBulk {H : Type} : DataW H → Nat
  | .lit (.string bytes) => bytes.length + 1
  | .lit _ => 1
  | .nil => 1
  | .ptr d => uptoBulk d + 1
  | .slice elems spare => uptoBulkAll elems + uptoBulkAll spare + 1
  | .agg parts => uptoBulkAll parts + 1
  | .iface _ d => uptoBulk d + 1
  | .map entries => uptoBulkEntries entries + 1
  | .held _ => 1
def uptoBulkAll {H : Type} : List (DataW H) → Nat
  | [] => 0
  | d :: r => uptoBulk d + uptoBulkAll r
def uptoBulkEntries {H : Type} : List (Lit × DataW H) → Nat
  | [] => 0
  | x :: r => uptoBulkEntry x + uptoBulkEntries r
def uptoBulkEntry {H : Type} : Lit × DataW H → Nat
  | (.string bytes, d) => bytes.length + uptoBulk d + 1
  | (_, d) => uptoBulk d + 1
 end
def uptoSmall : (H : Type) → List (DataW H) → Bool := fun _ ds => decide (uptoBulkAll ds ≤ 1048576)
def OpenSpec.upto (s : _root_.Go.ChangeSpec) : _root_.Go.OpenSpec := { _root_.Go.OpenSpec.ofChange s with cond := some uptoSmall }

/-- 'gemellaw22.ShakeScripts', WHERE WHAT IT READS IS OF BULK AT MOST 1048576: true; the input reads as it did. -/
def shakeScriptsUptoRow : OpenClaim := { program := "ythebgpbofjgcoaadoor", sum := "d4064ca7ffa6de6b1e4025555b7ff61fc92e6f77949cd46475ea8274edfbf9c2", func := "gemel/gemellaw22.ShakeScripts", spec := "shakeScripts", unfollowed := true, recurses := true, named := ["gemel/control.has"], apart := false, laid := [("gemel/control.has", laid_gemel_control_has)], narrowed := true }
def ShakeScriptsUptoSaid : Prop := shakeScriptsUptoRow.holds Tryd.pinned (OpenSpec.upto shakeScriptsSpec)

/-- 'gemellaw22.ShakeOnce', WHERE WHAT IT READS IS OF BULK AT MOST 1048576: true; the input reads as it did. -/
def shakeOnceUptoRow : OpenClaim := { program := "ythebgpbofjgcoaadoor", sum := "d4064ca7ffa6de6b1e4025555b7ff61fc92e6f77949cd46475ea8274edfbf9c2", func := "gemel/gemellaw22.ShakeOnce", spec := "shakeOnce", unfollowed := true, recurses := true, named := ["gemel/control.has"], apart := false, laid := [("gemel/control.has", laid_gemel_control_has)], narrowed := true }
def ShakeOnceUptoSaid : Prop := shakeOnceUptoRow.holds Tryd.pinned (OpenSpec.upto shakeOnceSpec)

/-- 'gemellaw22.ShakeCalm', WHERE WHAT IT READS IS OF BULK AT MOST 1048576: true; the input reads as it did. -/
def shakeCalmUptoRow : OpenClaim := { program := "ythebgpbofjgcoaadoor", sum := "d4064ca7ffa6de6b1e4025555b7ff61fc92e6f77949cd46475ea8274edfbf9c2", func := "gemel/gemellaw22.ShakeCalm", spec := "shakeCalm", unfollowed := true, recurses := true, named := ["gemel/control.has"], apart := false, laid := [("gemel/control.has", laid_gemel_control_has)], narrowed := true }
def ShakeCalmUptoSaid : Prop := shakeCalmUptoRow.holds Tryd.pinned (OpenSpec.upto shakeCalmSpec)

/-- 'gemellaw22.ShakeAlone', WHERE WHAT IT READS IS OF BULK AT MOST 1048576: true; the input reads as it did. -/
def shakeAloneUptoRow : OpenClaim := { program := "ythebgpbofjgcoaadoor", sum := "d4064ca7ffa6de6b1e4025555b7ff61fc92e6f77949cd46475ea8274edfbf9c2", func := "gemel/gemellaw22.ShakeAlone", spec := "shakeAlone", unfollowed := true, recurses := true, named := ["gemel/control.has"], apart := false, laid := [("gemel/control.has", laid_gemel_control_has)], narrowed := true }
def ShakeAloneUptoSaid : Prop := shakeAloneUptoRow.holds Tryd.pinned (OpenSpec.upto shakeAloneSpec)

/-- 'gemellaw22.ShakeOwed', WHERE WHAT IT READS IS OF BULK AT MOST 1048576: true; the input reads as it did. -/
def shakeOwedUptoRow : OpenClaim := { program := "ythebgpbofjgcoaadoor", sum := "d4064ca7ffa6de6b1e4025555b7ff61fc92e6f77949cd46475ea8274edfbf9c2", func := "gemel/gemellaw22.ShakeOwed", spec := "shakeOwed", unfollowed := true, recurses := true, named := ["gemel/control.has"], apart := false, laid := [("gemel/control.has", laid_gemel_control_has)], narrowed := true }
def ShakeOwedUptoSaid : Prop := shakeOwedUptoRow.holds Tryd.pinned (OpenSpec.upto shakeOwedSpec)

end Rows
end Go.Proofs.YthebgpbofjgcoaaDoor
