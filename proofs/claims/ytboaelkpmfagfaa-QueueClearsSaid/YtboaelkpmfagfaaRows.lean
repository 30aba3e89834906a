/-
  No cell of these rows narrows 'for every input' (looked for: loops, veiled, ifaces, maps, wideKeys, modest, calm, conditions, laid).
  DERIVED. THE GIVEN ROWS OF THIS SEAT. 5 by the template 'for every input the law returns true; each argument reads behind the call as it read before'; 0 by the template 'total and deterministic' (their statements: YtboaelkpmfagfaaTotals.lean).
  GIVEN WITH THE SEED: the statements are not yours to turn. If you find one false, say at which input.
  Laid BY PROGRAM, IN A SANDBOX (cutbox-rows.mjs): the forced cells as the released guide's own fill.sh prints them over the translation 4187b1c6a5ebe546… (all of the seat's roots in one cut). By AI agents, Wed Nov 11 2026. No macro, syntax, notation, axiom, sorry.
-/
import Derived.Test.YtboaelkpmfagfaaChecked
import GoSem.Claim
import GoSem.ClaimJoined
import GoSem.ClaimMapViews
import Derived.JoinedTies
import Derived.KernelRfl
namespace Go.Proofs.Ytboaelkpmfagfaa
/- THE CELL 'sum', in the pinned program and in every row, IS THE sha256 OF THE DUMP (.gsa) THAT YtboaelkpmfagfaaProg.lean LOADS. Nothing in Lean hashes anything: it is a label: what it is worth is what the hold of that sum in a sandbox is worth. -/
noncomputable def Try.pinned : Pinned := { name := "ytboaelkpmfagfaa", sum := "4187b1c6a5ebe546526792492e6e2d10469fa7b858fb44b142bdeb86311ca553", checked := Try.checked }
namespace Rows
def none {H : Type} : Left H := { results := [], args := [] }

/-- 'gemellaw10.QueueOrder': WHATEVER THE INPUT: true; the input reads as it did. -/
def queueOrderSpec : ChangeSpec := { name := "queueOrder", fn := fun _ => fun
  | [d1, d2] => { results := [.lit (.bool true)], args := [d1, d2] }
  | _ => none }
def queueOrderRow : OpenClaim := { program := "ytboaelkpmfagfaa", sum := "4187b1c6a5ebe546526792492e6e2d10469fa7b858fb44b142bdeb86311ca553", func := "gemel/gemellaw10.QueueOrder", spec := "queueOrder", apart := false }
def QueueOrderSaid : Prop := queueOrderRow.holds Try.pinned (OpenSpec.ofChange queueOrderSpec)

/-- ITS FALSE NEIGHBOUR: 'it returns false'. Refute it at one input. -/
def queueOrderWrong : ChangeSpec := { name := "queueOrder", fn := fun _ => fun
  | [d1, d2] => { results := [.lit (.bool false)], args := [d1, d2] }
  | _ => none }
def QueueOrderWrongFalsely : Prop := queueOrderRow.holds Try.pinned (OpenSpec.ofChange queueOrderWrong)

/-- 'gemellaw10.QueueOwn': WHATEVER THE INPUT: true; the input reads as it did. -/
def queueOwnSpec : ChangeSpec := { name := "queueOwn", fn := fun _ => fun
  | [d1, d2] => { results := [.lit (.bool true)], args := [d1, d2] }
  | _ => none }
def queueOwnRow : OpenClaim := { program := "ytboaelkpmfagfaa", sum := "4187b1c6a5ebe546526792492e6e2d10469fa7b858fb44b142bdeb86311ca553", func := "gemel/gemellaw10.QueueOwn", spec := "queueOwn", apart := false }
def QueueOwnSaid : Prop := queueOwnRow.holds Try.pinned (OpenSpec.ofChange queueOwnSpec)

/-- ITS FALSE NEIGHBOUR: 'it returns false'. Refute it at one input. -/
def queueOwnWrong : ChangeSpec := { name := "queueOwn", fn := fun _ => fun
  | [d1, d2] => { results := [.lit (.bool false)], args := [d1, d2] }
  | _ => none }
def QueueOwnWrongFalsely : Prop := queueOwnRow.holds Try.pinned (OpenSpec.ofChange queueOwnWrong)

/-- 'gemellaw10.QueueSums': WHATEVER THE INPUT: true; the input reads as it did. -/
def queueSumsSpec : ChangeSpec := { name := "queueSums", fn := fun _ => fun
  | [d1, d2] => { results := [.lit (.bool true)], args := [d1, d2] }
  | _ => none }
def queueSumsRow : OpenClaim := { program := "ytboaelkpmfagfaa", sum := "4187b1c6a5ebe546526792492e6e2d10469fa7b858fb44b142bdeb86311ca553", func := "gemel/gemellaw10.QueueSums", spec := "queueSums", apart := false }
def QueueSumsSaid : Prop := queueSumsRow.holds Try.pinned (OpenSpec.ofChange queueSumsSpec)

/-- ITS FALSE NEIGHBOUR: 'it returns false'. Refute it at one input. -/
def queueSumsWrong : ChangeSpec := { name := "queueSums", fn := fun _ => fun
  | [d1, d2] => { results := [.lit (.bool false)], args := [d1, d2] }
  | _ => none }
def QueueSumsWrongFalsely : Prop := queueSumsRow.holds Try.pinned (OpenSpec.ofChange queueSumsWrong)

/-- 'gemellaw10.QueueScripts': WHATEVER THE INPUT: true; the input reads as it did. -/
def queueScriptsSpec : ChangeSpec := { name := "queueScripts", fn := fun _ => fun
  | [d1, d2, d3] => { results := [.lit (.bool true)], args := [d1, d2, d3] }
  | _ => none }
def queueScriptsRow : OpenClaim := { program := "ytboaelkpmfagfaa", sum := "4187b1c6a5ebe546526792492e6e2d10469fa7b858fb44b142bdeb86311ca553", func := "gemel/gemellaw10.QueueScripts", spec := "queueScripts", apart := false }
def QueueScriptsSaid : Prop := queueScriptsRow.holds Try.pinned (OpenSpec.ofChange queueScriptsSpec)

/-- ITS FALSE NEIGHBOUR: 'it returns false'. Refute it at one input. -/
def queueScriptsWrong : ChangeSpec := { name := "queueScripts", fn := fun _ => fun
  | [d1, d2, d3] => { results := [.lit (.bool false)], args := [d1, d2, d3] }
  | _ => none }
def QueueScriptsWrongFalsely : Prop := queueScriptsRow.holds Try.pinned (OpenSpec.ofChange queueScriptsWrong)

/-- 'gemellaw10.QueueClears': WHATEVER THE INPUT: true; the input reads as it did. -/
def queueClearsSpec : ChangeSpec := { name := "queueClears", fn := fun _ => fun
  | [d1, d2, d3] => { results := [.lit (.bool true)], args := [d1, d2, d3] }
  | _ => none }
def queueClearsRow : OpenClaim := { program := "ytboaelkpmfagfaa", sum := "4187b1c6a5ebe546526792492e6e2d10469fa7b858fb44b142bdeb86311ca553", func := "gemel/gemellaw10.QueueClears", spec := "queueClears", apart := false }
def QueueClearsSaid : Prop := queueClearsRow.holds Try.pinned (OpenSpec.ofChange queueClearsSpec)

/-- ITS FALSE NEIGHBOUR: 'it returns false'. Refute it at one input. -/
def queueClearsWrong : ChangeSpec := { name := "queueClears", fn := fun _ => fun
  | [d1, d2, d3] => { results := [.lit (.bool false)], args := [d1, d2, d3] }
  | _ => none }
def QueueClearsWrongFalsely : Prop := queueClearsRow.holds Try.pinned (OpenSpec.ofChange queueClearsWrong)

/- THE SECOND FORM. 'bulk': how many values and letters a reading holds, each counted each time it is reached (what is shared counts as often as it is met; a slice's spare places count too). A statement '..UptoSaid' is the law's where the arguments, and the package variables that the reading takes, are together of bulk at most 1048576: NARROWER than '..Said'. Prove '..Said' where nothing that the law and all that it calls make is longer than what came in: it says more and counts as full. Else prove '..UptoSaid'. A law counts once. -/
mutual
def uptoBulk {H : Type} : DataW H → Nat
  | .lit (.string bytes) => bytes.length + 1
  | .lit _ => 1
  | .nil => 1
  | .ptr d => uptoBulk d + 1
  | .slice elems spare => uptoBulkAll elems + uptoBulkAll spare + 1
  | .agg parts => uptoBulkAll parts + 1
  | .iface _ d => uptoBulk d + 1
  | .map entries => uptoBulkEntries entries + 1
  | .held _ => 1
def uptoBulkAll {H : Type} : List (DataW H) → Nat
  | [] => 0
  | d :: r => uptoBulk d + uptoBulkAll r
def uptoBulkEntries {H : Type} : List (Lit × DataW H) → Nat
  | [] => 0
  | x :: r => uptoBulkEntry x + uptoBulkEntries r
def uptoBulkEntry {H : Type} : Lit × DataW H → Nat
  | (.string bytes, d) => bytes.length + uptoBulk d + 1
  | (_, d) => uptoBulk d + 1
 end
def uptoSmall : (H : Type) → List (DataW H) → Bool := fun _ ds => decide (uptoBulkAll ds ≤ 1048576)
def OpenSpec.upto (s : _root_.Go.ChangeSpec) : _root_.Go.OpenSpec := { _root_.Go.OpenSpec.ofChange s with cond := some uptoSmall }

/-- 'gemellaw10.QueueOrder', WHERE WHAT IT READS IS OF BULK AT MOST 1048576: true; the input reads as it did. -/
def queueOrderUptoRow : OpenClaim := { program := "ytboaelkpmfagfaa", sum := "4187b1c6a5ebe546526792492e6e2d10469fa7b858fb44b142bdeb86311ca553", func := "gemel/gemellaw10.QueueOrder", spec := "queueOrder", apart := false, narrowed := true }
def QueueOrderUptoSaid : Prop := queueOrderUptoRow.holds Try.pinned (OpenSpec.upto queueOrderSpec)

/-- 'gemellaw10.QueueOwn', WHERE WHAT IT READS IS OF BULK AT MOST 1048576: true; the input reads as it did. -/
def queueOwnUptoRow : OpenClaim := { program := "ytboaelkpmfagfaa", sum := "4187b1c6a5ebe546526792492e6e2d10469fa7b858fb44b142bdeb86311ca553", func := "gemel/gemellaw10.QueueOwn", spec := "queueOwn", apart := false, narrowed := true }
def QueueOwnUptoSaid : Prop := queueOwnUptoRow.holds Try.pinned (OpenSpec.upto queueOwnSpec)

/-- 'gemellaw10.QueueSums', WHERE WHAT IT READS IS OF BULK AT MOST 1048576: true; the input reads as it did. -/
def queueSumsUptoRow : OpenClaim := { program := "ytboaelkpmfagfaa", sum := "4187b1c6a5ebe546526792492e6e2d10469fa7b858fb44b142bdeb86311ca553", func := "gemel/gemellaw10.QueueSums", spec := "queueSums", apart := false, narrowed := true }
def QueueSumsUptoSaid : Prop := queueSumsUptoRow.holds Try.pinned (OpenSpec.upto queueSumsSpec)

/-- 'gemellaw10.QueueScripts', WHERE WHAT IT READS IS OF BULK AT MOST 1048576: true; the input reads as it did. -/
def queueScriptsUptoRow : OpenClaim := { program := "ytboaelkpmfagfaa", sum := "4187b1c6a5ebe546526792492e6e2d10469fa7b858fb44b142bdeb86311ca553", func := "gemel/gemellaw10.QueueScripts", spec := "queueScripts", apart := false, narrowed := true }
def QueueScriptsUptoSaid : Prop := queueScriptsUptoRow.holds Try.pinned (OpenSpec.upto queueScriptsSpec)

/-- 'gemellaw10.QueueClears', WHERE WHAT IT READS IS OF BULK AT MOST 1048576: true; the input reads as it did. -/
def queueClearsUptoRow : OpenClaim := { program := "ytboaelkpmfagfaa", sum := "4187b1c6a5ebe546526792492e6e2d10469fa7b858fb44b142bdeb86311ca553", func := "gemel/gemellaw10.QueueClears", spec := "queueClears", apart := false, narrowed := true }
def QueueClearsUptoSaid : Prop := queueClearsUptoRow.holds Try.pinned (OpenSpec.upto queueClearsSpec)

end Rows
end Go.Proofs.Ytboaelkpmfagfaa
