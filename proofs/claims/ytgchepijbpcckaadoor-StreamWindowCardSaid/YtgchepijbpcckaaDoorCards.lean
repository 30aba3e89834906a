/-
  DERIVED. GIVEN WITH THE SEED: THE CARDS: each row of YtgchepijbpcckaaDoorRows.lean that lists a variable, with what it lists TIED to the program's text (the seventh form; the later family's looks); each row that meets fmt, with fmt's text TOLD by the authors' own Lean function (tested against real Go, not proved from fmt's source: count such statements apart). THE CARD IS WHAT COUNTS. Prove the row's statement (the work); the ties are given (YtgchepijbpcckaaDoorTie.lean); close each card by the builder's one call (the guide's Derived/Test/ToyasCard.lean, 'card_holds'). Laid BY PROGRAM, IN A SANDBOX (cutbox-door.mjs). By AI agents, Wed Nov 11 2026. No macro, syntax, notation, axiom, sorry.
-/
import Derived.Test.YtgchepijbpcckaaDoorRows
import GoSem.ClaimSeven
namespace Go.Proofs.YtgchepijbpcckaaDoor
namespace Rows

/-- THE TIED CARD OF 'gemellaw20.StreamScripts'. -/
def streamScriptsCard : Claim7 := { stood := { row := streamScriptsRow, standIns := [], harness := (true, "a1e057fd5ff1a31ba72fd3c9d0f863ecf6471dffdfbda7bc204a99b2adb66921"), looks := false }, kinds := [], alts := [], laidByText := true, laidKinds := [.data], laidTests := true, laidLooks := .later }
def StreamScriptsCardSaid : Prop := Claim7.holds Tryd.pinned (.plain (OpenSpec.ofChange streamScriptsSpec)) streamScriptsCard

/-- THE TIED CARD OF 'gemellaw20.StreamOnce'. -/
def streamOnceCard : Claim7 := { stood := { row := streamOnceRow, standIns := [], harness := (true, "a1e057fd5ff1a31ba72fd3c9d0f863ecf6471dffdfbda7bc204a99b2adb66921"), looks := false }, kinds := [], alts := [], laidByText := true, laidKinds := [.data], laidTests := true, laidLooks := .later }
def StreamOnceCardSaid : Prop := Claim7.holds Tryd.pinned (.plain (OpenSpec.ofChange streamOnceSpec)) streamOnceCard

/-- THE TIED CARD OF 'gemellaw20.StreamApart'. -/
def streamApartCard : Claim7 := { stood := { row := streamApartRow, standIns := [], harness := (true, "a1e057fd5ff1a31ba72fd3c9d0f863ecf6471dffdfbda7bc204a99b2adb66921"), looks := false }, kinds := [], alts := [], laidByText := true, laidKinds := [.data], laidTests := true, laidLooks := .later }
def StreamApartCardSaid : Prop := Claim7.holds Tryd.pinned (.plain (OpenSpec.ofChange streamApartSpec)) streamApartCard

/-- THE TIED CARD OF 'gemellaw20.StreamWindow'. -/
def streamWindowCard : Claim7 := { stood := { row := streamWindowRow, standIns := [], harness := (true, "a1e057fd5ff1a31ba72fd3c9d0f863ecf6471dffdfbda7bc204a99b2adb66921"), looks := false }, kinds := [], alts := [], laidByText := true, laidKinds := [.data], laidTests := true, laidLooks := .later }
def StreamWindowCardSaid : Prop := Claim7.holds Tryd.pinned (.plain (OpenSpec.ofChange streamWindowSpec)) streamWindowCard

/-- THE SECOND FORM's CARD OF 'gemellaw20.StreamScripts'. -/
def streamScriptsUptoCard : Claim7 := { stood := { row := streamScriptsUptoRow, standIns := [], harness := (true, "a1e057fd5ff1a31ba72fd3c9d0f863ecf6471dffdfbda7bc204a99b2adb66921"), looks := false }, kinds := [], alts := [], laidByText := true, laidKinds := [.data], laidTests := true, laidLooks := .later }
def StreamScriptsUptoCardSaid : Prop := Claim7.holds Tryd.pinned (.plain (OpenSpec.upto streamScriptsSpec)) streamScriptsUptoCard

/-- THE SECOND FORM's CARD OF 'gemellaw20.StreamOnce'. -/
def streamOnceUptoCard : Claim7 := { stood := { row := streamOnceUptoRow, standIns := [], harness := (true, "a1e057fd5ff1a31ba72fd3c9d0f863ecf6471dffdfbda7bc204a99b2adb66921"), looks := false }, kinds := [], alts := [], laidByText := true, laidKinds := [.data], laidTests := true, laidLooks := .later }
def StreamOnceUptoCardSaid : Prop := Claim7.holds Tryd.pinned (.plain (OpenSpec.upto streamOnceSpec)) streamOnceUptoCard

/-- THE SECOND FORM's CARD OF 'gemellaw20.StreamApart'. -/
def streamApartUptoCard : Claim7 := { stood := { row := streamApartUptoRow, standIns := [], harness := (true, "a1e057fd5ff1a31ba72fd3c9d0f863ecf6471dffdfbda7bc204a99b2adb66921"), looks := false }, kinds := [], alts := [], laidByText := true, laidKinds := [.data], laidTests := true, laidLooks := .later }
def StreamApartUptoCardSaid : Prop := Claim7.holds Tryd.pinned (.plain (OpenSpec.upto streamApartSpec)) streamApartUptoCard

/-- THE SECOND FORM's CARD OF 'gemellaw20.StreamWindow'. -/
def streamWindowUptoCard : Claim7 := { stood := { row := streamWindowUptoRow, standIns := [], harness := (true, "a1e057fd5ff1a31ba72fd3c9d0f863ecf6471dffdfbda7bc204a99b2adb66921"), looks := false }, kinds := [], alts := [], laidByText := true, laidKinds := [.data], laidTests := true, laidLooks := .later }
def StreamWindowUptoCardSaid : Prop := Claim7.holds Tryd.pinned (.plain (OpenSpec.upto streamWindowSpec)) streamWindowUptoCard
end Rows
end Go.Proofs.YtgchepijbpcckaaDoor
