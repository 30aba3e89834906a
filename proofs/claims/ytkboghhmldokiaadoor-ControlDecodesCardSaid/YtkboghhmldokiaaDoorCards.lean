/-
  DERIVED. GIVEN WITH THE SEED: THE CARDS: each row of YtkboghhmldokiaaDoorRows.lean that lists a variable, with what it lists TIED to the program's text (the seventh form; the later family's looks); each row that meets fmt, with fmt's text TOLD by the authors' own Lean function (tested against real Go, not proved from fmt's source: count such statements apart). THE CARD IS WHAT COUNTS. Prove the row's statement (the work); the ties are given (YtkboghhmldokiaaDoorTie.lean); close each card by the builder's one call (the guide's Derived/Test/ToyasCard.lean, 'card_holds'). Laid BY PROGRAM, IN A SANDBOX (cutbox-door.mjs). By AI agents, Wed Nov 11 2026. No macro, syntax, notation, axiom, sorry.
-/
import Derived.Test.YtkboghhmldokiaaDoorRows
import GoSem.ClaimSeven
namespace Go.Proofs.YtkboghhmldokiaaDoor
namespace Rows

/-- THE TIED CARD OF 'gemellaw06.ControlEncodes'. -/
def controlEncodesCard : Claim7 := { stood := { row := controlEncodesRow, standIns := [], harness := (true, "c6eab20a46e417f1035ad9d5e5b6469e88df63b16f04f09f7019dbafb8c43f44"), looks := false }, kinds := [], alts := [], laidByText := true, laidKinds := [.data], laidTests := true, laidLooks := .later }
def ControlEncodesCardSaid : Prop := Claim7.holds Tryd.pinned (.plain (OpenSpec.ofChange controlEncodesSpec)) controlEncodesCard

/-- THE TIED CARD OF 'gemellaw06.ControlOnce'. -/
def controlOnceCard : Claim7 := { stood := { row := controlOnceRow, standIns := [], harness := (true, "c6eab20a46e417f1035ad9d5e5b6469e88df63b16f04f09f7019dbafb8c43f44"), looks := false }, kinds := [], alts := [], laidByText := true, laidKinds := [.data], laidTests := true, laidLooks := .later }
def ControlOnceCardSaid : Prop := Claim7.holds Tryd.pinned (.plain (OpenSpec.ofChange controlOnceSpec)) controlOnceCard

/-- THE TIED CARD OF 'gemellaw06.ControlKinds'. -/
def controlKindsCard : Claim7 := { stood := { row := controlKindsRow, standIns := [], harness := (true, "c6eab20a46e417f1035ad9d5e5b6469e88df63b16f04f09f7019dbafb8c43f44"), looks := false }, kinds := [], alts := [], laidByText := true, laidKinds := [.data], laidTests := true, laidLooks := .later }
def ControlKindsCardSaid : Prop := Claim7.holds Tryd.pinned (.plain (OpenSpec.ofChange controlKindsSpec)) controlKindsCard

/-- THE TIED CARD OF 'gemellaw06.ControlAlive'. -/
def controlAliveCard : Claim7 := { stood := { row := controlAliveRow, standIns := [], harness := (true, "c6eab20a46e417f1035ad9d5e5b6469e88df63b16f04f09f7019dbafb8c43f44"), looks := false }, kinds := [], alts := [], laidByText := true, laidKinds := [.data], laidTests := true, laidLooks := .later }
def ControlAliveCardSaid : Prop := Claim7.holds Tryd.pinned (.plain (OpenSpec.ofChange controlAliveSpec)) controlAliveCard

/-- THE TIED CARD OF 'gemellaw06.ControlDecodes'. -/
def controlDecodesCard : Claim7 := { stood := { row := controlDecodesRow, standIns := [], harness := (true, "c6eab20a46e417f1035ad9d5e5b6469e88df63b16f04f09f7019dbafb8c43f44"), looks := false }, kinds := [], alts := [], laidByText := true, laidKinds := [.data], laidTests := true, laidLooks := .later }
def ControlDecodesCardSaid : Prop := Claim7.holds Tryd.pinned (.plain (OpenSpec.ofChange controlDecodesSpec)) controlDecodesCard

/-- THE TIED CARD OF 'gemellaw06.ControlLong'. -/
def controlLongCard : Claim7 := { stood := { row := controlLongRow, standIns := [], harness := (true, "c6eab20a46e417f1035ad9d5e5b6469e88df63b16f04f09f7019dbafb8c43f44"), looks := false }, kinds := [], alts := [], laidByText := true, laidKinds := [.data], laidTests := true, laidLooks := .later }
def ControlLongCardSaid : Prop := Claim7.holds Tryd.pinned (.plain (OpenSpec.ofChange controlLongSpec)) controlLongCard

/-- THE TIED CARD OF 'gemellaw06.ControlBack'. -/
def controlBackCard : Claim7 := { stood := { row := controlBackRow, standIns := [], harness := (true, "c6eab20a46e417f1035ad9d5e5b6469e88df63b16f04f09f7019dbafb8c43f44"), looks := false }, kinds := [], alts := [], laidByText := true, laidKinds := [.data], laidTests := true, laidLooks := .later }
def ControlBackCardSaid : Prop := Claim7.holds Tryd.pinned (.plain (OpenSpec.ofChange controlBackSpec)) controlBackCard

/-- THE SECOND FORM's CARD OF 'gemellaw06.ControlEncodes'. -/
def controlEncodesUptoCard : Claim7 := { stood := { row := controlEncodesUptoRow, standIns := [], harness := (true, "c6eab20a46e417f1035ad9d5e5b6469e88df63b16f04f09f7019dbafb8c43f44"), looks := false }, kinds := [], alts := [], laidByText := true, laidKinds := [.data], laidTests := true, laidLooks := .later }
def ControlEncodesUptoCardSaid : Prop := Claim7.holds Tryd.pinned (.plain (OpenSpec.upto controlEncodesSpec)) controlEncodesUptoCard

/-- THE SECOND FORM's CARD OF 'gemellaw06.ControlOnce'. -/
def controlOnceUptoCard : Claim7 := { stood := { row := controlOnceUptoRow, standIns := [], harness := (true, "c6eab20a46e417f1035ad9d5e5b6469e88df63b16f04f09f7019dbafb8c43f44"), looks := false }, kinds := [], alts := [], laidByText := true, laidKinds := [.data], laidTests := true, laidLooks := .later }
def ControlOnceUptoCardSaid : Prop := Claim7.holds Tryd.pinned (.plain (OpenSpec.upto controlOnceSpec)) controlOnceUptoCard

/-- THE SECOND FORM's CARD OF 'gemellaw06.ControlKinds'. -/
def controlKindsUptoCard : Claim7 := { stood := { row := controlKindsUptoRow, standIns := [], harness := (true, "c6eab20a46e417f1035ad9d5e5b6469e88df63b16f04f09f7019dbafb8c43f44"), looks := false }, kinds := [], alts := [], laidByText := true, laidKinds := [.data], laidTests := true, laidLooks := .later }
def ControlKindsUptoCardSaid : Prop := Claim7.holds Tryd.pinned (.plain (OpenSpec.upto controlKindsSpec)) controlKindsUptoCard

/-- THE SECOND FORM's CARD OF 'gemellaw06.ControlAlive'. -/
def controlAliveUptoCard : Claim7 := { stood := { row := controlAliveUptoRow, standIns := [], harness := (true, "c6eab20a46e417f1035ad9d5e5b6469e88df63b16f04f09f7019dbafb8c43f44"), looks := false }, kinds := [], alts := [], laidByText := true, laidKinds := [.data], laidTests := true, laidLooks := .later }
def ControlAliveUptoCardSaid : Prop := Claim7.holds Tryd.pinned (.plain (OpenSpec.upto controlAliveSpec)) controlAliveUptoCard

/-- THE SECOND FORM's CARD OF 'gemellaw06.ControlDecodes'. -/
def controlDecodesUptoCard : Claim7 := { stood := { row := controlDecodesUptoRow, standIns := [], harness := (true, "c6eab20a46e417f1035ad9d5e5b6469e88df63b16f04f09f7019dbafb8c43f44"), looks := false }, kinds := [], alts := [], laidByText := true, laidKinds := [.data], laidTests := true, laidLooks := .later }
def ControlDecodesUptoCardSaid : Prop := Claim7.holds Tryd.pinned (.plain (OpenSpec.upto controlDecodesSpec)) controlDecodesUptoCard

/-- THE SECOND FORM's CARD OF 'gemellaw06.ControlLong'. -/
def controlLongUptoCard : Claim7 := { stood := { row := controlLongUptoRow, standIns := [], harness := (true, "c6eab20a46e417f1035ad9d5e5b6469e88df63b16f04f09f7019dbafb8c43f44"), looks := false }, kinds := [], alts := [], laidByText := true, laidKinds := [.data], laidTests := true, laidLooks := .later }
def ControlLongUptoCardSaid : Prop := Claim7.holds Tryd.pinned (.plain (OpenSpec.upto controlLongSpec)) controlLongUptoCard

/-- THE SECOND FORM's CARD OF 'gemellaw06.ControlBack'. -/
def controlBackUptoCard : Claim7 := { stood := { row := controlBackUptoRow, standIns := [], harness := (true, "c6eab20a46e417f1035ad9d5e5b6469e88df63b16f04f09f7019dbafb8c43f44"), looks := false }, kinds := [], alts := [], laidByText := true, laidKinds := [.data], laidTests := true, laidLooks := .later }
def ControlBackUptoCardSaid : Prop := Claim7.holds Tryd.pinned (.plain (OpenSpec.upto controlBackSpec)) controlBackUptoCard
end Rows
end Go.Proofs.YtkboghhmldokiaaDoor
