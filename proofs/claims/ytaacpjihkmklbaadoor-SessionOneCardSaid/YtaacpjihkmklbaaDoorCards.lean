/-
  DERIVED. GIVEN WITH THE SEED: THE CARDS: each row of YtaacpjihkmklbaaDoorRows.lean that lists a variable, with what it lists TIED to the program's text (the seventh form; the later family's looks); each row that meets fmt, with fmt's text TOLD by the authors' own Lean function (tested against real Go, not proved from fmt's source: count such statements apart). THE CARD IS WHAT COUNTS. Prove the row's statement (the work); the ties are given (YtaacpjihkmklbaaDoorTie.lean); close each card by the builder's one call (the guide's Derived/Test/ToyasCard.lean, 'card_holds'). Laid BY PROGRAM, IN A SANDBOX (cutbox-door.mjs). By AI agents, Wed Nov 11 2026. No macro, syntax, notation, axiom, sorry.
-/
import Derived.Test.YtaacpjihkmklbaaDoorRows
import GoSem.ClaimSeven
namespace Go.Proofs.YtaacpjihkmklbaaDoor
namespace Rows

/-- THE TIED CARD OF 'gemellaw21.SessionMeets'. -/
def sessionMeetsCard : Claim7 := { stood := { row := sessionMeetsRow, standIns := [], harness := (true, "8f2598ce25598aba641536780c6e3a545c6111180b5a7e09d5fc3b87fb07de58"), looks := false }, kinds := [], alts := [], laidByText := true, laidKinds := [.data], laidTests := true, laidLooks := .later }
def SessionMeetsCardSaid : Prop := Claim7.holds Tryd.pinned (.plain (OpenSpec.ofChange sessionMeetsSpec)) sessionMeetsCard

/-- THE TIED CARD OF 'gemellaw21.SessionSticks'. -/
def sessionSticksCard : Claim7 := { stood := { row := sessionSticksRow, standIns := [], harness := (true, "8f2598ce25598aba641536780c6e3a545c6111180b5a7e09d5fc3b87fb07de58"), looks := false }, kinds := [], alts := [], laidByText := true, laidKinds := [.data], laidTests := true, laidLooks := .later }
def SessionSticksCardSaid : Prop := Claim7.holds Tryd.pinned (.plain (OpenSpec.ofChange sessionSticksSpec)) sessionSticksCard

/-- THE TIED CARD OF 'gemellaw21.SessionOne'. -/
def sessionOneCard : Claim7 := { stood := { row := sessionOneRow, standIns := [], harness := (true, "8f2598ce25598aba641536780c6e3a545c6111180b5a7e09d5fc3b87fb07de58"), looks := false }, kinds := [], alts := [], laidByText := true, laidKinds := [.data], laidTests := true, laidLooks := .later }
def SessionOneCardSaid : Prop := Claim7.holds Tryd.pinned (.plain (OpenSpec.ofChange sessionOneSpec)) sessionOneCard

/-- THE TIED CARD OF 'gemellaw21.SessionScripts'. -/
def sessionScriptsCard : Claim7 := { stood := { row := sessionScriptsRow, standIns := [], harness := (true, "8f2598ce25598aba641536780c6e3a545c6111180b5a7e09d5fc3b87fb07de58"), looks := false }, kinds := [], alts := [], laidByText := true, laidKinds := [.data], laidTests := true, laidLooks := .later }
def SessionScriptsCardSaid : Prop := Claim7.holds Tryd.pinned (.plain (OpenSpec.ofChange sessionScriptsSpec)) sessionScriptsCard

/-- THE TIED CARD OF 'gemellaw21.SessionRises'. -/
def sessionRisesCard : Claim7 := { stood := { row := sessionRisesRow, standIns := [], harness := (true, "8f2598ce25598aba641536780c6e3a545c6111180b5a7e09d5fc3b87fb07de58"), looks := false }, kinds := [], alts := [], laidByText := true, laidKinds := [.data], laidTests := true, laidLooks := .later }
def SessionRisesCardSaid : Prop := Claim7.holds Tryd.pinned (.plain (OpenSpec.ofChange sessionRisesSpec)) sessionRisesCard

/-- THE SECOND FORM's CARD OF 'gemellaw21.SessionMeets'. -/
def sessionMeetsUptoCard : Claim7 := { stood := { row := sessionMeetsUptoRow, standIns := [], harness := (true, "8f2598ce25598aba641536780c6e3a545c6111180b5a7e09d5fc3b87fb07de58"), looks := false }, kinds := [], alts := [], laidByText := true, laidKinds := [.data], laidTests := true, laidLooks := .later }
def SessionMeetsUptoCardSaid : Prop := Claim7.holds Tryd.pinned (.plain (OpenSpec.upto sessionMeetsSpec)) sessionMeetsUptoCard

/-- THE SECOND FORM's CARD OF 'gemellaw21.SessionSticks'. -/
def sessionSticksUptoCard : Claim7 := { stood := { row := sessionSticksUptoRow, standIns := [], harness := (true, "8f2598ce25598aba641536780c6e3a545c6111180b5a7e09d5fc3b87fb07de58"), looks := false }, kinds := [], alts := [], laidByText := true, laidKinds := [.data], laidTests := true, laidLooks := .later }
def SessionSticksUptoCardSaid : Prop := Claim7.holds Tryd.pinned (.plain (OpenSpec.upto sessionSticksSpec)) sessionSticksUptoCard

/-- THE SECOND FORM's CARD OF 'gemellaw21.SessionOne'. -/
def sessionOneUptoCard : Claim7 := { stood := { row := sessionOneUptoRow, standIns := [], harness := (true, "8f2598ce25598aba641536780c6e3a545c6111180b5a7e09d5fc3b87fb07de58"), looks := false }, kinds := [], alts := [], laidByText := true, laidKinds := [.data], laidTests := true, laidLooks := .later }
def SessionOneUptoCardSaid : Prop := Claim7.holds Tryd.pinned (.plain (OpenSpec.upto sessionOneSpec)) sessionOneUptoCard

/-- THE SECOND FORM's CARD OF 'gemellaw21.SessionScripts'. -/
def sessionScriptsUptoCard : Claim7 := { stood := { row := sessionScriptsUptoRow, standIns := [], harness := (true, "8f2598ce25598aba641536780c6e3a545c6111180b5a7e09d5fc3b87fb07de58"), looks := false }, kinds := [], alts := [], laidByText := true, laidKinds := [.data], laidTests := true, laidLooks := .later }
def SessionScriptsUptoCardSaid : Prop := Claim7.holds Tryd.pinned (.plain (OpenSpec.upto sessionScriptsSpec)) sessionScriptsUptoCard

/-- THE SECOND FORM's CARD OF 'gemellaw21.SessionRises'. -/
def sessionRisesUptoCard : Claim7 := { stood := { row := sessionRisesUptoRow, standIns := [], harness := (true, "8f2598ce25598aba641536780c6e3a545c6111180b5a7e09d5fc3b87fb07de58"), looks := false }, kinds := [], alts := [], laidByText := true, laidKinds := [.data], laidTests := true, laidLooks := .later }
def SessionRisesUptoCardSaid : Prop := Claim7.holds Tryd.pinned (.plain (OpenSpec.upto sessionRisesSpec)) sessionRisesUptoCard
end Rows
end Go.Proofs.YtaacpjihkmklbaaDoor
