/-
  DERIVED. GIVEN WITH THE SEED: THE CARDS: each row of YthebgpbofjgcoaaDoorRows.lean that lists a variable, with what it lists TIED to the program's text (the seventh form; the later family's looks); each row that meets fmt, with fmt's text TOLD by the authors' own Lean function (tested against real Go, not proved from fmt's source: count such statements apart). THE CARD IS WHAT COUNTS. Prove the row's statement (the work); the ties are given (YthebgpbofjgcoaaDoorTie.lean); close each card by the builder's one call (the guide's Derived/Test/ToyasCard.lean, 'card_holds'). Laid BY PROGRAM, IN A SANDBOX (cutbox-door.mjs). By AI agents, Wed Nov 11 2026. No macro, syntax, notation, axiom, sorry.
-/
import Derived.Test.YthebgpbofjgcoaaDoorRows
import GoSem.ClaimSeven
namespace Go.Proofs.YthebgpbofjgcoaaDoor
namespace Rows

/-- THE TIED CARD OF 'gemellaw22.ShakeScripts'. -/
def shakeScriptsCard : Claim7 := { stood := { row := shakeScriptsRow, standIns := [], harness := (true, "9dfc2cf41fe23d6fccd0cc87973f616a189849491912e7e53b757f8ab83d746d"), looks := false }, kinds := [], alts := [], laidByText := true, laidKinds := [.data], laidTests := true, laidLooks := .later }
def ShakeScriptsCardSaid : Prop := Claim7.holds Tryd.pinned (.plain (OpenSpec.ofChange shakeScriptsSpec)) shakeScriptsCard

/-- THE TIED CARD OF 'gemellaw22.ShakeOnce'. -/
def shakeOnceCard : Claim7 := { stood := { row := shakeOnceRow, standIns := [], harness := (true, "9dfc2cf41fe23d6fccd0cc87973f616a189849491912e7e53b757f8ab83d746d"), looks := false }, kinds := [], alts := [], laidByText := true, laidKinds := [.data], laidTests := true, laidLooks := .later }
def ShakeOnceCardSaid : Prop := Claim7.holds Tryd.pinned (.plain (OpenSpec.ofChange shakeOnceSpec)) shakeOnceCard

/-- THE TIED CARD OF 'gemellaw22.ShakeCalm'. -/
def shakeCalmCard : Claim7 := { stood := { row := shakeCalmRow, standIns := [], harness := (true, "9dfc2cf41fe23d6fccd0cc87973f616a189849491912e7e53b757f8ab83d746d"), looks := false }, kinds := [], alts := [], laidByText := true, laidKinds := [.data], laidTests := true, laidLooks := .later }
def ShakeCalmCardSaid : Prop := Claim7.holds Tryd.pinned (.plain (OpenSpec.ofChange shakeCalmSpec)) shakeCalmCard

/-- THE TIED CARD OF 'gemellaw22.ShakeAlone'. -/
def shakeAloneCard : Claim7 := { stood := { row := shakeAloneRow, standIns := [], harness := (true, "9dfc2cf41fe23d6fccd0cc87973f616a189849491912e7e53b757f8ab83d746d"), looks := false }, kinds := [], alts := [], laidByText := true, laidKinds := [.data], laidTests := true, laidLooks := .later }
def ShakeAloneCardSaid : Prop := Claim7.holds Tryd.pinned (.plain (OpenSpec.ofChange shakeAloneSpec)) shakeAloneCard

/-- THE TIED CARD OF 'gemellaw22.ShakeOwed'. -/
def shakeOwedCard : Claim7 := { stood := { row := shakeOwedRow, standIns := [], harness := (true, "9dfc2cf41fe23d6fccd0cc87973f616a189849491912e7e53b757f8ab83d746d"), looks := false }, kinds := [], alts := [], laidByText := true, laidKinds := [.data], laidTests := true, laidLooks := .later }
def ShakeOwedCardSaid : Prop := Claim7.holds Tryd.pinned (.plain (OpenSpec.ofChange shakeOwedSpec)) shakeOwedCard

/-- THE SECOND FORM's CARD OF 'gemellaw22.ShakeScripts'. -/
def shakeScriptsUptoCard : Claim7 := { stood := { row := shakeScriptsUptoRow, standIns := [], harness := (true, "9dfc2cf41fe23d6fccd0cc87973f616a189849491912e7e53b757f8ab83d746d"), looks := false }, kinds := [], alts := [], laidByText := true, laidKinds := [.data], laidTests := true, laidLooks := .later }
def ShakeScriptsUptoCardSaid : Prop := Claim7.holds Tryd.pinned (.plain (OpenSpec.upto shakeScriptsSpec)) shakeScriptsUptoCard

/-- THE SECOND FORM's CARD OF 'gemellaw22.ShakeOnce'. -/
def shakeOnceUptoCard : Claim7 := { stood := { row := shakeOnceUptoRow, standIns := [], harness := (true, "9dfc2cf41fe23d6fccd0cc87973f616a189849491912e7e53b757f8ab83d746d"), looks := false }, kinds := [], alts := [], laidByText := true, laidKinds := [.data], laidTests := true, laidLooks := .later }
def ShakeOnceUptoCardSaid : Prop := Claim7.holds Tryd.pinned (.plain (OpenSpec.upto shakeOnceSpec)) shakeOnceUptoCard

/-- THE SECOND FORM's CARD OF 'gemellaw22.ShakeCalm'. -/
def shakeCalmUptoCard : Claim7 := { stood := { row := shakeCalmUptoRow, standIns := [], harness := (true, "9dfc2cf41fe23d6fccd0cc87973f616a189849491912e7e53b757f8ab83d746d"), looks := false }, kinds := [], alts := [], laidByText := true, laidKinds := [.data], laidTests := true, laidLooks := .later }
def ShakeCalmUptoCardSaid : Prop := Claim7.holds Tryd.pinned (.plain (OpenSpec.upto shakeCalmSpec)) shakeCalmUptoCard

/-- THE SECOND FORM's CARD OF 'gemellaw22.ShakeAlone'. -/
def shakeAloneUptoCard : Claim7 := { stood := { row := shakeAloneUptoRow, standIns := [], harness := (true, "9dfc2cf41fe23d6fccd0cc87973f616a189849491912e7e53b757f8ab83d746d"), looks := false }, kinds := [], alts := [], laidByText := true, laidKinds := [.data], laidTests := true, laidLooks := .later }
def ShakeAloneUptoCardSaid : Prop := Claim7.holds Tryd.pinned (.plain (OpenSpec.upto shakeAloneSpec)) shakeAloneUptoCard

/-- THE SECOND FORM's CARD OF 'gemellaw22.ShakeOwed'. -/
def shakeOwedUptoCard : Claim7 := { stood := { row := shakeOwedUptoRow, standIns := [], harness := (true, "9dfc2cf41fe23d6fccd0cc87973f616a189849491912e7e53b757f8ab83d746d"), looks := false }, kinds := [], alts := [], laidByText := true, laidKinds := [.data], laidTests := true, laidLooks := .later }
def ShakeOwedUptoCardSaid : Prop := Claim7.holds Tryd.pinned (.plain (OpenSpec.upto shakeOwedSpec)) shakeOwedUptoCard
end Rows
end Go.Proofs.YthebgpbofjgcoaaDoor
