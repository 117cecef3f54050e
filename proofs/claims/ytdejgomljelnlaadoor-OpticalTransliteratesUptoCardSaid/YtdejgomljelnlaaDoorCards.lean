/-
  DERIVED. GIVEN WITH THE SEED: THE CARDS: each row of YtdejgomljelnlaaDoorRows.lean that lists a variable, with what it lists TIED to the program's text (the seventh form; the later family's looks); each row that meets fmt, with fmt's text TOLD by the authors' own Lean function (tested against real Go, not proved from fmt's source: count such statements apart). THE CARD IS WHAT COUNTS. Prove the row's statement (the work); the ties are given (YtdejgomljelnlaaDoorTie.lean); close each card by the builder's one call (the guide's Derived/Test/ToyasCard.lean, 'card_holds'). Laid BY PROGRAM, IN A SANDBOX (cutbox-door.mjs). By AI agents, Wed Nov 11 2026. No macro, syntax, notation, axiom, sorry.
-/
import Derived.Test.YtdejgomljelnlaaDoorRows
import GoSem.ClaimSeven
namespace Go.Proofs.YtdejgomljelnlaaDoor
namespace Rows

/-- THE TIED CARD OF 'traveldoclaw10.OpticalDigits'. -/
def opticalDigitsCard : Claim7 := { stood := { row := opticalDigitsRow, standIns := [], harness := (true, "f0ec01d1970d040a653d6a7db09352831cbc4ade09e6ac0d565921a8546baafb"), looks := false }, kinds := [], alts := [], laidByText := true, laidKinds := [.data, .pinned], laidTests := true, laidLooks := .later }
def OpticalDigitsCardSaid : Prop := Claim7.holds Tryd.pinned (.plain (OpenSpec.ofChange opticalDigitsSpec)) opticalDigitsCard

/-- THE TIED CARD OF 'traveldoclaw10.OpticalNames'. -/
def opticalNamesCard : Claim7 := { stood := { row := opticalNamesRow, standIns := [], harness := (true, "f0ec01d1970d040a653d6a7db09352831cbc4ade09e6ac0d565921a8546baafb"), looks := false }, kinds := [], alts := [], laidByText := true, laidKinds := [.data, .pinned], laidTests := true, laidLooks := .later }
def OpticalNamesCardSaid : Prop := Claim7.holds Tryd.pinned (.plain (OpenSpec.ofChange opticalNamesSpec)) opticalNamesCard

/-- THE TIED CARD OF 'traveldoclaw10.OpticalOneDigit'. -/
def opticalOneDigitCard : Claim7 := { stood := { row := opticalOneDigitRow, standIns := [], harness := (true, "f0ec01d1970d040a653d6a7db09352831cbc4ade09e6ac0d565921a8546baafb"), looks := false }, kinds := [], alts := [], laidByText := true, laidKinds := [.data, .pinned], laidTests := true, laidLooks := .later }
def OpticalOneDigitCardSaid : Prop := Claim7.holds Tryd.pinned (.plain (OpenSpec.ofChange opticalOneDigitSpec)) opticalOneDigitCard

/-- THE TIED CARD OF 'traveldoclaw10.OpticalSplits'. -/
def opticalSplitsCard : Claim7 := { stood := { row := opticalSplitsRow, standIns := [], harness := (true, "f0ec01d1970d040a653d6a7db09352831cbc4ade09e6ac0d565921a8546baafb"), looks := false }, kinds := [], alts := [], laidByText := true, laidKinds := [.data, .pinned], laidTests := true, laidLooks := .later }
def OpticalSplitsCardSaid : Prop := Claim7.holds Tryd.pinned (.plain (OpenSpec.ofChange opticalSplitsSpec)) opticalSplitsCard

/-- THE TIED CARD OF 'traveldoclaw10.OpticalReturns'. -/
def opticalReturnsCard : Claim7 := { stood := { row := opticalReturnsRow, standIns := [], harness := (true, "f0ec01d1970d040a653d6a7db09352831cbc4ade09e6ac0d565921a8546baafb"), looks := false }, kinds := [], alts := [], laidByText := true, laidKinds := [.data, .pinned], laidTests := true, laidLooks := .later }
def OpticalReturnsCardSaid : Prop := Claim7.holds Tryd.pinned (.plain (OpenSpec.ofChange opticalReturnsSpec)) opticalReturnsCard

/-- THE TIED CARD OF 'traveldoclaw10.OpticalTransliterates'. -/
def opticalTransliteratesCard : Claim7 := { stood := { row := opticalTransliteratesRow, standIns := [], harness := (true, "f0ec01d1970d040a653d6a7db09352831cbc4ade09e6ac0d565921a8546baafb"), looks := false }, kinds := [], alts := [], laidByText := true, laidKinds := [.data, .data, .listed, .data, .pinned, .pinned], laidTests := true, laidLooks := .later }
def OpticalTransliteratesCardSaid : Prop := Claim7.holds Tryd.pinned (.plain (OpenSpec.ofChange opticalTransliteratesSpec)) opticalTransliteratesCard

/-- THE SECOND FORM's CARD OF 'traveldoclaw10.OpticalDigits'. -/
def opticalDigitsUptoCard : Claim7 := { stood := { row := opticalDigitsUptoRow, standIns := [], harness := (true, "f0ec01d1970d040a653d6a7db09352831cbc4ade09e6ac0d565921a8546baafb"), looks := false }, kinds := [], alts := [], laidByText := true, laidKinds := [.data, .pinned], laidTests := true, laidLooks := .later }
def OpticalDigitsUptoCardSaid : Prop := Claim7.holds Tryd.pinned (.plain (OpenSpec.upto opticalDigitsSpec)) opticalDigitsUptoCard

/-- THE SECOND FORM's CARD OF 'traveldoclaw10.OpticalNames'. -/
def opticalNamesUptoCard : Claim7 := { stood := { row := opticalNamesUptoRow, standIns := [], harness := (true, "f0ec01d1970d040a653d6a7db09352831cbc4ade09e6ac0d565921a8546baafb"), looks := false }, kinds := [], alts := [], laidByText := true, laidKinds := [.data, .pinned], laidTests := true, laidLooks := .later }
def OpticalNamesUptoCardSaid : Prop := Claim7.holds Tryd.pinned (.plain (OpenSpec.upto opticalNamesSpec)) opticalNamesUptoCard

/-- THE SECOND FORM's CARD OF 'traveldoclaw10.OpticalOneDigit'. -/
def opticalOneDigitUptoCard : Claim7 := { stood := { row := opticalOneDigitUptoRow, standIns := [], harness := (true, "f0ec01d1970d040a653d6a7db09352831cbc4ade09e6ac0d565921a8546baafb"), looks := false }, kinds := [], alts := [], laidByText := true, laidKinds := [.data, .pinned], laidTests := true, laidLooks := .later }
def OpticalOneDigitUptoCardSaid : Prop := Claim7.holds Tryd.pinned (.plain (OpenSpec.upto opticalOneDigitSpec)) opticalOneDigitUptoCard

/-- THE SECOND FORM's CARD OF 'traveldoclaw10.OpticalSplits'. -/
def opticalSplitsUptoCard : Claim7 := { stood := { row := opticalSplitsUptoRow, standIns := [], harness := (true, "f0ec01d1970d040a653d6a7db09352831cbc4ade09e6ac0d565921a8546baafb"), looks := false }, kinds := [], alts := [], laidByText := true, laidKinds := [.data, .pinned], laidTests := true, laidLooks := .later }
def OpticalSplitsUptoCardSaid : Prop := Claim7.holds Tryd.pinned (.plain (OpenSpec.upto opticalSplitsSpec)) opticalSplitsUptoCard

/-- THE SECOND FORM's CARD OF 'traveldoclaw10.OpticalReturns'. -/
def opticalReturnsUptoCard : Claim7 := { stood := { row := opticalReturnsUptoRow, standIns := [], harness := (true, "f0ec01d1970d040a653d6a7db09352831cbc4ade09e6ac0d565921a8546baafb"), looks := false }, kinds := [], alts := [], laidByText := true, laidKinds := [.data, .pinned], laidTests := true, laidLooks := .later }
def OpticalReturnsUptoCardSaid : Prop := Claim7.holds Tryd.pinned (.plain (OpenSpec.upto opticalReturnsSpec)) opticalReturnsUptoCard

/-- THE SECOND FORM's CARD OF 'traveldoclaw10.OpticalTransliterates'. -/
def opticalTransliteratesUptoCard : Claim7 := { stood := { row := opticalTransliteratesUptoRow, standIns := [], harness := (true, "f0ec01d1970d040a653d6a7db09352831cbc4ade09e6ac0d565921a8546baafb"), looks := false }, kinds := [], alts := [], laidByText := true, laidKinds := [.data, .data, .listed, .data, .pinned, .pinned], laidTests := true, laidLooks := .later }
def OpticalTransliteratesUptoCardSaid : Prop := Claim7.holds Tryd.pinned (.plain (OpenSpec.upto opticalTransliteratesSpec)) opticalTransliteratesUptoCard
end Rows
end Go.Proofs.YtdejgomljelnlaaDoor
