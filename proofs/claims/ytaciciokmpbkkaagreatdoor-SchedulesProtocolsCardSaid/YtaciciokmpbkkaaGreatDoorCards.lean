/-
  DERIVED. GIVEN WITH THE SEED: THE CARDS: each row of YtaciciokmpbkkaaGreatDoorRows.lean that lists a variable, with what it lists TIED to the program's text (the seventh form; the later family's looks); each row that meets fmt, with fmt's text TOLD by the authors' own Lean function (tested against real Go, not proved from fmt's source: count such statements apart). THE CARD IS WHAT COUNTS. Prove the row's statement (the work); the ties are given (YtaciciokmpbkkaaGreatDoorTie.lean); close each card by the builder's one call (the guide's Derived/Test/ToyasCard.lean, 'card_holds'). Laid BY PROGRAM, IN A SANDBOX (cutbox-door.mjs). By AI agents, Wed Nov 11 2026. No macro, syntax, notation, axiom, sorry.
-/
import Derived.Test.YtaciciokmpbkkaaGreatDoorRows
import GoSem.ClaimSeven
namespace Go.Proofs.YtaciciokmpbkkaaGreatDoor
namespace Rows

/-- THE TIED CARD OF 'traveldoclaw43.SchedulesRaw'. -/
def schedulesRawCard : Claim7 := { stood := { row := schedulesRawRow, standIns := [], harness := (true, "c5b821c61f30a9a7847610dcad3a297673c99abbc5083797db26a3a7bd8dee25"), looks := false }, kinds := [], alts := [], laidByText := true, laidKinds := [.data, .data, .data], laidTests := true, laidLooks := .later }
def SchedulesRawCardSaid : Prop := Claim7.holds Tryz.pinned (.plain (OpenSpec.ofChange schedulesRawSpec)) schedulesRawCard

/-- THE TIED CARD OF 'traveldoclaw43.SchedulesExplores'. -/
def schedulesExploresCard : Claim7 := { stood := { row := schedulesExploresRow, standIns := [], harness := (true, "c5b821c61f30a9a7847610dcad3a297673c99abbc5083797db26a3a7bd8dee25"), looks := false }, kinds := [], alts := [], laidByText := true, laidKinds := [.data, .data, .data], laidTests := true, laidLooks := .later }
def SchedulesExploresCardSaid : Prop := Claim7.holds Tryz.pinned (.plain (OpenSpec.ofChange schedulesExploresSpec)) schedulesExploresCard

/-- THE TIED CARD OF 'traveldoclaw43.SchedulesSteps'. -/
def schedulesStepsCard : Claim7 := { stood := { row := schedulesStepsRow, standIns := [], harness := (true, "c5b821c61f30a9a7847610dcad3a297673c99abbc5083797db26a3a7bd8dee25"), looks := false }, kinds := [], alts := [], laidByText := true, laidKinds := [.data, .data, .data], laidTests := true, laidLooks := .later }
def SchedulesStepsCardSaid : Prop := Claim7.holds Tryz.pinned (.plain (OpenSpec.ofChange schedulesStepsSpec)) schedulesStepsCard

/-- THE TIED CARD OF 'traveldoclaw43.SchedulesAttacks'. -/
def schedulesAttacksCard : Claim7 := { stood := { row := schedulesAttacksRow, standIns := [], harness := (true, "c5b821c61f30a9a7847610dcad3a297673c99abbc5083797db26a3a7bd8dee25"), looks := false }, kinds := [], alts := [], laidByText := true, laidKinds := [.data, .data, .data], laidTests := true, laidLooks := .later }
def SchedulesAttacksCardSaid : Prop := Claim7.holds Tryz.pinned (.plain (OpenSpec.ofChange schedulesAttacksSpec)) schedulesAttacksCard

/-- THE TIED CARD OF 'traveldoclaw43.SchedulesProtocols'. -/
def schedulesProtocolsCard : Claim7 := { stood := { row := schedulesProtocolsRow, standIns := [], harness := (true, "c5b821c61f30a9a7847610dcad3a297673c99abbc5083797db26a3a7bd8dee25"), looks := false }, kinds := [], alts := [], laidByText := true, laidKinds := [.data, .data, .data], laidTests := true, laidLooks := .later }
def SchedulesProtocolsCardSaid : Prop := Claim7.holds Tryz.pinned (.plain (OpenSpec.ofChange schedulesProtocolsSpec)) schedulesProtocolsCard

/-- THE TIED CARD OF 'traveldoclaw43.SchedulesFollows'. -/
def schedulesFollowsCard : Claim7 := { stood := { row := schedulesFollowsRow, standIns := [], harness := (true, "c5b821c61f30a9a7847610dcad3a297673c99abbc5083797db26a3a7bd8dee25"), looks := false }, kinds := [], alts := [], laidByText := true, laidKinds := [.data, .data, .data], laidTests := true, laidLooks := .later }
def SchedulesFollowsCardSaid : Prop := Claim7.holds Tryz.pinned (.plain (OpenSpec.ofChange schedulesFollowsSpec)) schedulesFollowsCard

/-- THE SECOND FORM's CARD OF 'traveldoclaw43.SchedulesRaw'. -/
def schedulesRawUptoCard : Claim7 := { stood := { row := schedulesRawUptoRow, standIns := [], harness := (true, "c5b821c61f30a9a7847610dcad3a297673c99abbc5083797db26a3a7bd8dee25"), looks := false }, kinds := [], alts := [], laidByText := true, laidKinds := [.data, .data, .data], laidTests := true, laidLooks := .later }
def SchedulesRawUptoCardSaid : Prop := Claim7.holds Tryz.pinned (.plain (OpenSpec.upto schedulesRawSpec)) schedulesRawUptoCard

/-- THE SECOND FORM's CARD OF 'traveldoclaw43.SchedulesExplores'. -/
def schedulesExploresUptoCard : Claim7 := { stood := { row := schedulesExploresUptoRow, standIns := [], harness := (true, "c5b821c61f30a9a7847610dcad3a297673c99abbc5083797db26a3a7bd8dee25"), looks := false }, kinds := [], alts := [], laidByText := true, laidKinds := [.data, .data, .data], laidTests := true, laidLooks := .later }
def SchedulesExploresUptoCardSaid : Prop := Claim7.holds Tryz.pinned (.plain (OpenSpec.upto schedulesExploresSpec)) schedulesExploresUptoCard

/-- THE SECOND FORM's CARD OF 'traveldoclaw43.SchedulesSteps'. -/
def schedulesStepsUptoCard : Claim7 := { stood := { row := schedulesStepsUptoRow, standIns := [], harness := (true, "c5b821c61f30a9a7847610dcad3a297673c99abbc5083797db26a3a7bd8dee25"), looks := false }, kinds := [], alts := [], laidByText := true, laidKinds := [.data, .data, .data], laidTests := true, laidLooks := .later }
def SchedulesStepsUptoCardSaid : Prop := Claim7.holds Tryz.pinned (.plain (OpenSpec.upto schedulesStepsSpec)) schedulesStepsUptoCard

/-- THE SECOND FORM's CARD OF 'traveldoclaw43.SchedulesAttacks'. -/
def schedulesAttacksUptoCard : Claim7 := { stood := { row := schedulesAttacksUptoRow, standIns := [], harness := (true, "c5b821c61f30a9a7847610dcad3a297673c99abbc5083797db26a3a7bd8dee25"), looks := false }, kinds := [], alts := [], laidByText := true, laidKinds := [.data, .data, .data], laidTests := true, laidLooks := .later }
def SchedulesAttacksUptoCardSaid : Prop := Claim7.holds Tryz.pinned (.plain (OpenSpec.upto schedulesAttacksSpec)) schedulesAttacksUptoCard

/-- THE SECOND FORM's CARD OF 'traveldoclaw43.SchedulesProtocols'. -/
def schedulesProtocolsUptoCard : Claim7 := { stood := { row := schedulesProtocolsUptoRow, standIns := [], harness := (true, "c5b821c61f30a9a7847610dcad3a297673c99abbc5083797db26a3a7bd8dee25"), looks := false }, kinds := [], alts := [], laidByText := true, laidKinds := [.data, .data, .data], laidTests := true, laidLooks := .later }
def SchedulesProtocolsUptoCardSaid : Prop := Claim7.holds Tryz.pinned (.plain (OpenSpec.upto schedulesProtocolsSpec)) schedulesProtocolsUptoCard

/-- THE SECOND FORM's CARD OF 'traveldoclaw43.SchedulesFollows'. -/
def schedulesFollowsUptoCard : Claim7 := { stood := { row := schedulesFollowsUptoRow, standIns := [], harness := (true, "c5b821c61f30a9a7847610dcad3a297673c99abbc5083797db26a3a7bd8dee25"), looks := false }, kinds := [], alts := [], laidByText := true, laidKinds := [.data, .data, .data], laidTests := true, laidLooks := .later }
def SchedulesFollowsUptoCardSaid : Prop := Claim7.holds Tryz.pinned (.plain (OpenSpec.upto schedulesFollowsSpec)) schedulesFollowsUptoCard
end Rows
end Go.Proofs.YtaciciokmpbkkaaGreatDoor
