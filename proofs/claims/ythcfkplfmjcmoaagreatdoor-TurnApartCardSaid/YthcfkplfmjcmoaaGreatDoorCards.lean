/-
  DERIVED. GIVEN WITH THE SEED: THE CARDS: each row of YthcfkplfmjcmoaaGreatDoorRows.lean that lists a variable, with what it lists TIED to the program's text (the seventh form; the later family's looks); each row that meets fmt, with fmt's text TOLD by the authors' own Lean function (tested against real Go, not proved from fmt's source: count such statements apart). THE CARD IS WHAT COUNTS. Prove the row's statement (the work); the ties are given (YthcfkplfmjcmoaaGreatDoorTie.lean); close each card by the builder's one call (the guide's Derived/Test/ToyasCard.lean, 'card_holds'). Laid BY PROGRAM, IN A SANDBOX (cutbox-door.mjs). By AI agents, Wed Nov 11 2026. No macro, syntax, notation, axiom, sorry.
-/
import Derived.Test.YthcfkplfmjcmoaaGreatDoorRows
import GoSem.ClaimSeven
namespace Go.Proofs.YthcfkplfmjcmoaaGreatDoor
namespace Rows

/-- THE TIED CARD OF 'tendrillaw18.SoloRuns'. -/
def soloRunsCard : Claim7 := { stood := { row := soloRunsRow, standIns := [], harness := (true, "64a4423e15158d649a6060101deb912315bfe951b5a28832eb3a2372a6184900"), looks := true }, kinds := [], alts := [], laidByText := true, laidKinds := [.data], laidTests := true, laidLooks := .later }
def SoloRunsCardSaid : Prop := Claim7.holds Tryz.pinned (.plain (OpenSpec.ofChange soloRunsSpec)) soloRunsCard

/-- THE TIED CARD OF 'tendrillaw18.SoloAll'. -/
def soloAllCard : Claim7 := { stood := { row := soloAllRow, standIns := [], harness := (true, "64a4423e15158d649a6060101deb912315bfe951b5a28832eb3a2372a6184900"), looks := true }, kinds := [], alts := [], laidByText := true, laidKinds := [.data], laidTests := true, laidLooks := .later }
def SoloAllCardSaid : Prop := Claim7.holds Tryz.pinned (.plain (OpenSpec.ofChange soloAllSpec)) soloAllCard

/-- THE TIED CARD OF 'tendrillaw19.TurnApart'. -/
def turnApartCard : Claim7 := { stood := { row := turnApartRow, standIns := [], harness := (true, "64a4423e15158d649a6060101deb912315bfe951b5a28832eb3a2372a6184900"), looks := true }, kinds := [], alts := [], laidByText := true, laidKinds := [.data], laidTests := true, laidLooks := .later }
def TurnApartCardSaid : Prop := Claim7.holds Tryz.pinned (.plain (OpenSpec.ofChange turnApartSpec)) turnApartCard

/-- THE TIED CARD OF 'tendrillaw19.TurnSteps'. -/
def turnStepsCard : Claim7 := { stood := { row := turnStepsRow, standIns := [], harness := (true, "64a4423e15158d649a6060101deb912315bfe951b5a28832eb3a2372a6184900"), looks := true }, kinds := [], alts := [], laidByText := true, laidKinds := [.data], laidTests := true, laidLooks := .later }
def TurnStepsCardSaid : Prop := Claim7.holds Tryz.pinned (.plain (OpenSpec.ofChange turnStepsSpec)) turnStepsCard

/-- THE TIED CARD OF 'tendrillaw19.TurnNever'. -/
def turnNeverCard : Claim7 := { stood := { row := turnNeverRow, standIns := [], harness := (true, "64a4423e15158d649a6060101deb912315bfe951b5a28832eb3a2372a6184900"), looks := true }, kinds := [], alts := [], laidByText := true, laidKinds := [.data], laidTests := true, laidLooks := .later }
def TurnNeverCardSaid : Prop := Claim7.holds Tryz.pinned (.plain (OpenSpec.ofChange turnNeverSpec)) turnNeverCard

/-- THE TIED CARD OF 'tendrillaw19.TurnHistory'. -/
def turnHistoryCard : Claim7 := { stood := { row := turnHistoryRow, standIns := [], harness := (true, "64a4423e15158d649a6060101deb912315bfe951b5a28832eb3a2372a6184900"), looks := true }, kinds := [], alts := [], laidByText := true, laidKinds := [.data], laidTests := true, laidLooks := .later }
def TurnHistoryCardSaid : Prop := Claim7.holds Tryz.pinned (.plain (OpenSpec.ofChange turnHistorySpec)) turnHistoryCard

/-- THE TIED CARD OF 'tendrillaw21.DriveRuns'. -/
def driveRunsCard : Claim7 := { stood := { row := driveRunsRow, standIns := [], harness := (true, "64a4423e15158d649a6060101deb912315bfe951b5a28832eb3a2372a6184900"), looks := true }, kinds := [], alts := [], laidByText := true, laidKinds := [.data], laidTests := true, laidLooks := .later }
def DriveRunsCardSaid : Prop := Claim7.holds Tryz.pinned (.plain (OpenSpec.ofChange driveRunsSpec)) driveRunsCard

/-- THE TIED CARD OF 'tendrillaw21.DriveParts'. -/
def drivePartsCard : Claim7 := { stood := { row := drivePartsRow, standIns := [], harness := (true, "64a4423e15158d649a6060101deb912315bfe951b5a28832eb3a2372a6184900"), looks := true }, kinds := [], alts := [], laidByText := true, laidKinds := [.data], laidTests := true, laidLooks := .later }
def DrivePartsCardSaid : Prop := Claim7.holds Tryz.pinned (.plain (OpenSpec.ofChange drivePartsSpec)) drivePartsCard

/-- THE TIED CARD OF 'tendrillaw21.DrivePlays'. -/
def drivePlaysCard : Claim7 := { stood := { row := drivePlaysRow, standIns := [], harness := (true, "64a4423e15158d649a6060101deb912315bfe951b5a28832eb3a2372a6184900"), looks := true }, kinds := [], alts := [], laidByText := true, laidKinds := [.data], laidTests := true, laidLooks := .later }
def DrivePlaysCardSaid : Prop := Claim7.holds Tryz.pinned (.plain (OpenSpec.ofChange drivePlaysSpec)) drivePlaysCard

/-- THE TIED CARD OF 'tendrillaw21.DriveFinishes'. -/
def driveFinishesCard : Claim7 := { stood := { row := driveFinishesRow, standIns := [], harness := (true, "64a4423e15158d649a6060101deb912315bfe951b5a28832eb3a2372a6184900"), looks := true }, kinds := [], alts := [], laidByText := true, laidKinds := [.data], laidTests := true, laidLooks := .later }
def DriveFinishesCardSaid : Prop := Claim7.holds Tryz.pinned (.plain (OpenSpec.ofChange driveFinishesSpec)) driveFinishesCard

/-- THE SECOND FORM's CARD OF 'tendrillaw18.SoloRuns'. -/
def soloRunsUptoCard : Claim7 := { stood := { row := soloRunsUptoRow, standIns := [], harness := (true, "64a4423e15158d649a6060101deb912315bfe951b5a28832eb3a2372a6184900"), looks := true }, kinds := [], alts := [], laidByText := true, laidKinds := [.data], laidTests := true, laidLooks := .later }
def SoloRunsUptoCardSaid : Prop := Claim7.holds Tryz.pinned (.plain (OpenSpec.upto soloRunsSpec)) soloRunsUptoCard

/-- THE SECOND FORM's CARD OF 'tendrillaw18.SoloAll'. -/
def soloAllUptoCard : Claim7 := { stood := { row := soloAllUptoRow, standIns := [], harness := (true, "64a4423e15158d649a6060101deb912315bfe951b5a28832eb3a2372a6184900"), looks := true }, kinds := [], alts := [], laidByText := true, laidKinds := [.data], laidTests := true, laidLooks := .later }
def SoloAllUptoCardSaid : Prop := Claim7.holds Tryz.pinned (.plain (OpenSpec.upto soloAllSpec)) soloAllUptoCard

/-- THE SECOND FORM's CARD OF 'tendrillaw19.TurnApart'. -/
def turnApartUptoCard : Claim7 := { stood := { row := turnApartUptoRow, standIns := [], harness := (true, "64a4423e15158d649a6060101deb912315bfe951b5a28832eb3a2372a6184900"), looks := true }, kinds := [], alts := [], laidByText := true, laidKinds := [.data], laidTests := true, laidLooks := .later }
def TurnApartUptoCardSaid : Prop := Claim7.holds Tryz.pinned (.plain (OpenSpec.upto turnApartSpec)) turnApartUptoCard

/-- THE SECOND FORM's CARD OF 'tendrillaw19.TurnSteps'. -/
def turnStepsUptoCard : Claim7 := { stood := { row := turnStepsUptoRow, standIns := [], harness := (true, "64a4423e15158d649a6060101deb912315bfe951b5a28832eb3a2372a6184900"), looks := true }, kinds := [], alts := [], laidByText := true, laidKinds := [.data], laidTests := true, laidLooks := .later }
def TurnStepsUptoCardSaid : Prop := Claim7.holds Tryz.pinned (.plain (OpenSpec.upto turnStepsSpec)) turnStepsUptoCard

/-- THE SECOND FORM's CARD OF 'tendrillaw19.TurnNever'. -/
def turnNeverUptoCard : Claim7 := { stood := { row := turnNeverUptoRow, standIns := [], harness := (true, "64a4423e15158d649a6060101deb912315bfe951b5a28832eb3a2372a6184900"), looks := true }, kinds := [], alts := [], laidByText := true, laidKinds := [.data], laidTests := true, laidLooks := .later }
def TurnNeverUptoCardSaid : Prop := Claim7.holds Tryz.pinned (.plain (OpenSpec.upto turnNeverSpec)) turnNeverUptoCard

/-- THE SECOND FORM's CARD OF 'tendrillaw19.TurnHistory'. -/
def turnHistoryUptoCard : Claim7 := { stood := { row := turnHistoryUptoRow, standIns := [], harness := (true, "64a4423e15158d649a6060101deb912315bfe951b5a28832eb3a2372a6184900"), looks := true }, kinds := [], alts := [], laidByText := true, laidKinds := [.data], laidTests := true, laidLooks := .later }
def TurnHistoryUptoCardSaid : Prop := Claim7.holds Tryz.pinned (.plain (OpenSpec.upto turnHistorySpec)) turnHistoryUptoCard

/-- THE SECOND FORM's CARD OF 'tendrillaw21.DriveRuns'. -/
def driveRunsUptoCard : Claim7 := { stood := { row := driveRunsUptoRow, standIns := [], harness := (true, "64a4423e15158d649a6060101deb912315bfe951b5a28832eb3a2372a6184900"), looks := true }, kinds := [], alts := [], laidByText := true, laidKinds := [.data], laidTests := true, laidLooks := .later }
def DriveRunsUptoCardSaid : Prop := Claim7.holds Tryz.pinned (.plain (OpenSpec.upto driveRunsSpec)) driveRunsUptoCard

/-- THE SECOND FORM's CARD OF 'tendrillaw21.DriveParts'. -/
def drivePartsUptoCard : Claim7 := { stood := { row := drivePartsUptoRow, standIns := [], harness := (true, "64a4423e15158d649a6060101deb912315bfe951b5a28832eb3a2372a6184900"), looks := true }, kinds := [], alts := [], laidByText := true, laidKinds := [.data], laidTests := true, laidLooks := .later }
def DrivePartsUptoCardSaid : Prop := Claim7.holds Tryz.pinned (.plain (OpenSpec.upto drivePartsSpec)) drivePartsUptoCard

/-- THE SECOND FORM's CARD OF 'tendrillaw21.DrivePlays'. -/
def drivePlaysUptoCard : Claim7 := { stood := { row := drivePlaysUptoRow, standIns := [], harness := (true, "64a4423e15158d649a6060101deb912315bfe951b5a28832eb3a2372a6184900"), looks := true }, kinds := [], alts := [], laidByText := true, laidKinds := [.data], laidTests := true, laidLooks := .later }
def DrivePlaysUptoCardSaid : Prop := Claim7.holds Tryz.pinned (.plain (OpenSpec.upto drivePlaysSpec)) drivePlaysUptoCard

/-- THE SECOND FORM's CARD OF 'tendrillaw21.DriveFinishes'. -/
def driveFinishesUptoCard : Claim7 := { stood := { row := driveFinishesUptoRow, standIns := [], harness := (true, "64a4423e15158d649a6060101deb912315bfe951b5a28832eb3a2372a6184900"), looks := true }, kinds := [], alts := [], laidByText := true, laidKinds := [.data], laidTests := true, laidLooks := .later }
def DriveFinishesUptoCardSaid : Prop := Claim7.holds Tryz.pinned (.plain (OpenSpec.upto driveFinishesSpec)) driveFinishesUptoCard
end Rows
end Go.Proofs.YthcfkplfmjcmoaaGreatDoor
