/-
  DERIVED. GIVEN WITH THE SEED: THE CARDS: each row of YteoeolfcpmalfaaGreatDoorRows.lean that lists a variable, with what it lists TIED to the program's text (the seventh form; the later family's looks); each row that meets fmt, with fmt's text TOLD by the authors' own Lean function (tested against real Go, not proved from fmt's source: count such statements apart). THE CARD IS WHAT COUNTS. Prove the row's statement (the work); the ties are given (YteoeolfcpmalfaaGreatDoorTie.lean); close each card by the builder's one call (the guide's Derived/Test/ToyasCard.lean, 'card_holds'). Laid BY PROGRAM, IN A SANDBOX (cutbox-door.mjs). By AI agents, Wed Nov 11 2026. No macro, syntax, notation, axiom, sorry.
-/
import Derived.Test.YteoeolfcpmalfaaGreatDoorRows
import GoSem.ClaimSeven
namespace Go.Proofs.YteoeolfcpmalfaaGreatDoor
namespace Rows

/-- THE TIED CARD OF 'tendrillaw17.CodeNext'. -/
def codeNextCard : Claim7 := { stood := { row := codeNextRow, standIns := [], harness := (true, "a0336881c3c877d2b20788089af47d0ddd9dc5947998434b6220f6b9edd2ced8"), looks := true }, kinds := [], alts := [], laidByText := true, laidKinds := [.data], laidTests := true, laidLooks := .later }
def CodeNextCardSaid : Prop := Claim7.holds Tryz.pinned (.plain (OpenSpec.ofChange codeNextSpec)) codeNextCard

/-- THE TIED CARD OF 'tendrillaw17.CodeAll'. -/
def codeAllCard : Claim7 := { stood := { row := codeAllRow, standIns := [], harness := (true, "a0336881c3c877d2b20788089af47d0ddd9dc5947998434b6220f6b9edd2ced8"), looks := true }, kinds := [], alts := [], laidByText := true, laidKinds := [.data], laidTests := true, laidLooks := .later }
def CodeAllCardSaid : Prop := Claim7.holds Tryz.pinned (.plain (OpenSpec.ofChange codeAllSpec)) codeAllCard

/-- THE TIED CARD OF 'tendrillaw17.CodeSteps'. -/
def codeStepsCard : Claim7 := { stood := { row := codeStepsRow, standIns := [], harness := (true, "a0336881c3c877d2b20788089af47d0ddd9dc5947998434b6220f6b9edd2ced8"), looks := true }, kinds := [], alts := [], laidByText := true, laidKinds := [.data], laidTests := true, laidLooks := .later }
def CodeStepsCardSaid : Prop := Claim7.holds Tryz.pinned (.plain (OpenSpec.ofChange codeStepsSpec)) codeStepsCard

/-- THE TIED CARD OF 'tendrillaw17.CodeEnds'. -/
def codeEndsCard : Claim7 := { stood := { row := codeEndsRow, standIns := [], harness := (true, "a0336881c3c877d2b20788089af47d0ddd9dc5947998434b6220f6b9edd2ced8"), looks := true }, kinds := [], alts := [], laidByText := true, laidKinds := [.data], laidTests := true, laidLooks := .later }
def CodeEndsCardSaid : Prop := Claim7.holds Tryz.pinned (.plain (OpenSpec.ofChange codeEndsSpec)) codeEndsCard

/-- THE TIED CARD OF 'tendrillaw17.CodeWrites'. -/
def codeWritesCard : Claim7 := { stood := { row := codeWritesRow, standIns := [], harness := (true, "a0336881c3c877d2b20788089af47d0ddd9dc5947998434b6220f6b9edd2ced8"), looks := true }, kinds := [], alts := [], laidByText := true, laidKinds := [.data], laidTests := true, laidLooks := .later }
def CodeWritesCardSaid : Prop := Claim7.holds Tryz.pinned (.plain (OpenSpec.ofChange codeWritesSpec)) codeWritesCard

/-- THE TIED CARD OF 'tendrillaw17.CodeFails'. -/
def codeFailsCard : Claim7 := { stood := { row := codeFailsRow, standIns := [], harness := (true, "a0336881c3c877d2b20788089af47d0ddd9dc5947998434b6220f6b9edd2ced8"), looks := true }, kinds := [], alts := [], laidByText := true, laidKinds := [.data], laidTests := true, laidLooks := .later }
def CodeFailsCardSaid : Prop := Claim7.holds Tryz.pinned (.plain (OpenSpec.ofChange codeFailsSpec)) codeFailsCard

/-- THE TIED CARD OF 'tendrillaw17.CodeLatches'. -/
def codeLatchesCard : Claim7 := { stood := { row := codeLatchesRow, standIns := [], harness := (true, "a0336881c3c877d2b20788089af47d0ddd9dc5947998434b6220f6b9edd2ced8"), looks := true }, kinds := [], alts := [], laidByText := true, laidKinds := [.data], laidTests := true, laidLooks := .later }
def CodeLatchesCardSaid : Prop := Claim7.holds Tryz.pinned (.plain (OpenSpec.ofChange codeLatchesSpec)) codeLatchesCard

/-- THE SECOND FORM's CARD OF 'tendrillaw17.CodeNext'. -/
def codeNextUptoCard : Claim7 := { stood := { row := codeNextUptoRow, standIns := [], harness := (true, "a0336881c3c877d2b20788089af47d0ddd9dc5947998434b6220f6b9edd2ced8"), looks := true }, kinds := [], alts := [], laidByText := true, laidKinds := [.data], laidTests := true, laidLooks := .later }
def CodeNextUptoCardSaid : Prop := Claim7.holds Tryz.pinned (.plain (OpenSpec.upto codeNextSpec)) codeNextUptoCard

/-- THE SECOND FORM's CARD OF 'tendrillaw17.CodeAll'. -/
def codeAllUptoCard : Claim7 := { stood := { row := codeAllUptoRow, standIns := [], harness := (true, "a0336881c3c877d2b20788089af47d0ddd9dc5947998434b6220f6b9edd2ced8"), looks := true }, kinds := [], alts := [], laidByText := true, laidKinds := [.data], laidTests := true, laidLooks := .later }
def CodeAllUptoCardSaid : Prop := Claim7.holds Tryz.pinned (.plain (OpenSpec.upto codeAllSpec)) codeAllUptoCard

/-- THE SECOND FORM's CARD OF 'tendrillaw17.CodeSteps'. -/
def codeStepsUptoCard : Claim7 := { stood := { row := codeStepsUptoRow, standIns := [], harness := (true, "a0336881c3c877d2b20788089af47d0ddd9dc5947998434b6220f6b9edd2ced8"), looks := true }, kinds := [], alts := [], laidByText := true, laidKinds := [.data], laidTests := true, laidLooks := .later }
def CodeStepsUptoCardSaid : Prop := Claim7.holds Tryz.pinned (.plain (OpenSpec.upto codeStepsSpec)) codeStepsUptoCard

/-- THE SECOND FORM's CARD OF 'tendrillaw17.CodeEnds'. -/
def codeEndsUptoCard : Claim7 := { stood := { row := codeEndsUptoRow, standIns := [], harness := (true, "a0336881c3c877d2b20788089af47d0ddd9dc5947998434b6220f6b9edd2ced8"), looks := true }, kinds := [], alts := [], laidByText := true, laidKinds := [.data], laidTests := true, laidLooks := .later }
def CodeEndsUptoCardSaid : Prop := Claim7.holds Tryz.pinned (.plain (OpenSpec.upto codeEndsSpec)) codeEndsUptoCard

/-- THE SECOND FORM's CARD OF 'tendrillaw17.CodeWrites'. -/
def codeWritesUptoCard : Claim7 := { stood := { row := codeWritesUptoRow, standIns := [], harness := (true, "a0336881c3c877d2b20788089af47d0ddd9dc5947998434b6220f6b9edd2ced8"), looks := true }, kinds := [], alts := [], laidByText := true, laidKinds := [.data], laidTests := true, laidLooks := .later }
def CodeWritesUptoCardSaid : Prop := Claim7.holds Tryz.pinned (.plain (OpenSpec.upto codeWritesSpec)) codeWritesUptoCard

/-- THE SECOND FORM's CARD OF 'tendrillaw17.CodeFails'. -/
def codeFailsUptoCard : Claim7 := { stood := { row := codeFailsUptoRow, standIns := [], harness := (true, "a0336881c3c877d2b20788089af47d0ddd9dc5947998434b6220f6b9edd2ced8"), looks := true }, kinds := [], alts := [], laidByText := true, laidKinds := [.data], laidTests := true, laidLooks := .later }
def CodeFailsUptoCardSaid : Prop := Claim7.holds Tryz.pinned (.plain (OpenSpec.upto codeFailsSpec)) codeFailsUptoCard

/-- THE SECOND FORM's CARD OF 'tendrillaw17.CodeLatches'. -/
def codeLatchesUptoCard : Claim7 := { stood := { row := codeLatchesUptoRow, standIns := [], harness := (true, "a0336881c3c877d2b20788089af47d0ddd9dc5947998434b6220f6b9edd2ced8"), looks := true }, kinds := [], alts := [], laidByText := true, laidKinds := [.data], laidTests := true, laidLooks := .later }
def CodeLatchesUptoCardSaid : Prop := Claim7.holds Tryz.pinned (.plain (OpenSpec.upto codeLatchesSpec)) codeLatchesUptoCard
end Rows
end Go.Proofs.YteoeolfcpmalfaaGreatDoor
