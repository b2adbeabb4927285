/-
  NARROWER THAN 'FOR EVERY INPUT', by the rows' own cells (each row's printed sentence says how): SoloRuns: laid · SoloAll: laid · TurnApart: laid · TurnSteps: laid · TurnNever: laid · TurnHistory: laid · DriveRuns: laid · DriveParts: laid · DrivePlays: laid · DriveFinishes: laid.
  DERIVED. THE GIVEN ROWS OF THIS SEAT. 10 by the template 'for every input the law returns true; each argument reads behind the call as it read before'; 0 by the template 'total and deterministic' (their statements: YthcfkplfmjcmoaaGreatDoorTotals.lean).
  GIVEN WITH THE SEED: the statements are not yours to turn. If you find one false, say at which input.
  Laid BY PROGRAM, IN A SANDBOX (cutbox-rows.mjs): the forced cells as the released guide's own fill.sh prints them over the translation f8e8d08d9aba2b00… (all of the seat's roots in one cut). By AI agents, Wed Nov 11 2026. No macro, syntax, notation, axiom, sorry.
-/
import Derived.Test.YthcfkplfmjcmoaaGreatDoorChecked
import GoSem.Claim
import GoSem.ClaimJoined
import GoSem.ClaimMapViews
import Derived.JoinedTies
import Derived.KernelRfl
namespace Go.Proofs.YthcfkplfmjcmoaaGreatDoor
/- THE CELL 'sum', in the pinned program and in every row, IS THE sha256 OF THE DUMP (.gsa) THAT YthcfkplfmjcmoaaGreatDoorProg.lean LOADS. Nothing in Lean hashes anything: it is a label: what it is worth is what the hold of that sum in a sandbox is worth. -/
noncomputable def Tryz.pinned : Pinned := { name := "ythcfkplfmjcmoaagreatdoor", sum := "f8e8d08d9aba2b0089498e6711981ea6ce88134dd23001b201535ef46b11e3ad", checked := Tryz.checked }
namespace Rows
def none {H : Type} : Left H := { results := [], args := [] }

/- WHAT THE LISTED PACKAGE-LEVEL VARIABLES READ AS WHEN THE CALL BEGINS. Each datum BY PROGRAM (the guide's laid-datum.mjs) off the statement by which the dump's own 'gosem.cut.vars' lays the variable. In a bare row this is a premise. The card (YthcfkplfmjcmoaaGreatDoorCards.lean) ties it to the program's text. -/
def laid_tendril_code_sides {H : Type} : DataW H := .agg [.agg [.lit (.int .i64 1), .lit (.int .i64 3), .lit (.int .i64 1), .lit (.int .i64 2)], .agg [.lit (.int .i64 2), .lit (.int .i64 4), .lit (.int .i64 2), .lit (.int .i64 1)]]

/-- 'tendrillaw18.SoloRuns': WHATEVER THE INPUT: true; the input reads as it did. -/
def soloRunsSpec : ChangeSpec := { name := "soloRuns", fn := fun _ => fun
  | [d1, d2, d3, d4] => { results := [.lit (.bool true)], args := [d1, d2, d3, d4] }
  | _ => none }
def soloRunsRow : OpenClaim := { program := "ythcfkplfmjcmoaagreatdoor", sum := "f8e8d08d9aba2b0089498e6711981ea6ce88134dd23001b201535ef46b11e3ad", func := "tendril/tendrillaw18.SoloRuns", spec := "soloRuns", unfollowed := true, recurses := true, named := ["tendril/code.sides"], apart := false, laid := [("tendril/code.sides", laid_tendril_code_sides)] }
def SoloRunsSaid : Prop := soloRunsRow.holds Tryz.pinned (OpenSpec.ofChange soloRunsSpec)

/-- ITS FALSE NEIGHBOUR: 'it returns false'. Refute it at one input. -/
def soloRunsWrong : ChangeSpec := { name := "soloRuns", fn := fun _ => fun
  | [d1, d2, d3, d4] => { results := [.lit (.bool false)], args := [d1, d2, d3, d4] }
  | _ => none }
def SoloRunsWrongFalsely : Prop := soloRunsRow.holds Tryz.pinned (OpenSpec.ofChange soloRunsWrong)

/-- 'tendrillaw18.SoloAll': WHATEVER THE INPUT: true; the input reads as it did. -/
def soloAllSpec : ChangeSpec := { name := "soloAll", fn := fun _ => fun
  | [d1, d2, d3, d4] => { results := [.lit (.bool true)], args := [d1, d2, d3, d4] }
  | _ => none }
def soloAllRow : OpenClaim := { program := "ythcfkplfmjcmoaagreatdoor", sum := "f8e8d08d9aba2b0089498e6711981ea6ce88134dd23001b201535ef46b11e3ad", func := "tendril/tendrillaw18.SoloAll", spec := "soloAll", unfollowed := true, recurses := true, named := ["tendril/code.sides"], apart := false, laid := [("tendril/code.sides", laid_tendril_code_sides)] }
def SoloAllSaid : Prop := soloAllRow.holds Tryz.pinned (OpenSpec.ofChange soloAllSpec)

/-- ITS FALSE NEIGHBOUR: 'it returns false'. Refute it at one input. -/
def soloAllWrong : ChangeSpec := { name := "soloAll", fn := fun _ => fun
  | [d1, d2, d3, d4] => { results := [.lit (.bool false)], args := [d1, d2, d3, d4] }
  | _ => none }
def SoloAllWrongFalsely : Prop := soloAllRow.holds Tryz.pinned (OpenSpec.ofChange soloAllWrong)

/-- 'tendrillaw19.TurnApart': WHATEVER THE INPUT: true; the input reads as it did. -/
def turnApartSpec : ChangeSpec := { name := "turnApart", fn := fun _ => fun
  | [d1, d2, d3] => { results := [.lit (.bool true)], args := [d1, d2, d3] }
  | _ => none }
def turnApartRow : OpenClaim := { program := "ythcfkplfmjcmoaagreatdoor", sum := "f8e8d08d9aba2b0089498e6711981ea6ce88134dd23001b201535ef46b11e3ad", func := "tendril/tendrillaw19.TurnApart", spec := "turnApart", unfollowed := true, recurses := true, named := ["tendril/code.sides"], apart := false, laid := [("tendril/code.sides", laid_tendril_code_sides)] }
def TurnApartSaid : Prop := turnApartRow.holds Tryz.pinned (OpenSpec.ofChange turnApartSpec)

/-- ITS FALSE NEIGHBOUR: 'it returns false'. Refute it at one input. -/
def turnApartWrong : ChangeSpec := { name := "turnApart", fn := fun _ => fun
  | [d1, d2, d3] => { results := [.lit (.bool false)], args := [d1, d2, d3] }
  | _ => none }
def TurnApartWrongFalsely : Prop := turnApartRow.holds Tryz.pinned (OpenSpec.ofChange turnApartWrong)

/-- 'tendrillaw19.TurnSteps': WHATEVER THE INPUT: true; the input reads as it did. -/
def turnStepsSpec : ChangeSpec := { name := "turnSteps", fn := fun _ => fun
  | [d1, d2, d3] => { results := [.lit (.bool true)], args := [d1, d2, d3] }
  | _ => none }
def turnStepsRow : OpenClaim := { program := "ythcfkplfmjcmoaagreatdoor", sum := "f8e8d08d9aba2b0089498e6711981ea6ce88134dd23001b201535ef46b11e3ad", func := "tendril/tendrillaw19.TurnSteps", spec := "turnSteps", unfollowed := true, recurses := true, named := ["tendril/code.sides"], apart := false, laid := [("tendril/code.sides", laid_tendril_code_sides)] }
def TurnStepsSaid : Prop := turnStepsRow.holds Tryz.pinned (OpenSpec.ofChange turnStepsSpec)

/-- ITS FALSE NEIGHBOUR: 'it returns false'. Refute it at one input. -/
def turnStepsWrong : ChangeSpec := { name := "turnSteps", fn := fun _ => fun
  | [d1, d2, d3] => { results := [.lit (.bool false)], args := [d1, d2, d3] }
  | _ => none }
def TurnStepsWrongFalsely : Prop := turnStepsRow.holds Tryz.pinned (OpenSpec.ofChange turnStepsWrong)

/-- 'tendrillaw19.TurnNever': WHATEVER THE INPUT: true; the input reads as it did. -/
def turnNeverSpec : ChangeSpec := { name := "turnNever", fn := fun _ => fun
  | [d1, d2, d3] => { results := [.lit (.bool true)], args := [d1, d2, d3] }
  | _ => none }
def turnNeverRow : OpenClaim := { program := "ythcfkplfmjcmoaagreatdoor", sum := "f8e8d08d9aba2b0089498e6711981ea6ce88134dd23001b201535ef46b11e3ad", func := "tendril/tendrillaw19.TurnNever", spec := "turnNever", unfollowed := true, recurses := true, named := ["tendril/code.sides"], apart := false, laid := [("tendril/code.sides", laid_tendril_code_sides)] }
def TurnNeverSaid : Prop := turnNeverRow.holds Tryz.pinned (OpenSpec.ofChange turnNeverSpec)

/-- ITS FALSE NEIGHBOUR: 'it returns false'. Refute it at one input. -/
def turnNeverWrong : ChangeSpec := { name := "turnNever", fn := fun _ => fun
  | [d1, d2, d3] => { results := [.lit (.bool false)], args := [d1, d2, d3] }
  | _ => none }
def TurnNeverWrongFalsely : Prop := turnNeverRow.holds Tryz.pinned (OpenSpec.ofChange turnNeverWrong)

/-- 'tendrillaw19.TurnHistory': WHATEVER THE INPUT: true; the input reads as it did. -/
def turnHistorySpec : ChangeSpec := { name := "turnHistory", fn := fun _ => fun
  | [d1, d2, d3] => { results := [.lit (.bool true)], args := [d1, d2, d3] }
  | _ => none }
def turnHistoryRow : OpenClaim := { program := "ythcfkplfmjcmoaagreatdoor", sum := "f8e8d08d9aba2b0089498e6711981ea6ce88134dd23001b201535ef46b11e3ad", func := "tendril/tendrillaw19.TurnHistory", spec := "turnHistory", unfollowed := true, recurses := true, named := ["tendril/code.sides"], apart := false, laid := [("tendril/code.sides", laid_tendril_code_sides)] }
def TurnHistorySaid : Prop := turnHistoryRow.holds Tryz.pinned (OpenSpec.ofChange turnHistorySpec)

/-- ITS FALSE NEIGHBOUR: 'it returns false'. Refute it at one input. -/
def turnHistoryWrong : ChangeSpec := { name := "turnHistory", fn := fun _ => fun
  | [d1, d2, d3] => { results := [.lit (.bool false)], args := [d1, d2, d3] }
  | _ => none }
def TurnHistoryWrongFalsely : Prop := turnHistoryRow.holds Tryz.pinned (OpenSpec.ofChange turnHistoryWrong)

/-- 'tendrillaw21.DriveRuns': WHATEVER THE INPUT: true; the input reads as it did. -/
def driveRunsSpec : ChangeSpec := { name := "driveRuns", fn := fun _ => fun
  | [d1, d2, d3] => { results := [.lit (.bool true)], args := [d1, d2, d3] }
  | _ => none }
def driveRunsRow : OpenClaim := { program := "ythcfkplfmjcmoaagreatdoor", sum := "f8e8d08d9aba2b0089498e6711981ea6ce88134dd23001b201535ef46b11e3ad", func := "tendril/tendrillaw21.DriveRuns", spec := "driveRuns", unfollowed := true, recurses := true, named := ["tendril/code.sides"], apart := false, laid := [("tendril/code.sides", laid_tendril_code_sides)] }
def DriveRunsSaid : Prop := driveRunsRow.holds Tryz.pinned (OpenSpec.ofChange driveRunsSpec)

/-- ITS FALSE NEIGHBOUR: 'it returns false'. Refute it at one input. -/
def driveRunsWrong : ChangeSpec := { name := "driveRuns", fn := fun _ => fun
  | [d1, d2, d3] => { results := [.lit (.bool false)], args := [d1, d2, d3] }
  | _ => none }
def DriveRunsWrongFalsely : Prop := driveRunsRow.holds Tryz.pinned (OpenSpec.ofChange driveRunsWrong)

/-- 'tendrillaw21.DriveParts': WHATEVER THE INPUT: true; the input reads as it did. -/
def drivePartsSpec : ChangeSpec := { name := "driveParts", fn := fun _ => fun
  | [d1, d2, d3, d4] => { results := [.lit (.bool true)], args := [d1, d2, d3, d4] }
  | _ => none }
def drivePartsRow : OpenClaim := { program := "ythcfkplfmjcmoaagreatdoor", sum := "f8e8d08d9aba2b0089498e6711981ea6ce88134dd23001b201535ef46b11e3ad", func := "tendril/tendrillaw21.DriveParts", spec := "driveParts", unfollowed := true, recurses := true, named := ["tendril/code.sides"], apart := false, laid := [("tendril/code.sides", laid_tendril_code_sides)] }
def DrivePartsSaid : Prop := drivePartsRow.holds Tryz.pinned (OpenSpec.ofChange drivePartsSpec)

/-- ITS FALSE NEIGHBOUR: 'it returns false'. Refute it at one input. -/
def drivePartsWrong : ChangeSpec := { name := "driveParts", fn := fun _ => fun
  | [d1, d2, d3, d4] => { results := [.lit (.bool false)], args := [d1, d2, d3, d4] }
  | _ => none }
def DrivePartsWrongFalsely : Prop := drivePartsRow.holds Tryz.pinned (OpenSpec.ofChange drivePartsWrong)

/-- 'tendrillaw21.DrivePlays': WHATEVER THE INPUT: true; the input reads as it did. -/
def drivePlaysSpec : ChangeSpec := { name := "drivePlays", fn := fun _ => fun
  | [d1, d2, d3, d4] => { results := [.lit (.bool true)], args := [d1, d2, d3, d4] }
  | _ => none }
def drivePlaysRow : OpenClaim := { program := "ythcfkplfmjcmoaagreatdoor", sum := "f8e8d08d9aba2b0089498e6711981ea6ce88134dd23001b201535ef46b11e3ad", func := "tendril/tendrillaw21.DrivePlays", spec := "drivePlays", unfollowed := true, recurses := true, named := ["tendril/code.sides"], apart := false, laid := [("tendril/code.sides", laid_tendril_code_sides)] }
def DrivePlaysSaid : Prop := drivePlaysRow.holds Tryz.pinned (OpenSpec.ofChange drivePlaysSpec)

/-- ITS FALSE NEIGHBOUR: 'it returns false'. Refute it at one input. -/
def drivePlaysWrong : ChangeSpec := { name := "drivePlays", fn := fun _ => fun
  | [d1, d2, d3, d4] => { results := [.lit (.bool false)], args := [d1, d2, d3, d4] }
  | _ => none }
def DrivePlaysWrongFalsely : Prop := drivePlaysRow.holds Tryz.pinned (OpenSpec.ofChange drivePlaysWrong)

/-- 'tendrillaw21.DriveFinishes': WHATEVER THE INPUT: true; the input reads as it did. -/
def driveFinishesSpec : ChangeSpec := { name := "driveFinishes", fn := fun _ => fun
  | [d1, d2, d3] => { results := [.lit (.bool true)], args := [d1, d2, d3] }
  | _ => none }
def driveFinishesRow : OpenClaim := { program := "ythcfkplfmjcmoaagreatdoor", sum := "f8e8d08d9aba2b0089498e6711981ea6ce88134dd23001b201535ef46b11e3ad", func := "tendril/tendrillaw21.DriveFinishes", spec := "driveFinishes", unfollowed := true, recurses := true, named := ["tendril/code.sides"], apart := false, laid := [("tendril/code.sides", laid_tendril_code_sides)] }
def DriveFinishesSaid : Prop := driveFinishesRow.holds Tryz.pinned (OpenSpec.ofChange driveFinishesSpec)

/-- ITS FALSE NEIGHBOUR: 'it returns false'. Refute it at one input. -/
def driveFinishesWrong : ChangeSpec := { name := "driveFinishes", fn := fun _ => fun
  | [d1, d2, d3] => { results := [.lit (.bool false)], args := [d1, d2, d3] }
  | _ => none }
def DriveFinishesWrongFalsely : Prop := driveFinishesRow.holds Tryz.pinned (OpenSpec.ofChange driveFinishesWrong)

/- THE SECOND FORM. 'bulk': how many values and letters a reading holds, each counted each time it is reached (what is shared counts as often as it is met; a slice's spare places count too). A statement '..UptoSaid' is the law's where the arguments, and the package variables that the reading takes, are together of bulk at most 1048576: NARROWER than '..Said'. Prove '..Said' where nothing that the law and all that it calls make is longer than what came in: it says more and counts as full. Else prove '..UptoSaid'. A law counts once. -/
mutual
def uptoBulk {H : Type} : DataW H → Nat
  | .lit (.string bytes) => bytes.length + 1
  | .lit _ => 1
  | .nil => 1
  | .ptr d => uptoBulk d + 1
  | .slice elems spare => uptoBulkAll elems + uptoBulkAll spare + 1
  | .agg parts => uptoBulkAll parts + 1
  | .iface _ d => uptoBulk d + 1
  | .map entries => uptoBulkEntries entries + 1
  | .held _ => 1
def uptoBulkAll {H : Type} : List (DataW H) → Nat
  | [] => 0
  | d :: r => uptoBulk d + uptoBulkAll r
def uptoBulkEntries {H : Type} : List (Lit × DataW H) → Nat
  | [] => 0
  | x :: r => uptoBulkEntry x + uptoBulkEntries r
def uptoBulkEntry {H : Type} : Lit × DataW H → Nat
  | (.string bytes, d) => bytes.length + uptoBulk d + 1
  | (_, d) => uptoBulk d + 1
 end
def uptoSmall : (H : Type) → List (DataW H) → Bool := fun _ ds => decide (uptoBulkAll ds ≤ 1048576)
def OpenSpec.upto (s : _root_.Go.ChangeSpec) : _root_.Go.OpenSpec := { _root_.Go.OpenSpec.ofChange s with cond := some uptoSmall }

/-- 'tendrillaw18.SoloRuns', WHERE WHAT IT READS IS OF BULK AT MOST 1048576: true; the input reads as it did. -/
def soloRunsUptoRow : OpenClaim := { program := "ythcfkplfmjcmoaagreatdoor", sum := "f8e8d08d9aba2b0089498e6711981ea6ce88134dd23001b201535ef46b11e3ad", func := "tendril/tendrillaw18.SoloRuns", spec := "soloRuns", unfollowed := true, recurses := true, named := ["tendril/code.sides"], apart := false, laid := [("tendril/code.sides", laid_tendril_code_sides)], narrowed := true }
def SoloRunsUptoSaid : Prop := soloRunsUptoRow.holds Tryz.pinned (OpenSpec.upto soloRunsSpec)

/-- 'tendrillaw18.SoloAll', WHERE WHAT IT READS IS OF BULK AT MOST 1048576: true; the input reads as it did. -/
def soloAllUptoRow : OpenClaim := { program := "ythcfkplfmjcmoaagreatdoor", sum := "f8e8d08d9aba2b0089498e6711981ea6ce88134dd23001b201535ef46b11e3ad", func := "tendril/tendrillaw18.SoloAll", spec := "soloAll", unfollowed := true, recurses := true, named := ["tendril/code.sides"], apart := false, laid := [("tendril/code.sides", laid_tendril_code_sides)], narrowed := true }
def SoloAllUptoSaid : Prop := soloAllUptoRow.holds Tryz.pinned (OpenSpec.upto soloAllSpec)

/-- 'tendrillaw19.TurnApart', WHERE WHAT IT READS IS OF BULK AT MOST 1048576: true; the input reads as it did. -/
def turnApartUptoRow : OpenClaim := { program := "ythcfkplfmjcmoaagreatdoor", sum := "f8e8d08d9aba2b0089498e6711981ea6ce88134dd23001b201535ef46b11e3ad", func := "tendril/tendrillaw19.TurnApart", spec := "turnApart", unfollowed := true, recurses := true, named := ["tendril/code.sides"], apart := false, laid := [("tendril/code.sides", laid_tendril_code_sides)], narrowed := true }
def TurnApartUptoSaid : Prop := turnApartUptoRow.holds Tryz.pinned (OpenSpec.upto turnApartSpec)

/-- 'tendrillaw19.TurnSteps', WHERE WHAT IT READS IS OF BULK AT MOST 1048576: true; the input reads as it did. -/
def turnStepsUptoRow : OpenClaim := { program := "ythcfkplfmjcmoaagreatdoor", sum := "f8e8d08d9aba2b0089498e6711981ea6ce88134dd23001b201535ef46b11e3ad", func := "tendril/tendrillaw19.TurnSteps", spec := "turnSteps", unfollowed := true, recurses := true, named := ["tendril/code.sides"], apart := false, laid := [("tendril/code.sides", laid_tendril_code_sides)], narrowed := true }
def TurnStepsUptoSaid : Prop := turnStepsUptoRow.holds Tryz.pinned (OpenSpec.upto turnStepsSpec)

/-- 'tendrillaw19.TurnNever', WHERE WHAT IT READS IS OF BULK AT MOST 1048576: true; the input reads as it did. -/
def turnNeverUptoRow : OpenClaim := { program := "ythcfkplfmjcmoaagreatdoor", sum := "f8e8d08d9aba2b0089498e6711981ea6ce88134dd23001b201535ef46b11e3ad", func := "tendril/tendrillaw19.TurnNever", spec := "turnNever", unfollowed := true, recurses := true, named := ["tendril/code.sides"], apart := false, laid := [("tendril/code.sides", laid_tendril_code_sides)], narrowed := true }
def TurnNeverUptoSaid : Prop := turnNeverUptoRow.holds Tryz.pinned (OpenSpec.upto turnNeverSpec)

/-- 'tendrillaw19.TurnHistory', WHERE WHAT IT READS IS OF BULK AT MOST 1048576: true; the input reads as it did. -/
def turnHistoryUptoRow : OpenClaim := { program := "ythcfkplfmjcmoaagreatdoor", sum := "f8e8d08d9aba2b0089498e6711981ea6ce88134dd23001b201535ef46b11e3ad", func := "tendril/tendrillaw19.TurnHistory", spec := "turnHistory", unfollowed := true, recurses := true, named := ["tendril/code.sides"], apart := false, laid := [("tendril/code.sides", laid_tendril_code_sides)], narrowed := true }
def TurnHistoryUptoSaid : Prop := turnHistoryUptoRow.holds Tryz.pinned (OpenSpec.upto turnHistorySpec)

/-- 'tendrillaw21.DriveRuns', WHERE WHAT IT READS IS OF BULK AT MOST 1048576: true; the input reads as it did. -/
def driveRunsUptoRow : OpenClaim := { program := "ythcfkplfmjcmoaagreatdoor", sum := "f8e8d08d9aba2b0089498e6711981ea6ce88134dd23001b201535ef46b11e3ad", func := "tendril/tendrillaw21.DriveRuns", spec := "driveRuns", unfollowed := true, recurses := true, named := ["tendril/code.sides"], apart := false, laid := [("tendril/code.sides", laid_tendril_code_sides)], narrowed := true }
def DriveRunsUptoSaid : Prop := driveRunsUptoRow.holds Tryz.pinned (OpenSpec.upto driveRunsSpec)

/-- 'tendrillaw21.DriveParts', WHERE WHAT IT READS IS OF BULK AT MOST 1048576: true; the input reads as it did. -/
def drivePartsUptoRow : OpenClaim := { program := "ythcfkplfmjcmoaagreatdoor", sum := "f8e8d08d9aba2b0089498e6711981ea6ce88134dd23001b201535ef46b11e3ad", func := "tendril/tendrillaw21.DriveParts", spec := "driveParts", unfollowed := true, recurses := true, named := ["tendril/code.sides"], apart := false, laid := [("tendril/code.sides", laid_tendril_code_sides)], narrowed := true }
def DrivePartsUptoSaid : Prop := drivePartsUptoRow.holds Tryz.pinned (OpenSpec.upto drivePartsSpec)

/-- 'tendrillaw21.DrivePlays', WHERE WHAT IT READS IS OF BULK AT MOST 1048576: true; the input reads as it did. -/
def drivePlaysUptoRow : OpenClaim := { program := "ythcfkplfmjcmoaagreatdoor", sum := "f8e8d08d9aba2b0089498e6711981ea6ce88134dd23001b201535ef46b11e3ad", func := "tendril/tendrillaw21.DrivePlays", spec := "drivePlays", unfollowed := true, recurses := true, named := ["tendril/code.sides"], apart := false, laid := [("tendril/code.sides", laid_tendril_code_sides)], narrowed := true }
def DrivePlaysUptoSaid : Prop := drivePlaysUptoRow.holds Tryz.pinned (OpenSpec.upto drivePlaysSpec)

/-- 'tendrillaw21.DriveFinishes', WHERE WHAT IT READS IS OF BULK AT MOST 1048576: true; the input reads as it did. -/
def driveFinishesUptoRow : OpenClaim := { program := "ythcfkplfmjcmoaagreatdoor", sum := "f8e8d08d9aba2b0089498e6711981ea6ce88134dd23001b201535ef46b11e3ad", func := "tendril/tendrillaw21.DriveFinishes", spec := "driveFinishes", unfollowed := true, recurses := true, named := ["tendril/code.sides"], apart := false, laid := [("tendril/code.sides", laid_tendril_code_sides)], narrowed := true }
def DriveFinishesUptoSaid : Prop := driveFinishesUptoRow.holds Tryz.pinned (OpenSpec.upto driveFinishesSpec)

end Rows
end Go.Proofs.YthcfkplfmjcmoaaGreatDoor
