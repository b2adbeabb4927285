/-
  NARROWER THAN 'FOR EVERY INPUT', by the rows' own cells (each row's printed sentence says how): CodeNext: laid · CodeAll: laid · CodeSteps: laid · CodeEnds: laid · CodeWrites: laid · CodeFails: laid · CodeLatches: laid.
  DERIVED. THE GIVEN ROWS OF THIS SEAT. 7 by the template 'for every input the law returns true; each argument reads behind the call as it read before'; 0 by the template 'total and deterministic' (their statements: YteoeolfcpmalfaaGreatDoorTotals.lean).
  GIVEN WITH THE SEED: the statements are not yours to turn. If you find one false, say at which input.
  Laid BY PROGRAM, IN A SANDBOX (cutbox-rows.mjs): the forced cells as the released guide's own fill.sh prints them over the translation 2fd2f1571dbf3930… (all of the seat's roots in one cut). By AI agents, Wed Nov 11 2026. No macro, syntax, notation, axiom, sorry.
-/
import Derived.Test.YteoeolfcpmalfaaGreatDoorChecked
import GoSem.Claim
import GoSem.ClaimJoined
import GoSem.ClaimMapViews
import Derived.JoinedTies
import Derived.KernelRfl
namespace Go.Proofs.YteoeolfcpmalfaaGreatDoor
/- THE CELL 'sum', in the pinned program and in every row, IS THE sha256 OF THE DUMP (.gsa) THAT YteoeolfcpmalfaaGreatDoorProg.lean LOADS. Nothing in Lean hashes anything: it is a label: what it is worth is what the hold of that sum in a sandbox is worth. -/
noncomputable def Tryz.pinned : Pinned := { name := "yteoeolfcpmalfaagreatdoor", sum := "2fd2f1571dbf393057388aa45268a0693df220ab63bd5a93554c16878e1e5e07", checked := Tryz.checked }
namespace Rows
def none {H : Type} : Left H := { results := [], args := [] }

/- WHAT THE LISTED PACKAGE-LEVEL VARIABLES READ AS WHEN THE CALL BEGINS. Each datum BY PROGRAM (the guide's laid-datum.mjs) off the statement by which the dump's own 'gosem.cut.vars' lays the variable. In a bare row this is a premise. The card (YteoeolfcpmalfaaGreatDoorCards.lean) ties it to the program's text. -/
def laid_tendril_code_sides {H : Type} : DataW H := .agg [.agg [.lit (.int .i64 1), .lit (.int .i64 3), .lit (.int .i64 1), .lit (.int .i64 2)], .agg [.lit (.int .i64 2), .lit (.int .i64 4), .lit (.int .i64 2), .lit (.int .i64 1)]]

/-- 'tendrillaw17.CodeNext': WHATEVER THE INPUT: true; the input reads as it did. -/
def codeNextSpec : ChangeSpec := { name := "codeNext", fn := fun _ => fun
  | [d1, d2, d3] => { results := [.lit (.bool true)], args := [d1, d2, d3] }
  | _ => none }
def codeNextRow : OpenClaim := { program := "yteoeolfcpmalfaagreatdoor", sum := "2fd2f1571dbf393057388aa45268a0693df220ab63bd5a93554c16878e1e5e07", func := "tendril/tendrillaw17.CodeNext", spec := "codeNext", unfollowed := true, recurses := true, named := ["tendril/code.sides"], apart := false, laid := [("tendril/code.sides", laid_tendril_code_sides)] }
def CodeNextSaid : Prop := codeNextRow.holds Tryz.pinned (OpenSpec.ofChange codeNextSpec)

/-- ITS FALSE NEIGHBOUR: 'it returns false'. Refute it at one input. -/
def codeNextWrong : ChangeSpec := { name := "codeNext", fn := fun _ => fun
  | [d1, d2, d3] => { results := [.lit (.bool false)], args := [d1, d2, d3] }
  | _ => none }
def CodeNextWrongFalsely : Prop := codeNextRow.holds Tryz.pinned (OpenSpec.ofChange codeNextWrong)

/-- 'tendrillaw17.CodeAll': WHATEVER THE INPUT: true; the input reads as it did. -/
def codeAllSpec : ChangeSpec := { name := "codeAll", fn := fun _ => fun
  | [d1, d2, d3] => { results := [.lit (.bool true)], args := [d1, d2, d3] }
  | _ => none }
def codeAllRow : OpenClaim := { program := "yteoeolfcpmalfaagreatdoor", sum := "2fd2f1571dbf393057388aa45268a0693df220ab63bd5a93554c16878e1e5e07", func := "tendril/tendrillaw17.CodeAll", spec := "codeAll", unfollowed := true, recurses := true, named := ["tendril/code.sides"], apart := false, laid := [("tendril/code.sides", laid_tendril_code_sides)] }
def CodeAllSaid : Prop := codeAllRow.holds Tryz.pinned (OpenSpec.ofChange codeAllSpec)

/-- ITS FALSE NEIGHBOUR: 'it returns false'. Refute it at one input. -/
def codeAllWrong : ChangeSpec := { name := "codeAll", fn := fun _ => fun
  | [d1, d2, d3] => { results := [.lit (.bool false)], args := [d1, d2, d3] }
  | _ => none }
def CodeAllWrongFalsely : Prop := codeAllRow.holds Tryz.pinned (OpenSpec.ofChange codeAllWrong)

/-- 'tendrillaw17.CodeSteps': WHATEVER THE INPUT: true; the input reads as it did. -/
def codeStepsSpec : ChangeSpec := { name := "codeSteps", fn := fun _ => fun
  | [d1, d2, d3] => { results := [.lit (.bool true)], args := [d1, d2, d3] }
  | _ => none }
def codeStepsRow : OpenClaim := { program := "yteoeolfcpmalfaagreatdoor", sum := "2fd2f1571dbf393057388aa45268a0693df220ab63bd5a93554c16878e1e5e07", func := "tendril/tendrillaw17.CodeSteps", spec := "codeSteps", unfollowed := true, recurses := true, named := ["tendril/code.sides"], apart := false, laid := [("tendril/code.sides", laid_tendril_code_sides)] }
def CodeStepsSaid : Prop := codeStepsRow.holds Tryz.pinned (OpenSpec.ofChange codeStepsSpec)

/-- ITS FALSE NEIGHBOUR: 'it returns false'. Refute it at one input. -/
def codeStepsWrong : ChangeSpec := { name := "codeSteps", fn := fun _ => fun
  | [d1, d2, d3] => { results := [.lit (.bool false)], args := [d1, d2, d3] }
  | _ => none }
def CodeStepsWrongFalsely : Prop := codeStepsRow.holds Tryz.pinned (OpenSpec.ofChange codeStepsWrong)

/-- 'tendrillaw17.CodeEnds': WHATEVER THE INPUT: true; the input reads as it did. -/
def codeEndsSpec : ChangeSpec := { name := "codeEnds", fn := fun _ => fun
  | [d1, d2, d3] => { results := [.lit (.bool true)], args := [d1, d2, d3] }
  | _ => none }
def codeEndsRow : OpenClaim := { program := "yteoeolfcpmalfaagreatdoor", sum := "2fd2f1571dbf393057388aa45268a0693df220ab63bd5a93554c16878e1e5e07", func := "tendril/tendrillaw17.CodeEnds", spec := "codeEnds", unfollowed := true, recurses := true, named := ["tendril/code.sides"], apart := false, laid := [("tendril/code.sides", laid_tendril_code_sides)] }
def CodeEndsSaid : Prop := codeEndsRow.holds Tryz.pinned (OpenSpec.ofChange codeEndsSpec)

/-- ITS FALSE NEIGHBOUR: 'it returns false'. Refute it at one input. -/
def codeEndsWrong : ChangeSpec := { name := "codeEnds", fn := fun _ => fun
  | [d1, d2, d3] => { results := [.lit (.bool false)], args := [d1, d2, d3] }
  | _ => none }
def CodeEndsWrongFalsely : Prop := codeEndsRow.holds Tryz.pinned (OpenSpec.ofChange codeEndsWrong)

/-- 'tendrillaw17.CodeWrites': WHATEVER THE INPUT: true; the input reads as it did. -/
def codeWritesSpec : ChangeSpec := { name := "codeWrites", fn := fun _ => fun
  | [d1, d2, d3] => { results := [.lit (.bool true)], args := [d1, d2, d3] }
  | _ => none }
def codeWritesRow : OpenClaim := { program := "yteoeolfcpmalfaagreatdoor", sum := "2fd2f1571dbf393057388aa45268a0693df220ab63bd5a93554c16878e1e5e07", func := "tendril/tendrillaw17.CodeWrites", spec := "codeWrites", unfollowed := true, recurses := true, named := ["tendril/code.sides"], apart := false, laid := [("tendril/code.sides", laid_tendril_code_sides)] }
def CodeWritesSaid : Prop := codeWritesRow.holds Tryz.pinned (OpenSpec.ofChange codeWritesSpec)

/-- ITS FALSE NEIGHBOUR: 'it returns false'. Refute it at one input. -/
def codeWritesWrong : ChangeSpec := { name := "codeWrites", fn := fun _ => fun
  | [d1, d2, d3] => { results := [.lit (.bool false)], args := [d1, d2, d3] }
  | _ => none }
def CodeWritesWrongFalsely : Prop := codeWritesRow.holds Tryz.pinned (OpenSpec.ofChange codeWritesWrong)

/-- 'tendrillaw17.CodeFails': WHATEVER THE INPUT: true; the input reads as it did. -/
def codeFailsSpec : ChangeSpec := { name := "codeFails", fn := fun _ => fun
  | [d1, d2] => { results := [.lit (.bool true)], args := [d1, d2] }
  | _ => none }
def codeFailsRow : OpenClaim := { program := "yteoeolfcpmalfaagreatdoor", sum := "2fd2f1571dbf393057388aa45268a0693df220ab63bd5a93554c16878e1e5e07", func := "tendril/tendrillaw17.CodeFails", spec := "codeFails", unfollowed := true, recurses := true, named := ["tendril/code.sides"], apart := false, laid := [("tendril/code.sides", laid_tendril_code_sides)] }
def CodeFailsSaid : Prop := codeFailsRow.holds Tryz.pinned (OpenSpec.ofChange codeFailsSpec)

/-- ITS FALSE NEIGHBOUR: 'it returns false'. Refute it at one input. -/
def codeFailsWrong : ChangeSpec := { name := "codeFails", fn := fun _ => fun
  | [d1, d2] => { results := [.lit (.bool false)], args := [d1, d2] }
  | _ => none }
def CodeFailsWrongFalsely : Prop := codeFailsRow.holds Tryz.pinned (OpenSpec.ofChange codeFailsWrong)

/-- 'tendrillaw17.CodeLatches': WHATEVER THE INPUT: true; the input reads as it did. -/
def codeLatchesSpec : ChangeSpec := { name := "codeLatches", fn := fun _ => fun
  | [d1, d2, d3] => { results := [.lit (.bool true)], args := [d1, d2, d3] }
  | _ => none }
def codeLatchesRow : OpenClaim := { program := "yteoeolfcpmalfaagreatdoor", sum := "2fd2f1571dbf393057388aa45268a0693df220ab63bd5a93554c16878e1e5e07", func := "tendril/tendrillaw17.CodeLatches", spec := "codeLatches", unfollowed := true, recurses := true, named := ["tendril/code.sides"], apart := false, laid := [("tendril/code.sides", laid_tendril_code_sides)] }
def CodeLatchesSaid : Prop := codeLatchesRow.holds Tryz.pinned (OpenSpec.ofChange codeLatchesSpec)

/-- ITS FALSE NEIGHBOUR: 'it returns false'. Refute it at one input. -/
def codeLatchesWrong : ChangeSpec := { name := "codeLatches", fn := fun _ => fun
  | [d1, d2, d3] => { results := [.lit (.bool false)], args := [d1, d2, d3] }
  | _ => none }
def CodeLatchesWrongFalsely : Prop := codeLatchesRow.holds Tryz.pinned (OpenSpec.ofChange codeLatchesWrong)

/- THE SECOND FORM. 'bulk': how many values and letters a reading holds, each counted each time it is reached (what is shared counts as often as it is met; a slice's spare places count too). A statement '..UptoSaid' is the law's where the arguments, and the package variables that the reading takes, are together of bulk at most 1048576: NARROWER than '..Said'. Prove '..Said' where nothing that the law and all that it calls make is longer than what came in: it says more and counts as full. Else prove '..UptoSaid'. A law counts once. -/
mutual
def uptoBulk {H : Type} : DataW H → Nat
  | .lit (.string bytes) => bytes.length + 1
  | .lit _ => 1
  | .nil => 1
  | .ptr d => uptoBulk d + 1
  | .slice elems spare => uptoBulkAll elems + uptoBulkAll spare + 1
  | .agg parts => uptoBulkAll parts + 1
  | .iface _ d => uptoBulk d + 1
  | .map entries => uptoBulkEntries entries + 1
  | .held _ => 1
def uptoBulkAll {H : Type} : List (DataW H) → Nat
  | [] => 0
  | d :: r => uptoBulk d + uptoBulkAll r
def uptoBulkEntries {H : Type} : List (Lit × DataW H) → Nat
  | [] => 0
  | x :: r => uptoBulkEntry x + uptoBulkEntries r
def uptoBulkEntry {H : Type} : Lit × DataW H → Nat
  | (.string bytes, d) => bytes.length + uptoBulk d + 1
  | (_, d) => uptoBulk d + 1
 end
def uptoSmall : (H : Type) → List (DataW H) → Bool := fun _ ds => decide (uptoBulkAll ds ≤ 1048576)
def OpenSpec.upto (s : _root_.Go.ChangeSpec) : _root_.Go.OpenSpec := { _root_.Go.OpenSpec.ofChange s with cond := some uptoSmall }

/-- 'tendrillaw17.CodeNext', WHERE WHAT IT READS IS OF BULK AT MOST 1048576: true; the input reads as it did. -/
def codeNextUptoRow : OpenClaim := { program := "yteoeolfcpmalfaagreatdoor", sum := "2fd2f1571dbf393057388aa45268a0693df220ab63bd5a93554c16878e1e5e07", func := "tendril/tendrillaw17.CodeNext", spec := "codeNext", unfollowed := true, recurses := true, named := ["tendril/code.sides"], apart := false, laid := [("tendril/code.sides", laid_tendril_code_sides)], narrowed := true }
def CodeNextUptoSaid : Prop := codeNextUptoRow.holds Tryz.pinned (OpenSpec.upto codeNextSpec)

/-- 'tendrillaw17.CodeAll', WHERE WHAT IT READS IS OF BULK AT MOST 1048576: true; the input reads as it did. -/
def codeAllUptoRow : OpenClaim := { program := "yteoeolfcpmalfaagreatdoor", sum := "2fd2f1571dbf393057388aa45268a0693df220ab63bd5a93554c16878e1e5e07", func := "tendril/tendrillaw17.CodeAll", spec := "codeAll", unfollowed := true, recurses := true, named := ["tendril/code.sides"], apart := false, laid := [("tendril/code.sides", laid_tendril_code_sides)], narrowed := true }
def CodeAllUptoSaid : Prop := codeAllUptoRow.holds Tryz.pinned (OpenSpec.upto codeAllSpec)

/-- 'tendrillaw17.CodeSteps', WHERE WHAT IT READS IS OF BULK AT MOST 1048576: true; the input reads as it did. -/
def codeStepsUptoRow : OpenClaim := { program := "yteoeolfcpmalfaagreatdoor", sum := "2fd2f1571dbf393057388aa45268a0693df220ab63bd5a93554c16878e1e5e07", func := "tendril/tendrillaw17.CodeSteps", spec := "codeSteps", unfollowed := true, recurses := true, named := ["tendril/code.sides"], apart := false, laid := [("tendril/code.sides", laid_tendril_code_sides)], narrowed := true }
def CodeStepsUptoSaid : Prop := codeStepsUptoRow.holds Tryz.pinned (OpenSpec.upto codeStepsSpec)

/-- 'tendrillaw17.CodeEnds', WHERE WHAT IT READS IS OF BULK AT MOST 1048576: true; the input reads as it did. -/
def codeEndsUptoRow : OpenClaim := { program := "yteoeolfcpmalfaagreatdoor", sum := "2fd2f1571dbf393057388aa45268a0693df220ab63bd5a93554c16878e1e5e07", func := "tendril/tendrillaw17.CodeEnds", spec := "codeEnds", unfollowed := true, recurses := true, named := ["tendril/code.sides"], apart := false, laid := [("tendril/code.sides", laid_tendril_code_sides)], narrowed := true }
def CodeEndsUptoSaid : Prop := codeEndsUptoRow.holds Tryz.pinned (OpenSpec.upto codeEndsSpec)

/-- 'tendrillaw17.CodeWrites', WHERE WHAT IT READS IS OF BULK AT MOST 1048576: true; the input reads as it did. -/
def codeWritesUptoRow : OpenClaim := { program := "yteoeolfcpmalfaagreatdoor", sum := "2fd2f1571dbf393057388aa45268a0693df220ab63bd5a93554c16878e1e5e07", func := "tendril/tendrillaw17.CodeWrites", spec := "codeWrites", unfollowed := true, recurses := true, named := ["tendril/code.sides"], apart := false, laid := [("tendril/code.sides", laid_tendril_code_sides)], narrowed := true }
def CodeWritesUptoSaid : Prop := codeWritesUptoRow.holds Tryz.pinned (OpenSpec.upto codeWritesSpec)

/-- 'tendrillaw17.CodeFails', WHERE WHAT IT READS IS OF BULK AT MOST 1048576: true; the input reads as it did. -/
def codeFailsUptoRow : OpenClaim := { program := "yteoeolfcpmalfaagreatdoor", sum := "2fd2f1571dbf393057388aa45268a0693df220ab63bd5a93554c16878e1e5e07", func := "tendril/tendrillaw17.CodeFails", spec := "codeFails", unfollowed := true, recurses := true, named := ["tendril/code.sides"], apart := false, laid := [("tendril/code.sides", laid_tendril_code_sides)], narrowed := true }
def CodeFailsUptoSaid : Prop := codeFailsUptoRow.holds Tryz.pinned (OpenSpec.upto codeFailsSpec)

/-- 'tendrillaw17.CodeLatches', WHERE WHAT IT READS IS OF BULK AT MOST 1048576: true; the input reads as it did. -/
def codeLatchesUptoRow : OpenClaim := { program := "yteoeolfcpmalfaagreatdoor", sum := "2fd2f1571dbf393057388aa45268a0693df220ab63bd5a93554c16878e1e5e07", func := "tendril/tendrillaw17.CodeLatches", spec := "codeLatches", unfollowed := true, recurses := true, named := ["tendril/code.sides"], apart := false, laid := [("tendril/code.sides", laid_tendril_code_sides)], narrowed := true }
def CodeLatchesUptoSaid : Prop := codeLatchesUptoRow.holds Tryz.pinned (OpenSpec.upto codeLatchesSpec)

end Rows
end Go.Proofs.YteoeolfcpmalfaaGreatDoor
