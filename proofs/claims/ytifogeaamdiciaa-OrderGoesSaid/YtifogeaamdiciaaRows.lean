/-
  No cell of these rows narrows 'for every input' (looked for: loops, veiled, ifaces, maps, wideKeys, modest, calm, conditions, laid).
  DERIVED. THE GIVEN ROWS OF THIS SEAT. 13 by the template 'for every input the law returns true; each argument reads behind the call as it read before'; 0 by the template 'total and deterministic' (their statements: YtifogeaamdiciaaTotals.lean).
  GIVEN WITH THE SEED: the statements are not yours to turn. If you find one false, say at which input.
  Laid BY PROGRAM, IN A SANDBOX (cutbox-rows.mjs): the forced cells as the released guide's own fill.sh prints them over the translation b9a0dc5b444fc78f… (all of the seat's roots in one cut). By AI agents, Wed Nov 11 2026. No macro, syntax, notation, axiom, sorry.
-/
import Derived.Test.YtifogeaamdiciaaChecked
import GoSem.Claim
import GoSem.ClaimJoined
import GoSem.ClaimMapViews
import Derived.JoinedTies
import Derived.KernelRfl
namespace Go.Proofs.Ytifogeaamdiciaa
/- THE CELL 'sum', in the pinned program and in every row, IS THE sha256 OF THE DUMP (.gsa) THAT YtifogeaamdiciaaProg.lean LOADS. Nothing in Lean hashes anything: it is a label: what it is worth is what the hold of that sum in a sandbox is worth. -/
noncomputable def Try.pinned : Pinned := { name := "ytifogeaamdiciaa", sum := "b9a0dc5b444fc78fdbcd8b53121f48580cc441b216fa4aae8398f0a733155fac", checked := Try.checked }
namespace Rows
def none {H : Type} : Left H := { results := [], args := [] }

/-- 'tendrillaw20.BoundParts': WHATEVER THE INPUT: true; the input reads as it did. -/
def boundPartsSpec : ChangeSpec := { name := "boundParts", fn := fun _ => fun
  | [d1, d2, d3] => { results := [.lit (.bool true)], args := [d1, d2, d3] }
  | _ => none }
def boundPartsRow : OpenClaim := { program := "ytifogeaamdiciaa", sum := "b9a0dc5b444fc78fdbcd8b53121f48580cc441b216fa4aae8398f0a733155fac", func := "tendril/tendrillaw20.BoundParts", spec := "boundParts", unfollowed := true, recurses := true, apart := false }
def BoundPartsSaid : Prop := boundPartsRow.holds Try.pinned (OpenSpec.ofChange boundPartsSpec)

/-- ITS FALSE NEIGHBOUR: 'it returns false'. Refute it at one input. -/
def boundPartsWrong : ChangeSpec := { name := "boundParts", fn := fun _ => fun
  | [d1, d2, d3] => { results := [.lit (.bool false)], args := [d1, d2, d3] }
  | _ => none }
def BoundPartsWrongFalsely : Prop := boundPartsRow.holds Try.pinned (OpenSpec.ofChange boundPartsWrong)

/-- 'tendrillaw20.BoundWhole': WHATEVER THE INPUT: true; the input reads as it did. -/
def boundWholeSpec : ChangeSpec := { name := "boundWhole", fn := fun _ => fun
  | [d1, d2, d3] => { results := [.lit (.bool true)], args := [d1, d2, d3] }
  | _ => none }
def boundWholeRow : OpenClaim := { program := "ytifogeaamdiciaa", sum := "b9a0dc5b444fc78fdbcd8b53121f48580cc441b216fa4aae8398f0a733155fac", func := "tendril/tendrillaw20.BoundWhole", spec := "boundWhole", unfollowed := true, recurses := true, apart := false }
def BoundWholeSaid : Prop := boundWholeRow.holds Try.pinned (OpenSpec.ofChange boundWholeSpec)

/-- ITS FALSE NEIGHBOUR: 'it returns false'. Refute it at one input. -/
def boundWholeWrong : ChangeSpec := { name := "boundWhole", fn := fun _ => fun
  | [d1, d2, d3] => { results := [.lit (.bool false)], args := [d1, d2, d3] }
  | _ => none }
def BoundWholeWrongFalsely : Prop := boundWholeRow.holds Try.pinned (OpenSpec.ofChange boundWholeWrong)

/-- 'tendrillaw20.BoundTells': WHATEVER THE INPUT: true; the input reads as it did. -/
def boundTellsSpec : ChangeSpec := { name := "boundTells", fn := fun _ => fun
  | [d1, d2, d3, d4] => { results := [.lit (.bool true)], args := [d1, d2, d3, d4] }
  | _ => none }
def boundTellsRow : OpenClaim := { program := "ytifogeaamdiciaa", sum := "b9a0dc5b444fc78fdbcd8b53121f48580cc441b216fa4aae8398f0a733155fac", func := "tendril/tendrillaw20.BoundTells", spec := "boundTells", unfollowed := true, recurses := true, apart := false }
def BoundTellsSaid : Prop := boundTellsRow.holds Try.pinned (OpenSpec.ofChange boundTellsSpec)

/-- ITS FALSE NEIGHBOUR: 'it returns false'. Refute it at one input. -/
def boundTellsWrong : ChangeSpec := { name := "boundTells", fn := fun _ => fun
  | [d1, d2, d3, d4] => { results := [.lit (.bool false)], args := [d1, d2, d3, d4] }
  | _ => none }
def BoundTellsWrongFalsely : Prop := boundTellsRow.holds Try.pinned (OpenSpec.ofChange boundTellsWrong)

/-- 'tendrillaw20.BoundGrows': WHATEVER THE INPUT: true; the input reads as it did. -/
def boundGrowsSpec : ChangeSpec := { name := "boundGrows", fn := fun _ => fun
  | [d1, d2] => { results := [.lit (.bool true)], args := [d1, d2] }
  | _ => none }
def boundGrowsRow : OpenClaim := { program := "ytifogeaamdiciaa", sum := "b9a0dc5b444fc78fdbcd8b53121f48580cc441b216fa4aae8398f0a733155fac", func := "tendril/tendrillaw20.BoundGrows", spec := "boundGrows", unfollowed := true, recurses := true, apart := false }
def BoundGrowsSaid : Prop := boundGrowsRow.holds Try.pinned (OpenSpec.ofChange boundGrowsSpec)

/-- ITS FALSE NEIGHBOUR: 'it returns false'. Refute it at one input. -/
def boundGrowsWrong : ChangeSpec := { name := "boundGrows", fn := fun _ => fun
  | [d1, d2] => { results := [.lit (.bool false)], args := [d1, d2] }
  | _ => none }
def BoundGrowsWrongFalsely : Prop := boundGrowsRow.holds Try.pinned (OpenSpec.ofChange boundGrowsWrong)

/-- 'tendrillaw23.ReuseTells': WHATEVER THE INPUT: true; the input reads as it did. -/
def reuseTellsSpec : ChangeSpec := { name := "reuseTells", fn := fun _ => fun
  | [d1, d2, d3] => { results := [.lit (.bool true)], args := [d1, d2, d3] }
  | _ => none }
def reuseTellsRow : OpenClaim := { program := "ytifogeaamdiciaa", sum := "b9a0dc5b444fc78fdbcd8b53121f48580cc441b216fa4aae8398f0a733155fac", func := "tendril/tendrillaw23.ReuseTells", spec := "reuseTells", unfollowed := true, recurses := true, apart := false }
def ReuseTellsSaid : Prop := reuseTellsRow.holds Try.pinned (OpenSpec.ofChange reuseTellsSpec)

/-- ITS FALSE NEIGHBOUR: 'it returns false'. Refute it at one input. -/
def reuseTellsWrong : ChangeSpec := { name := "reuseTells", fn := fun _ => fun
  | [d1, d2, d3] => { results := [.lit (.bool false)], args := [d1, d2, d3] }
  | _ => none }
def ReuseTellsWrongFalsely : Prop := reuseTellsRow.holds Try.pinned (OpenSpec.ofChange reuseTellsWrong)

/-- 'tendrillaw23.ReuseParts': WHATEVER THE INPUT: true; the input reads as it did. -/
def reusePartsSpec : ChangeSpec := { name := "reuseParts", fn := fun _ => fun
  | [d1, d2, d3] => { results := [.lit (.bool true)], args := [d1, d2, d3] }
  | _ => none }
def reusePartsRow : OpenClaim := { program := "ytifogeaamdiciaa", sum := "b9a0dc5b444fc78fdbcd8b53121f48580cc441b216fa4aae8398f0a733155fac", func := "tendril/tendrillaw23.ReuseParts", spec := "reuseParts", unfollowed := true, recurses := true, apart := false }
def ReusePartsSaid : Prop := reusePartsRow.holds Try.pinned (OpenSpec.ofChange reusePartsSpec)

/-- ITS FALSE NEIGHBOUR: 'it returns false'. Refute it at one input. -/
def reusePartsWrong : ChangeSpec := { name := "reuseParts", fn := fun _ => fun
  | [d1, d2, d3] => { results := [.lit (.bool false)], args := [d1, d2, d3] }
  | _ => none }
def ReusePartsWrongFalsely : Prop := reusePartsRow.holds Try.pinned (OpenSpec.ofChange reusePartsWrong)

/-- 'tendrillaw23.ReuseGives': WHATEVER THE INPUT: true; the input reads as it did. -/
def reuseGivesSpec : ChangeSpec := { name := "reuseGives", fn := fun _ => fun
  | [d1, d2, d3] => { results := [.lit (.bool true)], args := [d1, d2, d3] }
  | _ => none }
def reuseGivesRow : OpenClaim := { program := "ytifogeaamdiciaa", sum := "b9a0dc5b444fc78fdbcd8b53121f48580cc441b216fa4aae8398f0a733155fac", func := "tendril/tendrillaw23.ReuseGives", spec := "reuseGives", unfollowed := true, recurses := true, apart := false }
def ReuseGivesSaid : Prop := reuseGivesRow.holds Try.pinned (OpenSpec.ofChange reuseGivesSpec)

/-- ITS FALSE NEIGHBOUR: 'it returns false'. Refute it at one input. -/
def reuseGivesWrong : ChangeSpec := { name := "reuseGives", fn := fun _ => fun
  | [d1, d2, d3] => { results := [.lit (.bool false)], args := [d1, d2, d3] }
  | _ => none }
def ReuseGivesWrongFalsely : Prop := reuseGivesRow.holds Try.pinned (OpenSpec.ofChange reuseGivesWrong)

/-- 'tendrillaw09.OrderGoes': WHATEVER THE INPUT: true; the input reads as it did. -/
def orderGoesSpec : ChangeSpec := { name := "orderGoes", fn := fun _ => fun
  | [d] => { results := [.lit (.bool true)], args := [d] }
  | _ => none }
def orderGoesRow : OpenClaim := { program := "ytifogeaamdiciaa", sum := "b9a0dc5b444fc78fdbcd8b53121f48580cc441b216fa4aae8398f0a733155fac", func := "tendril/tendrillaw09.OrderGoes", spec := "orderGoes", unfollowed := true, recurses := true, apart := false }
def OrderGoesSaid : Prop := orderGoesRow.holds Try.pinned (OpenSpec.ofChange orderGoesSpec)

/-- ITS FALSE NEIGHBOUR: 'it returns false'. Refute it at one input. -/
def orderGoesWrong : ChangeSpec := { name := "orderGoes", fn := fun _ => fun
  | [d] => { results := [.lit (.bool false)], args := [d] }
  | _ => none }
def OrderGoesWrongFalsely : Prop := orderGoesRow.holds Try.pinned (OpenSpec.ofChange orderGoesWrong)

/-- 'tendrillaw09.OrderMakes': WHATEVER THE INPUT: true; the input reads as it did. -/
def orderMakesSpec : ChangeSpec := { name := "orderMakes", fn := fun _ => fun
  | [d] => { results := [.lit (.bool true)], args := [d] }
  | _ => none }
def orderMakesRow : OpenClaim := { program := "ytifogeaamdiciaa", sum := "b9a0dc5b444fc78fdbcd8b53121f48580cc441b216fa4aae8398f0a733155fac", func := "tendril/tendrillaw09.OrderMakes", spec := "orderMakes", unfollowed := true, recurses := true, apart := false }
def OrderMakesSaid : Prop := orderMakesRow.holds Try.pinned (OpenSpec.ofChange orderMakesSpec)

/-- ITS FALSE NEIGHBOUR: 'it returns false'. Refute it at one input. -/
def orderMakesWrong : ChangeSpec := { name := "orderMakes", fn := fun _ => fun
  | [d] => { results := [.lit (.bool false)], args := [d] }
  | _ => none }
def OrderMakesWrongFalsely : Prop := orderMakesRow.holds Try.pinned (OpenSpec.ofChange orderMakesWrong)

/-- 'tendrillaw09.OrderChecks': WHATEVER THE INPUT: true; the input reads as it did. -/
def orderChecksSpec : ChangeSpec := { name := "orderChecks", fn := fun _ => fun
  | [d] => { results := [.lit (.bool true)], args := [d] }
  | _ => none }
def orderChecksRow : OpenClaim := { program := "ytifogeaamdiciaa", sum := "b9a0dc5b444fc78fdbcd8b53121f48580cc441b216fa4aae8398f0a733155fac", func := "tendril/tendrillaw09.OrderChecks", spec := "orderChecks", unfollowed := true, recurses := true, apart := false }
def OrderChecksSaid : Prop := orderChecksRow.holds Try.pinned (OpenSpec.ofChange orderChecksSpec)

/-- ITS FALSE NEIGHBOUR: 'it returns false'. Refute it at one input. -/
def orderChecksWrong : ChangeSpec := { name := "orderChecks", fn := fun _ => fun
  | [d] => { results := [.lit (.bool false)], args := [d] }
  | _ => none }
def OrderChecksWrongFalsely : Prop := orderChecksRow.holds Try.pinned (OpenSpec.ofChange orderChecksWrong)

/-- 'tendrillaw09.OrderSets': WHATEVER THE INPUT: true; the input reads as it did. -/
def orderSetsSpec : ChangeSpec := { name := "orderSets", fn := fun _ => fun
  | [d1, d2] => { results := [.lit (.bool true)], args := [d1, d2] }
  | _ => none }
def orderSetsRow : OpenClaim := { program := "ytifogeaamdiciaa", sum := "b9a0dc5b444fc78fdbcd8b53121f48580cc441b216fa4aae8398f0a733155fac", func := "tendril/tendrillaw09.OrderSets", spec := "orderSets", unfollowed := true, recurses := true, apart := false }
def OrderSetsSaid : Prop := orderSetsRow.holds Try.pinned (OpenSpec.ofChange orderSetsSpec)

/-- ITS FALSE NEIGHBOUR: 'it returns false'. Refute it at one input. -/
def orderSetsWrong : ChangeSpec := { name := "orderSets", fn := fun _ => fun
  | [d1, d2] => { results := [.lit (.bool false)], args := [d1, d2] }
  | _ => none }
def OrderSetsWrongFalsely : Prop := orderSetsRow.holds Try.pinned (OpenSpec.ofChange orderSetsWrong)

/-- 'tendrillaw09.OrderLooks': WHATEVER THE INPUT: true; the input reads as it did. -/
def orderLooksSpec : ChangeSpec := { name := "orderLooks", fn := fun _ => fun
  | [d1, d2, d3] => { results := [.lit (.bool true)], args := [d1, d2, d3] }
  | _ => none }
def orderLooksRow : OpenClaim := { program := "ytifogeaamdiciaa", sum := "b9a0dc5b444fc78fdbcd8b53121f48580cc441b216fa4aae8398f0a733155fac", func := "tendril/tendrillaw09.OrderLooks", spec := "orderLooks", unfollowed := true, recurses := true, apart := false }
def OrderLooksSaid : Prop := orderLooksRow.holds Try.pinned (OpenSpec.ofChange orderLooksSpec)

/-- ITS FALSE NEIGHBOUR: 'it returns false'. Refute it at one input. -/
def orderLooksWrong : ChangeSpec := { name := "orderLooks", fn := fun _ => fun
  | [d1, d2, d3] => { results := [.lit (.bool false)], args := [d1, d2, d3] }
  | _ => none }
def OrderLooksWrongFalsely : Prop := orderLooksRow.holds Try.pinned (OpenSpec.ofChange orderLooksWrong)

/-- 'tendrillaw09.OrderUnion': WHATEVER THE INPUT: true; the input reads as it did. -/
def orderUnionSpec : ChangeSpec := { name := "orderUnion", fn := fun _ => fun
  | [d1, d2, d3] => { results := [.lit (.bool true)], args := [d1, d2, d3] }
  | _ => none }
def orderUnionRow : OpenClaim := { program := "ytifogeaamdiciaa", sum := "b9a0dc5b444fc78fdbcd8b53121f48580cc441b216fa4aae8398f0a733155fac", func := "tendril/tendrillaw09.OrderUnion", spec := "orderUnion", unfollowed := true, recurses := true, apart := false }
def OrderUnionSaid : Prop := orderUnionRow.holds Try.pinned (OpenSpec.ofChange orderUnionSpec)

/-- ITS FALSE NEIGHBOUR: 'it returns false'. Refute it at one input. -/
def orderUnionWrong : ChangeSpec := { name := "orderUnion", fn := fun _ => fun
  | [d1, d2, d3] => { results := [.lit (.bool false)], args := [d1, d2, d3] }
  | _ => none }
def OrderUnionWrongFalsely : Prop := orderUnionRow.holds Try.pinned (OpenSpec.ofChange orderUnionWrong)

/- THE SECOND FORM. 'bulk': how many values and letters a reading holds, each counted each time it is reached (what is shared counts as often as it is met; a slice's spare places count too). A statement '..UptoSaid' is the law's where the arguments, and the package variables that the reading takes, are together of bulk at most 1048576: NARROWER than '..Said'. Prove '..Said' where nothing that the law and all that it calls make is longer than what came in: it says more and counts as full. Else prove '..UptoSaid'. A law counts once. -/
mutual
def uptoBulk {H : Type} : DataW H → Nat
  | .lit (.string bytes) => bytes.length + 1
  | .lit _ => 1
  | .nil => 1
  | .ptr d => uptoBulk d + 1
  | .slice elems spare => uptoBulkAll elems + uptoBulkAll spare + 1
  | .agg parts => uptoBulkAll parts + 1
  | .iface _ d => uptoBulk d + 1
  | .map entries => uptoBulkEntries entries + 1
  | .held _ => 1
def uptoBulkAll {H : Type} : List (DataW H) → Nat
  | [] => 0
  | d :: r => uptoBulk d + uptoBulkAll r
def uptoBulkEntries {H : Type} : List (Lit × DataW H) → Nat
  | [] => 0
  | x :: r => uptoBulkEntry x + uptoBulkEntries r
def uptoBulkEntry {H : Type} : Lit × DataW H → Nat
  | (.string bytes, d) => bytes.length + uptoBulk d + 1
  | (_, d) => uptoBulk d + 1
 end
def uptoSmall : (H : Type) → List (DataW H) → Bool := fun _ ds => decide (uptoBulkAll ds ≤ 1048576)
def OpenSpec.upto (s : _root_.Go.ChangeSpec) : _root_.Go.OpenSpec := { _root_.Go.OpenSpec.ofChange s with cond := some uptoSmall }

/-- 'tendrillaw20.BoundParts', WHERE WHAT IT READS IS OF BULK AT MOST 1048576: true; the input reads as it did. -/
def boundPartsUptoRow : OpenClaim := { program := "ytifogeaamdiciaa", sum := "b9a0dc5b444fc78fdbcd8b53121f48580cc441b216fa4aae8398f0a733155fac", func := "tendril/tendrillaw20.BoundParts", spec := "boundParts", unfollowed := true, recurses := true, apart := false, narrowed := true }
def BoundPartsUptoSaid : Prop := boundPartsUptoRow.holds Try.pinned (OpenSpec.upto boundPartsSpec)

/-- 'tendrillaw20.BoundWhole', WHERE WHAT IT READS IS OF BULK AT MOST 1048576: true; the input reads as it did. -/
def boundWholeUptoRow : OpenClaim := { program := "ytifogeaamdiciaa", sum := "b9a0dc5b444fc78fdbcd8b53121f48580cc441b216fa4aae8398f0a733155fac", func := "tendril/tendrillaw20.BoundWhole", spec := "boundWhole", unfollowed := true, recurses := true, apart := false, narrowed := true }
def BoundWholeUptoSaid : Prop := boundWholeUptoRow.holds Try.pinned (OpenSpec.upto boundWholeSpec)

/-- 'tendrillaw20.BoundTells', WHERE WHAT IT READS IS OF BULK AT MOST 1048576: true; the input reads as it did. -/
def boundTellsUptoRow : OpenClaim := { program := "ytifogeaamdiciaa", sum := "b9a0dc5b444fc78fdbcd8b53121f48580cc441b216fa4aae8398f0a733155fac", func := "tendril/tendrillaw20.BoundTells", spec := "boundTells", unfollowed := true, recurses := true, apart := false, narrowed := true }
def BoundTellsUptoSaid : Prop := boundTellsUptoRow.holds Try.pinned (OpenSpec.upto boundTellsSpec)

/-- 'tendrillaw20.BoundGrows', WHERE WHAT IT READS IS OF BULK AT MOST 1048576: true; the input reads as it did. -/
def boundGrowsUptoRow : OpenClaim := { program := "ytifogeaamdiciaa", sum := "b9a0dc5b444fc78fdbcd8b53121f48580cc441b216fa4aae8398f0a733155fac", func := "tendril/tendrillaw20.BoundGrows", spec := "boundGrows", unfollowed := true, recurses := true, apart := false, narrowed := true }
def BoundGrowsUptoSaid : Prop := boundGrowsUptoRow.holds Try.pinned (OpenSpec.upto boundGrowsSpec)

/-- 'tendrillaw23.ReuseTells', WHERE WHAT IT READS IS OF BULK AT MOST 1048576: true; the input reads as it did. -/
def reuseTellsUptoRow : OpenClaim := { program := "ytifogeaamdiciaa", sum := "b9a0dc5b444fc78fdbcd8b53121f48580cc441b216fa4aae8398f0a733155fac", func := "tendril/tendrillaw23.ReuseTells", spec := "reuseTells", unfollowed := true, recurses := true, apart := false, narrowed := true }
def ReuseTellsUptoSaid : Prop := reuseTellsUptoRow.holds Try.pinned (OpenSpec.upto reuseTellsSpec)

/-- 'tendrillaw23.ReuseParts', WHERE WHAT IT READS IS OF BULK AT MOST 1048576: true; the input reads as it did. -/
def reusePartsUptoRow : OpenClaim := { program := "ytifogeaamdiciaa", sum := "b9a0dc5b444fc78fdbcd8b53121f48580cc441b216fa4aae8398f0a733155fac", func := "tendril/tendrillaw23.ReuseParts", spec := "reuseParts", unfollowed := true, recurses := true, apart := false, narrowed := true }
def ReusePartsUptoSaid : Prop := reusePartsUptoRow.holds Try.pinned (OpenSpec.upto reusePartsSpec)

/-- 'tendrillaw23.ReuseGives', WHERE WHAT IT READS IS OF BULK AT MOST 1048576: true; the input reads as it did. -/
def reuseGivesUptoRow : OpenClaim := { program := "ytifogeaamdiciaa", sum := "b9a0dc5b444fc78fdbcd8b53121f48580cc441b216fa4aae8398f0a733155fac", func := "tendril/tendrillaw23.ReuseGives", spec := "reuseGives", unfollowed := true, recurses := true, apart := false, narrowed := true }
def ReuseGivesUptoSaid : Prop := reuseGivesUptoRow.holds Try.pinned (OpenSpec.upto reuseGivesSpec)

/-- 'tendrillaw09.OrderGoes', WHERE WHAT IT READS IS OF BULK AT MOST 1048576: true; the input reads as it did. -/
def orderGoesUptoRow : OpenClaim := { program := "ytifogeaamdiciaa", sum := "b9a0dc5b444fc78fdbcd8b53121f48580cc441b216fa4aae8398f0a733155fac", func := "tendril/tendrillaw09.OrderGoes", spec := "orderGoes", unfollowed := true, recurses := true, apart := false, narrowed := true }
def OrderGoesUptoSaid : Prop := orderGoesUptoRow.holds Try.pinned (OpenSpec.upto orderGoesSpec)

/-- 'tendrillaw09.OrderMakes', WHERE WHAT IT READS IS OF BULK AT MOST 1048576: true; the input reads as it did. -/
def orderMakesUptoRow : OpenClaim := { program := "ytifogeaamdiciaa", sum := "b9a0dc5b444fc78fdbcd8b53121f48580cc441b216fa4aae8398f0a733155fac", func := "tendril/tendrillaw09.OrderMakes", spec := "orderMakes", unfollowed := true, recurses := true, apart := false, narrowed := true }
def OrderMakesUptoSaid : Prop := orderMakesUptoRow.holds Try.pinned (OpenSpec.upto orderMakesSpec)

/-- 'tendrillaw09.OrderChecks', WHERE WHAT IT READS IS OF BULK AT MOST 1048576: true; the input reads as it did. -/
def orderChecksUptoRow : OpenClaim := { program := "ytifogeaamdiciaa", sum := "b9a0dc5b444fc78fdbcd8b53121f48580cc441b216fa4aae8398f0a733155fac", func := "tendril/tendrillaw09.OrderChecks", spec := "orderChecks", unfollowed := true, recurses := true, apart := false, narrowed := true }
def OrderChecksUptoSaid : Prop := orderChecksUptoRow.holds Try.pinned (OpenSpec.upto orderChecksSpec)

/-- 'tendrillaw09.OrderSets', WHERE WHAT IT READS IS OF BULK AT MOST 1048576: true; the input reads as it did. -/
def orderSetsUptoRow : OpenClaim := { program := "ytifogeaamdiciaa", sum := "b9a0dc5b444fc78fdbcd8b53121f48580cc441b216fa4aae8398f0a733155fac", func := "tendril/tendrillaw09.OrderSets", spec := "orderSets", unfollowed := true, recurses := true, apart := false, narrowed := true }
def OrderSetsUptoSaid : Prop := orderSetsUptoRow.holds Try.pinned (OpenSpec.upto orderSetsSpec)

/-- 'tendrillaw09.OrderLooks', WHERE WHAT IT READS IS OF BULK AT MOST 1048576: true; the input reads as it did. -/
def orderLooksUptoRow : OpenClaim := { program := "ytifogeaamdiciaa", sum := "b9a0dc5b444fc78fdbcd8b53121f48580cc441b216fa4aae8398f0a733155fac", func := "tendril/tendrillaw09.OrderLooks", spec := "orderLooks", unfollowed := true, recurses := true, apart := false, narrowed := true }
def OrderLooksUptoSaid : Prop := orderLooksUptoRow.holds Try.pinned (OpenSpec.upto orderLooksSpec)

/-- 'tendrillaw09.OrderUnion', WHERE WHAT IT READS IS OF BULK AT MOST 1048576: true; the input reads as it did. -/
def orderUnionUptoRow : OpenClaim := { program := "ytifogeaamdiciaa", sum := "b9a0dc5b444fc78fdbcd8b53121f48580cc441b216fa4aae8398f0a733155fac", func := "tendril/tendrillaw09.OrderUnion", spec := "orderUnion", unfollowed := true, recurses := true, apart := false, narrowed := true }
def OrderUnionUptoSaid : Prop := orderUnionUptoRow.holds Try.pinned (OpenSpec.upto orderUnionSpec)

end Rows
end Go.Proofs.Ytifogeaamdiciaa
