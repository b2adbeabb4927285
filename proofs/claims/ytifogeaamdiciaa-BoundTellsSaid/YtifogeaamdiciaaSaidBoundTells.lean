-- Printed by wip/tools/myprint.py of this repo, over the kit's printer
import Derived.Test.YtifogeaamdiciaaPBndx9
namespace Go.Proofs.Ytifogeaamdiciaa.PBnd
open Go.RowKit Go.Proofs.YtifogeaamdiciaaW.PrintWords Go.Proofs.YtifogeaamdiciaaW.PrintLast
structure Wf28 (x : S28) : Prop where mk ::
  h0 : (Lit.int .i64 x.f0).wf = true
  h1 : (Lit.int .i64 x.f1).wf = true
  h2 : (Lit.int .i64 x.f2).wf = true
  h3 : (Lit.int .i64 x.f3).wf = true
  h4 : (Lit.int .i64 x.f4).wf = true
/-- THE ONE PURE STATEMENT of tendrillaw20_BoundTells: yours. -/
def tendrillaw20_BoundTells.Pure : Prop := ∀ (x0 : S28) (x1 : Int) (x2 : List Int) (x3 : Int), (Wf28 x0) → ((Lit.int .i64 x1).wf = true) → (x2.length ≤ maxLen ∧ x2.length * 8 ≤ 140737488351232 ∧ (∀ e_0 ∈ x2, (Lit.int .i64 e_0).wf = true)) → ((Lit.int .i64 x3).wf = true) → ∃ k, tendrillaw20_BoundTells.f k x0.f0 x0.f1 x0.f2 x0.f3 x0.f4 x1 x2 x3 = some true
end Go.Proofs.Ytifogeaamdiciaa.PBnd
