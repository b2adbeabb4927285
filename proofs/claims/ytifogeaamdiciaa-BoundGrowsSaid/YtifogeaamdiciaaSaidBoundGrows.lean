-- Printed by wip/tools/myprint.py of this repo, over the kit's printer
import Derived.Test.YtifogeaamdiciaaPBndx10
namespace Go.Proofs.Ytifogeaamdiciaa.PBnd
open Go.RowKit Go.Proofs.YtifogeaamdiciaaW.PrintWords Go.Proofs.YtifogeaamdiciaaW.PrintLast
structure Wf28 (x : S28) : Prop where mk ::
  h0 : (Lit.int .i64 x.f0).wf = true
  h1 : (Lit.int .i64 x.f1).wf = true
  h2 : (Lit.int .i64 x.f2).wf = true
  h3 : (Lit.int .i64 x.f3).wf = true
  h4 : (Lit.int .i64 x.f4).wf = true
/-- THE ONE PURE STATEMENT of tendrillaw20_BoundGrows: yours. -/
def tendrillaw20_BoundGrows.Pure : Prop := ∀ (x0 : S28) (x1 : Int), (Wf28 x0) → ((Lit.int .i64 x1).wf = true) → ∃ k, tendrillaw20_BoundGrows.f k x0.f0 x0.f1 x0.f2 x0.f3 x0.f4 x1 = some true
end Go.Proofs.Ytifogeaamdiciaa.PBnd
