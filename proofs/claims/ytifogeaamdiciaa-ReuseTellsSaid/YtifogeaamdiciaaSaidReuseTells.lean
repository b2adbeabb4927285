-- Printed by wip/tools/myprint.py of this repo, over the kit's printer
import Derived.Test.YtifogeaamdiciaaPReux15
namespace Go.Proofs.Ytifogeaamdiciaa.PReu
open Go.RowKit Go.Proofs.YtifogeaamdiciaaW.PrintWords Go.Proofs.YtifogeaamdiciaaW.PrintLast
structure Wf60 (x : S60) : Prop where mk ::
  h0 : (Lit.int .i64 x.f0).wf = true
  h1 : (Lit.int .i64 x.f1).wf = true
  h2 : (Lit.int .i64 x.f2).wf = true
  h3 : (Lit.int .i64 x.f3).wf = true
  h4 : (Lit.int .i64 x.f4).wf = true
  h5 : (Lit.int .i64 x.f5).wf = true
  h6 : (Lit.int .i64 x.f6).wf = true
/-- THE ONE PURE STATEMENT of tendrillaw23_ReuseTells: yours. -/
def tendrillaw23_ReuseTells.Pure : Prop := ∀ (x0 : List (S60)) (x1 : Int) (x2 : Int), (x0.length ≤ maxLen ∧ x0.length * 64 ≤ 140737488351232 ∧ (∀ e_0 ∈ x0, Wf60 e_0)) → ((Lit.int .i64 x1).wf = true) → ((Lit.int .i64 x2).wf = true) → ∃ k, tendrillaw23_ReuseTells.f k x0 x1 x2 = some true
end Go.Proofs.Ytifogeaamdiciaa.PReu
