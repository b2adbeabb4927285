-- Printed by wip/tools/myprint.py of this repo, over the kit's printer
import Derived.Test.YtifogeaamdiciaaPReux21
namespace Go.Proofs.Ytifogeaamdiciaa.PReu
open Go.RowKit Go.Proofs.YtifogeaamdiciaaW.PrintWords Go.Proofs.YtifogeaamdiciaaW.PrintLast
structure Wf65 (x : S65) : Prop where mk ::
  h0 : (Lit.int .i64 x.f0).wf = true
  h1 : (Lit.int .i64 x.f1).wf = true
  h2 : (Lit.int .i64 x.f2).wf = true
  h3 : (Lit.int .i64 x.f3).wf = true
  h4 : (Lit.int .i64 x.f4).wf = true
structure Wf123 (x : S123) : Prop where mk ::
  h0 : (Lit.int .i64 x.f0).wf = true
  h1 : (Lit.int .i64 x.f1).wf = true
structure Wf125 (x : S125) : Prop where mk ::
  h0 : (Lit.int .i64 x.f0).wf = true
  h1 : (Lit.int .i64 x.f1).wf = true
structure Wf69 (x : S69) : Prop where mk ::
  h0 : (Lit.int .i64 x.f0).wf = true
  h1 : (Lit.int .i64 x.f1).wf = true
  h2 : x.f2.length ≤ maxLen ∧ x.f2.length * 16 ≤ 140737488351232 ∧ (∀ e_0 ∈ x.f2, Wf123 e_0)
  h3 : x.f3.length ≤ maxLen ∧ x.f3.length * 16 ≤ 140737488351232 ∧ (∀ e_0 ∈ x.f3, Wf125 e_0)
  h4 : x.f4.length ≤ maxLen ∧ x.f4.length * 16 ≤ 140737488351232 ∧ (∀ e_0 ∈ x.f4, Wf125 e_0)
structure Wf71 (x : S71) : Prop where mk ::
  h0 : (Lit.int .i64 x.f0).wf = true
  h2 : Wf65 x.f2
  h3 : Wf69 x.f3
/-- THE ONE PURE STATEMENT of tendrillaw23_ReuseGives: yours. -/
def tendrillaw23_ReuseGives.Pure : Prop := ∀ (x0 : List (S71)) (x1 : Int) (x2 : List Int), (x0.length ≤ maxLen ∧ x0.length * 144 ≤ 140737488351232 ∧ (∀ e_0 ∈ x0, Wf71 e_0)) → ((Lit.int .i64 x1).wf = true) → (x2.length ≤ maxLen ∧ x2.length * 8 ≤ 140737488351232 ∧ (∀ e_0 ∈ x2, (Lit.int .i64 e_0).wf = true)) → ∃ k, tendrillaw23_ReuseGives.f k x0 x1 x2 = some true
end Go.Proofs.Ytifogeaamdiciaa.PReu
