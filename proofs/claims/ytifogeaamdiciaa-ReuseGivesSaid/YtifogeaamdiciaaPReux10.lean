-- Printed by wip/tools/myprint.py of this repo, over the kit's printer
import Derived.Test.YtifogeaamdiciaaPReux0
import Derived.Test.YtifogeaamdiciaaPReux2
namespace Go.Proofs.Ytifogeaamdiciaa.PReu
open Go.RowKit Go.Proofs.YtifogeaamdiciaaW.PrintWords Go.Proofs.YtifogeaamdiciaaW.PrintLast Go.Proofs.YtifogeaamdiciaaW.PrintMore
attribute [local go_sem] max2_int min2_int max_two min_two max_three min_three max_four min_four max_five min_five   -- for this text's walks alone
set_option linter.unusedVariables false
set_option linter.unusedSimpArgs false

/-! ### reuse_Idle: function 28 (override) -/
-- OVERRIDE tendril/reuse.Idle name=reuse_Idle rounds=0 making=1 imports=Derived.Shelf.Abstract needs=tendril/reuse.those[tendril/api.Touch]
open Go.Shelf
def reuse_Idle.f (l0 : List S60) : Option (List (S60)) := if l0.length ≤ 2199023255552 then some (l0.filter (fun x => x.f6 == 0)) else none
set_option maxHeartbeats 8000000 in
set_option maxRecDepth 100000 in
theorem reuse_Idle.calls (A0 : Option Addr) (c0 : Nat) (l0 : List (S60)) (r : List (S60)) (w : World) (hr0 : Kd.C k60 w A0 l0.length l0) (hc0 : l0.length ≤ c0) (h : reuse_Idle.f l0 = some r) :
    Calls Try.prog 28 #[.slice A0 l0.length c0] w fun e w' => ∃ v0_ : Value, e = .returned (v0_) ∧ Kd.R k60 60 w' w.heap.size (fun _ => True) v0_ r ∧ Below w.heap.size w w' := by
  unfold reuse_Idle.f at h
  by_cases hl : l0.length ≤ 2199023255552
  case neg =>
    rw [if_neg hl] at h
    cases h
  rw [if_pos hl] at h
  obtain rfl := Option.some.inj h
  clear h
  have HR0 := Aside0.mk hr0
  have HC0 := Aside0.mk hc0
  clear hr0 hc0
  go_enter Try.func28, Try.ntmps28
  go_wp2_with fail
  refine (those_calls 61 #[] (fun x => x.f6 == 0) A0 c0 l0 _ (enters_of Try.func61 (by kernel_rfl) rfl) (fun x W _ => idle_so x W) HR0.out HC0.out hl).mono ?_
  rintro e w' ⟨v, rfl, hv, hb⟩
  have HV := Aside0.mk hv
  have HB := Aside0.mk hb
  clear hv hb
  go_wp2
  go_ret
  exact ⟨v, rfl, HV.out, HB.out⟩


end Go.Proofs.Ytifogeaamdiciaa.PReu
