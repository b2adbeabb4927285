/-
tendrillaw09.OrderChecks: a list is a set just if it is the set of its numbers; for every list.
-/
import Derived.Test.YtifogeaamdiciaaPOrdx11
import Derived.Test.YtifogeaamdiciaaPOrdLBase
import Derived.Test.YtifogeaamdiciaaPOrdLSets
import Derived.Test.YtifogeaamdiciaaPOrdLOrd
namespace Go.Proofs.Ytifogeaamdiciaa.Pure
open Go.RowKit Go.Proofs.Ytifogeaamdiciaa.POrd Go.Proofs.YtifogeaamdiciaaW.PrintWords Go.Proofs.YtifogeaamdiciaaW.PrintLast

theorem OrderChecks : tendrillaw09_OrderChecks.Pure := by
  intro l _ _ hw
  refine ⟨1020000, ?_⟩
  unfold tendrillaw09_OrderChecks.f
  rw [olive_true _ (by omega), Option.bind_some, if_pos rfl]
  by_cases h : (l.length : Int) > 200
  · rw [if_pos h]
  · rw [if_neg h]
    have hsl := setL_length l
    rw [check_eq l (by omega) _ (by omega), Option.bind_some, set_eq (by omega) hw, Option.bind_some, same_eq _ _ (by omega) _ (by omega), Option.bind_some]
    by_cases hp : l.Pairwise (· < ·)
    · rw [if_pos hp, decide_eq_true (setL_eq_self.2 hp)]
      rfl
    · rw [if_neg hp, decide_eq_false (fun e => hp (setL_eq_self.1 e))]
      rfl

end Go.Proofs.Ytifogeaamdiciaa.Pure
