/-
tendrillaw23.ReuseTells: the stale, the idle, the class's touches and the slots that the contract names are those that the reference names; for every list.
-/
import Derived.Test.YtifogeaamdiciaaSaidReuseTells
import Derived.Test.YtifogeaamdiciaaPReuLLive
import Derived.Test.YtifogeaamdiciaaPReuLTouch
import Derived.Test.YtifogeaamdiciaaPReuLSlots
namespace Go.Proofs.Ytifogeaamdiciaa.Pure
open Go.RowKit Go.Proofs.Ytifogeaamdiciaa.PReu Go.Proofs.YtifogeaamdiciaaW.PrintWords Go.Proofs.YtifogeaamdiciaaW.PrintLast

theorem ReuseTells : tendrillaw23_ReuseTells.Pure := by
  intro x0 x1 x2 _ _ _
  refine ⟨1200001, ?_⟩
  unfold tendrillaw23_ReuseTells.f
  rw [live_true _ (by omega), Option.bind_some, if_pos rfl]
  by_cases h : (x0.length : Int) > 200
  · rw [if_pos h]
  · rw [if_neg h]
    have hl : x0.length ≤ 200 := by omega
    obtain ⟨r, e1, e2, hr⟩ := slots_eq x0 x2 (by omega) 1200001 (by omega)
    rw [reuse_Stale.f, if_pos (by omega), Option.bind_some, stale_ref x0 (by omega) _ (by omega), Option.bind_some, sameT_self _ (Nat.le_trans (List.length_filter_le _ _) (by omega)) _ (Nat.lt_of_le_of_lt (List.length_filter_le _ _) (by omega)), Option.bind_some, if_pos rfl,
      reuse_Idle.f, if_pos (by omega), Option.bind_some, idle_ref x0 (by omega) _ (by omega), Option.bind_some, sameT_self _ (Nat.le_trans (List.length_filter_le _ _) (by omega)) _ (Nat.lt_of_le_of_lt (List.length_filter_le _ _) (by omega)), Option.bind_some, if_pos rfl,
      reuse_Of.f, if_pos (by omega), Option.bind_some, of_ref x0 x1 (by omega) _ (by omega), Option.bind_some, sameT_self _ (Nat.le_trans (List.length_filter_le _ _) (by omega)) _ (Nat.lt_of_le_of_lt (List.length_filter_le _ _) (by omega)), Option.bind_some, if_pos rfl,
      e1, Option.bind_some, e2, Option.bind_some, same_eq _ _ (by omega) _ (by omega), Option.bind_some]
    simp

end Go.Proofs.Ytifogeaamdiciaa.Pure
