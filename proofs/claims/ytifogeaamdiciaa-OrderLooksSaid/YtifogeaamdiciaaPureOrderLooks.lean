/-
tendrillaw09.OrderLooks: what is in any lists, in both, and above any number, is what the reference says; for every two lists and number.
-/
import Derived.Test.YtifogeaamdiciaaPOrdx16
import Derived.Test.YtifogeaamdiciaaPOrdLBase
import Derived.Test.YtifogeaamdiciaaPOrdLSets
import Derived.Test.YtifogeaamdiciaaPOrdLOrd
namespace Go.Proofs.Ytifogeaamdiciaa.Pure
open Go.RowKit Go.Proofs.Ytifogeaamdiciaa.POrd Go.Proofs.YtifogeaamdiciaaW.PrintWords Go.Proofs.YtifogeaamdiciaaW.PrintLast

theorem OrderLooks : tendrillaw09_OrderLooks.Pure := by
  intro l m a _ _ hw _ _ hv _
  refine ⟨1020000, ?_⟩
  unfold tendrillaw09_OrderLooks.f
  rw [olive_true _ (by omega), Option.bind_some, if_pos rfl]
  by_cases h : (l.length : Int) > 150
  · rw [if_pos h]
    rfl
  · rw [if_neg h]
    by_cases h2 : (m.length : Int) > 150
    · rw [decide_eq_true h2]
      rfl
    · rw [decide_eq_false h2]
      obtain ⟨r, a1, a2⟩ := above_eq l a (by omega) hw 1019999 (by omega)
      obtain ⟨s, b1, b2⟩ := ref_above_eq l a (by omega) 1019999 (by omega)
      have e := a2.unique b2
      subst e
      have hu : (setL (l ++ m)).length ≤ 300 := Nat.le_trans (setL_length _) (by rw [List.length_append]; omega)
      rw [show (1020000 : Nat) = 1019999 + 1 from rfl, tendrillaw09_OrderLooks.j0, if_neg (by simp), a1, Option.bind_some, b1, Option.bind_some, ohas_eq l a (by omega) _ (by omega), Option.bind_some, has_eq l a (by omega) _ (by omega), Option.bind_some, if_pos (by simp),
        within_eq (by omega) hw (by omega) hv, Option.bind_some, ref_within_eq (by omega) (by omega) _ (by omega), Option.bind_some, if_pos (by simp),
        union_eq (by omega) hw (by omega) hv, Option.bind_some, ref_union_eq (by omega) (by omega) _ (by omega), Option.bind_some, same_eq _ _ (by omega) _ (by omega), Option.bind_some, if_pos (by simp), if_pos rfl]
      simp

end Go.Proofs.Ytifogeaamdiciaa.Pure
