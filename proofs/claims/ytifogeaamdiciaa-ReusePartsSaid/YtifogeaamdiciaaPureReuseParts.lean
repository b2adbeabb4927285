/-
tendrillaw23.ReuseParts: what the contract says of two lists put together is what it says of each, put together, and the classes' parts are no more than the whole; for every two lists.
-/
import Derived.Test.YtifogeaamdiciaaSaidReuseParts
import Derived.Test.YtifogeaamdiciaaPReuLLive
import Derived.Test.YtifogeaamdiciaaPReuLTouch
namespace Go.Proofs.Ytifogeaamdiciaa.Pure
open Go.RowKit Go.Proofs.Ytifogeaamdiciaa.PReu Go.Proofs.YtifogeaamdiciaaW.PrintWords Go.Proofs.YtifogeaamdiciaaW.PrintLast

theorem of_parts (l : List S60) : (l.filter (fun x => x.f0 == 0)).length + (l.filter (fun x => x.f0 == 1)).length + (l.filter (fun x => x.f0 == 2)).length + (l.filter (fun x => x.f0 == 3)).length ≤ l.length := by
  induction l with
  | nil => simp
  | cons a l ih =>
    have one : ∀ t : Int, ((a :: l).filter (fun x => x.f0 == t)).length = (if a.f0 = t then 1 else 0) + (l.filter (fun x => x.f0 == t)).length := by
      intro t
      rw [List.filter_cons]
      by_cases h : a.f0 = t
      · simp [h, Nat.add_comm]
      · simp [h]
    rw [one, one, one, one, List.length_cons]
    repeat' split
    all_goals omega
theorem ReuseParts : tendrillaw23_ReuseParts.Pure := by
  intro x0 x1 x2 _ _ _
  refine ⟨1000, ?_⟩
  unfold tendrillaw23_ReuseParts.f
  rw [live_true _ (by omega), Option.bind_some, if_pos rfl]
  by_cases h : (x0.length : Int) > 100
  · rw [if_pos h]
    rfl
  · rw [if_neg h]
    by_cases h2 : (x1.length : Int) > 100
    · rw [decide_eq_true h2]
      rfl
    · rw [decide_eq_false h2]
      have hn : ([] : List S60).length = 0 := rfl
      have ha : (x0 ++ x1).length = x0.length + x1.length := List.length_append
      have hp := of_parts x0
      have f0 := List.length_filter_le (fun x : S60 => x.f4 != x.f5) x0
      have f1 := List.length_filter_le (fun x : S60 => x.f4 != x.f5) x1
      have g0 := List.length_filter_le (fun x : S60 => x.f6 == 0) x0
      have g1 := List.length_filter_le (fun x : S60 => x.f6 == 0) x1
      have o0 := List.length_filter_le (fun x : S60 => x.f0 == x2) x0
      have o1 := List.length_filter_le (fun x : S60 => x.f0 == x2) x1
      rw [tendrillaw23_ReuseParts.j0, if_neg (by simp), if_pos (by omega), Option.bind_some, List.nil_append, if_pos (by omega)]
      rw [tendrillaw23_ReuseParts.l0, if_pos (by decide), reuse_Of.f, if_pos (by omega), Option.bind_some, w64i _ (by omega) (by omega)]
      rw [show wrap64 (0 + 1) = 1 from w64i _ (by decide) (by decide), tendrillaw23_ReuseParts.l0, if_pos (by decide), reuse_Of.f, if_pos (by omega), Option.bind_some, w64i _ (by omega) (by omega)]
      rw [show wrap64 (1 + 1) = 2 from w64i _ (by decide) (by decide), tendrillaw23_ReuseParts.l0, if_pos (by decide), reuse_Of.f, if_pos (by omega), Option.bind_some, w64i _ (by omega) (by omega)]
      rw [show wrap64 (2 + 1) = 3 from w64i _ (by decide) (by decide), tendrillaw23_ReuseParts.l0, if_pos (by decide), reuse_Of.f, if_pos (by omega), Option.bind_some, w64i _ (by omega) (by omega)]
      rw [show wrap64 (3 + 1) = 4 from w64i _ (by decide) (by decide), tendrillaw23_ReuseParts.l0, if_neg (by decide)]
      rw [reuse_Stale.f, if_pos (by omega), Option.bind_some, reuse_Stale.f, if_pos (by omega), Option.bind_some, reuse_Stale.f, if_pos (by omega), Option.bind_some, if_pos (by omega), List.filter_append,
        sameT_self _ (by rw [List.length_append]; omega) _ (by rw [List.length_append]; omega), Option.bind_some, if_pos rfl]
      rw [reuse_Idle.f, if_pos (by omega), Option.bind_some, reuse_Idle.f, if_pos (by omega), Option.bind_some, reuse_Idle.f, if_pos (by omega), Option.bind_some, if_pos (by omega), List.filter_append,
        sameT_self _ (by rw [List.length_append]; omega) _ (by rw [List.length_append]; omega), Option.bind_some, if_pos rfl]
      rw [reuse_Of.f, if_pos (by omega), Option.bind_some, reuse_Of.f, if_pos (by omega), Option.bind_some, reuse_Of.f, if_pos (by omega), Option.bind_some, if_pos (by omega), List.filter_append,
        sameT_self _ (by rw [List.length_append]; omega) _ (by rw [List.length_append]; omega), Option.bind_some, if_pos rfl, decide_eq_true (by omega)]

end Go.Proofs.Ytifogeaamdiciaa.Pure
