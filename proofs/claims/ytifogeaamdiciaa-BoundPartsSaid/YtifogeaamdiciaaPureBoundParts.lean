/-
tendrillaw20.BoundParts: of picks that are whole windows, and others behind them, as many more are whole as of these; for every input.
-/
import Derived.Test.YtifogeaamdiciaaPBndx3
import Derived.Test.YtifogeaamdiciaaFairLaws
namespace Go.Proofs.Ytifogeaamdiciaa.Pure
open Go.RowKit Go.Proofs.Ytifogeaamdiciaa.PBnd Go.Proofs.YtifogeaamdiciaaW.PrintWords Go.Proofs.YtifogeaamdiciaaW.PrintLast

theorem BoundParts : tendrillaw20_BoundParts.Pure := by
  intro l0 l1 a2 _ _ _ _ _ _ _
  refine ⟨2, ?_⟩
  unfold tendrillaw20_BoundParts.f
  rw [live_f]
  simp only [Option.bind_some, if_true]
  have hj : tendrillaw20_BoundParts.j0 2 l0 l1 a2 true = some true := by simp only [tendrillaw20_BoundParts.j0, if_true]
  rw [hj]
  by_cases c1 : a2 < 1
  · rw [if_pos c1]
  rw [if_neg c1]
  by_cases c2 : a2 > 100
  · rw [if_pos c2]
  rw [if_neg c2]
  by_cases c3 : (l0.length : Int) > 300
  · rw [if_pos c3]
  rw [if_neg c3]
  by_cases c4 : (l1.length : Int) > 300
  · rw [if_pos c4]
  rw [if_neg c4, if_neg (by omega)]
  by_cases c5 : (l0.length : Int) % a2 = 0
  case neg =>
    rw [show ((l0.length : Int) % a2 != 0) = true by simpa using c5, hj]
  rw [show ((l0.length : Int) % a2 != 0) = false by simpa using c5]
  obtain ⟨n, rfl⟩ := Int.eq_ofNat_of_zero_le (show 0 ≤ a2 by omega)
  simp only [tendrillaw20_BoundParts.j0]
  rw [if_neg (by simp), fair_f l0 n (by omega) (by omega) (by omega)]
  simp only [Option.bind_some, List.nil_append, List.length_nil]
  rw [if_pos (by omega), if_pos (by omega), fair_f (l0 ++ l1) n (by omega) (by omega) (by rw [List.length_append]; omega)]
  simp only [Option.bind_some]
  have hq : (l0.length / n) * n = l0.length := by
    have h2 : l0.length % n = 0 := by omega
    have h3 := Nat.div_add_mod l0.length n
    rw [Nat.mul_comm] at h3
    omega
  obtain ⟨h1, h2⟩ := fairN_le (l0.length / n) l0 n (by omega) hq.symm
  have hd : wrap64 ((l0.length : Int) / (n : Int)) = ((l0.length / n : Nat) : Int) := by
    rw [← Int.natCast_ediv]
    have : l0.length / n ≤ l0.length := Nat.div_le_self _ _
    generalize l0.length / n = x at this
    unfold wrap64
    omega
  have hql : l0.length / n ≤ l0.length := Nat.div_le_self _ _
  generalize l0.length / n = q at h1 h2 hd hql
  rw [if_neg (by omega), if_neg (by omega), hd, decide_eq_false (by omega)]
  simp only [tendrillaw20_BoundParts.j1]
  rw [if_neg (by simp), if_neg (by omega), hd, h2 l1]
  have hb1 := (fairN_eq_le l1 n)
  by_cases c : fairN l0 n < q
  · rw [if_pos (by omega), if_pos c]
    simp
  · rw [if_neg (by omega), if_neg c, fair_f l1 n (by omega) (by omega) (by omega)]
    simp only [Option.bind_some]
    have : wrap64 ((fairN l0 n : Int) + (fairN l1 n : Int)) = ((fairN l0 n + fairN l1 n : Nat) : Int) := by
      unfold wrap64; omega
    rw [this]
    simp
end Go.Proofs.Ytifogeaamdiciaa.Pure
