/-
tendrillaw09.OrderMakes: the set of any numbers, and whether any list is one, are what the reference says, and the list stays as it was; for every list.
-/
import Derived.Test.YtifogeaamdiciaaPOrdx10
import Derived.Test.YtifogeaamdiciaaPOrdLBase
import Derived.Test.YtifogeaamdiciaaPOrdLSets
import Derived.Test.YtifogeaamdiciaaPOrdLOrd
namespace Go.Proofs.Ytifogeaamdiciaa.Pure
open Go.RowKit Go.Proofs.Ytifogeaamdiciaa.POrd Go.Proofs.YtifogeaamdiciaaW.PrintWords Go.Proofs.YtifogeaamdiciaaW.PrintLast

theorem bump_loop (l : List Int) (b : Bool) (hl : l.length ≤ 1000) : ∀ (d i k : Nat) (s : List Int), i + d = s.length → s.length ≤ 1000 → d + 1001 < k →
    tendrillaw09_OrderMakes.l0 k l l s b (s.length : Int) (i : Int) = some b := by
  intro d
  induction d with
  | zero =>
    intro i k s hd hs hk
    obtain ⟨k, rfl⟩ : ∃ q, k = q + 1 := ⟨k - 1, by omega⟩
    rw [tendrillaw09_OrderMakes.l0, if_neg (by omega)]
    cases b with
    | true => rw [if_pos rfl, same_eq _ _ (by omega) _ (by omega), Option.bind_some, decide_eq_true rfl]
    | false => rw [if_neg (by simp)]
  | succ d ih =>
    intro i k s hd hs hk
    obtain ⟨k, rfl⟩ : ∃ q, k = q + 1 := ⟨k - 1, by omega⟩
    rw [tendrillaw09_OrderMakes.l0, if_pos (by omega), if_pos (by omega), if_pos (by omega), w64s i (by omega)]
    have := ih (i + 1) k (s.set (i : Int).toNat (wrap64 (rd s (i : Int) + 1))) (by rw [List.length_set]; omega) (by rw [List.length_set]; omega) (by omega)
    rw [List.length_set] at this
    exact this
theorem OrderMakes : tendrillaw09_OrderMakes.Pure := by
  intro l _ _ hw
  refine ⟨1020000, ?_⟩
  unfold tendrillaw09_OrderMakes.f
  rw [olive_true _ (by omega), Option.bind_some, if_pos rfl]
  by_cases h : (l.length : Int) > 200
  · rw [if_pos h]
  · rw [if_neg h]
    have hsl := setL_length l
    have hn : ([] : List Int).length = 0 := rfl
    rw [tendrilref02_Copy.f, if_pos (by omega), Option.bind_some, List.nil_append, set_eq (by omega) hw, Option.bind_some, ref_set_eq l (by omega) _ (by omega), Option.bind_some, same_eq _ _ (by omega) _ (by omega), Option.bind_some, if_pos (by simp),
      check_eq l (by omega) _ (by omega), Option.bind_some, ref_check_eq l (by omega) _ (by omega), Option.bind_some, show (1020000 : Nat) = 1019999 + 1 from rfl, tendrillaw09_OrderMakes.j0]
    have := bump_loop l ((if l.Pairwise (· < ·) then (0 : Int) else 1) == (if l.Pairwise (· < ·) then (0 : Int) else 1)) (by omega) (setL l).length 0 1019999 (setL l) (by omega) (by omega) (by omega)
    refine this.trans ?_
    simp

end Go.Proofs.Ytifogeaamdiciaa.Pure
