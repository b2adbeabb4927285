import Derived.Test.YtifogeaamdiciaaPBndx3
namespace Go.Proofs.Ytifogeaamdiciaa.PBnd
open Go.RowKit Go.Proofs.YtifogeaamdiciaaW.PrintWords Go.Proofs.YtifogeaamdiciaaW.PrintLast Go.Proofs.YtifogeaamdiciaaW.PrintMore

theorem fairN_nil (nn : Nat) (h : 1 ≤ nn) : fairN [] nn = 0 := by
  have e : fairM [] nn = 0 := by
    unfold fairM
    simp only [List.length_nil]
    exact Nat.div_eq_of_lt (by omega)
  unfold fairN
  rw [e]
  rfl
theorem fairN_cons (l r : List Int) (nn : Nat) (h : 1 ≤ nn) (hl : l.length = nn) : fairN (l ++ r) nn = if wholeB l nn then 1 + fairN r nn else 0 := by
  have hM : fairM (l ++ r) nn = fairM r nn + 1 := by
    unfold fairM
    rw [List.length_append, hl, show nn + r.length + nn - 1 = (r.length + nn - 1) + nn by omega, Nat.add_div_right _ (by omega)]
  have h0 : winL (l ++ r) nn 0 = l := by
    unfold winL
    rw [Nat.zero_mul, List.drop_zero, List.take_append_of_le_length (by omega), List.take_of_length_le (by omega)]
  have hs : ∀ j, winL (l ++ r) nn (j + 1) = winL r nn j := by
    intro j
    unfold winL
    rw [Nat.succ_mul, List.drop_append, List.drop_of_length_le (by omega), List.nil_append]
    congr 2
    omega
  unfold fairN
  rw [hM, List.range_succ_eq_map]
  cases hw : wholeB l nn with
  | true =>
    rw [List.takeWhile_cons_of_pos (by rw [h0]; exact hw), if_pos rfl, List.length_cons, List.takeWhile_map, List.length_map, Nat.add_comm]
    congr 2
    apply congrFun
    apply congrArg
    funext j
    simp only [Function.comp]
    rw [hs]
  | false => rw [List.takeWhile_cons_of_neg (by rw [h0, hw]; simp)]; simp
theorem fairN_short (l : List Int) (nn : Nat) (hl : l.length < nn) : fairN l nn = 0 := by
  refine fairN_eq l nn 0 (Nat.zero_le _) (fun j hj => by omega) (.inr ?_)
  unfold wholeB
  have : ¬ (nn ≤ (winL l nn 0).length) := by simp [winL]; omega
  simp [this]
theorem fairN_eq_le (l : List Int) (nn : Nat) : fairN l nn ≤ l.length + nn := by
  unfold fairN
  refine Nat.le_trans (List.takeWhile_sublist _).length_le ?_
  rw [List.length_range]
  unfold fairM
  exact Nat.le_trans (Nat.div_le_self _ _) (by omega)
theorem fair_f (l : List Int) (nn : Nat) (h1 : 1 ≤ nn) (h2 : nn ≤ 9223372036854775807) (hl : l.length ≤ 4611686018427387903) : bound_Fair.f l (nn : Int) = some (fairN l nn : Int) := by
  unfold bound_Fair.f
  rw [if_neg (by omega), if_pos ⟨by omega, hl⟩, Int.toNat_natCast]
theorem live_f : tendrillaw20_live.f = some true := by
  unfold tendrillaw20_live.f
  rw [show (2 : Int) = ((2 : Nat) : Int) from rfl, fair_f _ 2 (by omega) (by omega) (by simp)]
  rfl
theorem fairN_le (q : Nat) : ∀ (a : List Int) (nn : Nat), 1 ≤ nn → a.length = q * nn → fairN a nn ≤ q ∧ ∀ b, fairN (a ++ b) nn = if fairN a nn < q then fairN a nn else fairN a nn + fairN b nn := by
  induction q with
  | zero =>
    intro a nn h ha
    rw [Nat.zero_mul] at ha
    obtain rfl : a = [] := List.length_eq_zero_iff.1 ha
    rw [fairN_nil nn h]
    exact ⟨Nat.le_refl _, fun b => by simp⟩
  | succ q ih =>
    intro a nn h ha
    rw [Nat.succ_mul] at ha
    obtain ⟨h1, h2⟩ := ih (a.drop nn) nn h (by rw [List.length_drop]; omega)
    have hs : a = a.take nn ++ a.drop nn := (List.take_append_drop nn a).symm
    have hlen : (a.take nn).length = nn := by rw [List.length_take]; omega
    have e1 : fairN a nn = if wholeB (a.take nn) nn then 1 + fairN (a.drop nn) nn else 0 := by
      conv => lhs; rw [hs]
      exact fairN_cons _ _ nn h hlen
    have e2 : ∀ b, fairN (a ++ b) nn = if wholeB (a.take nn) nn then 1 + fairN (a.drop nn ++ b) nn else 0 := by
      intro b
      conv => lhs; rw [hs, List.append_assoc]
      exact fairN_cons _ _ nn h hlen
    constructor
    · rw [e1]; split <;> omega
    · intro b
      rw [e1, e2, h2 b]
      cases wholeB (a.take nn) nn with
      | true =>
        simp only [if_true]
        by_cases c : fairN (a.drop nn) nn < q
        · rw [if_pos c, if_pos (by omega)]
        · rw [if_neg c, if_neg (by omega)]; omega
      | false => simp
end Go.Proofs.Ytifogeaamdiciaa.PBnd
