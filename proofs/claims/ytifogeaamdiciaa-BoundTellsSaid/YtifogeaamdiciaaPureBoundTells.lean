/-
tendrillaw20.BoundTells: what any operation costs, how many windows any are, and how many of any picks are whole is what the document's answer says; for every input.
-/
import Derived.Test.YtifogeaamdiciaaSaidBoundTells
import Derived.Test.YtifogeaamdiciaaCostLaws
import Derived.DataShut
namespace Go.Proofs.Ytifogeaamdiciaa.Pure
open Go.RowKit Go.Proofs.Ytifogeaamdiciaa.PBnd Go.Proofs.YtifogeaamdiciaaW.PrintWords Go.Proofs.YtifogeaamdiciaaW.PrintLast Go.Proofs.YtifogeaamdiciaaW.PrintMore

theorem has_loop (l : List Int) (v : Int) (hl : l.length ≤ 4611686018427387903) : ∀ (d i k : Nat), i + d = l.length → d < k →
    tendrilref09_Has.l0 k v l (l.length : Int) (i : Int) = some ((l.drop i).contains v) := by
  intro d
  induction d with
  | zero =>
    intro i k hd hk
    obtain ⟨k, rfl⟩ : ∃ q, k = q + 1 := ⟨k - 1, by omega⟩
    rw [tendrilref09_Has.l0, if_neg (by omega), List.drop_of_length_le (by omega)]
    rfl
  | succ d ih =>
    intro i k hd hk
    obtain ⟨k, rfl⟩ : ∃ q, k = q + 1 := ⟨k - 1, by omega⟩
    have hi : i < l.length := by omega
    have hrd : rd l (i : Int) = l[i] := by simp [rd, hi]
    rw [tendrilref09_Has.l0, if_pos (by omega), if_pos (by omega), if_pos (by omega), hrd, List.drop_eq_getElem_cons hi, List.contains_cons]
    by_cases e : l[i] = v
    · rw [if_pos e]
      simp [e]
    · rw [if_neg e, w64 _ (by omega) (by omega), show (i : Int) + 1 = ((i + 1 : Nat) : Int) from rfl, ih (i + 1) k (by omega) (by omega)]
      have : (v == l[i]) = false := by
        rw [beq_eq_false_iff_ne]
        exact fun x => e x.symm
      rw [this, Bool.false_or]
theorem has_eq (l : List Int) (v : Int) (k : Nat) (hl : l.length ≤ 4611686018427387903) (hk : l.length < k) : tendrilref09_Has.f k l v = some (l.contains v) := by
  have := has_loop l v hl l.length 0 k (by omega) hk
  unfold tendrilref09_Has.f
  rw [show (0 : Int) = ((0 : Nat) : Int) from rfl, this, List.drop_zero]

/-- From a window's thread t on: either all that are left are in it, and the next window comes, or the answer is told. -/
theorem inner (l : List Int) (nn n : Nat) (hnn : 1 ≤ nn) (hl : l.length ≤ 500) (hn : n * nn + nn ≤ l.length) (next : Nat → Option Int)
    : ∀ (d t k : Nat), t + d = nn → d + l.length + 1 < k → (∀ j, tendrilref20_Fair.l0 (k - d - 1 + j * 0) l (nn : Int) ((n + 1 : Nat) : Int) = next (k - d - 1)) →
      tendrilref20_Fair.l1 k l (nn : Int) (n : Int) (nn : Int) (t : Int) = if (List.range' t d).all (fun (i : Nat) => (winL l nn n).contains (i : Int)) then next (k - d - 1) else some (n : Int) := by
  intro d
  have hq : n ≤ n * nn := Nat.le_mul_of_pos_right n (by omega)
  have hm : (n : Int) * (nn : Int) = ((n * nn : Nat) : Int) := rfl
  have hw : (l.take (n * nn + nn)).drop (n * nn) = winL l nn n := by
    unfold winL
    rw [List.drop_take]
    congr 1
    omega
  have hwl : (winL l nn n).length ≤ l.length := by simp [winL]; omega
  induction d with
  | zero =>
    intro t k hd hk hnext
    obtain ⟨k, rfl⟩ : ∃ q, k = q + 1 := ⟨k - 1, by omega⟩
    rw [tendrilref20_Fair.l1, if_neg (by omega), w64 _ (by omega) (by omega)]
    have := hnext 0
    simp only [Nat.mul_zero, Nat.add_zero, Nat.sub_zero, Nat.add_sub_cancel] at this ⊢
    simpa using this
  | succ d ih =>
    intro t k hd hk hnext
    obtain ⟨k, rfl⟩ : ∃ q, k = q + 1 := ⟨k - 1, by omega⟩
    rw [tendrilref20_Fair.l1, if_pos (by omega), hm, w64 _ (by omega) (by omega), w64 _ (by omega) (by omega), if_pos (by omega), if_pos (by omega), if_pos (by omega)]
    rw [show (((n * nn : Nat) : Int) + (nn : Int)).toNat = n * nn + nn by omega, Int.toNat_natCast, hw, has_eq _ _ _ (by omega) (by omega)]
    simp only [Option.bind_some]
    rw [List.range'_succ, List.all_cons]
    cases hc : (winL l nn n).contains (t : Int) with
    | false => rw [if_neg (by simp)]; simp
    | true =>
      rw [if_pos rfl, w64 _ (by omega) (by omega), show (t : Int) + 1 = ((t + 1 : Nat) : Int) from rfl, ih (t + 1) k (by omega) (by omega) (fun j => by have := hnext j; rw [show k + 1 - (d + 1) - 1 = k - d - 1 by omega] at this; exact this), Bool.true_and]
      rw [show k + 1 - (d + 1) - 1 = k - d - 1 by omega]
theorem outer (l : List Int) (nn q : Nat) (hnn : 1 ≤ nn) (hl : l.length ≤ 500) (hq : q = l.length / nn) : ∀ (d n k : Nat), n + d = q → (∀ j, j < n → wholeB (winL l nn j) nn = true) → d * (nn + 2) + nn + l.length + 5 < k →
    tendrilref20_Fair.l0 k l (nn : Int) (n : Int) = some (fairN l nn : Int) := by
  intro d
  have hqn : q * nn ≤ l.length := by rw [hq]; exact Nat.div_mul_le_self _ _
  have hq2 : l.length < q * nn + nn := by
    rw [hq]
    have := Nat.lt_succ_self (l.length / nn)
    rw [Nat.div_lt_iff_lt_mul hnn, Nat.succ_mul] at this
    exact this
  have hql : q ≤ l.length := by rw [hq]; exact Nat.div_le_self _ _
  have hdiv : wrap64 ((l.length : Int) / (nn : Int)) = (q : Int) := by
    rw [← Int.natCast_ediv, ← hq, w64 _ (by omega) (by omega)]
  have hM : q ≤ fairM l nn ∧ fairM l nn ≤ q + 1 := by
    unfold fairM
    constructor
    · rw [Nat.le_div_iff_mul_le hnn]; omega
    · rw [← Nat.lt_succ_iff, Nat.div_lt_iff_lt_mul hnn, Nat.succ_mul, Nat.succ_mul]; omega
  induction d with
  | zero =>
    intro n k hd hall hk
    obtain ⟨k, rfl⟩ : ∃ q, k = q + 1 := ⟨k - 1, by omega⟩
    rw [tendrilref20_Fair.l0, if_neg (by omega), hdiv, if_neg (by omega)]
    have hn : n = q := by omega
    rw [fairN_eq l nn n (by omega) hall]
    by_cases c : fairM l nn = q
    · exact .inl (by omega)
    · refine .inr ?_
      unfold wholeB
      have : ¬ (nn ≤ (winL l nn n).length) := by
        simp only [winL, List.length_take, List.length_drop, hn]
        omega
      simp [this]
  | succ d ih =>
    intro n k hd hall hk
    obtain ⟨k, rfl⟩ : ∃ q, k = q + 1 := ⟨k - 1, by omega⟩
    rw [Nat.succ_mul] at hk
    have hn1 : n * nn + nn ≤ l.length := by
      have : (n + 1) * nn ≤ q * nn := Nat.mul_le_mul_right nn (by omega)
      rw [Nat.succ_mul] at this
      omega
    rw [tendrilref20_Fair.l0, if_neg (by omega), hdiv, if_pos (by omega)]
    have := inner l nn n hnn hl hn1 (fun k => tendrilref20_Fair.l0 k l (nn : Int) ((n + 1 : Nat) : Int)) nn 0 k (by omega) (by omega) (fun j => by rw [Nat.mul_zero, Nat.add_zero])
    rw [show (0 : Int) = ((0 : Nat) : Int) from rfl, this]
    have hwin : wholeB (winL l nn n) nn = (List.range' 0 nn).all (fun (i : Nat) => (winL l nn n).contains (i : Int)) := by
      unfold wholeB
      have : nn ≤ (winL l nn n).length := by simp only [winL, List.length_take, List.length_drop]; omega
      rw [decide_eq_true this, Bool.true_and, List.range_eq_range']
    rw [← hwin]
    cases hw : wholeB (winL l nn n) nn with
    | true =>
      rw [if_pos rfl]
      refine ih (n + 1) _ (by omega) (fun j hj => ?_) (by omega)
      by_cases c : j = n
      · rw [c, hw]
      · exact hall j (by omega)
    | false =>
      rw [if_neg (by simp), fairN_eq l nn n (by omega) hall (.inr hw)]
theorem rfair (l : List Int) (nn : Nat) (hnn : 1 ≤ nn) (hl : l.length ≤ 500) (k : Nat) (hk : l.length / nn * (nn + 2) + nn + l.length + 5 < k) : tendrilref20_Fair.f k l (nn : Int) = some (fairN l nn : Int) := by
  unfold tendrilref20_Fair.f
  rw [if_neg (by omega)]
  exact outer l nn _ hnn hl rfl (l.length / nn) 0 k (by omega) (fun j hj => by omega) hk
theorem tells (N E P I J ops : Int) (l : List Int) (t : Int) (ht : t ≤ 9223372036854775807) : ∃ k, tendrillaw20_BoundTells.f k N E P I J ops l t = some true := by
  refine ⟨l.length / t.toNat * (t.toNat + 2) + t.toNat + l.length + 5 + 13, ?_⟩
  generalize hK : l.length / t.toNat * (t.toNat + 2) + t.toNat + l.length + 5 = K
  unfold tendrillaw20_BoundTells.f
  rw [live_f]
  simp only [Option.bind_some, if_true]
  have hj : tendrillaw20_BoundTells.j0 (K + 13) ops l t true N E P I J = some true := by rw [tendrillaw20_BoundTells.j0, if_pos rfl]
  have hgo : l.length ≤ 500 → tendrillaw20_BoundTells.j0 (K + 13) ops l t false N E P I J = some true := by
    intro hl
    rw [tendrillaw20_BoundTells.j0, if_neg (by simp), rcost (K + 6), rwin (K + 6)]
    have hc : bound_Cost.f N E P I J = some (if OkC N E P I J then costV I E P else 0) := by
      by_cases h : OkC N E P I J
      · rw [if_pos h, cost_ok h]
      · rw [if_neg h, cost_bad h]
    have hw : bound_Windows.f (K + 12) N E P I J ops = some (if OkC N E P I J ∧ 0 ≤ ops ∧ ops ≤ 64 then wndV ops I E P else 0) := by
      by_cases h : OkC N E P I J ∧ 0 ≤ ops ∧ ops ≤ 64
      · rw [if_pos h, win_ok (K + 11) h.1 h.2.1 h.2.2]
      · rw [if_neg h, win_bad (K + 11) h]
    rw [hc, hw]
    simp only [Option.bind_some, if_true]
    by_cases c : t < 1
    · have e1 : bound_Fair.f l t = some 0 := by unfold bound_Fair.f; rw [if_pos c]
      have e2 : tendrilref20_Fair.f (K + 12) l t = some 0 := by unfold tendrilref20_Fair.f; rw [if_pos c]
      rw [e1, e2]
      simp
    · obtain ⟨nn, rfl⟩ := Int.eq_ofNat_of_zero_le (show 0 ≤ t by omega)
      rw [Int.toNat_natCast] at hK
      rw [fair_f l nn (by omega) (by omega) (by omega), rfair l nn (by omega) hl (K + 12) (by omega)]
      simp
  by_cases c1 : (l.length : Int) > 500
  · rw [if_pos c1, hj]
  rw [if_neg c1]
  by_cases c2 : t > 100
  · rw [if_pos c2]
    by_cases c3 : t ≤ (l.length : Int)
    · rw [decide_eq_true c3, hj]
    · rw [decide_eq_false c3, hgo (by omega)]
  · rw [if_neg c2, hgo (by omega)]
theorem BoundTells : tendrillaw20_BoundTells.Pure := fun _ _ l t _ _ _ ht => tells _ _ _ _ _ _ l t ((Lit.wf_int_iff .i64 t).1 ht).2
end Go.Proofs.Ytifogeaamdiciaa.Pure
