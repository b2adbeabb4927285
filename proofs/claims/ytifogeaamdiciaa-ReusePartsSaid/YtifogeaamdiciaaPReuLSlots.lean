/- Slots: sorted and compacted, a list is the set of its members; the contract's loop and the reference's gather the same list. -/
import Derived.Test.YtifogeaamdiciaaPReuLBase
import Derived.Test.YtifogeaamdiciaaPReuLSets
import Derived.Test.YtifogeaamdiciaaPReuLTouch
import Derived.Test.YtifogeaamdiciaaPReux0
import Derived.Test.YtifogeaamdiciaaPReux15
import Derived.Test.YtifogeaamdiciaaPReux4
import Derived.Test.YtifogeaamdiciaaPReux5
import Derived.Test.YtifogeaamdiciaaPReux6
namespace Go.Proofs.Ytifogeaamdiciaa.PReu
open Go.RowKit Go.Proofs.YtifogeaamdiciaaW.PrintWords Go.Proofs.YtifogeaamdiciaaW.PrintLast Go.Proofs.YtifogeaamdiciaaW.PrintMore

theorem compact_isSet (l : List Int) (h : l.Pairwise (· ≤ ·)) : IsSet (Lib.compact l) l := by
  have at' : ∀ i (hi : i < l.length), l.toArray[i]! = l[i] := fun i hi => by
    rw [getElem!_pos l.toArray i (by simpa using hi)]
    simp
  have hle : ∀ i j (hi : i < l.length) (hj : j < l.length), i ≤ j → l[i] ≤ l[j] := fun i j hi hj hij => by
    rcases Nat.lt_or_ge i j with hlt | hge
    · exact List.pairwise_iff_getElem.1 h i j hi hj hlt
    · obtain rfl : i = j := by omega
      exact Int.le_refl _
  unfold Lib.compact Lib.compactUpTo
  constructor
  · rw [List.pairwise_map]
    refine List.Pairwise.imp_of_mem ?_ (List.pairwise_lt_range.filter _)
    intro a b ha hb hab
    rw [List.mem_filter, List.mem_range] at ha hb
    obtain ⟨hb1, hb2⟩ := hb
    have hk : b = 0 ∨ l.toArray[b]! ≠ l.toArray[b - 1]! := of_decide_eq_true hb2
    rcases hk with hk | hk
    · omega
    · rw [at' b hb1, at' (b - 1) (by omega)] at hk
      rw [at' a ha.1, at' b hb1]
      have h1 := hle a (b - 1) ha.1 (by omega) (by omega)
      have h2 := hle (b - 1) b (by omega) hb1 (by omega)
      have h3 : l[b] ≠ l[b - 1] := hk
      omega
  · intro x
    have hx : ∀ i (hi : i < l.length), ∃ j, j ≤ i ∧ Lib.keeps l.toArray j = true ∧ l.toArray[j]! = l[i] := by
      intro i
      induction i with
      | zero => exact fun hi => ⟨0, Nat.le_refl _, by simp [Lib.keeps], at' 0 hi⟩
      | succ i ih =>
        intro hi
        by_cases e : l[i + 1] = l[i]
        · obtain ⟨j, h1, h2, h3⟩ := ih (by omega)
          exact ⟨j, by omega, h2, by rw [h3, e]⟩
        · refine ⟨i + 1, Nat.le_refl _, ?_, at' _ hi⟩
          refine decide_eq_true (.inr ?_)
          rw [at' (i + 1) hi, Nat.add_sub_cancel, at' i (by omega)]
          exact e
    simp only [List.mem_map, List.mem_filter, List.mem_range]
    constructor
    · rintro ⟨i, ⟨hi, _⟩, rfl⟩
      rw [at' i hi]
      exact List.getElem_mem _
    · intro hm
      obtain ⟨i, hi, rfl⟩ := List.getElem_of_mem hm
      obtain ⟨j, h1, h2, h3⟩ := hx i hi
      exact ⟨j, ⟨by omega, h2⟩, h3⟩
theorem sortedL_rising (l : List Int) : (sortedL l).Pairwise (· ≤ ·) := by
  have := List.pairwise_mergeSort (le := fun x y : Int => decide (x ≤ y)) (fun a b c hab hbc => by simp only [decide_eq_true_eq] at *; omega) (fun a b => by simp only [Bool.or_eq_true, decide_eq_true_eq]; omega) l
  exact this.imp (fun h => of_decide_eq_true h)
theorem compact_sorted (l : List Int) : IsSet (Lib.compact (sortedL l)) l := by
  obtain ⟨h1, h2⟩ := compact_isSet (sortedL l) (sortedL_rising l)
  exact ⟨h1, fun x => (h2 x).trans (by simp [sortedL])⟩
abbrev slotsOf (l : List S60) (t : Int) : List Int := (l.filter (fun x => x.f1 == t)).map (fun x => x.f2)
theorem slots_loop (l : List S60) (t : Int) (hb : l.length ≤ 1000000) : ∀ (d i k : Nat) (acc : List Int), i + d = l.length → acc.length ≤ i → d < k →
    reuse_Slots.l0 k t acc l (l.length : Int) (i : Int) = some (Lib.compact (sortedL (acc ++ slotsOf (l.drop i) t))) := by
  intro d
  induction d with
  | zero =>
    intro i k acc hd ha hk
    obtain ⟨k, rfl⟩ := fuel hk
    have hsl : (sortedL acc).length = acc.length := sortedL_length acc
    rw [reuse_Slots.l0, if_neg (by omega), List.drop_of_length_le (by omega), slices_Sort_int_int.f, if_pos (by omega), Option.bind_some, slices_Compact_int_int.f, if_pos (by omega), Option.bind_some]
    simp [slotsOf]
  | succ d ih =>
    intro i k acc hd ha hk
    obtain ⟨k, rfl⟩ := fuel hk
    have hi : i < l.length := by omega
    rw [reuse_Slots.l0, if_pos (by omega), if_pos (by omega), if_pos (by omega), rd_touch hi, List.drop_eq_getElem_cons hi, slotsOf, List.filter_cons, w64s i (by omega)]
    by_cases e : l[i].f1 = t
    · rw [if_pos e, if_pos (by omega), ih (i + 1) k _ (by omega) (by simp; omega) (by omega)]
      simp [e, slotsOf]
    · rw [if_neg e, ih (i + 1) k acc (by omega) (by omega) (by omega)]
      simp [e, slotsOf]
theorem ref_slots_loop (l : List S60) (t : Int) (hb : l.length ≤ 1000) : ∀ (d i k : Nat) (acc : List Int), i + d = l.length → acc.length ≤ i → d + 1100000 < k →
    ∃ r, tendrilref23_Slots.l0 k t acc l (l.length : Int) (i : Int) = some r ∧ IsSet r (acc ++ slotsOf (l.drop i) t) := by
  intro d
  induction d with
  | zero =>
    intro i k acc hd ha hk
    obtain ⟨k, rfl⟩ := fuel (Nat.lt_of_le_of_lt (Nat.le_add_right ..) hk)
    have hm : (acc.length + 1) * (acc.length + 2) ≤ 1001 * 1002 := Nat.mul_le_mul (by omega) (by omega)
    obtain ⟨r, h1, h2⟩ := ref_set acc (by omega) k (by omega)
    rw [tendrilref23_Slots.l0, if_neg (by omega), List.drop_of_length_le (by omega), h1]
    exact ⟨r, rfl, by simpa [slotsOf] using h2⟩
  | succ d ih =>
    intro i k acc hd ha hk
    obtain ⟨k, rfl⟩ := fuel (Nat.lt_of_le_of_lt (Nat.le_add_right ..) hk)
    have hi : i < l.length := by omega
    rw [tendrilref23_Slots.l0, if_pos (by omega), if_pos (by omega), if_pos (by omega), rd_touch hi, List.drop_eq_getElem_cons hi, slotsOf, List.filter_cons, w64s i (by omega)]
    by_cases e : l[i].f1 = t
    · rw [if_pos e, if_pos (by omega)]
      obtain ⟨r, h1, h2⟩ := ih (i + 1) k (acc ++ [l[i].f2]) (by omega) (by simp; omega) (by omega)
      exact ⟨r, h1, by simpa [e, slotsOf] using h2⟩
    · rw [if_neg e]
      obtain ⟨r, h1, h2⟩ := ih (i + 1) k acc (by omega) (by omega) (by omega)
      exact ⟨r, h1, by simpa [e, slotsOf] using h2⟩
theorem slots_eq (l : List S60) (t : Int) (hb : l.length ≤ 1000) (k : Nat) (hk : 1200000 < k) :
    ∃ r, reuse_Slots.f k l t = some r ∧ tendrilref23_Slots.f k l t = some r ∧ r.length ≤ l.length := by
  have h0 := slots_loop l t (by omega) l.length 0 k [] (by omega) (Nat.le_refl _) (by omega)
  obtain ⟨r, h1, h2⟩ := ref_slots_loop l t hb l.length 0 k [] (by omega) (Nat.le_refl _) (by omega)
  rw [List.nil_append, List.drop_zero] at h0 h2
  have e := h2.unique (compact_sorted _)
  subst e
  refine ⟨_, h0, h1, ?_⟩
  refine Nat.le_trans (compact_length_le _) ?_
  rw [sortedL_length, List.length_map]
  exact List.length_filter_le _ _
end Go.Proofs.Ytifogeaamdiciaa.PReu
