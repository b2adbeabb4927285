/- Sets of numbers: what the functions of the package order, and their references, compute. -/
import Derived.Test.YtifogeaamdiciaaPOrdLBase
import Derived.Test.YtifogeaamdiciaaPOrdLSets
import Derived.Test.YtifogeaamdiciaaPOrdx11
import Derived.Test.YtifogeaamdiciaaPOrdx12
import Derived.Test.YtifogeaamdiciaaPOrdx14
import Derived.Test.YtifogeaamdiciaaPOrdx15
import Derived.Test.YtifogeaamdiciaaPOrdx16
import Derived.Test.YtifogeaamdiciaaPOrdx3
import Derived.Test.YtifogeaamdiciaaPOrdx4
import Derived.Test.YtifogeaamdiciaaPOrdx5
import Derived.Test.YtifogeaamdiciaaPOrdx8
import Derived.Test.YtifogeaamdiciaaPOrdx9
import Derived.DataShut
namespace Go.Proofs.Ytifogeaamdiciaa.POrd
open Go.RowKit Go.Proofs.YtifogeaamdiciaaW.PrintWords Go.Proofs.YtifogeaamdiciaaW.PrintLast Go.Proofs.YtifogeaamdiciaaW.PrintMore

abbrev Wf (l : List Int) : Prop := ∀ x ∈ l, (Lit.int .i64 x).wf = true
theorem wf64 {x : Int} (h : (Lit.int .i64 x).wf = true) : -9223372036854775808 ≤ x ∧ x ≤ 9223372036854775807 := by
  have := (Lit.wf_int_iff .i64 x).1 h
  have h1 : IntKind.i64.min = -9223372036854775808 := by decide
  have h2 : IntKind.i64.max = 9223372036854775807 := by decide
  rw [h1, h2] at this
  exact this
theorem setL_isSet (l : List Int) : IsSet (setL l) l := by
  constructor
  · have h1 := List.pairwise_mergeSort (le := fun x y : Int => decide (x ≤ y)) (fun a b c hab hbc => by simp only [decide_eq_true_eq] at *; omega) (fun a b => by simp only [Bool.or_eq_true, decide_eq_true_eq]; omega) (dedupL l)
    have h2 : (setL l).Nodup := (List.mergeSort_perm (dedupL l) _).nodup_iff.2 (nodup_dedupL l)
    have h3 : (setL l).Pairwise (fun a b => a ≤ b ∧ a ≠ b) := (h1.imp (fun h => of_decide_eq_true h)).and h2
    exact h3.imp (fun h => by omega)
  · intro x
    rw [setL, List.mem_mergeSort, mem_dedupL]
theorem setL_congr {l m : List Int} (h : ∀ x, x ∈ l ↔ x ∈ m) : setL l = setL m :=
  (setL_isSet l).unique ⟨(setL_isSet m).1, fun x => ((setL_isSet m).2 x).trans (h x).symm⟩
theorem dedupL_length (l : List Int) : (dedupL l).length ≤ l.length := by
  induction l with
  | nil => exact Nat.le_refl _
  | cons a l ih =>
    rw [dedupL]
    split
    · exact Nat.le_succ_of_le ih
    · exact Nat.succ_le_succ ih
theorem setL_length (l : List Int) : (setL l).length ≤ l.length := by
  rw [setL, List.length_mergeSort]
  exact dedupL_length l
theorem setL_wf {l : List Int} (h : Wf l) : Wf (setL l) := fun x hx => h x (((setL_isSet l).2 x).1 hx)
theorem setL_eq_self {l : List Int} : setL l = l ↔ l.Pairwise (· < ·) := by
  constructor
  · intro h
    rw [← h]
    exact (setL_isSet l).1
  · intro h
    exact (setL_isSet l).unique ⟨h, fun _ => Iff.rfl⟩
theorem set_eq {l : List Int} (h : l.length ≤ 17592186044416) (hw : Wf l) : order_Set.f l = some (setL l) := if_pos ⟨h, hw⟩
theorem ref_set_eq (l : List Int) (hb : l.length ≤ 1000) (k : Nat) (hk : 1010000 < k) : tendrilref09_Set.f k l = some (setL l) := by
  have hm : (l.length + 1) * (l.length + 2) ≤ 1001 * 1002 := Nat.mul_le_mul (by omega) (by omega)
  obtain ⟨r, h1, h2⟩ := ref_set l (by omega) k (by omega)
  rw [h1, h2.unique (setL_isSet l)]

/-! ### The number above -/
def IsAbove (l : List Int) (a : Int) (r : Int × Bool) : Prop := (r.2 = true ∧ r.1 ∈ l ∧ a < r.1 ∧ ∀ x ∈ l, a < x → r.1 ≤ x) ∨ (r.2 = false ∧ r.1 = 0 ∧ ∀ x ∈ l, ¬ a < x)
theorem IsAbove.unique {l : List Int} {a : Int} {r s : Int × Bool} (h1 : IsAbove l a r) (h2 : IsAbove l a s) : r = s := by
  rcases h1 with ⟨a1, b1, c1, d1⟩ | ⟨a1, b1, c1⟩ <;> rcases h2 with ⟨a2, b2, c2, d2⟩ | ⟨a2, b2, c2⟩
  · have := d1 _ b2 c2
    have := d2 _ b1 c1
    exact Prod.ext (by omega) (a1.trans a2.symm)
  · exact absurd c1 (c2 _ b1)
  · exact absurd c2 (c1 _ b2)
  · exact Prod.ext (b1.trans b2.symm) (a1.trans a2.symm)
theorem IsAbove.congr {l m : List Int} {a : Int} {r : Int × Bool} (h : IsAbove l a r) (e : ∀ x, x ∈ l ↔ x ∈ m) : IsAbove m a r := by
  rcases h with ⟨h1, h2, h3, h4⟩ | ⟨h1, h2, h3⟩
  · exact .inl ⟨h1, (e _).1 h2, h3, fun x hx => h4 x ((e x).2 hx)⟩
  · exact .inr ⟨h1, h2, fun x hx => h3 x ((e x).2 hx)⟩
theorem u64_pos {x : Int} (h0 : 0 ≤ x) (h1 : x < 18446744073709551616) : IntKind.u64.wrap x = x := by
  simp [IntKind.wrap, IntKind.signed, IntKind.bits]
  omega
theorem less_eq (a b : Int) : cmp_Less_int.f a b = some (decide (a < b)) := by
  simp [cmp_Less_int.f, cmp_isNaN_int.f]
/-- Where the search stands: all below i are below x, all from j on are not. -/
theorem search_loop (s : List Int) (x : Int) (hs : s.Pairwise (· < ·)) (hb : s.length ≤ 1000000000) : ∀ (d i j k : Nat), j ≤ i + d → i ≤ j → j ≤ s.length → d < k →
    (∀ p (hp : p < s.length), p < i → s[p] < x) → (∀ p (hp : p < s.length), j ≤ p → x ≤ s[p]) →
    ∃ (i' : Nat) (f : Bool), slices_BinarySearch_int_int.l0 k s x (s.length : Int) (i : Int) (j : Int) = some ((i' : Int), f) ∧ i' ≤ s.length ∧
      (∀ p (hp : p < s.length), p < i' → s[p] < x) ∧ (∀ p (hp : p < s.length), i' ≤ p → x ≤ s[p]) ∧ (f = true ↔ ∃ hp : i' < s.length, s[i'] = x) := by
  intro d
  induction d with
  | zero =>
    intro i j k hd hij hj hk hlo hhi
    obtain ⟨k, rfl⟩ := fuel hk
    obtain rfl : i = j := by omega
    rw [slices_BinarySearch_int_int.l0, if_neg (by omega)]
    by_cases hi : i < s.length
    · rw [if_pos (by omega), if_pos (by omega), if_pos (by omega), rd_at hi]
      by_cases e : s[i] = x
      · rw [if_pos e]
        exact ⟨i, true, rfl, hj, hlo, hhi, by simp [hi, e]⟩
      · rw [if_neg e]
        refine ⟨i, false, by simp [slices_isNaN_int.f], hj, hlo, hhi, by simp [e]⟩
    · rw [if_neg (by omega)]
      exact ⟨i, false, rfl, hj, hlo, hhi, by simp; omega⟩
  | succ d ih =>
    intro i j k hd hij hj hk hlo hhi
    obtain ⟨k, rfl⟩ := fuel hk
    by_cases hlt : i < j
    · have hm : wrap64 ((IntKind.u64.wrap (wrap64 ((i : Int) + (j : Int)))) / 2) = (((i + j) / 2 : Nat) : Int) := by
        rw [w64i ((i : Int) + (j : Int)) (by omega) (by omega), u64_pos (by omega) (by omega), w64i _ (by omega) (by omega)]
        omega
      have hmi : (i + j) / 2 < s.length := by omega
      rw [slices_BinarySearch_int_int.l0, if_pos (by omega), hm, if_pos (by omega), if_pos (by omega), less_eq, Option.bind_some, rd_at hmi]
      by_cases hx : s[(i + j) / 2] < x
      · rw [if_pos (decide_eq_true hx), w64s _ (by omega)]
        refine ih ((i + j) / 2 + 1) j k (by omega) (by omega) hj (by omega) (fun p hp hpi => ?_) hhi
        by_cases e : p = (i + j) / 2
        · subst e; exact hx
        · have := List.pairwise_iff_getElem.1 hs p ((i + j) / 2) hp hmi (by omega)
          omega
      · rw [if_neg (by simpa using hx)]
        refine ih i ((i + j) / 2) k (by omega) (by omega) (by omega) (by omega) hlo (fun p hp hpi => ?_)
        by_cases e : p = (i + j) / 2
        · subst e; omega
        · have := List.pairwise_iff_getElem.1 hs ((i + j) / 2) p hmi hp (by omega)
          omega
    · exact ih i j (k + 1) (by omega) hij hj (by omega) hlo hhi
theorem above_eq (l : List Int) (a : Int) (hb : l.length ≤ 1000) (hw : Wf l) (k : Nat) (hk : 1000 < k) : ∃ r, order_Above.f k l a = some r ∧ IsAbove l a r := by
  have hs := setL_isSet l
  have hsl := setL_length l
  obtain ⟨i, f, h1, h2, h3, h4, h5⟩ := search_loop (setL l) a hs.1 (by omega) (setL l).length 0 (setL l).length k (by omega) (by omega) (Nat.le_refl _) (by omega) (fun p _ h => absurd h (by omega)) (fun p hp h => absurd hp (by omega))
  have h1' : slices_BinarySearch_int_int.f k (setL l) a = some ((i : Int), f) := h1
  have fin : ∀ q : Nat, q ≤ (setL l).length → (∀ p (hp : p < (setL l).length), p < q → (setL l)[p] ≤ a) → (∀ p (hp : p < (setL l).length), q ≤ p → a < (setL l)[p]) →
      ∃ r, (if (q : Int) = ((setL l).length : Int) then (some ((0 : Int), false)) else (if 0 ≤ (q : Int) then (if (q : Int) < ((setL l).length : Int) then (some (rd (setL l) (q : Int), true)) else (none)) else (none))) = some r ∧ IsAbove l a r := by
    intro q hq hlo hhi
    by_cases e : q = (setL l).length
    · rw [if_pos (by omega)]
      refine ⟨_, rfl, .inr ⟨rfl, rfl, fun x hx hax => ?_⟩⟩
      obtain ⟨p, hp, rfl⟩ := List.getElem_of_mem ((hs.2 x).2 hx)
      have := hlo p hp (by omega)
      omega
    · have hql : q < (setL l).length := by omega
      rw [if_neg (by omega), if_pos (by omega), if_pos (by omega), rd_at hql]
      refine ⟨_, rfl, .inl ⟨rfl, (hs.2 _).1 (List.getElem_mem hql), hhi q hql (Nat.le_refl _), fun x hx hax => ?_⟩⟩
      obtain ⟨p, hp, rfl⟩ := List.getElem_of_mem ((hs.2 x).2 hx)
      rcases Nat.lt_trichotomy p q with h | h | h
      · have := hlo p hp h
        omega
      · subst h; exact Int.le_refl _
      · exact Int.le_of_lt (List.pairwise_iff_getElem.1 hs.1 q p hql hp h)
  unfold order_Above.f
  rw [set_eq (by omega) hw, Option.bind_some, h1', Option.bind_some]
  cases f with
  | true =>
    obtain ⟨hp, he⟩ := h5.1 rfl
    rw [if_pos rfl, w64s i (by omega)]
    refine fin (i + 1) (by omega) (fun p hp' hpi => ?_) (fun p hp' hpi => ?_)
    · by_cases e : p = i
      · subst e; omega
      · have := h3 p hp' (by omega)
        omega
    · have := List.pairwise_iff_getElem.1 hs.1 i p hp hp' (by omega)
      omega
  | false =>
    rw [if_neg (by simp)]
    refine fin i h2 (fun p hp' hpi => ?_) (fun p hp' hpi => ?_)
    · have := h3 p hp' hpi
      omega
    · have h6 := h4 p hp' hpi
      by_cases e : p = i
      · subst e
        have : ¬ ((setL l)[p] = a) := fun h => by have := h5.2 ⟨hp', h⟩; cases this
        omega
      · have := List.pairwise_iff_getElem.1 hs.1 i p (by omega) hp' (by omega)
        have := h4 i (by omega) (Nat.le_refl _)
        omega
theorem ref_above_loop (l : List Int) (a : Int) (hb : l.length ≤ 1000000) : ∀ (d i k : Nat) (m : Int) (f : Bool), i + d = l.length → d < k → IsAbove (l.take i) a (m, f) →
    ∃ r, tendrilref09_Above.l0 k a m f l (l.length : Int) (i : Int) = some r ∧ IsAbove l a r := by
  intro d
  induction d with
  | zero =>
    intro i k m f hd hk h
    obtain ⟨k, rfl⟩ := fuel hk
    rw [tendrilref09_Above.l0, if_neg (by omega)]
    rw [List.take_of_length_le (by omega)] at h
    exact ⟨_, rfl, h⟩
  | succ d ih =>
    intro i k m f hd hk h
    obtain ⟨k, rfl⟩ := fuel hk
    have hi : i < l.length := by omega
    have htk := List.take_succ_eq_append_getElem hi
    have mem : ∀ x, x ∈ l.take (i + 1) ↔ x ∈ l.take i ∨ x = l[i] := fun x => by rw [htk, List.mem_append, List.mem_singleton]
    rw [tendrilref09_Above.l0, if_pos (by omega), if_pos (by omega), if_pos (by omega), rd_at hi, w64s i (by omega)]
    by_cases e : l[i] > a
    · rw [if_pos e]
      rcases h with ⟨rfl, h2, h3, h4⟩ | ⟨rfl, h2, h3⟩
      · rw [if_pos rfl]
        by_cases e2 : l[i] < m
        · rw [if_pos e2]
          refine ih (i + 1) k _ _ (by omega) (by omega) (.inl ⟨rfl, (mem _).2 (.inr rfl), e, fun x hx hax => ?_⟩)
          rcases (mem x).1 hx with h | h
          · have := h4 x h hax
            simp only at this ⊢
            omega
          · rw [h]; exact Int.le_refl _
        · rw [if_neg e2]
          refine ih (i + 1) k _ _ (by omega) (by omega) (.inl ⟨rfl, (mem _).2 (.inl h2), h3, fun x hx hax => ?_⟩)
          rcases (mem x).1 hx with h | h
          · exact h4 x h hax
          · rw [h]; simp only; omega
      · rw [if_neg (by simp)]
        refine ih (i + 1) k _ _ (by omega) (by omega) (.inl ⟨rfl, (mem _).2 (.inr rfl), e, fun x hx hax => ?_⟩)
        rcases (mem x).1 hx with h | h
        · exact absurd hax (h3 x h)
        · rw [h]; exact Int.le_refl _
    · rw [if_neg e]
      refine ih (i + 1) k _ _ (by omega) (by omega) ?_
      rcases h with ⟨h1, h2, h3, h4⟩ | ⟨h1, h2, h3⟩
      · refine .inl ⟨h1, (mem _).2 (.inl h2), h3, fun x hx hax => ?_⟩
        rcases (mem x).1 hx with h | h
        · exact h4 x h hax
        · rw [h] at hax; exact absurd hax e
      · refine .inr ⟨h1, h2, fun x hx => ?_⟩
        rcases (mem x).1 hx with h | h
        · exact h3 x h
        · rw [h]; exact e
theorem ref_above_eq (l : List Int) (a : Int) (hb : l.length ≤ 1000) (k : Nat) (hk : 1000 < k) : ∃ r, tendrilref09_Above.f k l a = some r ∧ IsAbove l a r :=
  ref_above_loop l a (by omega) l.length 0 k 0 false (by omega) (by omega) (.inr ⟨rfl, rfl, fun x hx => by simp at hx⟩)

/-! ### Has, Within, Union -/
theorem index_loop (l : List Int) (a : Int) (hb : l.length ≤ 1000000000) : ∀ (d i k : Nat), i + d = l.length → d < k →
    ∃ t, slices_Index_int_int.l0 k l a (l.length : Int) (i : Int) = some t ∧ decide (t ≥ 0) = (l.drop i).contains a := by
  intro d
  induction d with
  | zero =>
    intro i k hd hk
    obtain ⟨k, rfl⟩ := fuel hk
    rw [slices_Index_int_int.l0, if_neg (by omega), List.drop_of_length_le (by omega)]
    exact ⟨_, rfl, rfl⟩
  | succ d ih =>
    intro i k hd hk
    obtain ⟨k, rfl⟩ := fuel hk
    have hi : i < l.length := by omega
    rw [slices_Index_int_int.l0, if_pos (by omega), if_pos (by omega), if_pos (by omega), rd_at hi, List.drop_eq_getElem_cons hi, List.contains_cons, w64s i (by omega)]
    by_cases e : a = l[i]
    · rw [if_pos e]
      exact ⟨_, rfl, by rw [decide_eq_true (by omega), beq_iff_eq.2 e, Bool.true_or]⟩
    · rw [if_neg e, beq_eq_false_iff_ne.2 e, Bool.false_or]
      exact ih (i + 1) k (by omega) (by omega)
theorem ohas_eq (l : List Int) (a : Int) (hb : l.length ≤ 1000) (k : Nat) (hk : 1000 < k) : order_Has.f k l a = some (l.contains a) := by
  obtain ⟨t, h1, h2⟩ := index_loop l a (by omega) l.length 0 k (by omega) (by omega)
  have h1' : slices_Index_int_int.f k l a = some t := h1
  rw [order_Has.f, slices_Contains_int_int.f, h1', Option.bind_some, h2, List.drop_zero]
  rfl
theorem within_eq {l m : List Int} (h0 : l.length ≤ 1000) (h1 : Wf l) (h2 : m.length ≤ 1000) (h3 : Wf m) : order_Within.f l m = some (l.all (fun x => m.contains x)) := if_pos ⟨⟨by omega, h1⟩, by omega, h3⟩
theorem ref_within_loop (l m : List Int) (hb : l.length ≤ 1000) (hm : m.length ≤ 1000) : ∀ (d i k : Nat), i + d = l.length → d + 1000 < k →
    tendrilref09_Within.l0 k m l (l.length : Int) (i : Int) = some ((l.drop i).all (fun x => m.contains x)) := by
  intro d
  induction d with
  | zero =>
    intro i k hd hk
    obtain ⟨k, rfl⟩ : ∃ q, k = q + 1 := ⟨k - 1, by omega⟩
    rw [tendrilref09_Within.l0, if_neg (by omega), List.drop_of_length_le (by omega)]
    rfl
  | succ d ih =>
    intro i k hd hk
    obtain ⟨k, rfl⟩ : ∃ q, k = q + 1 := ⟨k - 1, by omega⟩
    have hi : i < l.length := by omega
    rw [tendrilref09_Within.l0, if_pos (by omega), if_pos (by omega), if_pos (by omega), rd_at hi, List.drop_eq_getElem_cons hi, List.all_cons, w64s i (by omega), has_eq m _ (by omega) k (by omega), Option.bind_some]
    cases m.contains l[i] with
    | true => rw [if_pos rfl, Bool.true_and]; exact ih (i + 1) k (by omega) (by omega)
    | false => rw [if_neg (by simp), Bool.false_and]
theorem ref_within_eq {l m : List Int} (hb : l.length ≤ 1000) (hm : m.length ≤ 1000) (k : Nat) (hk : 2000 < k) : tendrilref09_Within.f k l m = some (l.all (fun x => m.contains x)) := by
  have := ref_within_loop l m hb hm l.length 0 k (by omega) (by omega)
  rw [List.drop_zero] at this
  exact this
theorem union_eq {l m : List Int} (h0 : l.length ≤ 1000) (h1 : Wf l) (h2 : m.length ≤ 1000) (h3 : Wf m) : order_Union.f l m = some (setL (l ++ m)) := if_pos ⟨⟨by omega, h1⟩, by omega, h3⟩
theorem ref_union_eq {l m : List Int} (h0 : l.length ≤ 500) (h2 : m.length ≤ 500) (k : Nat) (hk : 1010000 < k) : tendrilref09_Union.f k l m = some (setL (l ++ m)) := by
  have hn : ([] : List Int).length = 0 := rfl
  unfold tendrilref09_Union.f
  rw [if_pos (by omega), Option.bind_some, List.nil_append, if_pos (by omega), ref_set_eq _ (by rw [List.length_append]; omega) k hk]
  rfl

/-! ### Check -/
theorem rising_take {l : List Int} {i : Nat} (hi : i < l.length) (h0 : 0 < i) (hp : (l.take i).Pairwise (· < ·)) (hlt : l[i - 1] < l[i]) : (l.take (i + 1)).Pairwise (· < ·) := by
  rw [List.take_succ_eq_append_getElem hi, List.pairwise_append]
  refine ⟨hp, List.pairwise_singleton _ _, fun a ha b hb => ?_⟩
  rw [List.mem_singleton.1 hb]
  obtain ⟨j, hj, rfl⟩ := List.mem_take_iff_getElem.1 ha
  by_cases e : j = i - 1
  · subst e; exact hlt
  · have := List.pairwise_iff_getElem.1 hp j (i - 1) (by rw [List.length_take]; omega) (by rw [List.length_take]; omega) (by omega)
    rw [List.getElem_take, List.getElem_take] at this
    omega
theorem not_rising {l : List Int} {i : Nat} (hi : i < l.length) (h0 : 0 < i) (hle : l[i] ≤ l[i - 1]) : ¬ l.Pairwise (· < ·) := fun h => by
  have := List.pairwise_iff_getElem.1 h (i - 1) i (by omega) hi (by omega)
  omega
theorem check_loop (l : List Int) (hb : l.length ≤ 1000000) : ∀ (d i k : Nat), i + d = l.length → d < k → (l.take i).Pairwise (· < ·) →
    order_Check.l0 k l l (l.length : Int) (i : Int) = some (if l.Pairwise (· < ·) then 0 else 1) := by
  intro d
  induction d with
  | zero =>
    intro i k hd hk hp
    obtain ⟨k, rfl⟩ := fuel hk
    rw [List.take_of_length_le (by omega)] at hp
    rw [order_Check.l0, if_neg (by omega), if_pos hp]
  | succ d ih =>
    intro i k hd hk hp
    obtain ⟨k, rfl⟩ := fuel hk
    have hi : i < l.length := by omega
    rw [order_Check.l0, if_pos (by omega), if_pos (by omega), if_pos (by omega)]
    by_cases h0 : 0 < i
    · have e : wrap64 ((i : Int) - 1) = ((i - 1 : Nat) : Int) := by unfold wrap64; omega
      rw [if_pos (by omega), e, if_pos (by omega), if_pos (by omega), rd_at hi, rd_at (by omega), w64s i (by omega)]
      by_cases hle : l[i] ≤ l[i - 1]
      · rw [if_pos hle, if_neg (not_rising hi h0 hle)]
      · rw [if_neg hle]
        exact ih (i + 1) k (by omega) (by omega) (rising_take hi h0 hp (by omega))
    · obtain rfl : i = 0 := by omega
      rw [if_neg (by omega), w64s 0 (by omega)]
      refine ih 1 k (by omega) (by omega) ?_
      rw [List.take_succ_eq_append_getElem hi]
      simp
theorem check_eq (l : List Int) (hb : l.length ≤ 1000) (k : Nat) (hk : 1000 < k) : order_Check.f k l = some (if l.Pairwise (· < ·) then 0 else 1) :=
  check_loop l (by omega) l.length 0 k (by omega) (by omega) (by simp)
theorem ref_check_loop (l : List Int) (hb : l.length ≤ 1000000) : ∀ (d i k : Nat), 0 < i → l.length ≤ i + d → d < k → (l.take i).Pairwise (· < ·) →
    tendrilref09_Check.l0 k l (i : Int) = some (if l.Pairwise (· < ·) then 0 else 1) := by
  intro d
  induction d with
  | zero =>
    intro i k h0 hd hk hp
    obtain ⟨k, rfl⟩ := fuel hk
    rw [List.take_of_length_le (by omega)] at hp
    rw [tendrilref09_Check.l0, if_neg (by omega), if_pos hp]
  | succ d ih =>
    intro i k h0 hd hk hp
    obtain ⟨k, rfl⟩ := fuel hk
    by_cases hi : i < l.length
    · have e : wrap64 ((i : Int) - 1) = ((i - 1 : Nat) : Int) := by unfold wrap64; omega
      rw [tendrilref09_Check.l0, if_pos (by omega), if_pos (by omega), e, if_pos (by omega), if_pos (by omega), rd_at hi, rd_at (by omega), w64s i (by omega)]
      by_cases hle : l[i] ≤ l[i - 1]
      · rw [if_pos hle, if_neg (not_rising hi h0 hle)]
      · rw [if_neg hle]
        exact ih (i + 1) k (by omega) (by omega) (by omega) (rising_take hi h0 hp (by omega))
    · rw [List.take_of_length_le (by omega)] at hp
      rw [tendrilref09_Check.l0, if_neg (by omega), if_pos hp]
theorem ref_check_eq (l : List Int) (hb : l.length ≤ 1000) (k : Nat) (hk : 1000 < k) : tendrilref09_Check.f k l = some (if l.Pairwise (· < ·) then 0 else 1) := by
  refine ref_check_loop l (by omega) l.length 1 k (by omega) (by omega) (by omega) ?_
  cases l with
  | nil => exact List.Pairwise.nil
  | cons a l => simp

/-! ### The waking -/
theorem olive_true (k : Nat) (hk : 1000 < k) : tendrillaw09_live.f k = some true := by
  have hw : Wf [3, 1, 3] := by decide
  have e : setL [3, 1, 3] = [1, 3] := (setL_isSet [3, 1, 3]).unique ⟨by decide, fun x => by simp only [List.mem_cons, List.not_mem_nil, or_false]; omega⟩
  obtain ⟨r, h1, h2⟩ := above_eq [1, 3] 1 (by decide) (by decide) k hk
  have h3 : IsAbove [1, 3] 1 (3, true) := .inl ⟨rfl, by decide, by decide, by decide⟩
  have e2 := h2.unique h3
  subst e2
  unfold tendrillaw09_live.f
  rw [set_eq (by decide) hw, Option.bind_some, e, h1, Option.bind_some, same_eq _ _ (by decide) k (by show 2 < k; omega), Option.bind_some]
  rfl
end Go.Proofs.Ytifogeaamdiciaa.POrd
