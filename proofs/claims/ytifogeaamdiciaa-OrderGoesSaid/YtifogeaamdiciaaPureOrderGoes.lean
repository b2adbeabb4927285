/-
tendrillaw09.OrderGoes: gone through from below, always by the one above, a set is gone through in order; for every list.
-/
import Derived.Test.YtifogeaamdiciaaPOrdx6
import Derived.Test.YtifogeaamdiciaaPOrdLBase
import Derived.Test.YtifogeaamdiciaaPOrdLSets
import Derived.Test.YtifogeaamdiciaaPOrdLOrd
namespace Go.Proofs.Ytifogeaamdiciaa.Pure
open Go.RowKit Go.Proofs.Ytifogeaamdiciaa.POrd Go.Proofs.YtifogeaamdiciaaW.PrintWords Go.Proofs.YtifogeaamdiciaaW.PrintLast

theorem goes_loop (l : List Int) (hb : l.length ≤ 200) (hw : Wf l) : ∀ (d i k : Nat) (n : Int), i + d = (setL l).length → d + 1001 < k →
    (∀ p (hp : p < (setL l).length), p < i → (setL l)[p] ≤ n) → (∀ p (hp : p < (setL l).length), i ≤ p → n < (setL l)[p]) →
    tendrillaw09_OrderGoes.l0 k l n (setL l) ((setL l).length : Int) (i : Int) = some true := by
  have hs := setL_isSet l
  have hsl := setL_length l
  intro d
  induction d with
  | zero =>
    intro i k n hd hk hlo hhi
    obtain ⟨k, rfl⟩ : ∃ q, k = q + 1 := ⟨k - 1, by omega⟩
    obtain ⟨r, h1, h2⟩ := above_eq l n (by omega) hw k (by omega)
    have e : r = (0, false) := h2.unique (.inr ⟨rfl, rfl, fun x hx hax => by
      obtain ⟨p, hp, rfl⟩ := List.getElem_of_mem ((hs.2 x).2 hx)
      have := hlo p hp (by omega)
      omega⟩)
    subst e
    rw [tendrillaw09_OrderGoes.l0, if_neg (by omega), h1, Option.bind_some, if_neg (by simp)]
    rfl
  | succ d ih =>
    intro i k n hd hk hlo hhi
    obtain ⟨k, rfl⟩ : ∃ q, k = q + 1 := ⟨k - 1, by omega⟩
    have hi : i < (setL l).length := by omega
    obtain ⟨r, h1, h2⟩ := above_eq l n (by omega) hw k (by omega)
    have inc : ∀ p q (hp : p < (setL l).length) (hq : q < (setL l).length), p < q → (setL l)[p] < (setL l)[q] := fun p q hp hq h => List.pairwise_iff_getElem.1 hs.1 p q hp hq h
    have e : r = ((setL l)[i], true) := h2.unique (.inl ⟨rfl, (hs.2 _).1 (List.getElem_mem hi), hhi i hi (Nat.le_refl _), fun x hx hax => by
      obtain ⟨p, hp, rfl⟩ := List.getElem_of_mem ((hs.2 x).2 hx)
      rcases Nat.lt_trichotomy p i with h | h | h
      · have := hlo p hp h
        omega
      · subst h; exact Int.le_refl _
      · exact Int.le_of_lt (inc i p hi hp h)⟩)
    subst e
    rw [tendrillaw09_OrderGoes.l0, if_pos (by omega), if_pos (by omega), if_pos (by omega), h1, Option.bind_some, if_pos rfl, rd_at hi, if_pos rfl, w64s i (by omega)]
    refine ih (i + 1) k _ (by omega) (by omega) (fun p hp hpi => ?_) (fun p hp hpi => inc i p hi hp (by omega))
    by_cases e : p = i
    · subst e; exact Int.le_refl _
    · exact Int.le_of_lt (inc p i hp hi (by omega))
theorem OrderGoes : tendrillaw09_OrderGoes.Pure := by
  intro l hl _ hw
  refine ⟨1020000, ?_⟩
  unfold tendrillaw09_OrderGoes.f
  have hs := setL_isSet l
  have hsl := setL_length l
  have done : ∀ s, tendrillaw09_OrderGoes.j0 1020000 l s true = some true := fun s => rfl
  rw [olive_true _ (by omega), Option.bind_some, if_pos rfl, set_eq (by omega) hw, Option.bind_some]
  by_cases h : (l.length : Int) > 200
  · rw [if_pos h]
    rfl
  · rw [if_neg h]
    by_cases h0 : ((setL l).length : Int) = 0
    · rw [if_pos h0]
      rfl
    · have hp : 0 < (setL l).length := by omega
      have hrd : rd (setL l) 0 = (setL l)[0] := rd_at hp
      have hb := wf64 (setL_wf hw _ (List.getElem_mem hp))
      rw [if_neg h0, if_pos (by omega), hrd]
      by_cases hm : (setL l)[0] = -9223372036854775808
      · rw [hm]
        rfl
      · rw [beq_eq_false_iff_ne.2 hm, show (1020000 : Nat) = 1019999 + 1 from rfl, tendrillaw09_OrderGoes.j0, if_neg (by simp), if_pos (by omega), hrd, w64i _ (by omega) (by omega)]
        refine goes_loop l (by omega) hw (setL l).length 0 1019999 _ (by omega) (by omega) (fun p hp h => absurd h (by omega)) (fun p hp' _ => ?_)
        by_cases e : p = 0
        · subst e; omega
        · have := List.pairwise_iff_getElem.1 hs.1 0 p hp hp' (by omega)
          omega

end Go.Proofs.Ytifogeaamdiciaa.Pure
