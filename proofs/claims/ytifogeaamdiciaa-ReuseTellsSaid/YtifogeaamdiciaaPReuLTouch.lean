/- Lists of touches: what the references say of them. -/
import Derived.Test.YtifogeaamdiciaaPReuLBase
import Derived.Test.YtifogeaamdiciaaPReux0
import Derived.Test.YtifogeaamdiciaaPReux11
import Derived.Test.YtifogeaamdiciaaPReux13
import Derived.Test.YtifogeaamdiciaaPReux9
namespace Go.Proofs.Ytifogeaamdiciaa.PReu
open Go.RowKit Go.Proofs.YtifogeaamdiciaaW.PrintWords Go.Proofs.YtifogeaamdiciaaW.PrintLast Go.Proofs.YtifogeaamdiciaaW.PrintMore

abbrev STouch := S60
theorem rd_touch {l : List STouch} {i : Nat} (h : i < l.length) : rd_T60 l (i : Int) = l[i] := by simp [rd_T60, h]
theorem touch_eta (x : STouch) : (⟨x.f0, x.f1, x.f2, x.f3, x.f4, x.f5, x.f6, x.f7⟩ : STouch) = x := rfl
theorem stale_loop (l : List STouch) (hb : l.length ≤ 1000000) : ∀ (d i k : Nat) (acc : List STouch), i + d = l.length → acc.length ≤ i → d < k →
    tendrilref23_Stale.l0 k acc l (l.length : Int) (i : Int) = some (acc ++ (l.drop i).filter (fun x => x.f4 != x.f5)) := by
  intro d
  induction d with
  | zero =>
    intro i k acc hd ha hk
    obtain ⟨k, rfl⟩ := fuel hk
    rw [tendrilref23_Stale.l0, if_neg (by omega), List.drop_of_length_le (by omega)]
    simp
  | succ d ih =>
    intro i k acc hd ha hk
    obtain ⟨k, rfl⟩ := fuel hk
    have hi : i < l.length := by omega
    rw [tendrilref23_Stale.l0, if_pos (by omega), if_pos (by omega), if_pos (by omega), rd_touch hi, List.drop_eq_getElem_cons hi, List.filter_cons, w64s i (by omega)]
    by_cases e : l[i].f4 = l[i].f5
    · rw [if_pos e, ih (i + 1) k acc (by omega) (by omega) (by omega)]
      simp [e]
    · rw [if_neg e, if_pos (by omega), touch_eta, ih (i + 1) k _ (by omega) (by simp; omega) (by omega)]
      simp [e]
theorem idle_loop (l : List STouch) (hb : l.length ≤ 1000000) : ∀ (d i k : Nat) (acc : List STouch), i + d = l.length → acc.length ≤ i → d < k →
    tendrilref23_Idle.l0 k acc l (l.length : Int) (i : Int) = some (acc ++ (l.drop i).filter (fun x => x.f6 == 0)) := by
  intro d
  induction d with
  | zero =>
    intro i k acc hd ha hk
    obtain ⟨k, rfl⟩ := fuel hk
    rw [tendrilref23_Idle.l0, if_neg (by omega), List.drop_of_length_le (by omega)]
    simp
  | succ d ih =>
    intro i k acc hd ha hk
    obtain ⟨k, rfl⟩ := fuel hk
    have hi : i < l.length := by omega
    rw [tendrilref23_Idle.l0, if_pos (by omega), if_pos (by omega), if_pos (by omega), rd_touch hi, List.drop_eq_getElem_cons hi, List.filter_cons, w64s i (by omega)]
    by_cases e : l[i].f6 = 0
    · rw [if_pos e, if_pos (by omega), touch_eta, ih (i + 1) k _ (by omega) (by simp; omega) (by omega)]
      simp [e]
    · rw [if_neg e, ih (i + 1) k acc (by omega) (by omega) (by omega)]
      simp [e]
theorem of_loop (l : List STouch) (t : Int) (hb : l.length ≤ 1000000) : ∀ (d i k : Nat) (acc : List STouch), i + d = l.length → acc.length ≤ i → d < k →
    tendrilref23_Of.l0 k t acc l (l.length : Int) (i : Int) = some (acc ++ (l.drop i).filter (fun x => x.f0 == t)) := by
  intro d
  induction d with
  | zero =>
    intro i k acc hd ha hk
    obtain ⟨k, rfl⟩ := fuel hk
    rw [tendrilref23_Of.l0, if_neg (by omega), List.drop_of_length_le (by omega)]
    simp
  | succ d ih =>
    intro i k acc hd ha hk
    obtain ⟨k, rfl⟩ := fuel hk
    have hi : i < l.length := by omega
    rw [tendrilref23_Of.l0, if_pos (by omega), if_pos (by omega), if_pos (by omega), rd_touch hi, List.drop_eq_getElem_cons hi, List.filter_cons, w64s i (by omega)]
    by_cases e : l[i].f0 = t
    · rw [if_pos e, if_pos (by omega), touch_eta, ih (i + 1) k _ (by omega) (by simp; omega) (by omega)]
      simp [e]
    · rw [if_neg e, ih (i + 1) k acc (by omega) (by omega) (by omega)]
      simp [e]
theorem touch_ext (x y : STouch) : ((!(x.f0 == y.f0) || (!(x.f1 == y.f1) || (!(x.f2 == y.f2) || (!(x.f3 == y.f3) || (!(x.f4 == y.f4) || (!(x.f5 == y.f5) || (!(x.f6 == y.f6) || (!(x.f7 == y.f7))))))))) = true) ↔ x ≠ y := by
  obtain ⟨a0, a1, a2, a3, a4, a5, a6, a7⟩ := x
  obtain ⟨b0, b1, b2, b3, b4, b5, b6, b7⟩ := y
  simp only [Bool.or_eq_true, Bool.not_eq_true', beq_eq_false_iff_ne, ne_eq]
  constructor
  · intro h e
    injection e with e0 e1 e2 e3 e4 e5 e6 e7
    rcases h with h | h | h | h | h | h | h | h <;> exact h ‹_›
  · intro h
    by_cases e0 : a0 = b0
    · by_cases e1 : a1 = b1
      · by_cases e2 : a2 = b2
        · by_cases e3 : a3 = b3
          · by_cases e4 : a4 = b4
            · by_cases e5 : a5 = b5
              · by_cases e6 : a6 = b6
                · by_cases e7 : a7 = b7
                  · exact absurd (by rw [e0, e1, e2, e3, e4, e5, e6, e7]) h
                  · exact .inr (.inr (.inr (.inr (.inr (.inr (.inr e7))))))
                · exact .inr (.inr (.inr (.inr (.inr (.inr (.inl e6))))))
              · exact .inr (.inr (.inr (.inr (.inr (.inl e5)))))
            · exact .inr (.inr (.inr (.inr (.inl e4))))
          · exact .inr (.inr (.inr (.inl e3)))
        · exact .inr (.inr (.inl e2))
      · exact .inr (.inl e1)
    · exact .inl e0
theorem sameT_refl (a : List STouch) (hb : a.length ≤ 1000000) : ∀ (d i k : Nat), i + d = a.length → d < k →
    tendrilref16_SameTouches.l0 k a a (a.length : Int) (i : Int) = some true := by
  intro d
  induction d with
  | zero =>
    intro i k hd hk
    obtain ⟨k, rfl⟩ := fuel hk
    rw [tendrilref16_SameTouches.l0, if_neg (by omega)]
  | succ d ih =>
    intro i k hd hk
    obtain ⟨k, rfl⟩ := fuel hk
    have hi : i < a.length := by omega
    rw [tendrilref16_SameTouches.l0, if_pos (by omega), if_pos (by omega), if_pos (by omega), if_pos (by omega), rd_touch hi, if_neg (by rw [touch_ext]; simp), w64s i (by omega)]
    exact ih (i + 1) k (by omega) (by omega)
theorem sameT_self (a : List STouch) (hb : a.length ≤ 1000000) (k : Nat) (hk : a.length < k) : tendrilref16_SameTouches.f k a a = some true := by
  unfold tendrilref16_SameTouches.f
  rw [if_pos rfl]
  exact sameT_refl a hb a.length 0 k (by omega) hk
theorem stale_ref (l : List STouch) (hb : l.length ≤ 1000000) (k : Nat) (hk : l.length < k) : tendrilref23_Stale.f k l = some (l.filter (fun x => x.f4 != x.f5)) := by
  unfold tendrilref23_Stale.f
  have := stale_loop l hb l.length 0 k [] (by omega) (Nat.le_refl _) hk
  simpa using this
theorem idle_ref (l : List STouch) (hb : l.length ≤ 1000000) (k : Nat) (hk : l.length < k) : tendrilref23_Idle.f k l = some (l.filter (fun x => x.f6 == 0)) := by
  unfold tendrilref23_Idle.f
  have := idle_loop l hb l.length 0 k [] (by omega) (Nat.le_refl _) hk
  simpa using this
theorem of_ref (l : List STouch) (t : Int) (hb : l.length ≤ 1000000) (k : Nat) (hk : l.length < k) : tendrilref23_Of.f k l t = some (l.filter (fun x => x.f0 == t)) := by
  unfold tendrilref23_Of.f
  have := of_loop l t hb l.length 0 k [] (by omega) (Nat.le_refl _) hk
  simpa using this
end Go.Proofs.Ytifogeaamdiciaa.PReu
