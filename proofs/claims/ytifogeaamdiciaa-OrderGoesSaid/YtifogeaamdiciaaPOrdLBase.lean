/- Plain lemmas on words and lists that the pure proofs share. -/
import Derived.Test.YtifogeaamdiciaaPOrdx1
namespace Go.Proofs.Ytifogeaamdiciaa.POrd
open Go.RowKit Go.Proofs.YtifogeaamdiciaaW.PrintWords Go.Proofs.YtifogeaamdiciaaW.PrintLast Go.Proofs.YtifogeaamdiciaaW.PrintMore

theorem w64i (x : Int) (h0 : -9223372036854775808 ≤ x) (h1 : x ≤ 9223372036854775807) : wrap64 x = x := by unfold wrap64; omega
theorem w64s (i : Nat) (h : i < 9223372036854775807) : wrap64 ((i : Int) + 1) = ((i + 1 : Nat) : Int) := by unfold wrap64; omega
theorem fuel {k d : Nat} (h : d < k) : ∃ q, k = q + 1 := ⟨k - 1, by omega⟩
theorem rd_at {l : List Int} {i : Nat} (h : i < l.length) : rd l (i : Int) = l[i] := by simp [rd, h]
theorem same_loop (a b : List Int) (hl : a.length = b.length) (hb : a.length ≤ 4611686018427387903) : ∀ (d i k : Nat), i + d = a.length → d < k →
    tendrilref02_Same.l0 k a b (a.length : Int) (i : Int) = some (decide (a.drop i = b.drop i)) := by
  intro d
  induction d with
  | zero =>
    intro i k hd hk
    obtain ⟨k, rfl⟩ := fuel hk
    rw [tendrilref02_Same.l0, if_neg (by omega), List.drop_of_length_le (by omega), List.drop_of_length_le (by omega)]
    simp
  | succ d ih =>
    intro i k hd hk
    obtain ⟨k, rfl⟩ := fuel hk
    have hi : i < a.length := by omega
    have hj : i < b.length := by omega
    have hA := List.drop_eq_getElem_cons hi
    have hB := List.drop_eq_getElem_cons hj
    rw [tendrilref02_Same.l0, if_pos (by omega), if_pos (by omega), if_pos (by omega), if_pos (by omega), rd_at hi, rd_at hj]
    by_cases e : a[i] = b[i]
    · rw [if_pos e, w64s i (by omega), ih (i + 1) k (by omega) (by omega)]
      have : (a.drop i = b.drop i) ↔ (a.drop (i + 1) = b.drop (i + 1)) := by
        rw [hA, hB, e, List.cons.injEq]
        exact ⟨fun h => h.2, fun h => ⟨rfl, h⟩⟩
      rw [decide_eq_decide.2 this]
    · rw [if_neg e]
      have : ¬ (a.drop i = b.drop i) := by
        rw [hA, hB, List.cons.injEq]
        exact fun h => e h.1
      rw [decide_eq_false this]
theorem same_eq (a b : List Int) (hb : a.length ≤ 4611686018427387903) (k : Nat) (hk : a.length < k) : tendrilref02_Same.f k a b = some (decide (a = b)) := by
  unfold tendrilref02_Same.f
  by_cases hl : a.length = b.length
  · have := same_loop a b hl hb a.length 0 k (by omega) hk
    rw [List.drop_zero, List.drop_zero] at this
    rw [if_pos (by omega)]
    exact this
  · rw [if_neg (by omega)]
    have : ¬ (a = b) := fun e => hl (by rw [e])
    simp [this]
end Go.Proofs.Ytifogeaamdiciaa.POrd
