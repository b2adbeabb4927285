/-
tendrillaw23.ReuseGives: the frames that the calls gave, and whether a list gives one twice, are what the reference says; for every history and list.
-/
import Derived.Test.YtifogeaamdiciaaSaidReuseGives
import Derived.Test.YtifogeaamdiciaaPReuLLive
import Derived.Test.YtifogeaamdiciaaPReuLBase
namespace Go.Proofs.Ytifogeaamdiciaa.Pure
open Go.RowKit Go.Proofs.Ytifogeaamdiciaa.PReu Go.Proofs.YtifogeaamdiciaaW.PrintWords Go.Proofs.YtifogeaamdiciaaW.PrintLast

theorem few_some (l : List S71) (c : Int) : ∀ (d i k : Nat), l.length ≤ 1000000000000000000 → i + d = l.length → d < k →
    ∃ b, tendrilref12_Few.l0 k l c l (l.length : Int) (i : Int) = some b ∧ (b = true → (l.length : Int) ≤ c) := by
  intro d
  induction d with
  | zero =>
    intro i k hb hd hk
    obtain ⟨k, rfl⟩ := fuel hk
    rw [tendrilref12_Few.l0, if_neg (by omega)]
    exact ⟨_, rfl, fun h => of_decide_eq_true h⟩
  | succ d ih =>
    intro i k hb hd hk
    obtain ⟨k, rfl⟩ := fuel hk
    rw [tendrilref12_Few.l0, if_pos (by omega), if_pos (by omega), if_pos (by omega), w64s i (by omega)]
    repeat' split
    · exact ⟨_, rfl, fun h => by cases h⟩
    · exact ⟨_, rfl, fun h => by cases h⟩
    · exact ⟨_, rfl, fun h => by cases h⟩
    · exact ih (i + 1) k hb (by omega) (by omega)
theorem given_loop (l : List S71) (t : Int) (hb : l.length ≤ 1000) : ∀ (d i k : Nat) (acc : List Int), i + d = l.length → acc.length ≤ i → d < k →
    ∃ r, reuse_Given.l0 k t acc l (l.length : Int) (i : Int) = some r ∧ tendrilref23_Given.l0 k t acc l (l.length : Int) (i : Int) = some r ∧ r.length ≤ l.length := by
  intro d
  induction d with
  | zero =>
    intro i k acc hd ha hk
    obtain ⟨k, rfl⟩ := fuel hk
    rw [reuse_Given.l0, if_neg (by omega), tendrilref23_Given.l0, if_neg (by omega)]
    exact ⟨acc, rfl, rfl, by omega⟩
  | succ d ih =>
    intro i k acc hd ha hk
    obtain ⟨k, rfl⟩ := fuel hk
    have c1 : (i : Int) < (l.length : Int) := by omega
    have c2 : 0 ≤ (i : Int) := by omega
    rw [reuse_Given.l0, tendrilref23_Given.l0, if_pos c1, if_pos c1, if_pos c1, if_pos c1, if_pos c2, if_pos c2, w64s i (by omega)]
    have hn := ih (i + 1) k acc (by omega) (by omega) (by omega)
    by_cases h1 : (rd_T71 l (i : Int)).f1 = true
    · rw [if_pos h1, if_pos h1]
      by_cases h2 : (rd_T71 l (i : Int)).f2.f0 = t
      · rw [if_pos h2, if_pos h2]
        by_cases h3 : (rd_T71 l (i : Int)).f3.f0 = 0
        · rw [if_pos h3, if_pos h3, if_pos (by omega), if_pos (by omega)]
          exact ih (i + 1) k _ (by omega) (by simp; omega) (by omega)
        · rw [if_neg h3, if_neg h3]; exact hn
      · rw [if_neg h2, if_neg h2]; exact hn
    · rw [if_neg h1, if_neg h1]; exact hn
theorem ReuseGives : tendrillaw23_ReuseGives.Pure := by
  intro x0 x1 x2 hx0 _ hx2
  refine ⟨x0.length + 1000, ?_⟩
  unfold tendrillaw23_ReuseGives.f
  obtain ⟨b, hb, hle⟩ := few_some x0 100 x0.length 0 (x0.length + 1000) (by omega) (by omega) (by omega)
  have hb' : tendrilref12_Few.f (x0.length + 1000) x0 100 = some b := hb
  rw [live_true _ (by omega), Option.bind_some, if_pos rfl, hb', Option.bind_some]
  cases b with
  | false =>
    rw [if_neg (by simp)]
    rfl
  | true =>
    have hl := hle rfl
    rw [if_pos rfl]
    by_cases h2 : (x2.length : Int) > 200
    · rw [decide_eq_true h2]
      rfl
    · rw [decide_eq_false h2]
      obtain ⟨r, e1, e2, hr⟩ := given_loop x0 x1 (by omega) x0.length 0 (x0.length + 999) [] (by omega) (Nat.le_refl _) (by omega)
      have e1' : reuse_Given.f (x0.length + 999) x0 x1 = some r := e1
      have e2' : tendrilref23_Given.f (x0.length + 999) x0 x1 = some r := e2
      rw [show x0.length + 1000 = (x0.length + 999) + 1 from rfl, tendrillaw23_ReuseGives.j0, if_neg (by simp), e1', Option.bind_some, e2', Option.bind_some, same_eq _ _ (by omega) _ (by omega), Option.bind_some, if_pos (by simp),
        reuse_Twice.f, if_pos ⟨by omega, hx2.2.2⟩, Option.bind_some, tendrilref23_Twice.f, if_pos (by omega), Option.bind_some]
      simp

end Go.Proofs.Ytifogeaamdiciaa.Pure
