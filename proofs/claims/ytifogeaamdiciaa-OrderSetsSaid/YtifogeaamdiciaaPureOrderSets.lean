/-
tendrillaw09.OrderSets: a set has what it was made of, and nothing else, and is the same, whatever order that was told in; for every list and turn.
-/
import Derived.Test.YtifogeaamdiciaaPOrdx13
import Derived.Test.YtifogeaamdiciaaPOrdLBase
import Derived.Test.YtifogeaamdiciaaPOrdLSets
import Derived.Test.YtifogeaamdiciaaPOrdLOrd
namespace Go.Proofs.Ytifogeaamdiciaa.Pure
open Go.RowKit Go.Proofs.Ytifogeaamdiciaa.POrd Go.Proofs.YtifogeaamdiciaaW.PrintWords Go.Proofs.YtifogeaamdiciaaW.PrintLast

theorem has_all (l s : List Int) (hs : ∀ x ∈ l, x ∈ s) (hl : l.length ≤ 1000) (hsl : s.length ≤ l.length) (h0 : Wf s) (h1 : Wf l) (hw : ∀ x ∈ s, x ∈ l) : ∀ (d i k : Nat), i + d = l.length → d + 1001 < k →
    tendrillaw09_OrderSets.l0 k l s l (l.length : Int) (i : Int) = some true := by
  intro d
  induction d with
  | zero =>
    intro i k hd hk
    obtain ⟨k, rfl⟩ : ∃ q, k = q + 1 := ⟨k - 1, by omega⟩
    rw [tendrillaw09_OrderSets.l0, if_neg (by omega), within_eq (by omega) h0 (by omega) h1, Option.bind_some, if_pos (by rw [List.all_eq_true]; exact fun x hx => List.contains_iff_mem.2 (hw x hx)), decide_eq_true (by omega)]
  | succ d ih =>
    intro i k hd hk
    obtain ⟨k, rfl⟩ : ∃ q, k = q + 1 := ⟨k - 1, by omega⟩
    have hi : i < l.length := by omega
    rw [tendrillaw09_OrderSets.l0, if_pos (by omega), if_pos (by omega), if_pos (by omega), rd_at hi, ohas_eq s _ (by omega) _ (by omega), Option.bind_some, if_pos (List.contains_iff_mem.2 (hs _ (List.getElem_mem hi))), w64s i (by omega)]
    exact ih (i + 1) k (by omega) (by omega)
theorem OrderSets : tendrillaw09_OrderSets.Pure := by
  intro l a _ _ hw _
  refine ⟨1020000, ?_⟩
  unfold tendrillaw09_OrderSets.f
  rw [olive_true _ (by omega), Option.bind_some, if_pos rfl]
  by_cases h : (l.length : Int) > 200
  · rw [if_pos h, show (1020000 : Nat) = 1019999 + 1 from rfl, tendrillaw09_OrderSets.j0, if_pos rfl, if_pos (by omega)]
  · rw [if_neg h, show (1020000 : Nat) = 1019999 + 1 from rfl, tendrillaw09_OrderSets.j0]
    by_cases h0 : l.length = 0
    · rw [if_pos (by rw [h0]; rfl), if_neg (by omega), set_eq (by decide) (by decide), Option.bind_some]
      simp [setL, dedupL]
    · have hsl := setL_length l
      have hset := setL_isSet l
      have hswf := setL_wf hw
      have hn : ([] : List Int).length = 0 := rfl
      have b1 := Int.tmod_lt_of_pos a (show (0 : Int) < (l.length : Int) by omega)
      have b2 : -(l.length : Int) < Int.tmod a (l.length : Int) := Int.lt_tmod_of_pos a (by omega)
      have e : wrap64 (Int.tmod a (l.length : Int) + (l.length : Int)) = Int.tmod a (l.length : Int) + (l.length : Int) := w64i _ (by omega) (by omega)
      have c1 : 0 ≤ Int.tmod (Int.tmod a (l.length : Int) + (l.length : Int)) (l.length : Int) := Int.tmod_nonneg _ (by omega)
      have c2 := Int.tmod_lt_of_pos (Int.tmod a (l.length : Int) + (l.length : Int)) (show (0 : Int) < (l.length : Int) by omega)
      rw [if_neg (by rw [beq_iff_eq]; omega), set_eq (by omega) hw, Option.bind_some, if_neg (by omega), e]
      generalize Int.tmod (Int.tmod a (l.length : Int) + (l.length : Int)) (l.length : Int) = q at c1 c2
      have d1 : (l.drop q.toNat).length ≤ 200 := by rw [List.length_drop]; omega
      have d2 : (l.take q.toNat).length ≤ 200 := by rw [List.length_take]; omega
      have mem : ∀ x, x ∈ l.drop q.toNat ++ l.take q.toNat ↔ x ∈ l := fun x => by
        rw [List.mem_append, or_comm, ← List.mem_append, List.take_append_drop]
      rw [if_pos c1, if_pos (by omega), if_pos (by omega), Option.bind_some, List.nil_append, if_pos (by omega), set_eq (by rw [List.length_append]; omega) (fun x hx => hw x ((mem x).1 hx)), Option.bind_some, setL_congr mem,
        check_eq _ (by omega) _ (by omega), if_pos hset.1, Option.bind_some, if_pos rfl, same_eq _ _ (by omega) _ (by omega), Option.bind_some, if_pos (by simp), set_eq (by omega) hswf, Option.bind_some, setL_eq_self.2 hset.1,
        same_eq _ _ (by omega) _ (by omega), Option.bind_some, show (1019999 : Nat) = 1019998 + 1 from rfl, tendrillaw09_OrderSets.j1, if_neg (by simp)]
      exact has_all l (setL l) (fun x hx => (hset.2 x).2 hx) (by omega) hsl hswf hw (fun x hx => (hset.2 x).1 hx) l.length 0 1019998 (by omega) (by omega)

end Go.Proofs.Ytifogeaamdiciaa.Pure
