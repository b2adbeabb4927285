/-
tendrillaw09.OrderUnion: a union has what is in one or the other; for every two lists and number.
-/
import Derived.Test.YtifogeaamdiciaaPOrdx17
import Derived.Test.YtifogeaamdiciaaPOrdLBase
import Derived.Test.YtifogeaamdiciaaPOrdLSets
import Derived.Test.YtifogeaamdiciaaPOrdLOrd
namespace Go.Proofs.Ytifogeaamdiciaa.Pure
open Go.RowKit Go.Proofs.Ytifogeaamdiciaa.POrd Go.Proofs.YtifogeaamdiciaaW.PrintWords Go.Proofs.YtifogeaamdiciaaW.PrintLast

theorem OrderUnion : tendrillaw09_OrderUnion.Pure := by
  intro l m a _ _ hw _ _ hv _
  refine ⟨1020000, ?_⟩
  unfold tendrillaw09_OrderUnion.f
  rw [olive_true _ (by omega), Option.bind_some, if_pos rfl]
  by_cases h : (l.length : Int) > 150
  · rw [if_pos h]
    rfl
  · rw [if_neg h]
    by_cases h2 : (m.length : Int) > 150
    · rw [decide_eq_true h2]
      rfl
    · rw [decide_eq_false h2]
      have hu : (setL (l ++ m)).length ≤ 300 := Nat.le_trans (setL_length _) (by rw [List.length_append]; omega)
      have hus := setL_isSet (l ++ m)
      have huw : Wf (setL (l ++ m)) := setL_wf (fun x hx => (List.mem_append.1 hx).elim (hw x) (hv x))
      have hll := setL_length l
      have hlm := setL_length m
      have mem : ∀ x, x ∈ setL (l ++ m) ↔ x ∈ l ∨ x ∈ m := fun x => (hus.2 x).trans List.mem_append
      have hc : ∀ x, (setL (l ++ m)).contains x = (l.contains x || m.contains x) := fun x => by
        rw [Bool.eq_iff_iff, Bool.or_eq_true, List.contains_iff_mem, List.contains_iff_mem, List.contains_iff_mem, mem]
      have inl : l.all (fun x => (setL (l ++ m)).contains x) = true := List.all_eq_true.2 fun x hx => List.contains_iff_mem.2 ((mem x).2 (.inl hx))
      have inm : m.all (fun x => (setL (l ++ m)).contains x) = true := List.all_eq_true.2 fun x hx => List.contains_iff_mem.2 ((mem x).2 (.inr hx))
      have all_iff : ∀ l m : List Int, l.all (fun x => m.contains x) = true ↔ ∀ x ∈ l, x ∈ m := fun l m => by simp
      have comm : setL (m ++ l) = setL (l ++ m) := setL_congr (fun x => by rw [List.mem_append, List.mem_append, or_comm])
      -- the law's last part
      have last : tendrillaw09_OrderUnion.j2 1019998 l m (setL (l ++ m)) false = some true := by
        rw [show (1019998 : Nat) = 1019997 + 1 from rfl, tendrillaw09_OrderUnion.j2, if_neg (by simp), union_eq (by omega) hv (by omega) hw, Option.bind_some, comm, same_eq _ _ (by omega) _ (by omega), Option.bind_some, if_pos (by simp),
          within_eq (by omega) hw (by omega) hv, Option.bind_some]
        by_cases hin : l.all (fun x => m.contains x) = true
        · rw [if_pos hin, within_eq (by omega) hv (by omega) hw, Option.bind_some, set_eq (by omega) hw, Option.bind_some, set_eq (by omega) hv, Option.bind_some, same_eq _ _ (by omega) _ (by omega), Option.bind_some]
          congr 1
          rw [beq_iff_eq, Bool.eq_iff_iff, decide_eq_true_iff, all_iff]
          rw [all_iff] at hin
          constructor
          · exact fun h => setL_congr (fun x => ⟨hin x, h x⟩)
          · intro h x hx
            rw [← (setL_isSet l).2, h, (setL_isSet m).2]
            exact hx
        · rw [if_neg hin, set_eq (by omega) hw, Option.bind_some, set_eq (by omega) hv, Option.bind_some, same_eq _ _ (by omega) _ (by omega), Option.bind_some]
          rw [decide_eq_false]
          · rfl
          · intro h
            refine hin ((all_iff l m).2 fun x hx => ?_)
            rw [← (setL_isSet m).2, ← h, (setL_isSet l).2]
            exact hx
      have mid : tendrillaw09_OrderUnion.j1 1019999 l m (setL (l ++ m)) false = some true := by
        rw [show (1019999 : Nat) = 1019998 + 1 from rfl, tendrillaw09_OrderUnion.j1, if_neg (by simp), within_eq (by omega) hw (by omega) hv, Option.bind_some]
        by_cases hin : l.all (fun x => m.contains x) = true
        · rw [if_pos hin, set_eq (by omega) hv, Option.bind_some, same_eq _ _ (by omega) _ (by omega), Option.bind_some]
          have e : setL (l ++ m) = setL m := setL_congr (fun x => by
            rw [List.mem_append]
            exact ⟨fun h => h.elim ((all_iff l m).1 hin x) id, .inr⟩)
          rw [e] at last ⊢
          rw [decide_eq_true rfl]
          exact last
        · rw [if_neg hin]
          exact last
      have chk : order_Check.f 1019999 (setL (l ++ m)) = some 0 := by rw [check_eq _ (by omega) _ (by omega), if_pos hus.1]
      rw [show (1020000 : Nat) = 1019999 + 1 from rfl, tendrillaw09_OrderUnion.j0, if_neg (by simp), union_eq (by omega) hw (by omega) hv, Option.bind_some, ohas_eq _ _ (by omega) _ (by omega), Option.bind_some, ohas_eq _ _ (by omega) _ (by omega), Option.bind_some, hc]
      by_cases hla : l.contains a = true
      · rw [if_pos hla, hla, Bool.true_or, if_neg (by simp), within_eq (by omega) hw (by omega) huw, Option.bind_some, if_pos inl, within_eq (by omega) hv (by omega) huw, Option.bind_some, if_pos inm, chk, Option.bind_some]
        exact mid
      · rw [if_neg hla, Bool.eq_false_iff.2 hla, Bool.false_or, ohas_eq _ _ (by omega) _ (by omega), Option.bind_some, if_neg (by simp), within_eq (by omega) hw (by omega) huw, Option.bind_some, if_pos inl, within_eq (by omega) hv (by omega) huw, Option.bind_some, if_pos inm, chk, Option.bind_some]
        exact mid

end Go.Proofs.Ytifogeaamdiciaa.Pure
