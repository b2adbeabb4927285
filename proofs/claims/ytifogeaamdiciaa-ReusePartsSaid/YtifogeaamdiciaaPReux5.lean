-- Printed by wip/tools/myprint.py of this repo, over the kit's printer
import Derived.Test.YtifogeaamdiciaaPReux0
import Derived.Test.YtifogeaamdiciaaPReux4
namespace Go.Proofs.Ytifogeaamdiciaa.PReu
open Go.RowKit Go.Proofs.YtifogeaamdiciaaW.PrintWords Go.Proofs.YtifogeaamdiciaaW.PrintLast Go.Proofs.YtifogeaamdiciaaW.PrintMore
attribute [local go_sem] max2_int min2_int max_two min_two max_three min_three max_four min_four max_five min_five   -- for this text's walks alone
set_option linter.unusedVariables false
set_option linter.unusedSimpArgs false

/-! ### slices_Compact_int_int: function 64 (override) -/
-- OVERRIDE slices.Compact[[]int,int] name=slices_Compact_int_int rounds=0 making=1 imports=Derived.Test.YtifogeaamdiciaaShelf,Derived.Sort.OwnSortedInts needs=slices.Sort[[]int,int] own=0.0
theorem owned_prefix {w : World} {base g cap q : Nat} {cur : Array Value} {ds : List Int} {m : Nat} (hg : base ≤ g) (hh : w.heap[g]? = some (.cells cur 3 (0, 0))) (hs : cur.size = cap * 1) (hm : cap ≤ maxLen) (hd : ds.length ≤ cap) (hmd : m ≤ ds.length) :
    (Sort.putRow (Value.int .i64) (Sort.ahead w q) g 0 ds.toArray).ownsRow base 3 1 (.slice (some ⟨g, 0, none⟩) m cap) m (encs (Value.int .i64) (ds.take m)) := by
  have h0 := heap_sortedI (w := w) (n := q) (os := #[]) ds.toArray hh
  rw [Sort.grow_empty] at h0
  refine ⟨by simp [encs]; omega, .inr ⟨g, cap, _, rfl, hg, h0, by omega, hm, by simp [Sort.putCells, hs], ?_⟩⟩
  have h1 := take_putCellsI cur ds (by omega)
  have h2 : (Sort.putCells (Value.int .i64) 0 ds.toArray cur).toList.take m = ((Sort.putCells (Value.int .i64) 0 ds.toArray cur).toList.take ds.length).take m := by
    rw [List.take_take, Nat.min_eq_left hmd]
  rw [Nat.mul_one, h2, h1]
  simp [encs, List.map_take]
def slices_Compact_int_int.f (l0 : List Int) : Option (List Int) := if l0.length < 4611686018427387904 then some (Lib.compact l0) else none
theorem compact_length_le (l : List Int) : (Lib.compact l).length ≤ l.length := by
  unfold Lib.compact Lib.compactUpTo
  rw [List.length_map]
  refine Nat.le_trans (List.length_filter_le _ _) ?_
  rw [List.length_range]
  exact Nat.le_refl _
theorem slices_Compact_int_int.calls (P0_ : Nat → Prop) (u9000_ : Value) (l0 : List Int) (r : List Int) (w0 w : World) (hB : Below w0.heap.size w0 w) (ho0 : Kd.R (Kd.int .i64) 3 w w0.heap.size P0_ u9000_ l0) (h : slices_Compact_int_int.f l0 = some r) :
    Calls Try.prog 64 #[u9000_] w fun e w' => ∃ v0_ : Value, e = .returned (v0_) ∧ Kd.R (Kd.int .i64) 3 w' w0.heap.size (fun k_ => (P0_ k_ ∨ w.heap.size ≤ k_)) v0_ r ∧ Below w0.heap.size w0 w' ∧ Kept w w' (fun k_ => P0_ k_) := by
  unfold slices_Compact_int_int.f at h
  by_cases hl : l0.length < 4611686018427387904
  case neg => rw [if_neg hl] at h; cases h
  rw [if_pos hl] at h
  obtain rfl := Option.some.inj h
  have ho := Kd.own_of_R ho0
  have hcl := compact_length_le l0
  rcases owned_cells ho with ⟨rfl, rfl⟩ | ⟨g, cap, cur, rfl, hg, hh, hn, hm, hs, hH⟩
  · refine (Try.slices_Compact_int_empty none 0 w).mono ?_
    rintro e w' ⟨rfl, rfl⟩
    exact ⟨_, rfl, Kd.R_nil _ _ _ _ _, hB, Kept.refl _ _⟩
  · refine (Try.slices_Compact_int g 0 cap l0 w hH (by omega) hn).mono ?_
    rintro e w' ⟨rfl, q, rfl⟩
    have hgr := grownBy_sortedI (w := w) (g := g) (n := q) (os := #[]) (Lib.compact l0 ++ List.replicate (l0.length - (Lib.compact l0).length) 0).toArray
    rw [Sort.grow_empty] at hgr
    refine ⟨_, rfl, ?_, ?_, ?_⟩
    · refine Kd.R_of_own (h1 := fun _ => rfl) ?_ (fun k hk => .inl (ho0.1 k hk))
      have := owned_prefix (q := q) (ds := Lib.compact l0 ++ List.replicate (l0.length - (Lib.compact l0).length) 0) (m := (Lib.compact l0).length) hg hh hs hm (by simp; omega) (by simp)
      rw [List.take_left] at this
      exact this
    · exact hB.grown hgr hB.size (fun k e => by cases e; exact hg)
    · exact ⟨hgr.size, fun i hi hne => hgr.block i hi (fun e => hne (by cases e; exact ho0.1 _ rfl))⟩

end Go.Proofs.Ytifogeaamdiciaa.PReu
