-- Printed by wip/tools/myprint.py of this repo, over the kit's printer
import Derived.Test.YtifogeaamdiciaaPReux0
namespace Go.Proofs.Ytifogeaamdiciaa.PReu
open Go.RowKit Go.Proofs.YtifogeaamdiciaaW.PrintWords Go.Proofs.YtifogeaamdiciaaW.PrintLast Go.Proofs.YtifogeaamdiciaaW.PrintMore
attribute [local go_sem] max2_int min2_int max_two min_two max_three min_three max_four min_four max_five min_five   -- for this text's walks alone
set_option linter.unusedVariables false
set_option linter.unusedSimpArgs false

/-! ### slices_Sort_int_int: function 63 (override) -/
-- OVERRIDE slices.Sort[[]int,int] name=slices_Sort_int_int rounds=0 making=1 imports=Derived.Test.YtifogeaamdiciaaShelf,Derived.Sort.OwnSortedInts own=0.0 kept=0.0
def sortedL (l : List Int) : List Int := l.mergeSort (fun x y => decide (x ≤ y))
theorem sortedL_length (l : List Int) : (sortedL l).length = l.length := by simp [sortedL]
theorem owned_cells {w : World} {base : Nat} {v : Value} {xs : List Int} (h : w.ownsRow base 3 1 v xs.length (encs (Value.int .i64) xs)) :
    (v = .slice none 0 0 ∧ xs = []) ∨ ∃ g cap cur, v = .slice (some ⟨g, 0, none⟩) xs.length cap ∧ base ≤ g ∧ w.heap[g]? = some (.cells cur 3 (0, 0)) ∧ xs.length ≤ cap ∧ cap ≤ maxLen ∧ cur.size = cap * 1 ∧ Sort.Holds (Value.int .i64) w g 0 xs.toArray := by
  obtain ⟨h1, h2 | ⟨g, cap, cur, rfl, hg, hh, hn, hm, hs, ht⟩⟩ := h
  · exact .inl ⟨h2.1, List.length_eq_zero_iff.1 h2.2⟩
  · refine .inr ⟨g, cap, cur, rfl, hg, hh, hn, hm, hs, fun j hj => ⟨?_, blk_frozen hh _⟩⟩
    have hj' : j < xs.length := by simpa using hj
    rw [Nat.zero_add, blk_cell hh]
    have e : cur.toList[j]? = (encs (Value.int .i64) xs)[j]? := by
      rw [← ht, List.getElem?_take_of_lt (by omega)]
    rw [Array.getElem?_toList] at e
    rw [e]
    simp [encs, hj']
def slices_Sort_int_int.f (l0 : List Int) : Option (List Int) := if l0.length < 4611686018427387904 then some (sortedL l0) else none
theorem slices_Sort_int_int.calls (P0_ : Nat → Prop) (u9000_ : Value) (l0 : List Int) (r : List Int) (w0 w : World) (hB : Below w0.heap.size w0 w) (ho0 : Kd.R (Kd.int .i64) 3 w w0.heap.size P0_ u9000_ l0) (h : slices_Sort_int_int.f l0 = some r) :
    Calls Try.prog 63 #[u9000_] w fun e w' => e = .returned (.tuple #[]) ∧ Kd.R (Kd.int .i64) 3 w' w0.heap.size (fun k_ => (P0_ k_ ∨ w.heap.size ≤ k_)) u9000_ r ∧ Below w0.heap.size w0 w' ∧ Kept w w' (fun k_ => P0_ k_) := by
  unfold slices_Sort_int_int.f at h
  by_cases hl : l0.length < 4611686018427387904
  case neg => rw [if_neg hl] at h; cases h
  rw [if_pos hl] at h
  obtain rfl := Option.some.inj h
  have ho := Kd.own_of_R ho0
  rcases owned_cells ho with ⟨rfl, rfl⟩ | ⟨g, cap, cur, rfl, hg, hh, hn, hm, hs, hH⟩
  · refine (Try.slices_Sort_int_none none 0 w).mono ?_
    rintro e w' ⟨rfl, rfl⟩
    exact ⟨rfl, by simpa [sortedL] using Kd.R_nil _ _ _ _ _, hB, Kept.refl _ _⟩
  · refine (Try.slices_Sort_int g 0 cap l0 w hH (blk_lt hh) hl).mono ?_
    rintro e w' ⟨rfl, n, os, rfl⟩
    have hgr := grownBy_sortedI (w := w) (g := g) (n := n) (os := os) (sortedL l0).toArray
    refine ⟨rfl, ?_, ?_, ?_⟩
    · refine Kd.R_of_own (h1 := fun _ => rfl) ?_ (fun k hk => .inl (ho0.1 k hk))
      have := ownsRow_sortedI (n := n) (os := os) (ss := l0) (ts := sortedL l0) (sortedL_length l0) hg hh hn hm hs
      rw [sortedL_length]
      exact this
    · exact hB.grown hgr hB.size (fun k e => by cases e; exact hg)
    · exact ⟨hgr.size, fun i hi hne => hgr.block i hi (fun e => hne (by cases e; exact ho0.1 _ rfl))⟩

end Go.Proofs.Ytifogeaamdiciaa.PReu
