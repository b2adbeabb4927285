-- Printed by wip/tools/myprint.py of this repo, over the kit's printer
import Derived.Test.YtifogeaamdiciaaPReux0
namespace Go.Proofs.Ytifogeaamdiciaa.PReu
open Go.RowKit Go.Proofs.YtifogeaamdiciaaW.PrintWords Go.Proofs.YtifogeaamdiciaaW.PrintLast Go.Proofs.YtifogeaamdiciaaW.PrintMore
attribute [local go_sem] max2_int min2_int max_two min_two max_three min_three max_four min_four max_five min_five   -- for this text's walks alone
set_option linter.unusedVariables false
set_option linter.unusedSimpArgs false

/-! ### tendrilref12_Few: function 35 -/
def tendrilref12_Few.l0 : Nat → List (S71) → Int → List (S71) → Int → Int → Option (Bool)
  | 0, _, _, _, _, _ => none
  | k + 1, x0, x1, x7, x8, x9 => if x9 < x8 then (if 0 ≤ x9 then (if x9 < (x7.length : Int) then (if (((rd_T71 x7 x9).f3.f2).length : Int) > 100 then (some false) else (if (((rd_T71 x7 x9).f3.f3).length : Int) > 100 then (some false) else (if (((rd_T71 x7 x9).f3.f4).length : Int) > 100 then (some false) else (tendrilref12_Few.l0 k x0 x1 x7 x8 (wrap64 (x9 + 1)))))) else (none)) else (none)) else (some (decide ((x0.length : Int) ≤ x1)))
def tendrilref12_Few.f (k : Nat) (l0 : List (S71)) (a1 : Int) : Option (Bool) := tendrilref12_Few.l0 k l0 a1 l0 (l0.length : Int) 0
theorem tendrilref12_Few.mono_l : ∀ k, (∀ y0 y1 y2 y3 y4, LeO (tendrilref12_Few.l0 k y0 y1 y2 y3 y4) (tendrilref12_Few.l0 (k + 1) y0 y1 y2 y3 y4))
  | 0 => fun _ _ _ _ _ r h => by simp [tendrilref12_Few.l0] at h
  | k + 1 => by
    have ih0 := tendrilref12_Few.mono_l k
    · intro y0 y1 y2 y3 y4
      unfold tendrilref12_Few.l0
      repeat' first
      | (with_reducible exact ih0 _ _ _ _ _)
      | (with_reducible exact LeO.refl _)
      | (with_reducible exact LeO.none _)
      | (with_reducible refine LeO.ite ?_ ?_)
      | (with_reducible refine LeO.bind ?_ (fun _ => ?_))
      | exact ih0 _ _ _ _ _
      | exact LeO.none _
      | refine LeO.ite ?_ ?_
      | refine LeO.bind ?_ (fun _ => ?_)
theorem tendrilref12_Few.mono : ∀ a0 a1 k, LeO (tendrilref12_Few.f k a0 a1) (tendrilref12_Few.f (k + 1) a0 a1) := by
  intro a0 a1 k
  have ih0 := tendrilref12_Few.mono_l k
  unfold tendrilref12_Few.f
  repeat' first
      | (with_reducible exact ih0 _ _ _ _ _)
      | (with_reducible exact LeO.refl _)
      | (with_reducible exact LeO.none _)
      | (with_reducible refine LeO.ite ?_ ?_)
      | (with_reducible refine LeO.bind ?_ (fun _ => ?_))
      | exact ih0 _ _ _ _ _
      | exact LeO.none _
      | refine LeO.ite ?_ ?_
      | refine LeO.bind ?_ (fun _ => ?_)
set_option maxHeartbeats 8000000 in
set_option maxRecDepth 100000 in
theorem tendrilref12_Few.calls (k : Nat) (A0 : Option Addr) (c0 : Nat) (l0 : List (S71)) (a1 : Int) (r : Bool) (w : World) (hr0 : Kd.C k71 w A0 l0.length l0) (hc0 : l0.length ≤ c0) (h : tendrilref12_Few.f k l0 a1 = some r) :
    Calls Try.prog 35 #[.slice A0 l0.length c0, .int .i64 a1] w fun e w' => e = .returned (.bool r) ∧ Below w.heap.size w w' := by
  have hu71 := Try.underlying71
  have HR0 := Aside0.mk hr0
  have HC0 := Aside0.mk hc0
  clear hr0 hc0
  have HB := Aside0.mk (Below.refl w.heap.size w)
  have H : (tendrilref12_Few.l0 k l0 a1 l0 (l0.length : Int) 0) = some r := h
  clear h
  have H' := Aside0.mk H
  clear H
  go_enter Try.func35, Try.ntmps35
  go_wp2
  go_loopg [9] k (fun kq v9 w' => ∃ (x9_1 : Int), v9 = .int .i64 x9_1 ∧ Aside0 (tendrilref12_Few.l0 kq l0 a1 l0 (l0.length : Int) x9_1 = some r) ∧ Aside0 (kq ≤ k) ∧ Aside0 (Below w.heap.size w w'))
  case atStart => exact ⟨(0), (by first | rfl | (simp; done) | (simp [*]; done)), H', ⟨Nat.le_refl _⟩, ⟨by repeat (first | (with_reducible first | exact HB.out | apply below_alloc | apply pw_below_drewN | apply below_drew1) | exact HB.out)⟩⟩
  case round =>
    clear H'
    try clear p2
    obtain ⟨x9_1, rfl, HA, HK1, HB⟩ := hrel
    cases gk with
    | zero => exact absurd HA.out (by simp [tendrilref12_Few.l0])
    | succ k1 =>
      have H := HA.out
      clear HA
      simp only [tendrilref12_Few.l0] at H
      by_cases c3 : x9_1 < (l0.length : Int)
      · rw [if_pos c3] at H
        have c3b0 : decide (x9_1 < (l0.length : Int)) = true := decide_eq_true c3
        clear c3
        by_cases c4 : 0 ≤ x9_1
        · rw [if_pos c4] at H
          have c4b0 : decide (0 ≤ x9_1) = true := decide_eq_true c4
          clear c4
          by_cases c5 : x9_1 < (l0.length : Int)
          · rw [if_pos c5] at H
            have c5b0 : decide (x9_1 < (l0.length : Int)) = true := decide_eq_true c5
            clear c5
            by_cases c6 : (((rd_T71 l0 x9_1).f3.f2).length : Int) > 100
            · rw [if_pos c6] at H
              have c6b0 : decide (100 < (((rd_T71 l0 x9_1).f3.f2).length : Int)) = true := decide_eq_true c6
              have c6b1 : decide (100 < ((rd_T71 l0 x9_1).f3.f2).length) = true := decide_eq_true (by omega)
              clear c6
              obtain rfl := Option.some.inj H
              have p239 : 0 ≤ (x9_1 : Int) := of_decide_eq_true (by first | (with_reducible assumption) | assumption)
              have q239 : x9_1 < (l0.length : Int) := of_decide_eq_true (by first | (with_reducible assumption) | assumption)
              obtain ⟨ad239, A239_9, c239_9, A239_10, c239_10, A239_11, c239_11, e239, hx239_0, hx239_1, hx239_2, hx239_3, hx239_4, hx239_5, hx239_6, hx239_7, hx239_8, hx239_9, hx239_10, hx239_11, hl239_9, hi239_9, hl239_10, hi239_10, hl239_11, hi239_11⟩ := at_T71 HR0.out x9_1 p239 q239
              cases e239
              replace hx239_0 := (HB.out.cell (World.block_lt_of_cell? w _ hx239_0)).trans hx239_0
              replace hx239_1 := (HB.out.cell (World.block_lt_of_cell? w _ hx239_1)).trans hx239_1
              replace hx239_2 := (HB.out.cell (World.block_lt_of_cell? w _ hx239_2)).trans hx239_2
              replace hx239_3 := (HB.out.cell (World.block_lt_of_cell? w _ hx239_3)).trans hx239_3
              replace hx239_4 := (HB.out.cell (World.block_lt_of_cell? w _ hx239_4)).trans hx239_4
              replace hx239_5 := (HB.out.cell (World.block_lt_of_cell? w _ hx239_5)).trans hx239_5
              replace hx239_6 := (HB.out.cell (World.block_lt_of_cell? w _ hx239_6)).trans hx239_6
              replace hx239_7 := (HB.out.cell (World.block_lt_of_cell? w _ hx239_7)).trans hx239_7
              replace hx239_8 := (HB.out.cell (World.block_lt_of_cell? w _ hx239_8)).trans hx239_8
              replace hx239_9 := (HB.out.cell (World.block_lt_of_cell? w _ hx239_9)).trans hx239_9
              replace hx239_10 := (HB.out.cell (World.block_lt_of_cell? w _ hx239_10)).trans hx239_10
              replace hx239_11 := (HB.out.cell (World.block_lt_of_cell? w _ hx239_11)).trans hx239_11
              have HR239_9 := Aside0.mk hi239_9
              have HC239_9 := Aside0.mk hl239_9
              clear hi239_9 hl239_9
              have HR239_10 := Aside0.mk hi239_10
              have HC239_10 := Aside0.mk hl239_10
              clear hi239_10 hl239_10
              have HR239_11 := Aside0.mk hi239_11
              have HC239_11 := Aside0.mk hl239_11
              clear hi239_11 hl239_11
              replace p239 := eq_true p239
              replace q239 := eq_true q239
              go_wp2_with (first | ((with_reducible refine gate_dst (N := 6) rfl ?_); (try (refine gate_guard (by rfl) ?_; dsimp only)); refine box_event ?hg (N := 6) ?hd (cs := #[.int .i64 0, .bool false, .int .i64 0, .int .i64 0, .int .i64 0, .int .i64 0, .int .i64 0, .int .i64 0, .int .i64 0, .slice none 0 0, .slice none 0 0, .slice none 0 0]) (t := 71) ?hr ?_; (case hd => rfl); (case hg => rfl); (case hr => first | (go_simp; done) | (go_simp; rfl)); intro gb240 hg w7 hbox hb; have n0_ := Aside0.mk (below_step (by repeat (first | (with_reducible first | exact HB.out | apply below_alloc | apply pw_below_drewN | apply below_drew1) | exact HB.out)) hb); have n1_ := Aside0.mk (hbox); have n2_ := Aside0.mk ((by rw [hg]; exact (below_size (by repeat (first | (with_reducible first | exact HB.out | apply below_alloc | apply pw_below_drewN | apply below_drew1) | exact HB.out))) : w.heap.size ≤ gb240)); have n3_ := Aside0.mk ((by rw [hg]; exact (below_size (by repeat (first | (with_reducible first | exact HB.out | apply below_alloc | apply pw_below_drewN | apply below_drew1) | exact HB.out))) : w.heap.size ≤ gb240)); clear HB; have HB := n0_; have BK240 := n1_; have GW240 := n2_; have GE240 := n3_; clear n0_ n1_ n2_ n3_; clear hb hbox hg; have hcz8_0 : w7.cell? ⟨gb240, 0, none⟩ = some (.int .i64 0) := (blk_cell BK240.out 0).trans rfl; have hcz8_1 : w7.cell? ⟨gb240, 1, none⟩ = some (.bool false) := (blk_cell BK240.out 1).trans rfl; have hcz8_2 : w7.cell? ⟨gb240, 2, none⟩ = some (.int .i64 0) := (blk_cell BK240.out 2).trans rfl; have hcz8_3 : w7.cell? ⟨gb240, 3, none⟩ = some (.int .i64 0) := (blk_cell BK240.out 3).trans rfl; have hcz8_4 : w7.cell? ⟨gb240, 4, none⟩ = some (.int .i64 0) := (blk_cell BK240.out 4).trans rfl; have hcz8_5 : w7.cell? ⟨gb240, 5, none⟩ = some (.int .i64 0) := (blk_cell BK240.out 5).trans rfl; have hcz8_6 : w7.cell? ⟨gb240, 6, none⟩ = some (.int .i64 0) := (blk_cell BK240.out 6).trans rfl; have hcz8_7 : w7.cell? ⟨gb240, 7, none⟩ = some (.int .i64 0) := (blk_cell BK240.out 7).trans rfl; have hcz8_8 : w7.cell? ⟨gb240, 8, none⟩ = some (.int .i64 0) := (blk_cell BK240.out 8).trans rfl; have hcz8_9 : w7.cell? ⟨gb240, 9, none⟩ = some (.slice none 0 0) := (blk_cell BK240.out 9).trans rfl; have hcz8_10 : w7.cell? ⟨gb240, 10, none⟩ = some (.slice none 0 0) := (blk_cell BK240.out 10).trans rfl; have hcz8_11 : w7.cell? ⟨gb240, 11, none⟩ = some (.slice none 0 0) := (blk_cell BK240.out 11).trans rfl; have hfz8_0 := blk_frozen BK240.out 0; have hfz8_1 := blk_frozen BK240.out 1; have hfz8_2 := blk_frozen BK240.out 2; have hfz8_3 := blk_frozen BK240.out 3; have hfz8_4 := blk_frozen BK240.out 4; have hfz8_5 := blk_frozen BK240.out 5; have hfz8_6 := blk_frozen BK240.out 6; have hfz8_7 := blk_frozen BK240.out 7; have hfz8_8 := blk_frozen BK240.out 8; have hfz8_9 := blk_frozen BK240.out 9; have hfz8_10 := blk_frozen BK240.out 10; have hfz8_11 := blk_frozen BK240.out 11))
              go_ret
              exact ⟨by first | rfl | (simp [errW_none, errW_some] <;> rfl) | (simp [*, errW_none, errW_some] <;> rfl), by repeat (first | (with_reducible first | exact HB.out | apply below_alloc | apply pw_below_drewN | apply below_drew1 | refine below_set ?_ GE240.out) | exact HB.out)⟩
            · rw [if_neg c6] at H
              have c6b0 : decide (100 < (((rd_T71 l0 x9_1).f3.f2).length : Int)) = false := decide_eq_false c6
              have c6b1 : decide (100 < ((rd_T71 l0 x9_1).f3.f2).length) = false := decide_eq_false (by omega)
              clear c6
              by_cases c9 : (((rd_T71 l0 x9_1).f3.f3).length : Int) > 100
              · rw [if_pos c9] at H
                have c9b0 : decide (100 < (((rd_T71 l0 x9_1).f3.f3).length : Int)) = true := decide_eq_true c9
                have c9b1 : decide (100 < ((rd_T71 l0 x9_1).f3.f3).length) = true := decide_eq_true (by omega)
                clear c9
                obtain rfl := Option.some.inj H
                have p239 : 0 ≤ (x9_1 : Int) := of_decide_eq_true (by first | (with_reducible assumption) | assumption)
                have q239 : x9_1 < (l0.length : Int) := of_decide_eq_true (by first | (with_reducible assumption) | assumption)
                obtain ⟨ad239, A239_9, c239_9, A239_10, c239_10, A239_11, c239_11, e239, hx239_0, hx239_1, hx239_2, hx239_3, hx239_4, hx239_5, hx239_6, hx239_7, hx239_8, hx239_9, hx239_10, hx239_11, hl239_9, hi239_9, hl239_10, hi239_10, hl239_11, hi239_11⟩ := at_T71 HR0.out x9_1 p239 q239
                cases e239
                replace hx239_0 := (HB.out.cell (World.block_lt_of_cell? w _ hx239_0)).trans hx239_0
                replace hx239_1 := (HB.out.cell (World.block_lt_of_cell? w _ hx239_1)).trans hx239_1
                replace hx239_2 := (HB.out.cell (World.block_lt_of_cell? w _ hx239_2)).trans hx239_2
                replace hx239_3 := (HB.out.cell (World.block_lt_of_cell? w _ hx239_3)).trans hx239_3
                replace hx239_4 := (HB.out.cell (World.block_lt_of_cell? w _ hx239_4)).trans hx239_4
                replace hx239_5 := (HB.out.cell (World.block_lt_of_cell? w _ hx239_5)).trans hx239_5
                replace hx239_6 := (HB.out.cell (World.block_lt_of_cell? w _ hx239_6)).trans hx239_6
                replace hx239_7 := (HB.out.cell (World.block_lt_of_cell? w _ hx239_7)).trans hx239_7
                replace hx239_8 := (HB.out.cell (World.block_lt_of_cell? w _ hx239_8)).trans hx239_8
                replace hx239_9 := (HB.out.cell (World.block_lt_of_cell? w _ hx239_9)).trans hx239_9
                replace hx239_10 := (HB.out.cell (World.block_lt_of_cell? w _ hx239_10)).trans hx239_10
                replace hx239_11 := (HB.out.cell (World.block_lt_of_cell? w _ hx239_11)).trans hx239_11
                have HR239_9 := Aside0.mk hi239_9
                have HC239_9 := Aside0.mk hl239_9
                clear hi239_9 hl239_9
                have HR239_10 := Aside0.mk hi239_10
                have HC239_10 := Aside0.mk hl239_10
                clear hi239_10 hl239_10
                have HR239_11 := Aside0.mk hi239_11
                have HC239_11 := Aside0.mk hl239_11
                clear hi239_11 hl239_11
                replace p239 := eq_true p239
                replace q239 := eq_true q239
                go_wp2_with (first | ((with_reducible refine gate_dst (N := 6) rfl ?_); (try (refine gate_guard (by rfl) ?_; dsimp only)); refine box_event ?hg (N := 6) ?hd (cs := #[.int .i64 0, .bool false, .int .i64 0, .int .i64 0, .int .i64 0, .int .i64 0, .int .i64 0, .int .i64 0, .int .i64 0, .slice none 0 0, .slice none 0 0, .slice none 0 0]) (t := 71) ?hr ?_; (case hd => rfl); (case hg => rfl); (case hr => first | (go_simp; done) | (go_simp; rfl)); intro gb240 hg w10 hbox hb; have n0_ := Aside0.mk (below_step (by repeat (first | (with_reducible first | exact HB.out | apply below_alloc | apply pw_below_drewN | apply below_drew1) | exact HB.out)) hb); have n1_ := Aside0.mk (hbox); have n2_ := Aside0.mk ((by rw [hg]; exact (below_size (by repeat (first | (with_reducible first | exact HB.out | apply below_alloc | apply pw_below_drewN | apply below_drew1) | exact HB.out))) : w.heap.size ≤ gb240)); have n3_ := Aside0.mk ((by rw [hg]; exact (below_size (by repeat (first | (with_reducible first | exact HB.out | apply below_alloc | apply pw_below_drewN | apply below_drew1) | exact HB.out))) : w.heap.size ≤ gb240)); clear HB; have HB := n0_; have BK240 := n1_; have GW240 := n2_; have GE240 := n3_; clear n0_ n1_ n2_ n3_; clear hb hbox hg; have hcz11_0 : w10.cell? ⟨gb240, 0, none⟩ = some (.int .i64 0) := (blk_cell BK240.out 0).trans rfl; have hcz11_1 : w10.cell? ⟨gb240, 1, none⟩ = some (.bool false) := (blk_cell BK240.out 1).trans rfl; have hcz11_2 : w10.cell? ⟨gb240, 2, none⟩ = some (.int .i64 0) := (blk_cell BK240.out 2).trans rfl; have hcz11_3 : w10.cell? ⟨gb240, 3, none⟩ = some (.int .i64 0) := (blk_cell BK240.out 3).trans rfl; have hcz11_4 : w10.cell? ⟨gb240, 4, none⟩ = some (.int .i64 0) := (blk_cell BK240.out 4).trans rfl; have hcz11_5 : w10.cell? ⟨gb240, 5, none⟩ = some (.int .i64 0) := (blk_cell BK240.out 5).trans rfl; have hcz11_6 : w10.cell? ⟨gb240, 6, none⟩ = some (.int .i64 0) := (blk_cell BK240.out 6).trans rfl; have hcz11_7 : w10.cell? ⟨gb240, 7, none⟩ = some (.int .i64 0) := (blk_cell BK240.out 7).trans rfl; have hcz11_8 : w10.cell? ⟨gb240, 8, none⟩ = some (.int .i64 0) := (blk_cell BK240.out 8).trans rfl; have hcz11_9 : w10.cell? ⟨gb240, 9, none⟩ = some (.slice none 0 0) := (blk_cell BK240.out 9).trans rfl; have hcz11_10 : w10.cell? ⟨gb240, 10, none⟩ = some (.slice none 0 0) := (blk_cell BK240.out 10).trans rfl; have hcz11_11 : w10.cell? ⟨gb240, 11, none⟩ = some (.slice none 0 0) := (blk_cell BK240.out 11).trans rfl; have hfz11_0 := blk_frozen BK240.out 0; have hfz11_1 := blk_frozen BK240.out 1; have hfz11_2 := blk_frozen BK240.out 2; have hfz11_3 := blk_frozen BK240.out 3; have hfz11_4 := blk_frozen BK240.out 4; have hfz11_5 := blk_frozen BK240.out 5; have hfz11_6 := blk_frozen BK240.out 6; have hfz11_7 := blk_frozen BK240.out 7; have hfz11_8 := blk_frozen BK240.out 8; have hfz11_9 := blk_frozen BK240.out 9; have hfz11_10 := blk_frozen BK240.out 10; have hfz11_11 := blk_frozen BK240.out 11))
                go_ret
                exact ⟨by first | rfl | (simp [errW_none, errW_some] <;> rfl) | (simp [*, errW_none, errW_some] <;> rfl), by repeat (first | (with_reducible first | exact HB.out | apply below_alloc | apply pw_below_drewN | apply below_drew1 | refine below_set ?_ GE240.out) | exact HB.out)⟩
              · rw [if_neg c9] at H
                have c9b0 : decide (100 < (((rd_T71 l0 x9_1).f3.f3).length : Int)) = false := decide_eq_false c9
                have c9b1 : decide (100 < ((rd_T71 l0 x9_1).f3.f3).length) = false := decide_eq_false (by omega)
                clear c9
                by_cases c12 : (((rd_T71 l0 x9_1).f3.f4).length : Int) > 100
                · rw [if_pos c12] at H
                  have c12b0 : decide (100 < (((rd_T71 l0 x9_1).f3.f4).length : Int)) = true := decide_eq_true c12
                  have c12b1 : decide (100 < ((rd_T71 l0 x9_1).f3.f4).length) = true := decide_eq_true (by omega)
                  clear c12
                  obtain rfl := Option.some.inj H
                  have p239 : 0 ≤ (x9_1 : Int) := of_decide_eq_true (by first | (with_reducible assumption) | assumption)
                  have q239 : x9_1 < (l0.length : Int) := of_decide_eq_true (by first | (with_reducible assumption) | assumption)
                  obtain ⟨ad239, A239_9, c239_9, A239_10, c239_10, A239_11, c239_11, e239, hx239_0, hx239_1, hx239_2, hx239_3, hx239_4, hx239_5, hx239_6, hx239_7, hx239_8, hx239_9, hx239_10, hx239_11, hl239_9, hi239_9, hl239_10, hi239_10, hl239_11, hi239_11⟩ := at_T71 HR0.out x9_1 p239 q239
                  cases e239
                  replace hx239_0 := (HB.out.cell (World.block_lt_of_cell? w _ hx239_0)).trans hx239_0
                  replace hx239_1 := (HB.out.cell (World.block_lt_of_cell? w _ hx239_1)).trans hx239_1
                  replace hx239_2 := (HB.out.cell (World.block_lt_of_cell? w _ hx239_2)).trans hx239_2
                  replace hx239_3 := (HB.out.cell (World.block_lt_of_cell? w _ hx239_3)).trans hx239_3
                  replace hx239_4 := (HB.out.cell (World.block_lt_of_cell? w _ hx239_4)).trans hx239_4
                  replace hx239_5 := (HB.out.cell (World.block_lt_of_cell? w _ hx239_5)).trans hx239_5
                  replace hx239_6 := (HB.out.cell (World.block_lt_of_cell? w _ hx239_6)).trans hx239_6
                  replace hx239_7 := (HB.out.cell (World.block_lt_of_cell? w _ hx239_7)).trans hx239_7
                  replace hx239_8 := (HB.out.cell (World.block_lt_of_cell? w _ hx239_8)).trans hx239_8
                  replace hx239_9 := (HB.out.cell (World.block_lt_of_cell? w _ hx239_9)).trans hx239_9
                  replace hx239_10 := (HB.out.cell (World.block_lt_of_cell? w _ hx239_10)).trans hx239_10
                  replace hx239_11 := (HB.out.cell (World.block_lt_of_cell? w _ hx239_11)).trans hx239_11
                  have HR239_9 := Aside0.mk hi239_9
                  have HC239_9 := Aside0.mk hl239_9
                  clear hi239_9 hl239_9
                  have HR239_10 := Aside0.mk hi239_10
                  have HC239_10 := Aside0.mk hl239_10
                  clear hi239_10 hl239_10
                  have HR239_11 := Aside0.mk hi239_11
                  have HC239_11 := Aside0.mk hl239_11
                  clear hi239_11 hl239_11
                  replace p239 := eq_true p239
                  replace q239 := eq_true q239
                  go_wp2_with (first | ((with_reducible refine gate_dst (N := 6) rfl ?_); (try (refine gate_guard (by rfl) ?_; dsimp only)); refine box_event ?hg (N := 6) ?hd (cs := #[.int .i64 0, .bool false, .int .i64 0, .int .i64 0, .int .i64 0, .int .i64 0, .int .i64 0, .int .i64 0, .int .i64 0, .slice none 0 0, .slice none 0 0, .slice none 0 0]) (t := 71) ?hr ?_; (case hd => rfl); (case hg => rfl); (case hr => first | (go_simp; done) | (go_simp; rfl)); intro gb240 hg w13 hbox hb; have n0_ := Aside0.mk (below_step (by repeat (first | (with_reducible first | exact HB.out | apply below_alloc | apply pw_below_drewN | apply below_drew1) | exact HB.out)) hb); have n1_ := Aside0.mk (hbox); have n2_ := Aside0.mk ((by rw [hg]; exact (below_size (by repeat (first | (with_reducible first | exact HB.out | apply below_alloc | apply pw_below_drewN | apply below_drew1) | exact HB.out))) : w.heap.size ≤ gb240)); have n3_ := Aside0.mk ((by rw [hg]; exact (below_size (by repeat (first | (with_reducible first | exact HB.out | apply below_alloc | apply pw_below_drewN | apply below_drew1) | exact HB.out))) : w.heap.size ≤ gb240)); clear HB; have HB := n0_; have BK240 := n1_; have GW240 := n2_; have GE240 := n3_; clear n0_ n1_ n2_ n3_; clear hb hbox hg; have hcz14_0 : w13.cell? ⟨gb240, 0, none⟩ = some (.int .i64 0) := (blk_cell BK240.out 0).trans rfl; have hcz14_1 : w13.cell? ⟨gb240, 1, none⟩ = some (.bool false) := (blk_cell BK240.out 1).trans rfl; have hcz14_2 : w13.cell? ⟨gb240, 2, none⟩ = some (.int .i64 0) := (blk_cell BK240.out 2).trans rfl; have hcz14_3 : w13.cell? ⟨gb240, 3, none⟩ = some (.int .i64 0) := (blk_cell BK240.out 3).trans rfl; have hcz14_4 : w13.cell? ⟨gb240, 4, none⟩ = some (.int .i64 0) := (blk_cell BK240.out 4).trans rfl; have hcz14_5 : w13.cell? ⟨gb240, 5, none⟩ = some (.int .i64 0) := (blk_cell BK240.out 5).trans rfl; have hcz14_6 : w13.cell? ⟨gb240, 6, none⟩ = some (.int .i64 0) := (blk_cell BK240.out 6).trans rfl; have hcz14_7 : w13.cell? ⟨gb240, 7, none⟩ = some (.int .i64 0) := (blk_cell BK240.out 7).trans rfl; have hcz14_8 : w13.cell? ⟨gb240, 8, none⟩ = some (.int .i64 0) := (blk_cell BK240.out 8).trans rfl; have hcz14_9 : w13.cell? ⟨gb240, 9, none⟩ = some (.slice none 0 0) := (blk_cell BK240.out 9).trans rfl; have hcz14_10 : w13.cell? ⟨gb240, 10, none⟩ = some (.slice none 0 0) := (blk_cell BK240.out 10).trans rfl; have hcz14_11 : w13.cell? ⟨gb240, 11, none⟩ = some (.slice none 0 0) := (blk_cell BK240.out 11).trans rfl; have hfz14_0 := blk_frozen BK240.out 0; have hfz14_1 := blk_frozen BK240.out 1; have hfz14_2 := blk_frozen BK240.out 2; have hfz14_3 := blk_frozen BK240.out 3; have hfz14_4 := blk_frozen BK240.out 4; have hfz14_5 := blk_frozen BK240.out 5; have hfz14_6 := blk_frozen BK240.out 6; have hfz14_7 := blk_frozen BK240.out 7; have hfz14_8 := blk_frozen BK240.out 8; have hfz14_9 := blk_frozen BK240.out 9; have hfz14_10 := blk_frozen BK240.out 10; have hfz14_11 := blk_frozen BK240.out 11))
                  go_ret
                  exact ⟨by first | rfl | (simp [errW_none, errW_some] <;> rfl) | (simp [*, errW_none, errW_some] <;> rfl), by repeat (first | (with_reducible first | exact HB.out | apply below_alloc | apply pw_below_drewN | apply below_drew1 | refine below_set ?_ GE240.out) | exact HB.out)⟩
                · rw [if_neg c12] at H
                  have c12b0 : decide (100 < (((rd_T71 l0 x9_1).f3.f4).length : Int)) = false := decide_eq_false c12
                  have c12b1 : decide (100 < ((rd_T71 l0 x9_1).f3.f4).length) = false := decide_eq_false (by omega)
                  clear c12
                  have H' := Aside0.mk H
                  clear H
                  have p239 : 0 ≤ (x9_1 : Int) := of_decide_eq_true (by first | (with_reducible assumption) | assumption)
                  have q239 : x9_1 < (l0.length : Int) := of_decide_eq_true (by first | (with_reducible assumption) | assumption)
                  obtain ⟨ad239, A239_9, c239_9, A239_10, c239_10, A239_11, c239_11, e239, hx239_0, hx239_1, hx239_2, hx239_3, hx239_4, hx239_5, hx239_6, hx239_7, hx239_8, hx239_9, hx239_10, hx239_11, hl239_9, hi239_9, hl239_10, hi239_10, hl239_11, hi239_11⟩ := at_T71 HR0.out x9_1 p239 q239
                  cases e239
                  replace hx239_0 := (HB.out.cell (World.block_lt_of_cell? w _ hx239_0)).trans hx239_0
                  replace hx239_1 := (HB.out.cell (World.block_lt_of_cell? w _ hx239_1)).trans hx239_1
                  replace hx239_2 := (HB.out.cell (World.block_lt_of_cell? w _ hx239_2)).trans hx239_2
                  replace hx239_3 := (HB.out.cell (World.block_lt_of_cell? w _ hx239_3)).trans hx239_3
                  replace hx239_4 := (HB.out.cell (World.block_lt_of_cell? w _ hx239_4)).trans hx239_4
                  replace hx239_5 := (HB.out.cell (World.block_lt_of_cell? w _ hx239_5)).trans hx239_5
                  replace hx239_6 := (HB.out.cell (World.block_lt_of_cell? w _ hx239_6)).trans hx239_6
                  replace hx239_7 := (HB.out.cell (World.block_lt_of_cell? w _ hx239_7)).trans hx239_7
                  replace hx239_8 := (HB.out.cell (World.block_lt_of_cell? w _ hx239_8)).trans hx239_8
                  replace hx239_9 := (HB.out.cell (World.block_lt_of_cell? w _ hx239_9)).trans hx239_9
                  replace hx239_10 := (HB.out.cell (World.block_lt_of_cell? w _ hx239_10)).trans hx239_10
                  replace hx239_11 := (HB.out.cell (World.block_lt_of_cell? w _ hx239_11)).trans hx239_11
                  have HR239_9 := Aside0.mk hi239_9
                  have HC239_9 := Aside0.mk hl239_9
                  clear hi239_9 hl239_9
                  have HR239_10 := Aside0.mk hi239_10
                  have HC239_10 := Aside0.mk hl239_10
                  clear hi239_10 hl239_10
                  have HR239_11 := Aside0.mk hi239_11
                  have HC239_11 := Aside0.mk hl239_11
                  clear hi239_11 hl239_11
                  replace p239 := eq_true p239
                  replace q239 := eq_true q239
                  go_wp2_with (first | ((with_reducible refine gate_dst (N := 6) rfl ?_); (try (refine gate_guard (by rfl) ?_; dsimp only)); refine box_event ?hg (N := 6) ?hd (cs := #[.int .i64 0, .bool false, .int .i64 0, .int .i64 0, .int .i64 0, .int .i64 0, .int .i64 0, .int .i64 0, .int .i64 0, .slice none 0 0, .slice none 0 0, .slice none 0 0]) (t := 71) ?hr ?_; (case hd => rfl); (case hg => rfl); (case hr => first | (go_simp; done) | (go_simp; rfl)); intro gb240 hg w15 hbox hb; have n0_ := Aside0.mk (below_step (by repeat (first | (with_reducible first | exact HB.out | apply below_alloc | apply pw_below_drewN | apply below_drew1) | exact HB.out)) hb); have n1_ := Aside0.mk (hbox); have n2_ := Aside0.mk ((by rw [hg]; exact (below_size (by repeat (first | (with_reducible first | exact HB.out | apply below_alloc | apply pw_below_drewN | apply below_drew1) | exact HB.out))) : w.heap.size ≤ gb240)); have n3_ := Aside0.mk ((by rw [hg]; exact (below_size (by repeat (first | (with_reducible first | exact HB.out | apply below_alloc | apply pw_below_drewN | apply below_drew1) | exact HB.out))) : w.heap.size ≤ gb240)); clear HB; have HB := n0_; have BK240 := n1_; have GW240 := n2_; have GE240 := n3_; clear n0_ n1_ n2_ n3_; clear hb hbox hg; have hcz16_0 : w15.cell? ⟨gb240, 0, none⟩ = some (.int .i64 0) := (blk_cell BK240.out 0).trans rfl; have hcz16_1 : w15.cell? ⟨gb240, 1, none⟩ = some (.bool false) := (blk_cell BK240.out 1).trans rfl; have hcz16_2 : w15.cell? ⟨gb240, 2, none⟩ = some (.int .i64 0) := (blk_cell BK240.out 2).trans rfl; have hcz16_3 : w15.cell? ⟨gb240, 3, none⟩ = some (.int .i64 0) := (blk_cell BK240.out 3).trans rfl; have hcz16_4 : w15.cell? ⟨gb240, 4, none⟩ = some (.int .i64 0) := (blk_cell BK240.out 4).trans rfl; have hcz16_5 : w15.cell? ⟨gb240, 5, none⟩ = some (.int .i64 0) := (blk_cell BK240.out 5).trans rfl; have hcz16_6 : w15.cell? ⟨gb240, 6, none⟩ = some (.int .i64 0) := (blk_cell BK240.out 6).trans rfl; have hcz16_7 : w15.cell? ⟨gb240, 7, none⟩ = some (.int .i64 0) := (blk_cell BK240.out 7).trans rfl; have hcz16_8 : w15.cell? ⟨gb240, 8, none⟩ = some (.int .i64 0) := (blk_cell BK240.out 8).trans rfl; have hcz16_9 : w15.cell? ⟨gb240, 9, none⟩ = some (.slice none 0 0) := (blk_cell BK240.out 9).trans rfl; have hcz16_10 : w15.cell? ⟨gb240, 10, none⟩ = some (.slice none 0 0) := (blk_cell BK240.out 10).trans rfl; have hcz16_11 : w15.cell? ⟨gb240, 11, none⟩ = some (.slice none 0 0) := (blk_cell BK240.out 11).trans rfl; have hfz16_0 := blk_frozen BK240.out 0; have hfz16_1 := blk_frozen BK240.out 1; have hfz16_2 := blk_frozen BK240.out 2; have hfz16_3 := blk_frozen BK240.out 3; have hfz16_4 := blk_frozen BK240.out 4; have hfz16_5 := blk_frozen BK240.out 5; have hfz16_6 := blk_frozen BK240.out 6; have hfz16_7 := blk_frozen BK240.out 7; have hfz16_8 := blk_frozen BK240.out 8; have hfz16_9 := blk_frozen BK240.out 9; have hfz16_10 := blk_frozen BK240.out 10; have hfz16_11 := blk_frozen BK240.out 11))
                  go_roundg k1
                  case measure => have := HK1.out; omega
                  case rel => exact ⟨(wrap64 (x9_1 + 1)), (by first | rfl | (simp; done) | (simp [*]; done)), H', ⟨by have := HK1.out; omega⟩, ⟨by repeat (first | (with_reducible first | exact HB.out | apply below_alloc | apply pw_below_drewN | apply below_drew1 | refine below_set ?_ GE240.out) | exact HB.out)⟩⟩
          · rw [if_neg c5] at H
            exact absurd H (by simp)
        · rw [if_neg c4] at H
          exact absurd H (by simp)
      · rw [if_neg c3] at H
        have c3b0 : decide (x9_1 < (l0.length : Int)) = false := decide_eq_false c3
        clear c3
        obtain rfl := Option.some.inj H
        go_wp2
        go_ret
        exact ⟨by first | rfl | (simp [errW_none, errW_some] <;> rfl) | (simp [*, errW_none, errW_some] <;> rfl), by repeat (first | (with_reducible first | exact HB.out | apply below_alloc | apply pw_below_drewN | apply below_drew1) | exact HB.out)⟩

end Go.Proofs.Ytifogeaamdiciaa.PReu
