-- Printed by wip/tools/myprint.py of this repo, over the kit's printer
import Derived.Test.YtifogeaamdiciaaPReux0
namespace Go.Proofs.Ytifogeaamdiciaa.PReu
open Go.RowKit Go.Proofs.YtifogeaamdiciaaW.PrintWords Go.Proofs.YtifogeaamdiciaaW.PrintLast Go.Proofs.YtifogeaamdiciaaW.PrintMore
attribute [local go_sem] max2_int min2_int max_two min_two max_three min_three max_four min_four max_five min_five   -- for this text's walks alone
set_option linter.unusedVariables false
set_option linter.unusedSimpArgs false

/-! ### tendrilref23_Given: function 37 -/
def tendrilref23_Given.l0 : Nat → Int → List Int → List (S71) → Int → Int → Option (List Int)
  | 0, _, _, _, _, _ => none
  | k + 1, x1, x5, x8, x9, x10 => if x10 < x9 then (if 0 ≤ x10 then (if x10 < (x8.length : Int) then (if (rd_T71 x8 x10).f1 = true then (if ((rd_T71 x8 x10).f2.f0) = x1 then (if ((rd_T71 x8 x10).f3.f0) = 0 then (if x5.length < 17592186044416 then (tendrilref23_Given.l0 k x1 (x5 ++ [(rd_T71 x8 x10).f3.f1]) x8 x9 (wrap64 (x10 + 1))) else (none)) else (tendrilref23_Given.l0 k x1 x5 x8 x9 (wrap64 (x10 + 1)))) else (tendrilref23_Given.l0 k x1 x5 x8 x9 (wrap64 (x10 + 1)))) else (tendrilref23_Given.l0 k x1 x5 x8 x9 (wrap64 (x10 + 1)))) else (none)) else (none)) else (some x5)
def tendrilref23_Given.f (k : Nat) (l0 : List (S71)) (a1 : Int) : Option (List Int) := tendrilref23_Given.l0 k a1 ([] : List Int) l0 (l0.length : Int) 0
theorem tendrilref23_Given.mono_l : ∀ k, (∀ y0 y1 y2 y3 y4, LeO (tendrilref23_Given.l0 k y0 y1 y2 y3 y4) (tendrilref23_Given.l0 (k + 1) y0 y1 y2 y3 y4))
  | 0 => fun _ _ _ _ _ r h => by simp [tendrilref23_Given.l0] at h
  | k + 1 => by
    have ih0 := tendrilref23_Given.mono_l k
    · intro y0 y1 y2 y3 y4
      unfold tendrilref23_Given.l0
      repeat' first
      | (with_reducible exact ih0 _ _ _ _ _)
      | (with_reducible exact LeO.refl _)
      | (with_reducible exact LeO.none _)
      | (with_reducible refine LeO.ite ?_ ?_)
      | (with_reducible refine LeO.bind ?_ (fun _ => ?_))
      | exact ih0 _ _ _ _ _
      | exact LeO.none _
      | refine LeO.ite ?_ ?_
      | refine LeO.bind ?_ (fun _ => ?_)
theorem tendrilref23_Given.mono : ∀ a0 a1 k, LeO (tendrilref23_Given.f k a0 a1) (tendrilref23_Given.f (k + 1) a0 a1) := by
  intro a0 a1 k
  have ih0 := tendrilref23_Given.mono_l k
  unfold tendrilref23_Given.f
  repeat' first
      | (with_reducible exact ih0 _ _ _ _ _)
      | (with_reducible exact LeO.refl _)
      | (with_reducible exact LeO.none _)
      | (with_reducible refine LeO.ite ?_ ?_)
      | (with_reducible refine LeO.bind ?_ (fun _ => ?_))
      | exact ih0 _ _ _ _ _
      | exact LeO.none _
      | refine LeO.ite ?_ ?_
      | refine LeO.bind ?_ (fun _ => ?_)
set_option maxHeartbeats 8000000 in
set_option maxRecDepth 100000 in
theorem tendrilref23_Given.calls (k : Nat) (A0 : Option Addr) (c0 : Nat) (l0 : List (S71)) (a1 : Int) (r : List Int) (w : World) (hr0 : Kd.C k71 w A0 l0.length l0) (hc0 : l0.length ≤ c0) (h : tendrilref23_Given.f k l0 a1 = some r) :
    Calls Try.prog 37 #[.slice A0 l0.length c0, .int .i64 a1] w fun e w' => ∃ v0_ : Value, e = .returned (v0_) ∧ Kd.R (Kd.int .i64) 3 w' w.heap.size (fun _ => True) v0_ r ∧ Below w.heap.size w w' := by
  have hu71 := Try.underlying71
  have HR0 := Aside0.mk hr0
  have HC0 := Aside0.mk hc0
  clear hr0 hc0
  have HB := Aside0.mk (Below.refl w.heap.size w)
  have H : (tendrilref23_Given.l0 k a1 ([] : List Int) l0 (l0.length : Int) 0) = some r := h
  clear h
  have H' := Aside0.mk H
  clear H
  go_enter Try.func37, Try.ntmps37
  go_wp2
  go_loopg [5, 10] k (fun kq v5 v10 w' => ∃ (x5_1 : List Int) (x10_1 : Int), v10 = .int .i64 x10_1 ∧ Aside0 (tendrilref23_Given.l0 kq a1 x5_1 l0 (l0.length : Int) x10_1 = some r) ∧ Aside0 (kq ≤ k) ∧ Aside0 (Kd.R (Kd.int .i64) 3 w' w.heap.size (fun _ => True) v5 x5_1) ∧ Aside0 (Below w.heap.size w w'))
  case atStart => exact ⟨(([] : List Int)), (0), (by first | rfl | (simp; done) | (simp [*]; done)), H', ⟨Nat.le_refl _⟩, ⟨by first | exact Kd.R_nil _ _ _ _ _ | exact Kd.N_nil _ _ _ _ _ | exact Kd.V_nil _ _ _ _ _ | exact Kd.Q_nil _ _ _ _ _ | exact Kd.S_nil _ _ _ _ _⟩, ⟨by repeat (first | (with_reducible first | exact HB.out | apply below_alloc | apply pw_below_drewN | apply below_drew1) | exact HB.out)⟩⟩
  case round =>
    clear H'
    try clear p2
    obtain ⟨x5_1, x10_1, rfl, HA, HK1, HO_5, HB⟩ := hrel
    cases gk with
    | zero => exact absurd HA.out (by simp [tendrilref23_Given.l0])
    | succ k1 =>
      have H := HA.out
      clear HA
      simp only [tendrilref23_Given.l0] at H
      by_cases c3 : x10_1 < (l0.length : Int)
      · rw [if_pos c3] at H
        have c3b0 : decide (x10_1 < (l0.length : Int)) = true := decide_eq_true c3
        clear c3
        by_cases c4 : 0 ≤ x10_1
        · rw [if_pos c4] at H
          have c4b0 : decide (0 ≤ x10_1) = true := decide_eq_true c4
          clear c4
          by_cases c5 : x10_1 < (l0.length : Int)
          · rw [if_pos c5] at H
            have c5b0 : decide (x10_1 < (l0.length : Int)) = true := decide_eq_true c5
            clear c5
            obtain ⟨bq6, hbq6⟩ : ∃ b_ : Bool, b_ = ((rd_T71 l0 x10_1).f1) := ⟨_, rfl⟩
            replace H : (if bq6 = true then (if ((rd_T71 l0 x10_1).f2.f0) = a1 then (if ((rd_T71 l0 x10_1).f3.f0) = 0 then (if x5_1.length < 17592186044416 then (tendrilref23_Given.l0 k1 a1 (x5_1 ++ [(rd_T71 l0 x10_1).f3.f1]) l0 (l0.length : Int) (wrap64 (x10_1 + 1))) else (none)) else (tendrilref23_Given.l0 k1 a1 x5_1 l0 (l0.length : Int) (wrap64 (x10_1 + 1)))) else (tendrilref23_Given.l0 k1 a1 x5_1 l0 (l0.length : Int) (wrap64 (x10_1 + 1)))) else (tendrilref23_Given.l0 k1 a1 x5_1 l0 (l0.length : Int) (wrap64 (x10_1 + 1)))) = some r := by rw [← hbq6] at H; exact H
            have Nbq6 := Aside0.mk hbq6
            clear hbq6
            by_cases c7 : bq6 = true
            · subst c7
              have H1 : (if ((rd_T71 l0 x10_1).f2.f0) = a1 then (if ((rd_T71 l0 x10_1).f3.f0) = 0 then (if x5_1.length < 17592186044416 then (tendrilref23_Given.l0 k1 a1 (x5_1 ++ [(rd_T71 l0 x10_1).f3.f1]) l0 (l0.length : Int) (wrap64 (x10_1 + 1))) else (none)) else (tendrilref23_Given.l0 k1 a1 x5_1 l0 (l0.length : Int) (wrap64 (x10_1 + 1)))) else (tendrilref23_Given.l0 k1 a1 x5_1 l0 (l0.length : Int) (wrap64 (x10_1 + 1)))) = some r := by rw [if_pos rfl] at H; exact H
              clear H
              have H := H1
              clear H1
              by_cases c8 : ((rd_T71 l0 x10_1).f2.f0) = a1
              · rw [if_pos c8] at H
                have c8b0 : (((rd_T71 l0 x10_1).f2.f0) == a1) = true := beq_iff_eq.mpr c8
                have c8b1 : (((rd_T71 l0 x10_1).f2.f0) != a1) = false := bne_eq_false_iff_eq.mpr c8
                clear c8
                by_cases c9 : ((rd_T71 l0 x10_1).f3.f0) = 0
                · rw [if_pos c9] at H
                  have c9b0 : (((rd_T71 l0 x10_1).f3.f0) == 0) = true := beq_iff_eq.mpr c9
                  have c9b1 : (((rd_T71 l0 x10_1).f3.f0) != 0) = false := bne_eq_false_iff_eq.mpr c9
                  clear c9
                  by_cases c10 : x5_1.length < 17592186044416
                  · rw [if_pos c10] at H
                    have LMc10 := Aside0.mk c10
                    clear c10
                    obtain ⟨y248, hy248⟩ : ∃ y_ : List Int, y_ = (x5_1 ++ [(rd_T71 l0 x10_1).f3.f1]) := ⟨_, rfl⟩
                    replace H : (tendrilref23_Given.l0 k1 a1 y248 l0 (l0.length : Int) (wrap64 (x10_1 + 1))) = some r := by first | (rw [hy248]; with_reducible exact H) | (have H2_ := (Option.bind_some _ _).symm.trans H; rw [hy248]; with_reducible exact H2_) | (have H2_ := (Option.bind_some _ _).symm.trans H; with_reducible exact H2_) | with_reducible exact H | (rw [hy248]; exact H) | exact H
                    have Ny248 := Aside0.mk hy248
                    clear hy248
                    have H' := Aside0.mk H
                    clear H
                    have p246 : 0 ≤ (x10_1 : Int) := of_decide_eq_true (by first | (with_reducible assumption) | assumption)
                    have q246 : x10_1 < (l0.length : Int) := of_decide_eq_true (by first | (with_reducible assumption) | assumption)
                    obtain ⟨ad246, A246_9, c246_9, A246_10, c246_10, A246_11, c246_11, e246, hx246_0, hx246_1, hx246_2, hx246_3, hx246_4, hx246_5, hx246_6, hx246_7, hx246_8, hx246_9, hx246_10, hx246_11, hl246_9, hi246_9, hl246_10, hi246_10, hl246_11, hi246_11⟩ := at_T71 HR0.out x10_1 p246 q246
                    (try rw [← Nbq6.out] at hx246_1)
                    cases e246
                    replace hx246_0 := (HB.out.cell (World.block_lt_of_cell? w _ hx246_0)).trans hx246_0
                    replace hx246_1 := (HB.out.cell (World.block_lt_of_cell? w _ hx246_1)).trans hx246_1
                    replace hx246_2 := (HB.out.cell (World.block_lt_of_cell? w _ hx246_2)).trans hx246_2
                    replace hx246_3 := (HB.out.cell (World.block_lt_of_cell? w _ hx246_3)).trans hx246_3
                    replace hx246_4 := (HB.out.cell (World.block_lt_of_cell? w _ hx246_4)).trans hx246_4
                    replace hx246_5 := (HB.out.cell (World.block_lt_of_cell? w _ hx246_5)).trans hx246_5
                    replace hx246_6 := (HB.out.cell (World.block_lt_of_cell? w _ hx246_6)).trans hx246_6
                    replace hx246_7 := (HB.out.cell (World.block_lt_of_cell? w _ hx246_7)).trans hx246_7
                    replace hx246_8 := (HB.out.cell (World.block_lt_of_cell? w _ hx246_8)).trans hx246_8
                    replace hx246_9 := (HB.out.cell (World.block_lt_of_cell? w _ hx246_9)).trans hx246_9
                    replace hx246_10 := (HB.out.cell (World.block_lt_of_cell? w _ hx246_10)).trans hx246_10
                    replace hx246_11 := (HB.out.cell (World.block_lt_of_cell? w _ hx246_11)).trans hx246_11
                    have HR246_9 := Aside0.mk hi246_9
                    have HC246_9 := Aside0.mk hl246_9
                    clear hi246_9 hl246_9
                    have HR246_10 := Aside0.mk hi246_10
                    have HC246_10 := Aside0.mk hl246_10
                    clear hi246_10 hl246_10
                    have HR246_11 := Aside0.mk hi246_11
                    have HC246_11 := Aside0.mk hl246_11
                    clear hi246_11 hl246_11
                    replace p246 := eq_true p246
                    replace q246 := eq_true q246
                    go_wp2_with (first | ((with_reducible refine gate_dst (N := 7) rfl ?_); refine box_event ?hg (N := 7) ?hd (cs := #[.int .i64 0, .bool false, .int .i64 0, .int .i64 0, .int .i64 0, .int .i64 0, .int .i64 0, .int .i64 0, .int .i64 0, .slice none 0 0, .slice none 0 0, .slice none 0 0]) (t := 71) ?hr ?_; (case hd => rfl); (case hg => rfl); (case hr => first | (go_simp; done) | (go_simp; rfl)); intro gb247 hg w11 hbox hb; have n0_ := Aside0.mk (Kd.R_below (by (with_reducible repeat (first | apply Kd.R_alloc | apply Kd.R_drewN | apply Kd.R_drew)); exact HO_5.out) hb); have n1_ := Aside0.mk (below_step (by repeat (first | (with_reducible first | exact HB.out | apply below_alloc | apply pw_below_drewN | apply below_drew1) | exact HB.out)) hb); have n2_ := Aside0.mk (hbox); have n3_ := Aside0.mk ((by rw [hg]; exact (below_size (by repeat (first | (with_reducible first | exact HB.out | apply below_alloc | apply pw_below_drewN | apply below_drew1) | exact HB.out))) : w.heap.size ≤ gb247)); have n4_ := Aside0.mk ((by rw [hg]; exact (below_size (by repeat (first | (with_reducible first | exact HB.out | apply below_alloc | apply pw_below_drewN | apply below_drew1) | exact HB.out))) : w.heap.size ≤ gb247)); clear HO_5; clear HB; have HO_5 := n0_; have HB := n1_; have BK247 := n2_; have GW247 := n3_; have GE247 := n4_; clear n0_ n1_ n2_ n3_ n4_; clear hb hbox hg; have hcz12_0 : w11.cell? ⟨gb247, 0, none⟩ = some (.int .i64 0) := (blk_cell BK247.out 0).trans rfl; have hcz12_1 : w11.cell? ⟨gb247, 1, none⟩ = some (.bool false) := (blk_cell BK247.out 1).trans rfl; have hcz12_2 : w11.cell? ⟨gb247, 2, none⟩ = some (.int .i64 0) := (blk_cell BK247.out 2).trans rfl; have hcz12_3 : w11.cell? ⟨gb247, 3, none⟩ = some (.int .i64 0) := (blk_cell BK247.out 3).trans rfl; have hcz12_4 : w11.cell? ⟨gb247, 4, none⟩ = some (.int .i64 0) := (blk_cell BK247.out 4).trans rfl; have hcz12_5 : w11.cell? ⟨gb247, 5, none⟩ = some (.int .i64 0) := (blk_cell BK247.out 5).trans rfl; have hcz12_6 : w11.cell? ⟨gb247, 6, none⟩ = some (.int .i64 0) := (blk_cell BK247.out 6).trans rfl; have hcz12_7 : w11.cell? ⟨gb247, 7, none⟩ = some (.int .i64 0) := (blk_cell BK247.out 7).trans rfl; have hcz12_8 : w11.cell? ⟨gb247, 8, none⟩ = some (.int .i64 0) := (blk_cell BK247.out 8).trans rfl; have hcz12_9 : w11.cell? ⟨gb247, 9, none⟩ = some (.slice none 0 0) := (blk_cell BK247.out 9).trans rfl; have hcz12_10 : w11.cell? ⟨gb247, 10, none⟩ = some (.slice none 0 0) := (blk_cell BK247.out 10).trans rfl; have hcz12_11 : w11.cell? ⟨gb247, 11, none⟩ = some (.slice none 0 0) := (blk_cell BK247.out 11).trans rfl; have hfz12_0 := blk_frozen BK247.out 0; have hfz12_1 := blk_frozen BK247.out 1; have hfz12_2 := blk_frozen BK247.out 2; have hfz12_3 := blk_frozen BK247.out 3; have hfz12_4 := blk_frozen BK247.out 4; have hfz12_5 := blk_frozen BK247.out 5; have hfz12_6 := blk_frozen BK247.out 6; have hfz12_7 := blk_frozen BK247.out 7; have hfz12_8 := blk_frozen BK247.out 8; have hfz12_9 := blk_frozen BK247.out 9; have hfz12_10 := blk_frozen BK247.out 10; have hfz12_11 := blk_frozen BK247.out 11) | ((with_reducible refine gate_builtin (b := .append) (xs := #[.tmp 29, .tmp 33]) rfl ?_); at_builtin; refine Kd.R_append (Kd.int .i64) (w0 := w) w.heap.size rfl (.tmp 29) (.tmp 33) 22 3 (.int .i64 0) 8 rfl Try.underlying22 info3 rfl (by decide) (by omega) u5 x5_1 ((rd_T71 l0 x10_1).f3.f1) [.int .i64 ((rd_T71 l0 x10_1).f3.f1)] (fun _ => True) (fun _ => False) rfl (by first | (go_simp; done) | (go_simp; rfl)) ?aP (fun _ hk => hk.elim) ?aF ?aO ?aB ?aS ?aL ?_; (case aP => exact rfl); (case aB => exact (by repeat (first | (with_reducible first | exact HB.out | apply below_alloc | apply pw_below_drewN | apply below_drew1 | refine below_set ?_ GE247.out) | exact HB.out))); (case aF => exact (fun _ _ => trivial)); (case aO => exact (by (with_reducible repeat (first | apply Kd.R_alloc | apply Kd.R_drewN | apply Kd.R_drew)); exact Kd.R_mono (Kd.R_far (p := ⟨gb247, 11, none⟩) (Kd.R_far (p := ⟨gb247, 10, none⟩) (Kd.R_far (p := ⟨gb247, 9, none⟩) (Kd.R_far (p := ⟨gb247, 8, none⟩) (Kd.R_far (p := ⟨gb247, 7, none⟩) (Kd.R_far (p := ⟨gb247, 6, none⟩) (Kd.R_far (p := ⟨gb247, 5, none⟩) (Kd.R_far (p := ⟨gb247, 4, none⟩) (Kd.R_far (p := ⟨gb247, 3, none⟩) (Kd.R_far (p := ⟨gb247, 2, none⟩) (Kd.R_far (p := ⟨gb247, 1, none⟩) (Kd.R_far (p := ⟨gb247, 0, none⟩) (Kd.R_types HO_5.out BK247.out (by decide)) (fun _ hk => hk.2) (.int .i64 ((rd_T71 l0 x10_1).f0))) (fun _ hk => hk.2) (.bool true)) (fun _ hk => hk.2) (.int .i64 ((rd_T71 l0 x10_1).f2.f0))) (fun _ hk => hk.2) (.int .i64 ((rd_T71 l0 x10_1).f2.f1))) (fun _ hk => hk.2) (.int .i64 ((rd_T71 l0 x10_1).f2.f2))) (fun _ hk => hk.2) (.int .i64 ((rd_T71 l0 x10_1).f2.f3))) (fun _ hk => hk.2) (.int .i64 ((rd_T71 l0 x10_1).f2.f4))) (fun _ hk => hk.2) (.int .i64 ((rd_T71 l0 x10_1).f3.f0))) (fun _ hk => hk.2) (.int .i64 ((rd_T71 l0 x10_1).f3.f1))) (fun _ hk => hk.2) (.slice A246_9 ((rd_T71 l0 x10_1).f3.f2).length c246_9)) (fun _ hk => hk.2) (.slice A246_10 ((rd_T71 l0 x10_1).f3.f3).length c246_10)) (fun _ hk => hk.2) (.slice A246_11 ((rd_T71 l0 x10_1).f3.f4).length c246_11)) (fun _ hk => trivial))); (case aS => exact (below_size (by repeat (first | (with_reducible first | exact HB.out | apply below_alloc | apply pw_below_drewN | apply below_drew1 | refine below_set ?_ GE247.out) | exact HB.out)))); (case aL => have := LMc10.out; omega); intro v249 w13 ho hb hg hat; rw [← Ny248.out] at ho; have n0_ := Aside0.mk (blk_grown (g := gb247) (o := .cells #[.int .i64 ((rd_T71 l0 x10_1).f0), .bool true, .int .i64 ((rd_T71 l0 x10_1).f2.f0), .int .i64 ((rd_T71 l0 x10_1).f2.f1), .int .i64 ((rd_T71 l0 x10_1).f2.f2), .int .i64 ((rd_T71 l0 x10_1).f2.f3), .int .i64 ((rd_T71 l0 x10_1).f2.f4), .int .i64 ((rd_T71 l0 x10_1).f3.f0), .int .i64 ((rd_T71 l0 x10_1).f3.f1), .slice A246_9 ((rd_T71 l0 x10_1).f3.f2).length c246_9, .slice A246_10 ((rd_T71 l0 x10_1).f3.f3).length c246_10, .slice A246_11 ((rd_T71 l0 x10_1).f3.f4).length c246_11] 71 (0, 0)) (by (with_reducible repeat (first | refine blk_drewN ?_ _ | refine blk_drew ?_ | refine blk_alloc ?_ _)); refine blk_put (cs := #[.int .i64 ((rd_T71 l0 x10_1).f0), .bool true, .int .i64 ((rd_T71 l0 x10_1).f2.f0), .int .i64 ((rd_T71 l0 x10_1).f2.f1), .int .i64 ((rd_T71 l0 x10_1).f2.f2), .int .i64 ((rd_T71 l0 x10_1).f2.f3), .int .i64 ((rd_T71 l0 x10_1).f2.f4), .int .i64 ((rd_T71 l0 x10_1).f3.f0), .int .i64 ((rd_T71 l0 x10_1).f3.f1), .slice A246_9 ((rd_T71 l0 x10_1).f3.f2).length c246_9, .slice A246_10 ((rd_T71 l0 x10_1).f3.f3).length c246_10, .slice none 0 0]) ?_ 11 _ rfl; (with_reducible repeat (first | refine blk_drewN ?_ _ | refine blk_drew ?_ | refine blk_alloc ?_ _)); refine blk_put (cs := #[.int .i64 ((rd_T71 l0 x10_1).f0), .bool true, .int .i64 ((rd_T71 l0 x10_1).f2.f0), .int .i64 ((rd_T71 l0 x10_1).f2.f1), .int .i64 ((rd_T71 l0 x10_1).f2.f2), .int .i64 ((rd_T71 l0 x10_1).f2.f3), .int .i64 ((rd_T71 l0 x10_1).f2.f4), .int .i64 ((rd_T71 l0 x10_1).f3.f0), .int .i64 ((rd_T71 l0 x10_1).f3.f1), .slice A246_9 ((rd_T71 l0 x10_1).f3.f2).length c246_9, .slice none 0 0, .slice none 0 0]) ?_ 10 _ rfl; (with_reducible repeat (first | refine blk_drewN ?_ _ | refine blk_drew ?_ | refine blk_alloc ?_ _)); refine blk_put (cs := #[.int .i64 ((rd_T71 l0 x10_1).f0), .bool true, .int .i64 ((rd_T71 l0 x10_1).f2.f0), .int .i64 ((rd_T71 l0 x10_1).f2.f1), .int .i64 ((rd_T71 l0 x10_1).f2.f2), .int .i64 ((rd_T71 l0 x10_1).f2.f3), .int .i64 ((rd_T71 l0 x10_1).f2.f4), .int .i64 ((rd_T71 l0 x10_1).f3.f0), .int .i64 ((rd_T71 l0 x10_1).f3.f1), .slice none 0 0, .slice none 0 0, .slice none 0 0]) ?_ 9 _ rfl; (with_reducible repeat (first | refine blk_drewN ?_ _ | refine blk_drew ?_ | refine blk_alloc ?_ _)); refine blk_put (cs := #[.int .i64 ((rd_T71 l0 x10_1).f0), .bool true, .int .i64 ((rd_T71 l0 x10_1).f2.f0), .int .i64 ((rd_T71 l0 x10_1).f2.f1), .int .i64 ((rd_T71 l0 x10_1).f2.f2), .int .i64 ((rd_T71 l0 x10_1).f2.f3), .int .i64 ((rd_T71 l0 x10_1).f2.f4), .int .i64 ((rd_T71 l0 x10_1).f3.f0), .int .i64 0, .slice none 0 0, .slice none 0 0, .slice none 0 0]) ?_ 8 _ rfl; (with_reducible repeat (first | refine blk_drewN ?_ _ | refine blk_drew ?_ | refine blk_alloc ?_ _)); refine blk_put (cs := #[.int .i64 ((rd_T71 l0 x10_1).f0), .bool true, .int .i64 ((rd_T71 l0 x10_1).f2.f0), .int .i64 ((rd_T71 l0 x10_1).f2.f1), .int .i64 ((rd_T71 l0 x10_1).f2.f2), .int .i64 ((rd_T71 l0 x10_1).f2.f3), .int .i64 ((rd_T71 l0 x10_1).f2.f4), .int .i64 0, .int .i64 0, .slice none 0 0, .slice none 0 0, .slice none 0 0]) ?_ 7 _ rfl; (with_reducible repeat (first | refine blk_drewN ?_ _ | refine blk_drew ?_ | refine blk_alloc ?_ _)); refine blk_put (cs := #[.int .i64 ((rd_T71 l0 x10_1).f0), .bool true, .int .i64 ((rd_T71 l0 x10_1).f2.f0), .int .i64 ((rd_T71 l0 x10_1).f2.f1), .int .i64 ((rd_T71 l0 x10_1).f2.f2), .int .i64 ((rd_T71 l0 x10_1).f2.f3), .int .i64 0, .int .i64 0, .int .i64 0, .slice none 0 0, .slice none 0 0, .slice none 0 0]) ?_ 6 _ rfl; (with_reducible repeat (first | refine blk_drewN ?_ _ | refine blk_drew ?_ | refine blk_alloc ?_ _)); refine blk_put (cs := #[.int .i64 ((rd_T71 l0 x10_1).f0), .bool true, .int .i64 ((rd_T71 l0 x10_1).f2.f0), .int .i64 ((rd_T71 l0 x10_1).f2.f1), .int .i64 ((rd_T71 l0 x10_1).f2.f2), .int .i64 0, .int .i64 0, .int .i64 0, .int .i64 0, .slice none 0 0, .slice none 0 0, .slice none 0 0]) ?_ 5 _ rfl; (with_reducible repeat (first | refine blk_drewN ?_ _ | refine blk_drew ?_ | refine blk_alloc ?_ _)); refine blk_put (cs := #[.int .i64 ((rd_T71 l0 x10_1).f0), .bool true, .int .i64 ((rd_T71 l0 x10_1).f2.f0), .int .i64 ((rd_T71 l0 x10_1).f2.f1), .int .i64 0, .int .i64 0, .int .i64 0, .int .i64 0, .int .i64 0, .slice none 0 0, .slice none 0 0, .slice none 0 0]) ?_ 4 _ rfl; (with_reducible repeat (first | refine blk_drewN ?_ _ | refine blk_drew ?_ | refine blk_alloc ?_ _)); refine blk_put (cs := #[.int .i64 ((rd_T71 l0 x10_1).f0), .bool true, .int .i64 ((rd_T71 l0 x10_1).f2.f0), .int .i64 0, .int .i64 0, .int .i64 0, .int .i64 0, .int .i64 0, .int .i64 0, .slice none 0 0, .slice none 0 0, .slice none 0 0]) ?_ 3 _ rfl; (with_reducible repeat (first | refine blk_drewN ?_ _ | refine blk_drew ?_ | refine blk_alloc ?_ _)); refine blk_put (cs := #[.int .i64 ((rd_T71 l0 x10_1).f0), .bool true, .int .i64 0, .int .i64 0, .int .i64 0, .int .i64 0, .int .i64 0, .int .i64 0, .int .i64 0, .slice none 0 0, .slice none 0 0, .slice none 0 0]) ?_ 2 _ rfl; (with_reducible repeat (first | refine blk_drewN ?_ _ | refine blk_drew ?_ | refine blk_alloc ?_ _)); refine blk_put (cs := #[.int .i64 ((rd_T71 l0 x10_1).f0), .bool false, .int .i64 0, .int .i64 0, .int .i64 0, .int .i64 0, .int .i64 0, .int .i64 0, .int .i64 0, .slice none 0 0, .slice none 0 0, .slice none 0 0]) ?_ 1 _ rfl; (with_reducible repeat (first | refine blk_drewN ?_ _ | refine blk_drew ?_ | refine blk_alloc ?_ _)); refine blk_put (cs := #[.int .i64 0, .bool false, .int .i64 0, .int .i64 0, .int .i64 0, .int .i64 0, .int .i64 0, .int .i64 0, .int .i64 0, .slice none 0 0, .slice none 0 0, .slice none 0 0]) ?_ 0 _ rfl; (with_reducible repeat (first | refine blk_drewN ?_ _ | refine blk_drew ?_ | refine blk_alloc ?_ _)); exact BK247.out) hg (Kd.R_ne HO_5.out BK247.out (by decide))); have n1_ := Aside0.mk (hb); have n2_ := Aside0.mk (ho); clear BK247; clear HB; clear HO_5; have BK247 := n0_; have HB := n1_; have HO250 := n2_; clear n0_ n1_ n2_; clear ho hb hg hat))
                    go_roundg k1
                    case measure => have := HK1.out; omega
                    case rel => exact ⟨(y248), (wrap64 (x10_1 + 1)), (by first | rfl | (simp; done) | (simp [*]; done)), H', ⟨by have := HK1.out; omega⟩, ⟨by (with_reducible repeat (first | apply Kd.R_alloc | apply Kd.R_drewN | apply Kd.R_drew)); exact HO250.out⟩, ⟨by repeat (first | (with_reducible first | exact HB.out | apply below_alloc | apply pw_below_drewN | apply below_drew1 | refine below_set ?_ GE247.out) | exact HB.out)⟩⟩
                  · rw [if_neg c10] at H
                    exact absurd H (by simp)
                · rw [if_neg c9] at H
                  have c9b0 : (((rd_T71 l0 x10_1).f3.f0) == 0) = false := beq_eq_false_iff_ne.mpr c9
                  have c9b1 : (((rd_T71 l0 x10_1).f3.f0) != 0) = true := bne_iff_ne.mpr c9
                  have H' := Aside0.mk H
                  clear H
                  have p246 : 0 ≤ (x10_1 : Int) := of_decide_eq_true (by first | (with_reducible assumption) | assumption)
                  have q246 : x10_1 < (l0.length : Int) := of_decide_eq_true (by first | (with_reducible assumption) | assumption)
                  obtain ⟨ad246, A246_9, c246_9, A246_10, c246_10, A246_11, c246_11, e246, hx246_0, hx246_1, hx246_2, hx246_3, hx246_4, hx246_5, hx246_6, hx246_7, hx246_8, hx246_9, hx246_10, hx246_11, hl246_9, hi246_9, hl246_10, hi246_10, hl246_11, hi246_11⟩ := at_T71 HR0.out x10_1 p246 q246
                  (try rw [← Nbq6.out] at hx246_1)
                  cases e246
                  replace hx246_0 := (HB.out.cell (World.block_lt_of_cell? w _ hx246_0)).trans hx246_0
                  replace hx246_1 := (HB.out.cell (World.block_lt_of_cell? w _ hx246_1)).trans hx246_1
                  replace hx246_2 := (HB.out.cell (World.block_lt_of_cell? w _ hx246_2)).trans hx246_2
                  replace hx246_3 := (HB.out.cell (World.block_lt_of_cell? w _ hx246_3)).trans hx246_3
                  replace hx246_4 := (HB.out.cell (World.block_lt_of_cell? w _ hx246_4)).trans hx246_4
                  replace hx246_5 := (HB.out.cell (World.block_lt_of_cell? w _ hx246_5)).trans hx246_5
                  replace hx246_6 := (HB.out.cell (World.block_lt_of_cell? w _ hx246_6)).trans hx246_6
                  replace hx246_7 := (HB.out.cell (World.block_lt_of_cell? w _ hx246_7)).trans hx246_7
                  replace hx246_8 := (HB.out.cell (World.block_lt_of_cell? w _ hx246_8)).trans hx246_8
                  replace hx246_9 := (HB.out.cell (World.block_lt_of_cell? w _ hx246_9)).trans hx246_9
                  replace hx246_10 := (HB.out.cell (World.block_lt_of_cell? w _ hx246_10)).trans hx246_10
                  replace hx246_11 := (HB.out.cell (World.block_lt_of_cell? w _ hx246_11)).trans hx246_11
                  have HR246_9 := Aside0.mk hi246_9
                  have HC246_9 := Aside0.mk hl246_9
                  clear hi246_9 hl246_9
                  have HR246_10 := Aside0.mk hi246_10
                  have HC246_10 := Aside0.mk hl246_10
                  clear hi246_10 hl246_10
                  have HR246_11 := Aside0.mk hi246_11
                  have HC246_11 := Aside0.mk hl246_11
                  clear hi246_11 hl246_11
                  replace p246 := eq_true p246
                  replace q246 := eq_true q246
                  go_wp2_with (first | ((with_reducible refine gate_dst (N := 7) rfl ?_); refine box_event ?hg (N := 7) ?hd (cs := #[.int .i64 0, .bool false, .int .i64 0, .int .i64 0, .int .i64 0, .int .i64 0, .int .i64 0, .int .i64 0, .int .i64 0, .slice none 0 0, .slice none 0 0, .slice none 0 0]) (t := 71) ?hr ?_; (case hd => rfl); (case hg => rfl); (case hr => first | (go_simp; done) | (go_simp; rfl)); intro gb247 hg w14 hbox hb; have n0_ := Aside0.mk (Kd.R_below (by (with_reducible repeat (first | apply Kd.R_alloc | apply Kd.R_drewN | apply Kd.R_drew)); exact HO_5.out) hb); have n1_ := Aside0.mk (below_step (by repeat (first | (with_reducible first | exact HB.out | apply below_alloc | apply pw_below_drewN | apply below_drew1) | exact HB.out)) hb); have n2_ := Aside0.mk (hbox); have n3_ := Aside0.mk ((by rw [hg]; exact (below_size (by repeat (first | (with_reducible first | exact HB.out | apply below_alloc | apply pw_below_drewN | apply below_drew1) | exact HB.out))) : w.heap.size ≤ gb247)); have n4_ := Aside0.mk ((by rw [hg]; exact (below_size (by repeat (first | (with_reducible first | exact HB.out | apply below_alloc | apply pw_below_drewN | apply below_drew1) | exact HB.out))) : w.heap.size ≤ gb247)); clear HO_5; clear HB; have HO_5 := n0_; have HB := n1_; have BK247 := n2_; have GW247 := n3_; have GE247 := n4_; clear n0_ n1_ n2_ n3_ n4_; clear hb hbox hg; have hcz15_0 : w14.cell? ⟨gb247, 0, none⟩ = some (.int .i64 0) := (blk_cell BK247.out 0).trans rfl; have hcz15_1 : w14.cell? ⟨gb247, 1, none⟩ = some (.bool false) := (blk_cell BK247.out 1).trans rfl; have hcz15_2 : w14.cell? ⟨gb247, 2, none⟩ = some (.int .i64 0) := (blk_cell BK247.out 2).trans rfl; have hcz15_3 : w14.cell? ⟨gb247, 3, none⟩ = some (.int .i64 0) := (blk_cell BK247.out 3).trans rfl; have hcz15_4 : w14.cell? ⟨gb247, 4, none⟩ = some (.int .i64 0) := (blk_cell BK247.out 4).trans rfl; have hcz15_5 : w14.cell? ⟨gb247, 5, none⟩ = some (.int .i64 0) := (blk_cell BK247.out 5).trans rfl; have hcz15_6 : w14.cell? ⟨gb247, 6, none⟩ = some (.int .i64 0) := (blk_cell BK247.out 6).trans rfl; have hcz15_7 : w14.cell? ⟨gb247, 7, none⟩ = some (.int .i64 0) := (blk_cell BK247.out 7).trans rfl; have hcz15_8 : w14.cell? ⟨gb247, 8, none⟩ = some (.int .i64 0) := (blk_cell BK247.out 8).trans rfl; have hcz15_9 : w14.cell? ⟨gb247, 9, none⟩ = some (.slice none 0 0) := (blk_cell BK247.out 9).trans rfl; have hcz15_10 : w14.cell? ⟨gb247, 10, none⟩ = some (.slice none 0 0) := (blk_cell BK247.out 10).trans rfl; have hcz15_11 : w14.cell? ⟨gb247, 11, none⟩ = some (.slice none 0 0) := (blk_cell BK247.out 11).trans rfl; have hfz15_0 := blk_frozen BK247.out 0; have hfz15_1 := blk_frozen BK247.out 1; have hfz15_2 := blk_frozen BK247.out 2; have hfz15_3 := blk_frozen BK247.out 3; have hfz15_4 := blk_frozen BK247.out 4; have hfz15_5 := blk_frozen BK247.out 5; have hfz15_6 := blk_frozen BK247.out 6; have hfz15_7 := blk_frozen BK247.out 7; have hfz15_8 := blk_frozen BK247.out 8; have hfz15_9 := blk_frozen BK247.out 9; have hfz15_10 := blk_frozen BK247.out 10; have hfz15_11 := blk_frozen BK247.out 11))
                  go_roundg k1
                  case measure => have := HK1.out; omega
                  case rel => exact ⟨(x5_1), (wrap64 (x10_1 + 1)), (by first | rfl | (simp; done) | (simp [*]; done)), H', ⟨by have := HK1.out; omega⟩, ⟨by (with_reducible repeat (first | apply Kd.R_alloc | apply Kd.R_drewN | apply Kd.R_drew)); exact Kd.R_mono (Kd.R_far (p := ⟨gb247, 11, none⟩) (Kd.R_far (p := ⟨gb247, 10, none⟩) (Kd.R_far (p := ⟨gb247, 9, none⟩) (Kd.R_far (p := ⟨gb247, 8, none⟩) (Kd.R_far (p := ⟨gb247, 7, none⟩) (Kd.R_far (p := ⟨gb247, 6, none⟩) (Kd.R_far (p := ⟨gb247, 5, none⟩) (Kd.R_far (p := ⟨gb247, 4, none⟩) (Kd.R_far (p := ⟨gb247, 3, none⟩) (Kd.R_far (p := ⟨gb247, 2, none⟩) (Kd.R_far (p := ⟨gb247, 1, none⟩) (Kd.R_far (p := ⟨gb247, 0, none⟩) (Kd.R_types HO_5.out BK247.out (by decide)) (fun _ hk => hk.2) (.int .i64 ((rd_T71 l0 x10_1).f0))) (fun _ hk => hk.2) (.bool true)) (fun _ hk => hk.2) (.int .i64 ((rd_T71 l0 x10_1).f2.f0))) (fun _ hk => hk.2) (.int .i64 ((rd_T71 l0 x10_1).f2.f1))) (fun _ hk => hk.2) (.int .i64 ((rd_T71 l0 x10_1).f2.f2))) (fun _ hk => hk.2) (.int .i64 ((rd_T71 l0 x10_1).f2.f3))) (fun _ hk => hk.2) (.int .i64 ((rd_T71 l0 x10_1).f2.f4))) (fun _ hk => hk.2) (.int .i64 ((rd_T71 l0 x10_1).f3.f0))) (fun _ hk => hk.2) (.int .i64 ((rd_T71 l0 x10_1).f3.f1))) (fun _ hk => hk.2) (.slice A246_9 ((rd_T71 l0 x10_1).f3.f2).length c246_9)) (fun _ hk => hk.2) (.slice A246_10 ((rd_T71 l0 x10_1).f3.f3).length c246_10)) (fun _ hk => hk.2) (.slice A246_11 ((rd_T71 l0 x10_1).f3.f4).length c246_11)) (fun _ hk => trivial)⟩, ⟨by repeat (first | (with_reducible first | exact HB.out | apply below_alloc | apply pw_below_drewN | apply below_drew1 | refine below_set ?_ GE247.out) | exact HB.out)⟩⟩
              · rw [if_neg c8] at H
                have c8b0 : (((rd_T71 l0 x10_1).f2.f0) == a1) = false := beq_eq_false_iff_ne.mpr c8
                have c8b1 : (((rd_T71 l0 x10_1).f2.f0) != a1) = true := bne_iff_ne.mpr c8
                have H' := Aside0.mk H
                clear H
                have p246 : 0 ≤ (x10_1 : Int) := of_decide_eq_true (by first | (with_reducible assumption) | assumption)
                have q246 : x10_1 < (l0.length : Int) := of_decide_eq_true (by first | (with_reducible assumption) | assumption)
                obtain ⟨ad246, A246_9, c246_9, A246_10, c246_10, A246_11, c246_11, e246, hx246_0, hx246_1, hx246_2, hx246_3, hx246_4, hx246_5, hx246_6, hx246_7, hx246_8, hx246_9, hx246_10, hx246_11, hl246_9, hi246_9, hl246_10, hi246_10, hl246_11, hi246_11⟩ := at_T71 HR0.out x10_1 p246 q246
                (try rw [← Nbq6.out] at hx246_1)
                cases e246
                replace hx246_0 := (HB.out.cell (World.block_lt_of_cell? w _ hx246_0)).trans hx246_0
                replace hx246_1 := (HB.out.cell (World.block_lt_of_cell? w _ hx246_1)).trans hx246_1
                replace hx246_2 := (HB.out.cell (World.block_lt_of_cell? w _ hx246_2)).trans hx246_2
                replace hx246_3 := (HB.out.cell (World.block_lt_of_cell? w _ hx246_3)).trans hx246_3
                replace hx246_4 := (HB.out.cell (World.block_lt_of_cell? w _ hx246_4)).trans hx246_4
                replace hx246_5 := (HB.out.cell (World.block_lt_of_cell? w _ hx246_5)).trans hx246_5
                replace hx246_6 := (HB.out.cell (World.block_lt_of_cell? w _ hx246_6)).trans hx246_6
                replace hx246_7 := (HB.out.cell (World.block_lt_of_cell? w _ hx246_7)).trans hx246_7
                replace hx246_8 := (HB.out.cell (World.block_lt_of_cell? w _ hx246_8)).trans hx246_8
                replace hx246_9 := (HB.out.cell (World.block_lt_of_cell? w _ hx246_9)).trans hx246_9
                replace hx246_10 := (HB.out.cell (World.block_lt_of_cell? w _ hx246_10)).trans hx246_10
                replace hx246_11 := (HB.out.cell (World.block_lt_of_cell? w _ hx246_11)).trans hx246_11
                have HR246_9 := Aside0.mk hi246_9
                have HC246_9 := Aside0.mk hl246_9
                clear hi246_9 hl246_9
                have HR246_10 := Aside0.mk hi246_10
                have HC246_10 := Aside0.mk hl246_10
                clear hi246_10 hl246_10
                have HR246_11 := Aside0.mk hi246_11
                have HC246_11 := Aside0.mk hl246_11
                clear hi246_11 hl246_11
                replace p246 := eq_true p246
                replace q246 := eq_true q246
                go_wp2_with (first | ((with_reducible refine gate_dst (N := 7) rfl ?_); refine box_event ?hg (N := 7) ?hd (cs := #[.int .i64 0, .bool false, .int .i64 0, .int .i64 0, .int .i64 0, .int .i64 0, .int .i64 0, .int .i64 0, .int .i64 0, .slice none 0 0, .slice none 0 0, .slice none 0 0]) (t := 71) ?hr ?_; (case hd => rfl); (case hg => rfl); (case hr => first | (go_simp; done) | (go_simp; rfl)); intro gb247 hg w16 hbox hb; have n0_ := Aside0.mk (Kd.R_below (by (with_reducible repeat (first | apply Kd.R_alloc | apply Kd.R_drewN | apply Kd.R_drew)); exact HO_5.out) hb); have n1_ := Aside0.mk (below_step (by repeat (first | (with_reducible first | exact HB.out | apply below_alloc | apply pw_below_drewN | apply below_drew1) | exact HB.out)) hb); have n2_ := Aside0.mk (hbox); have n3_ := Aside0.mk ((by rw [hg]; exact (below_size (by repeat (first | (with_reducible first | exact HB.out | apply below_alloc | apply pw_below_drewN | apply below_drew1) | exact HB.out))) : w.heap.size ≤ gb247)); have n4_ := Aside0.mk ((by rw [hg]; exact (below_size (by repeat (first | (with_reducible first | exact HB.out | apply below_alloc | apply pw_below_drewN | apply below_drew1) | exact HB.out))) : w.heap.size ≤ gb247)); clear HO_5; clear HB; have HO_5 := n0_; have HB := n1_; have BK247 := n2_; have GW247 := n3_; have GE247 := n4_; clear n0_ n1_ n2_ n3_ n4_; clear hb hbox hg; have hcz17_0 : w16.cell? ⟨gb247, 0, none⟩ = some (.int .i64 0) := (blk_cell BK247.out 0).trans rfl; have hcz17_1 : w16.cell? ⟨gb247, 1, none⟩ = some (.bool false) := (blk_cell BK247.out 1).trans rfl; have hcz17_2 : w16.cell? ⟨gb247, 2, none⟩ = some (.int .i64 0) := (blk_cell BK247.out 2).trans rfl; have hcz17_3 : w16.cell? ⟨gb247, 3, none⟩ = some (.int .i64 0) := (blk_cell BK247.out 3).trans rfl; have hcz17_4 : w16.cell? ⟨gb247, 4, none⟩ = some (.int .i64 0) := (blk_cell BK247.out 4).trans rfl; have hcz17_5 : w16.cell? ⟨gb247, 5, none⟩ = some (.int .i64 0) := (blk_cell BK247.out 5).trans rfl; have hcz17_6 : w16.cell? ⟨gb247, 6, none⟩ = some (.int .i64 0) := (blk_cell BK247.out 6).trans rfl; have hcz17_7 : w16.cell? ⟨gb247, 7, none⟩ = some (.int .i64 0) := (blk_cell BK247.out 7).trans rfl; have hcz17_8 : w16.cell? ⟨gb247, 8, none⟩ = some (.int .i64 0) := (blk_cell BK247.out 8).trans rfl; have hcz17_9 : w16.cell? ⟨gb247, 9, none⟩ = some (.slice none 0 0) := (blk_cell BK247.out 9).trans rfl; have hcz17_10 : w16.cell? ⟨gb247, 10, none⟩ = some (.slice none 0 0) := (blk_cell BK247.out 10).trans rfl; have hcz17_11 : w16.cell? ⟨gb247, 11, none⟩ = some (.slice none 0 0) := (blk_cell BK247.out 11).trans rfl; have hfz17_0 := blk_frozen BK247.out 0; have hfz17_1 := blk_frozen BK247.out 1; have hfz17_2 := blk_frozen BK247.out 2; have hfz17_3 := blk_frozen BK247.out 3; have hfz17_4 := blk_frozen BK247.out 4; have hfz17_5 := blk_frozen BK247.out 5; have hfz17_6 := blk_frozen BK247.out 6; have hfz17_7 := blk_frozen BK247.out 7; have hfz17_8 := blk_frozen BK247.out 8; have hfz17_9 := blk_frozen BK247.out 9; have hfz17_10 := blk_frozen BK247.out 10; have hfz17_11 := blk_frozen BK247.out 11))
                go_roundg k1
                case measure => have := HK1.out; omega
                case rel => exact ⟨(x5_1), (wrap64 (x10_1 + 1)), (by first | rfl | (simp; done) | (simp [*]; done)), H', ⟨by have := HK1.out; omega⟩, ⟨by (with_reducible repeat (first | apply Kd.R_alloc | apply Kd.R_drewN | apply Kd.R_drew)); exact Kd.R_mono (Kd.R_far (p := ⟨gb247, 11, none⟩) (Kd.R_far (p := ⟨gb247, 10, none⟩) (Kd.R_far (p := ⟨gb247, 9, none⟩) (Kd.R_far (p := ⟨gb247, 8, none⟩) (Kd.R_far (p := ⟨gb247, 7, none⟩) (Kd.R_far (p := ⟨gb247, 6, none⟩) (Kd.R_far (p := ⟨gb247, 5, none⟩) (Kd.R_far (p := ⟨gb247, 4, none⟩) (Kd.R_far (p := ⟨gb247, 3, none⟩) (Kd.R_far (p := ⟨gb247, 2, none⟩) (Kd.R_far (p := ⟨gb247, 1, none⟩) (Kd.R_far (p := ⟨gb247, 0, none⟩) (Kd.R_types HO_5.out BK247.out (by decide)) (fun _ hk => hk.2) (.int .i64 ((rd_T71 l0 x10_1).f0))) (fun _ hk => hk.2) (.bool true)) (fun _ hk => hk.2) (.int .i64 ((rd_T71 l0 x10_1).f2.f0))) (fun _ hk => hk.2) (.int .i64 ((rd_T71 l0 x10_1).f2.f1))) (fun _ hk => hk.2) (.int .i64 ((rd_T71 l0 x10_1).f2.f2))) (fun _ hk => hk.2) (.int .i64 ((rd_T71 l0 x10_1).f2.f3))) (fun _ hk => hk.2) (.int .i64 ((rd_T71 l0 x10_1).f2.f4))) (fun _ hk => hk.2) (.int .i64 ((rd_T71 l0 x10_1).f3.f0))) (fun _ hk => hk.2) (.int .i64 ((rd_T71 l0 x10_1).f3.f1))) (fun _ hk => hk.2) (.slice A246_9 ((rd_T71 l0 x10_1).f3.f2).length c246_9)) (fun _ hk => hk.2) (.slice A246_10 ((rd_T71 l0 x10_1).f3.f3).length c246_10)) (fun _ hk => hk.2) (.slice A246_11 ((rd_T71 l0 x10_1).f3.f4).length c246_11)) (fun _ hk => trivial)⟩, ⟨by repeat (first | (with_reducible first | exact HB.out | apply below_alloc | apply pw_below_drewN | apply below_drew1 | refine below_set ?_ GE247.out) | exact HB.out)⟩⟩
            · replace c7 := Bool.eq_false_iff.mpr c7
              subst c7
              have H1 : (tendrilref23_Given.l0 k1 a1 x5_1 l0 (l0.length : Int) (wrap64 (x10_1 + 1))) = some r := by rw [if_neg (show ¬ (false = true) by decide)] at H; exact H
              clear H
              have H := H1
              clear H1
              have H' := Aside0.mk H
              clear H
              have p246 : 0 ≤ (x10_1 : Int) := of_decide_eq_true (by first | (with_reducible assumption) | assumption)
              have q246 : x10_1 < (l0.length : Int) := of_decide_eq_true (by first | (with_reducible assumption) | assumption)
              obtain ⟨ad246, A246_9, c246_9, A246_10, c246_10, A246_11, c246_11, e246, hx246_0, hx246_1, hx246_2, hx246_3, hx246_4, hx246_5, hx246_6, hx246_7, hx246_8, hx246_9, hx246_10, hx246_11, hl246_9, hi246_9, hl246_10, hi246_10, hl246_11, hi246_11⟩ := at_T71 HR0.out x10_1 p246 q246
              (try rw [← Nbq6.out] at hx246_1)
              cases e246
              replace hx246_0 := (HB.out.cell (World.block_lt_of_cell? w _ hx246_0)).trans hx246_0
              replace hx246_1 := (HB.out.cell (World.block_lt_of_cell? w _ hx246_1)).trans hx246_1
              replace hx246_2 := (HB.out.cell (World.block_lt_of_cell? w _ hx246_2)).trans hx246_2
              replace hx246_3 := (HB.out.cell (World.block_lt_of_cell? w _ hx246_3)).trans hx246_3
              replace hx246_4 := (HB.out.cell (World.block_lt_of_cell? w _ hx246_4)).trans hx246_4
              replace hx246_5 := (HB.out.cell (World.block_lt_of_cell? w _ hx246_5)).trans hx246_5
              replace hx246_6 := (HB.out.cell (World.block_lt_of_cell? w _ hx246_6)).trans hx246_6
              replace hx246_7 := (HB.out.cell (World.block_lt_of_cell? w _ hx246_7)).trans hx246_7
              replace hx246_8 := (HB.out.cell (World.block_lt_of_cell? w _ hx246_8)).trans hx246_8
              replace hx246_9 := (HB.out.cell (World.block_lt_of_cell? w _ hx246_9)).trans hx246_9
              replace hx246_10 := (HB.out.cell (World.block_lt_of_cell? w _ hx246_10)).trans hx246_10
              replace hx246_11 := (HB.out.cell (World.block_lt_of_cell? w _ hx246_11)).trans hx246_11
              have HR246_9 := Aside0.mk hi246_9
              have HC246_9 := Aside0.mk hl246_9
              clear hi246_9 hl246_9
              have HR246_10 := Aside0.mk hi246_10
              have HC246_10 := Aside0.mk hl246_10
              clear hi246_10 hl246_10
              have HR246_11 := Aside0.mk hi246_11
              have HC246_11 := Aside0.mk hl246_11
              clear hi246_11 hl246_11
              replace p246 := eq_true p246
              replace q246 := eq_true q246
              go_wp2_with (first | ((with_reducible refine gate_dst (N := 7) rfl ?_); refine box_event ?hg (N := 7) ?hd (cs := #[.int .i64 0, .bool false, .int .i64 0, .int .i64 0, .int .i64 0, .int .i64 0, .int .i64 0, .int .i64 0, .int .i64 0, .slice none 0 0, .slice none 0 0, .slice none 0 0]) (t := 71) ?hr ?_; (case hd => rfl); (case hg => rfl); (case hr => first | (go_simp; done) | (go_simp; rfl)); intro gb247 hg w18 hbox hb; have n0_ := Aside0.mk (Kd.R_below (by (with_reducible repeat (first | apply Kd.R_alloc | apply Kd.R_drewN | apply Kd.R_drew)); exact HO_5.out) hb); have n1_ := Aside0.mk (below_step (by repeat (first | (with_reducible first | exact HB.out | apply below_alloc | apply pw_below_drewN | apply below_drew1) | exact HB.out)) hb); have n2_ := Aside0.mk (hbox); have n3_ := Aside0.mk ((by rw [hg]; exact (below_size (by repeat (first | (with_reducible first | exact HB.out | apply below_alloc | apply pw_below_drewN | apply below_drew1) | exact HB.out))) : w.heap.size ≤ gb247)); have n4_ := Aside0.mk ((by rw [hg]; exact (below_size (by repeat (first | (with_reducible first | exact HB.out | apply below_alloc | apply pw_below_drewN | apply below_drew1) | exact HB.out))) : w.heap.size ≤ gb247)); clear HO_5; clear HB; have HO_5 := n0_; have HB := n1_; have BK247 := n2_; have GW247 := n3_; have GE247 := n4_; clear n0_ n1_ n2_ n3_ n4_; clear hb hbox hg; have hcz19_0 : w18.cell? ⟨gb247, 0, none⟩ = some (.int .i64 0) := (blk_cell BK247.out 0).trans rfl; have hcz19_1 : w18.cell? ⟨gb247, 1, none⟩ = some (.bool false) := (blk_cell BK247.out 1).trans rfl; have hcz19_2 : w18.cell? ⟨gb247, 2, none⟩ = some (.int .i64 0) := (blk_cell BK247.out 2).trans rfl; have hcz19_3 : w18.cell? ⟨gb247, 3, none⟩ = some (.int .i64 0) := (blk_cell BK247.out 3).trans rfl; have hcz19_4 : w18.cell? ⟨gb247, 4, none⟩ = some (.int .i64 0) := (blk_cell BK247.out 4).trans rfl; have hcz19_5 : w18.cell? ⟨gb247, 5, none⟩ = some (.int .i64 0) := (blk_cell BK247.out 5).trans rfl; have hcz19_6 : w18.cell? ⟨gb247, 6, none⟩ = some (.int .i64 0) := (blk_cell BK247.out 6).trans rfl; have hcz19_7 : w18.cell? ⟨gb247, 7, none⟩ = some (.int .i64 0) := (blk_cell BK247.out 7).trans rfl; have hcz19_8 : w18.cell? ⟨gb247, 8, none⟩ = some (.int .i64 0) := (blk_cell BK247.out 8).trans rfl; have hcz19_9 : w18.cell? ⟨gb247, 9, none⟩ = some (.slice none 0 0) := (blk_cell BK247.out 9).trans rfl; have hcz19_10 : w18.cell? ⟨gb247, 10, none⟩ = some (.slice none 0 0) := (blk_cell BK247.out 10).trans rfl; have hcz19_11 : w18.cell? ⟨gb247, 11, none⟩ = some (.slice none 0 0) := (blk_cell BK247.out 11).trans rfl; have hfz19_0 := blk_frozen BK247.out 0; have hfz19_1 := blk_frozen BK247.out 1; have hfz19_2 := blk_frozen BK247.out 2; have hfz19_3 := blk_frozen BK247.out 3; have hfz19_4 := blk_frozen BK247.out 4; have hfz19_5 := blk_frozen BK247.out 5; have hfz19_6 := blk_frozen BK247.out 6; have hfz19_7 := blk_frozen BK247.out 7; have hfz19_8 := blk_frozen BK247.out 8; have hfz19_9 := blk_frozen BK247.out 9; have hfz19_10 := blk_frozen BK247.out 10; have hfz19_11 := blk_frozen BK247.out 11))
              go_roundg k1
              case measure => have := HK1.out; omega
              case rel => exact ⟨(x5_1), (wrap64 (x10_1 + 1)), (by first | rfl | (simp; done) | (simp [*]; done)), H', ⟨by have := HK1.out; omega⟩, ⟨by (with_reducible repeat (first | apply Kd.R_alloc | apply Kd.R_drewN | apply Kd.R_drew)); exact Kd.R_mono (Kd.R_far (p := ⟨gb247, 11, none⟩) (Kd.R_far (p := ⟨gb247, 10, none⟩) (Kd.R_far (p := ⟨gb247, 9, none⟩) (Kd.R_far (p := ⟨gb247, 8, none⟩) (Kd.R_far (p := ⟨gb247, 7, none⟩) (Kd.R_far (p := ⟨gb247, 6, none⟩) (Kd.R_far (p := ⟨gb247, 5, none⟩) (Kd.R_far (p := ⟨gb247, 4, none⟩) (Kd.R_far (p := ⟨gb247, 3, none⟩) (Kd.R_far (p := ⟨gb247, 2, none⟩) (Kd.R_far (p := ⟨gb247, 1, none⟩) (Kd.R_far (p := ⟨gb247, 0, none⟩) (Kd.R_types HO_5.out BK247.out (by decide)) (fun _ hk => hk.2) (.int .i64 ((rd_T71 l0 x10_1).f0))) (fun _ hk => hk.2) (.bool false)) (fun _ hk => hk.2) (.int .i64 ((rd_T71 l0 x10_1).f2.f0))) (fun _ hk => hk.2) (.int .i64 ((rd_T71 l0 x10_1).f2.f1))) (fun _ hk => hk.2) (.int .i64 ((rd_T71 l0 x10_1).f2.f2))) (fun _ hk => hk.2) (.int .i64 ((rd_T71 l0 x10_1).f2.f3))) (fun _ hk => hk.2) (.int .i64 ((rd_T71 l0 x10_1).f2.f4))) (fun _ hk => hk.2) (.int .i64 ((rd_T71 l0 x10_1).f3.f0))) (fun _ hk => hk.2) (.int .i64 ((rd_T71 l0 x10_1).f3.f1))) (fun _ hk => hk.2) (.slice A246_9 ((rd_T71 l0 x10_1).f3.f2).length c246_9)) (fun _ hk => hk.2) (.slice A246_10 ((rd_T71 l0 x10_1).f3.f3).length c246_10)) (fun _ hk => hk.2) (.slice A246_11 ((rd_T71 l0 x10_1).f3.f4).length c246_11)) (fun _ hk => trivial)⟩, ⟨by repeat (first | (with_reducible first | exact HB.out | apply below_alloc | apply pw_below_drewN | apply below_drew1 | refine below_set ?_ GE247.out) | exact HB.out)⟩⟩
          · rw [if_neg c5] at H
            exact absurd H (by simp)
        · rw [if_neg c4] at H
          exact absurd H (by simp)
      · rw [if_neg c3] at H
        have c3b0 : decide (x10_1 < (l0.length : Int)) = false := decide_eq_false c3
        clear c3
        obtain rfl := Option.some.inj H
        go_wp2
        go_ret
        exact ⟨_, by first | rfl | (simp [errW_none, errW_some] <;> rfl) | (simp [*, errW_none, errW_some] <;> rfl), by (with_reducible repeat (first | apply Kd.R_alloc | apply Kd.R_drewN | apply Kd.R_drew)); exact HO_5.out, by repeat (first | (with_reducible first | exact HB.out | apply below_alloc | apply pw_below_drewN | apply below_drew1) | exact HB.out)⟩

end Go.Proofs.Ytifogeaamdiciaa.PReu
