-- Printed by wip/tools/myprint.py of this repo, over the kit's printer
import Derived.Test.YtifogeaamdiciaaPReux0
namespace Go.Proofs.Ytifogeaamdiciaa.PReu
open Go.RowKit Go.Proofs.YtifogeaamdiciaaW.PrintWords Go.Proofs.YtifogeaamdiciaaW.PrintLast Go.Proofs.YtifogeaamdiciaaW.PrintMore
attribute [local go_sem] max2_int min2_int max_two min_two max_three min_three max_four min_four max_five min_five   -- for this text's walks alone
set_option linter.unusedVariables false
set_option linter.unusedSimpArgs false

/-! ### tendrilref23_Idle: function 29 -/
def tendrilref23_Idle.l0 : Nat → List (S60) → List (S60) → Int → Int → Option ((List (S60)))
  | 0, _, _, _, _ => none
  | k + 1, x3, x6, x7, x8 => if x8 < x7 then (if 0 ≤ x8 then (if x8 < (x6.length : Int) then (if ((rd_T60 x6 x8).f6) = 0 then (if x3.length < 2199023255552 then (tendrilref23_Idle.l0 k (x3 ++ [(⟨(rd_T60 x6 x8).f0, (rd_T60 x6 x8).f1, (rd_T60 x6 x8).f2, (rd_T60 x6 x8).f3, (rd_T60 x6 x8).f4, (rd_T60 x6 x8).f5, (rd_T60 x6 x8).f6, (rd_T60 x6 x8).f7⟩ : S60)]) x6 x7 (wrap64 (x8 + 1))) else (none)) else (tendrilref23_Idle.l0 k x3 x6 x7 (wrap64 (x8 + 1)))) else (none)) else (none)) else (some x3)
def tendrilref23_Idle.f (k : Nat) (l0 : List (S60)) : Option ((List (S60))) := tendrilref23_Idle.l0 k ([] : List (S60)) l0 (l0.length : Int) 0
theorem tendrilref23_Idle.mono_l : ∀ k, (∀ y0 y1 y2 y3, LeO (tendrilref23_Idle.l0 k y0 y1 y2 y3) (tendrilref23_Idle.l0 (k + 1) y0 y1 y2 y3))
  | 0 => fun _ _ _ _ r h => by simp [tendrilref23_Idle.l0] at h
  | k + 1 => by
    have ih0 := tendrilref23_Idle.mono_l k
    · intro y0 y1 y2 y3
      unfold tendrilref23_Idle.l0
      repeat' first
      | (with_reducible exact ih0 _ _ _ _)
      | (with_reducible exact LeO.refl _)
      | (with_reducible exact LeO.none _)
      | (with_reducible refine LeO.ite ?_ ?_)
      | (with_reducible refine LeO.bind ?_ (fun _ => ?_))
      | exact ih0 _ _ _ _
      | exact LeO.none _
      | refine LeO.ite ?_ ?_
      | refine LeO.bind ?_ (fun _ => ?_)
theorem tendrilref23_Idle.mono : ∀ a0 k, LeO (tendrilref23_Idle.f k a0) (tendrilref23_Idle.f (k + 1) a0) := by
  intro a0 k
  have ih0 := tendrilref23_Idle.mono_l k
  unfold tendrilref23_Idle.f
  repeat' first
      | (with_reducible exact ih0 _ _ _ _)
      | (with_reducible exact LeO.refl _)
      | (with_reducible exact LeO.none _)
      | (with_reducible refine LeO.ite ?_ ?_)
      | (with_reducible refine LeO.bind ?_ (fun _ => ?_))
      | exact ih0 _ _ _ _
      | exact LeO.none _
      | refine LeO.ite ?_ ?_
      | refine LeO.bind ?_ (fun _ => ?_)
set_option maxHeartbeats 8000000 in
set_option maxRecDepth 100000 in
theorem tendrilref23_Idle.calls (k : Nat) (A0 : Option Addr) (c0 : Nat) (l0 : List (S60)) (r : List (S60)) (w : World) (hr0 : Kd.C k60 w A0 l0.length l0) (hc0 : l0.length ≤ c0) (h : tendrilref23_Idle.f k l0 = some r) :
    Calls Try.prog 29 #[.slice A0 l0.length c0] w fun e w' => ∃ v0_ : Value, e = .returned (v0_) ∧ Kd.R k60 60 w' w.heap.size (fun _ => True) v0_ r ∧ Below w.heap.size w w' := by
  have hu60 := Try.underlying60
  have HR0 := Aside0.mk hr0
  have HC0 := Aside0.mk hc0
  clear hr0 hc0
  have HB := Aside0.mk (Below.refl w.heap.size w)
  have H : (tendrilref23_Idle.l0 k ([] : List (S60)) l0 (l0.length : Int) 0) = some r := h
  clear h
  have H' := Aside0.mk H
  clear H
  go_enter Try.func29, Try.ntmps29
  go_wp2
  go_loopg [3, 8] k (fun kq v3 v8 w' => ∃ (x3_1 : List (S60)) (x8_1 : Int), v8 = .int .i64 x8_1 ∧ Aside0 (tendrilref23_Idle.l0 kq x3_1 l0 (l0.length : Int) x8_1 = some r) ∧ Aside0 (kq ≤ k) ∧ Aside0 (Kd.R k60 60 w' w.heap.size (fun _ => True) v3 x3_1) ∧ Aside0 (Below w.heap.size w w'))
  case atStart => exact ⟨(([] : List (S60))), (0), (by first | rfl | (simp; done) | (simp [*]; done)), H', ⟨Nat.le_refl _⟩, ⟨by first | exact Kd.R_nil _ _ _ _ _ | exact Kd.N_nil _ _ _ _ _ | exact Kd.V_nil _ _ _ _ _ | exact Kd.Q_nil _ _ _ _ _ | exact Kd.S_nil _ _ _ _ _⟩, ⟨by repeat (first | (with_reducible first | exact HB.out | apply below_alloc | apply pw_below_drewN | apply below_drew1) | exact HB.out)⟩⟩
  case round =>
    clear H'
    obtain ⟨x3_1, x8_1, rfl, HA, HK1, HO_3, HB⟩ := hrel
    cases gk with
    | zero => exact absurd HA.out (by simp [tendrilref23_Idle.l0])
    | succ k1 =>
      have H := HA.out
      clear HA
      simp only [tendrilref23_Idle.l0] at H
      by_cases c2 : x8_1 < (l0.length : Int)
      · rw [if_pos c2] at H
        have c2b0 : decide (x8_1 < (l0.length : Int)) = true := decide_eq_true c2
        clear c2
        by_cases c3 : 0 ≤ x8_1
        · rw [if_pos c3] at H
          have c3b0 : decide (0 ≤ x8_1) = true := decide_eq_true c3
          clear c3
          by_cases c4 : x8_1 < (l0.length : Int)
          · rw [if_pos c4] at H
            have c4b0 : decide (x8_1 < (l0.length : Int)) = true := decide_eq_true c4
            clear c4
            by_cases c5 : ((rd_T60 l0 x8_1).f6) = 0
            · rw [if_pos c5] at H
              have c5b0 : (((rd_T60 l0 x8_1).f6) == 0) = true := beq_iff_eq.mpr c5
              have c5b1 : (((rd_T60 l0 x8_1).f6) != 0) = false := bne_eq_false_iff_eq.mpr c5
              clear c5
              by_cases c6 : x3_1.length < 2199023255552
              · rw [if_pos c6] at H
                have LMc6 := Aside0.mk c6
                clear c6
                obtain ⟨y137, hy137⟩ : ∃ y_ : List (S60), y_ = (x3_1 ++ [(⟨(rd_T60 l0 x8_1).f0, (rd_T60 l0 x8_1).f1, (rd_T60 l0 x8_1).f2, (rd_T60 l0 x8_1).f3, (rd_T60 l0 x8_1).f4, (rd_T60 l0 x8_1).f5, (rd_T60 l0 x8_1).f6, (rd_T60 l0 x8_1).f7⟩ : S60)]) := ⟨_, rfl⟩
                replace H : (tendrilref23_Idle.l0 k1 y137 l0 (l0.length : Int) (wrap64 (x8_1 + 1))) = some r := by first | (rw [hy137]; with_reducible exact H) | (have H2_ := (Option.bind_some _ _).symm.trans H; rw [hy137]; with_reducible exact H2_) | (have H2_ := (Option.bind_some _ _).symm.trans H; with_reducible exact H2_) | with_reducible exact H | (rw [hy137]; exact H) | exact H
                have Ny137 := Aside0.mk hy137
                clear hy137
                have H' := Aside0.mk H
                clear H
                have p135 : 0 ≤ (x8_1 : Int) := of_decide_eq_true (by first | (with_reducible assumption) | assumption)
                have q135 : x8_1 < (l0.length : Int) := of_decide_eq_true (by first | (with_reducible assumption) | assumption)
                obtain ⟨ad135, e135, hx135_0, hx135_1, hx135_2, hx135_3, hx135_4, hx135_5, hx135_6, hx135_7⟩ := at_T60 HR0.out x8_1 p135 q135
                cases e135
                replace hx135_0 := (HB.out.cell (World.block_lt_of_cell? w _ hx135_0)).trans hx135_0
                replace hx135_1 := (HB.out.cell (World.block_lt_of_cell? w _ hx135_1)).trans hx135_1
                replace hx135_2 := (HB.out.cell (World.block_lt_of_cell? w _ hx135_2)).trans hx135_2
                replace hx135_3 := (HB.out.cell (World.block_lt_of_cell? w _ hx135_3)).trans hx135_3
                replace hx135_4 := (HB.out.cell (World.block_lt_of_cell? w _ hx135_4)).trans hx135_4
                replace hx135_5 := (HB.out.cell (World.block_lt_of_cell? w _ hx135_5)).trans hx135_5
                replace hx135_6 := (HB.out.cell (World.block_lt_of_cell? w _ hx135_6)).trans hx135_6
                replace hx135_7 := (HB.out.cell (World.block_lt_of_cell? w _ hx135_7)).trans hx135_7
                replace p135 := eq_true p135
                replace q135 := eq_true q135
                go_wp2_with (first | ((with_reducible refine gate_dst (N := 5) rfl ?_); refine box_event ?hg (N := 5) ?hd (cs := #[.int .i64 0, .int .i64 0, .int .i64 0, .int .i64 0, .int .i64 0, .int .i64 0, .int .i64 0, .bool false]) (t := 60) ?hr ?_; (case hd => rfl); (case hg => rfl); (case hr => first | (go_simp; done) | (go_simp; rfl)); intro gb136 hg w7 hbox hb; have n0_ := Aside0.mk (Kd.R_below (Kd.R_elderB (by (with_reducible repeat (first | apply Kd.R_alloc | apply Kd.R_drewN | apply Kd.R_drew)); exact HO_3.out) gb136 (Nat.le_of_eq hg.symm)) hb); have n1_ := Aside0.mk (below_step (by repeat (first | (with_reducible first | exact HB.out | apply below_alloc | apply pw_below_drewN | apply below_drew1) | exact HB.out)) hb); have n2_ := Aside0.mk (hbox); have n3_ := Aside0.mk ((by rw [hg]; exact (below_size (by repeat (first | (with_reducible first | exact HB.out | apply below_alloc | apply pw_below_drewN | apply below_drew1) | exact HB.out))) : w.heap.size ≤ gb136)); have n4_ := Aside0.mk ((by rw [hg]; exact (below_size (by repeat (first | (with_reducible first | exact HB.out | apply below_alloc | apply pw_below_drewN | apply below_drew1) | exact HB.out))) : w.heap.size ≤ gb136)); clear HO_3; clear HB; have HO_3 := n0_; have HB := n1_; have BK136 := n2_; have GW136 := n3_; have GE136 := n4_; clear n0_ n1_ n2_ n3_ n4_; clear hb hbox hg; have hcz8_0 : w7.cell? ⟨gb136, 0, none⟩ = some (.int .i64 0) := (blk_cell BK136.out 0).trans rfl; have hcz8_1 : w7.cell? ⟨gb136, 1, none⟩ = some (.int .i64 0) := (blk_cell BK136.out 1).trans rfl; have hcz8_2 : w7.cell? ⟨gb136, 2, none⟩ = some (.int .i64 0) := (blk_cell BK136.out 2).trans rfl; have hcz8_3 : w7.cell? ⟨gb136, 3, none⟩ = some (.int .i64 0) := (blk_cell BK136.out 3).trans rfl; have hcz8_4 : w7.cell? ⟨gb136, 4, none⟩ = some (.int .i64 0) := (blk_cell BK136.out 4).trans rfl; have hcz8_5 : w7.cell? ⟨gb136, 5, none⟩ = some (.int .i64 0) := (blk_cell BK136.out 5).trans rfl; have hcz8_6 : w7.cell? ⟨gb136, 6, none⟩ = some (.int .i64 0) := (blk_cell BK136.out 6).trans rfl; have hcz8_7 : w7.cell? ⟨gb136, 7, none⟩ = some (.bool false) := (blk_cell BK136.out 7).trans rfl; have hfz8_0 := blk_frozen BK136.out 0; have hfz8_1 := blk_frozen BK136.out 1; have hfz8_2 := blk_frozen BK136.out 2; have hfz8_3 := blk_frozen BK136.out 3; have hfz8_4 := blk_frozen BK136.out 4; have hfz8_5 := blk_frozen BK136.out 5; have hfz8_6 := blk_frozen BK136.out 6; have hfz8_7 := blk_frozen BK136.out 7) | ((with_reducible refine gate_builtin (b := .append) (xs := #[.tmp 15, .tmp 17]) rfl ?_); at_builtin; refine Kd.R_append k60 (w0 := w) w.heap.size rfl (.tmp 15) (.tmp 17) 35 60 (.agg #[(.int .i64 0), (.int .i64 0), (.int .i64 0), (.int .i64 0), (.int .i64 0), (.int .i64 0), (.int .i64 0), (.bool false)]) 64 rfl Try.underlying35 info60 rfl (by decide) (by omega) u3 x3_1 (⟨(rd_T60 l0 x8_1).f0, (rd_T60 l0 x8_1).f1, (rd_T60 l0 x8_1).f2, (rd_T60 l0 x8_1).f3, (rd_T60 l0 x8_1).f4, (rd_T60 l0 x8_1).f5, (rd_T60 l0 x8_1).f6, (rd_T60 l0 x8_1).f7⟩ : S60) [.int .i64 ((rd_T60 l0 x8_1).f0), .int .i64 ((rd_T60 l0 x8_1).f1), .int .i64 ((rd_T60 l0 x8_1).f2), .int .i64 ((rd_T60 l0 x8_1).f3), .int .i64 ((rd_T60 l0 x8_1).f4), .int .i64 ((rd_T60 l0 x8_1).f5), .int .i64 ((rd_T60 l0 x8_1).f6), .bool ((rd_T60 l0 x8_1).f7)] (fun k_ => k_ ≠ gb136) (fun _ => False) rfl (by first | (go_simp; done) | (go_simp; rfl)) ?aP (fun _ hk => hk.elim) ?aF ?aO ?aB ?aS ?aL ?_; (case aP => exact k60_mkM _ _ _ (⟨(rd_T60 l0 x8_1).f0, (rd_T60 l0 x8_1).f1, (rd_T60 l0 x8_1).f2, (rd_T60 l0 x8_1).f3, (rd_T60 l0 x8_1).f4, (rd_T60 l0 x8_1).f5, (rd_T60 l0 x8_1).f6, (rd_T60 l0 x8_1).f7⟩ : S60)); (case aB => exact (by repeat (first | (with_reducible first | exact HB.out | apply below_alloc | apply pw_below_drewN | apply below_drew1 | refine below_set ?_ GE136.out) | exact HB.out))); (case aF => exact (fun k_ hk => Kd.freshB (g := gb136) (o := .cells #[.int .i64 ((rd_T60 l0 x8_1).f0), .int .i64 ((rd_T60 l0 x8_1).f1), .int .i64 ((rd_T60 l0 x8_1).f2), .int .i64 ((rd_T60 l0 x8_1).f3), .int .i64 ((rd_T60 l0 x8_1).f4), .int .i64 ((rd_T60 l0 x8_1).f5), .int .i64 ((rd_T60 l0 x8_1).f6), .bool ((rd_T60 l0 x8_1).f7)] 60 (0, 0)) (by (with_reducible repeat (first | refine blk_drewN ?_ _ | refine blk_drew ?_ | refine blk_alloc ?_ _)); refine blk_put (cs := #[.int .i64 ((rd_T60 l0 x8_1).f0), .int .i64 ((rd_T60 l0 x8_1).f1), .int .i64 ((rd_T60 l0 x8_1).f2), .int .i64 ((rd_T60 l0 x8_1).f3), .int .i64 ((rd_T60 l0 x8_1).f4), .int .i64 ((rd_T60 l0 x8_1).f5), .int .i64 ((rd_T60 l0 x8_1).f6), .bool false]) ?_ 7 _ rfl; (with_reducible repeat (first | refine blk_drewN ?_ _ | refine blk_drew ?_ | refine blk_alloc ?_ _)); refine blk_put (cs := #[.int .i64 ((rd_T60 l0 x8_1).f0), .int .i64 ((rd_T60 l0 x8_1).f1), .int .i64 ((rd_T60 l0 x8_1).f2), .int .i64 ((rd_T60 l0 x8_1).f3), .int .i64 ((rd_T60 l0 x8_1).f4), .int .i64 ((rd_T60 l0 x8_1).f5), .int .i64 0, .bool false]) ?_ 6 _ rfl; (with_reducible repeat (first | refine blk_drewN ?_ _ | refine blk_drew ?_ | refine blk_alloc ?_ _)); refine blk_put (cs := #[.int .i64 ((rd_T60 l0 x8_1).f0), .int .i64 ((rd_T60 l0 x8_1).f1), .int .i64 ((rd_T60 l0 x8_1).f2), .int .i64 ((rd_T60 l0 x8_1).f3), .int .i64 ((rd_T60 l0 x8_1).f4), .int .i64 0, .int .i64 0, .bool false]) ?_ 5 _ rfl; (with_reducible repeat (first | refine blk_drewN ?_ _ | refine blk_drew ?_ | refine blk_alloc ?_ _)); refine blk_put (cs := #[.int .i64 ((rd_T60 l0 x8_1).f0), .int .i64 ((rd_T60 l0 x8_1).f1), .int .i64 ((rd_T60 l0 x8_1).f2), .int .i64 ((rd_T60 l0 x8_1).f3), .int .i64 0, .int .i64 0, .int .i64 0, .bool false]) ?_ 4 _ rfl; (with_reducible repeat (first | refine blk_drewN ?_ _ | refine blk_drew ?_ | refine blk_alloc ?_ _)); refine blk_put (cs := #[.int .i64 ((rd_T60 l0 x8_1).f0), .int .i64 ((rd_T60 l0 x8_1).f1), .int .i64 ((rd_T60 l0 x8_1).f2), .int .i64 0, .int .i64 0, .int .i64 0, .int .i64 0, .bool false]) ?_ 3 _ rfl; (with_reducible repeat (first | refine blk_drewN ?_ _ | refine blk_drew ?_ | refine blk_alloc ?_ _)); refine blk_put (cs := #[.int .i64 ((rd_T60 l0 x8_1).f0), .int .i64 ((rd_T60 l0 x8_1).f1), .int .i64 0, .int .i64 0, .int .i64 0, .int .i64 0, .int .i64 0, .bool false]) ?_ 2 _ rfl; (with_reducible repeat (first | refine blk_drewN ?_ _ | refine blk_drew ?_ | refine blk_alloc ?_ _)); refine blk_put (cs := #[.int .i64 ((rd_T60 l0 x8_1).f0), .int .i64 0, .int .i64 0, .int .i64 0, .int .i64 0, .int .i64 0, .int .i64 0, .bool false]) ?_ 1 _ rfl; (with_reducible repeat (first | refine blk_drewN ?_ _ | refine blk_drew ?_ | refine blk_alloc ?_ _)); refine blk_put (cs := #[.int .i64 0, .int .i64 0, .int .i64 0, .int .i64 0, .int .i64 0, .int .i64 0, .int .i64 0, .bool false]) ?_ 0 _ rfl; (with_reducible repeat (first | refine blk_drewN ?_ _ | refine blk_drew ?_ | refine blk_alloc ?_ _)); exact BK136.out) k_ hk)); (case aO => exact (by (with_reducible repeat (first | apply Kd.R_alloc | apply Kd.R_drewN | apply Kd.R_drew)); exact Kd.R_mono (Kd.R_far (p := ⟨gb136, 7, none⟩) (Kd.R_far (p := ⟨gb136, 6, none⟩) (Kd.R_far (p := ⟨gb136, 5, none⟩) (Kd.R_far (p := ⟨gb136, 4, none⟩) (Kd.R_far (p := ⟨gb136, 3, none⟩) (Kd.R_far (p := ⟨gb136, 2, none⟩) (Kd.R_far (p := ⟨gb136, 1, none⟩) (Kd.R_far (p := ⟨gb136, 0, none⟩) (Kd.R_mono HO_3.out (fun k_ hk => (⟨hk, hk.2⟩ : _ ∧ k_ ≠ gb136))) (fun _ hk => hk.2) (.int .i64 ((rd_T60 l0 x8_1).f0))) (fun _ hk => hk.2) (.int .i64 ((rd_T60 l0 x8_1).f1))) (fun _ hk => hk.2) (.int .i64 ((rd_T60 l0 x8_1).f2))) (fun _ hk => hk.2) (.int .i64 ((rd_T60 l0 x8_1).f3))) (fun _ hk => hk.2) (.int .i64 ((rd_T60 l0 x8_1).f4))) (fun _ hk => hk.2) (.int .i64 ((rd_T60 l0 x8_1).f5))) (fun _ hk => hk.2) (.int .i64 ((rd_T60 l0 x8_1).f6))) (fun _ hk => hk.2) (.bool ((rd_T60 l0 x8_1).f7))) (fun _ hk => hk.1.2))); (case aS => exact (below_size (by repeat (first | (with_reducible first | exact HB.out | apply below_alloc | apply pw_below_drewN | apply below_drew1 | refine below_set ?_ GE136.out) | exact HB.out)))); (case aL => have := LMc6.out; omega); intro v138 w9 ho hb hg hat; rw [← Ny137.out] at ho; have n0_ := Aside0.mk (blk_grown (g := gb136) (o := .cells #[.int .i64 ((rd_T60 l0 x8_1).f0), .int .i64 ((rd_T60 l0 x8_1).f1), .int .i64 ((rd_T60 l0 x8_1).f2), .int .i64 ((rd_T60 l0 x8_1).f3), .int .i64 ((rd_T60 l0 x8_1).f4), .int .i64 ((rd_T60 l0 x8_1).f5), .int .i64 ((rd_T60 l0 x8_1).f6), .bool ((rd_T60 l0 x8_1).f7)] 60 (0, 0)) (by (with_reducible repeat (first | refine blk_drewN ?_ _ | refine blk_drew ?_ | refine blk_alloc ?_ _)); refine blk_put (cs := #[.int .i64 ((rd_T60 l0 x8_1).f0), .int .i64 ((rd_T60 l0 x8_1).f1), .int .i64 ((rd_T60 l0 x8_1).f2), .int .i64 ((rd_T60 l0 x8_1).f3), .int .i64 ((rd_T60 l0 x8_1).f4), .int .i64 ((rd_T60 l0 x8_1).f5), .int .i64 ((rd_T60 l0 x8_1).f6), .bool false]) ?_ 7 _ rfl; (with_reducible repeat (first | refine blk_drewN ?_ _ | refine blk_drew ?_ | refine blk_alloc ?_ _)); refine blk_put (cs := #[.int .i64 ((rd_T60 l0 x8_1).f0), .int .i64 ((rd_T60 l0 x8_1).f1), .int .i64 ((rd_T60 l0 x8_1).f2), .int .i64 ((rd_T60 l0 x8_1).f3), .int .i64 ((rd_T60 l0 x8_1).f4), .int .i64 ((rd_T60 l0 x8_1).f5), .int .i64 0, .bool false]) ?_ 6 _ rfl; (with_reducible repeat (first | refine blk_drewN ?_ _ | refine blk_drew ?_ | refine blk_alloc ?_ _)); refine blk_put (cs := #[.int .i64 ((rd_T60 l0 x8_1).f0), .int .i64 ((rd_T60 l0 x8_1).f1), .int .i64 ((rd_T60 l0 x8_1).f2), .int .i64 ((rd_T60 l0 x8_1).f3), .int .i64 ((rd_T60 l0 x8_1).f4), .int .i64 0, .int .i64 0, .bool false]) ?_ 5 _ rfl; (with_reducible repeat (first | refine blk_drewN ?_ _ | refine blk_drew ?_ | refine blk_alloc ?_ _)); refine blk_put (cs := #[.int .i64 ((rd_T60 l0 x8_1).f0), .int .i64 ((rd_T60 l0 x8_1).f1), .int .i64 ((rd_T60 l0 x8_1).f2), .int .i64 ((rd_T60 l0 x8_1).f3), .int .i64 0, .int .i64 0, .int .i64 0, .bool false]) ?_ 4 _ rfl; (with_reducible repeat (first | refine blk_drewN ?_ _ | refine blk_drew ?_ | refine blk_alloc ?_ _)); refine blk_put (cs := #[.int .i64 ((rd_T60 l0 x8_1).f0), .int .i64 ((rd_T60 l0 x8_1).f1), .int .i64 ((rd_T60 l0 x8_1).f2), .int .i64 0, .int .i64 0, .int .i64 0, .int .i64 0, .bool false]) ?_ 3 _ rfl; (with_reducible repeat (first | refine blk_drewN ?_ _ | refine blk_drew ?_ | refine blk_alloc ?_ _)); refine blk_put (cs := #[.int .i64 ((rd_T60 l0 x8_1).f0), .int .i64 ((rd_T60 l0 x8_1).f1), .int .i64 0, .int .i64 0, .int .i64 0, .int .i64 0, .int .i64 0, .bool false]) ?_ 2 _ rfl; (with_reducible repeat (first | refine blk_drewN ?_ _ | refine blk_drew ?_ | refine blk_alloc ?_ _)); refine blk_put (cs := #[.int .i64 ((rd_T60 l0 x8_1).f0), .int .i64 0, .int .i64 0, .int .i64 0, .int .i64 0, .int .i64 0, .int .i64 0, .bool false]) ?_ 1 _ rfl; (with_reducible repeat (first | refine blk_drewN ?_ _ | refine blk_drew ?_ | refine blk_alloc ?_ _)); refine blk_put (cs := #[.int .i64 0, .int .i64 0, .int .i64 0, .int .i64 0, .int .i64 0, .int .i64 0, .int .i64 0, .bool false]) ?_ 0 _ rfl; (with_reducible repeat (first | refine blk_drewN ?_ _ | refine blk_drew ?_ | refine blk_alloc ?_ _)); exact BK136.out) hg (Kd.R_away HO_3.out (fun _ hk => hk.2))); have n1_ := Aside0.mk (hb); have n2_ := Aside0.mk (ho); clear BK136; clear HB; clear HO_3; have BK136 := n0_; have HB := n1_; have HO139 := n2_; clear n0_ n1_ n2_; clear ho hb hg hat))
                go_roundg k1
                case measure => have := HK1.out; omega
                case rel => exact ⟨(y137), (wrap64 (x8_1 + 1)), (by first | rfl | (simp; done) | (simp [*]; done)), H', ⟨by have := HK1.out; omega⟩, ⟨by (with_reducible repeat (first | apply Kd.R_alloc | apply Kd.R_drewN | apply Kd.R_drew)); exact Kd.R_mono HO139.out (fun _ hk => trivial)⟩, ⟨by repeat (first | (with_reducible first | exact HB.out | apply below_alloc | apply pw_below_drewN | apply below_drew1 | refine below_set ?_ GE136.out) | exact HB.out)⟩⟩
              · rw [if_neg c6] at H
                exact absurd H (by simp)
            · rw [if_neg c5] at H
              have c5b0 : (((rd_T60 l0 x8_1).f6) == 0) = false := beq_eq_false_iff_ne.mpr c5
              have c5b1 : (((rd_T60 l0 x8_1).f6) != 0) = true := bne_iff_ne.mpr c5
              have H' := Aside0.mk H
              clear H
              have p135 : 0 ≤ (x8_1 : Int) := of_decide_eq_true (by first | (with_reducible assumption) | assumption)
              have q135 : x8_1 < (l0.length : Int) := of_decide_eq_true (by first | (with_reducible assumption) | assumption)
              obtain ⟨ad135, e135, hx135_0, hx135_1, hx135_2, hx135_3, hx135_4, hx135_5, hx135_6, hx135_7⟩ := at_T60 HR0.out x8_1 p135 q135
              cases e135
              replace hx135_0 := (HB.out.cell (World.block_lt_of_cell? w _ hx135_0)).trans hx135_0
              replace hx135_1 := (HB.out.cell (World.block_lt_of_cell? w _ hx135_1)).trans hx135_1
              replace hx135_2 := (HB.out.cell (World.block_lt_of_cell? w _ hx135_2)).trans hx135_2
              replace hx135_3 := (HB.out.cell (World.block_lt_of_cell? w _ hx135_3)).trans hx135_3
              replace hx135_4 := (HB.out.cell (World.block_lt_of_cell? w _ hx135_4)).trans hx135_4
              replace hx135_5 := (HB.out.cell (World.block_lt_of_cell? w _ hx135_5)).trans hx135_5
              replace hx135_6 := (HB.out.cell (World.block_lt_of_cell? w _ hx135_6)).trans hx135_6
              replace hx135_7 := (HB.out.cell (World.block_lt_of_cell? w _ hx135_7)).trans hx135_7
              replace p135 := eq_true p135
              replace q135 := eq_true q135
              go_wp2_with (first | ((with_reducible refine gate_dst (N := 5) rfl ?_); refine box_event ?hg (N := 5) ?hd (cs := #[.int .i64 0, .int .i64 0, .int .i64 0, .int .i64 0, .int .i64 0, .int .i64 0, .int .i64 0, .bool false]) (t := 60) ?hr ?_; (case hd => rfl); (case hg => rfl); (case hr => first | (go_simp; done) | (go_simp; rfl)); intro gb136 hg w10 hbox hb; have n0_ := Aside0.mk (Kd.R_below (Kd.R_elderB (by (with_reducible repeat (first | apply Kd.R_alloc | apply Kd.R_drewN | apply Kd.R_drew)); exact HO_3.out) gb136 (Nat.le_of_eq hg.symm)) hb); have n1_ := Aside0.mk (below_step (by repeat (first | (with_reducible first | exact HB.out | apply below_alloc | apply pw_below_drewN | apply below_drew1) | exact HB.out)) hb); have n2_ := Aside0.mk (hbox); have n3_ := Aside0.mk ((by rw [hg]; exact (below_size (by repeat (first | (with_reducible first | exact HB.out | apply below_alloc | apply pw_below_drewN | apply below_drew1) | exact HB.out))) : w.heap.size ≤ gb136)); have n4_ := Aside0.mk ((by rw [hg]; exact (below_size (by repeat (first | (with_reducible first | exact HB.out | apply below_alloc | apply pw_below_drewN | apply below_drew1) | exact HB.out))) : w.heap.size ≤ gb136)); clear HO_3; clear HB; have HO_3 := n0_; have HB := n1_; have BK136 := n2_; have GW136 := n3_; have GE136 := n4_; clear n0_ n1_ n2_ n3_ n4_; clear hb hbox hg; have hcz11_0 : w10.cell? ⟨gb136, 0, none⟩ = some (.int .i64 0) := (blk_cell BK136.out 0).trans rfl; have hcz11_1 : w10.cell? ⟨gb136, 1, none⟩ = some (.int .i64 0) := (blk_cell BK136.out 1).trans rfl; have hcz11_2 : w10.cell? ⟨gb136, 2, none⟩ = some (.int .i64 0) := (blk_cell BK136.out 2).trans rfl; have hcz11_3 : w10.cell? ⟨gb136, 3, none⟩ = some (.int .i64 0) := (blk_cell BK136.out 3).trans rfl; have hcz11_4 : w10.cell? ⟨gb136, 4, none⟩ = some (.int .i64 0) := (blk_cell BK136.out 4).trans rfl; have hcz11_5 : w10.cell? ⟨gb136, 5, none⟩ = some (.int .i64 0) := (blk_cell BK136.out 5).trans rfl; have hcz11_6 : w10.cell? ⟨gb136, 6, none⟩ = some (.int .i64 0) := (blk_cell BK136.out 6).trans rfl; have hcz11_7 : w10.cell? ⟨gb136, 7, none⟩ = some (.bool false) := (blk_cell BK136.out 7).trans rfl; have hfz11_0 := blk_frozen BK136.out 0; have hfz11_1 := blk_frozen BK136.out 1; have hfz11_2 := blk_frozen BK136.out 2; have hfz11_3 := blk_frozen BK136.out 3; have hfz11_4 := blk_frozen BK136.out 4; have hfz11_5 := blk_frozen BK136.out 5; have hfz11_6 := blk_frozen BK136.out 6; have hfz11_7 := blk_frozen BK136.out 7))
              go_roundg k1
              case measure => have := HK1.out; omega
              case rel => exact ⟨(x3_1), (wrap64 (x8_1 + 1)), (by first | rfl | (simp; done) | (simp [*]; done)), H', ⟨by have := HK1.out; omega⟩, ⟨by (with_reducible repeat (first | apply Kd.R_alloc | apply Kd.R_drewN | apply Kd.R_drew)); exact Kd.R_mono (Kd.R_far (p := ⟨gb136, 7, none⟩) (Kd.R_far (p := ⟨gb136, 6, none⟩) (Kd.R_far (p := ⟨gb136, 5, none⟩) (Kd.R_far (p := ⟨gb136, 4, none⟩) (Kd.R_far (p := ⟨gb136, 3, none⟩) (Kd.R_far (p := ⟨gb136, 2, none⟩) (Kd.R_far (p := ⟨gb136, 1, none⟩) (Kd.R_far (p := ⟨gb136, 0, none⟩) (Kd.R_mono HO_3.out (fun k_ hk => (⟨hk, hk.2⟩ : _ ∧ k_ ≠ gb136))) (fun _ hk => hk.2) (.int .i64 ((rd_T60 l0 x8_1).f0))) (fun _ hk => hk.2) (.int .i64 ((rd_T60 l0 x8_1).f1))) (fun _ hk => hk.2) (.int .i64 ((rd_T60 l0 x8_1).f2))) (fun _ hk => hk.2) (.int .i64 ((rd_T60 l0 x8_1).f3))) (fun _ hk => hk.2) (.int .i64 ((rd_T60 l0 x8_1).f4))) (fun _ hk => hk.2) (.int .i64 ((rd_T60 l0 x8_1).f5))) (fun _ hk => hk.2) (.int .i64 ((rd_T60 l0 x8_1).f6))) (fun _ hk => hk.2) (.bool ((rd_T60 l0 x8_1).f7))) (fun _ hk => trivial)⟩, ⟨by repeat (first | (with_reducible first | exact HB.out | apply below_alloc | apply pw_below_drewN | apply below_drew1 | refine below_set ?_ GE136.out) | exact HB.out)⟩⟩
          · rw [if_neg c4] at H
            exact absurd H (by simp)
        · rw [if_neg c3] at H
          exact absurd H (by simp)
      · rw [if_neg c2] at H
        have c2b0 : decide (x8_1 < (l0.length : Int)) = false := decide_eq_false c2
        clear c2
        obtain rfl := Option.some.inj H
        go_wp2
        go_ret
        exact ⟨_, by first | rfl | (simp [errW_none, errW_some] <;> rfl) | (simp [*, errW_none, errW_some] <;> rfl), by (with_reducible repeat (first | apply Kd.R_alloc | apply Kd.R_drewN | apply Kd.R_drew)); exact HO_3.out, by repeat (first | (with_reducible first | exact HB.out | apply below_alloc | apply pw_below_drewN | apply below_drew1) | exact HB.out)⟩

end Go.Proofs.Ytifogeaamdiciaa.PReu
