-- Printed by wip/tools/myprint.py of this repo, over the kit's printer
import Derived.Test.YtifogeaamdiciaaPBndx0
import Derived.Test.YtifogeaamdiciaaPBndx7
namespace Go.Proofs.Ytifogeaamdiciaa.PBnd
open Go.RowKit Go.Proofs.YtifogeaamdiciaaW.PrintWords Go.Proofs.YtifogeaamdiciaaW.PrintLast Go.Proofs.YtifogeaamdiciaaW.PrintMore
attribute [local go_sem] max2_int min2_int max_two min_two max_three min_three max_four min_four max_five min_five   -- for this text's walks alone
set_option linter.unusedVariables false
set_option linter.unusedSimpArgs false

/-! ### tendrilref20_Fair: function 22 -/
mutual
def tendrilref20_Fair.l0 : Nat → List Int → Int → Int → Option (Int)
  | 0, _, _, _ => none
  | k + 1, x0, x1, x5 => if x1 = 0 then (none) else (if x5 < (wrap64 ((x0.length : Int) / x1)) then (tendrilref20_Fair.l1 k x0 x1 x5 x1 0) else (some x5))
def tendrilref20_Fair.l1 : Nat → List Int → Int → Int → Int → Int → Option (Int)
  | 0, _, _, _, _, _ => none
  | k + 1, x0, x1, x5, x15, x16 => if x16 < x15 then (if 0 ≤ (wrap64 (x5 * x1)) then (if (wrap64 (x5 * x1)) ≤ (wrap64 ((wrap64 (x5 * x1)) + x1)) then (if (wrap64 ((wrap64 (x5 * x1)) + x1)) ≤ (x0.length : Int) then ((tendrilref09_Has.f k ((x0.take ((wrap64 ((wrap64 (x5 * x1)) + x1)) : Int).toNat).drop ((wrap64 (x5 * x1)) : Int).toNat) x16).bind fun t163 => (if t163 = true then (tendrilref20_Fair.l1 k x0 x1 x5 x15 (wrap64 (x16 + 1))) else (some x5))) else (none)) else (none)) else (none)) else (tendrilref20_Fair.l0 k x0 x1 (wrap64 (x5 + 1)))
end
def tendrilref20_Fair.f (k : Nat) (l0 : List Int) (a1 : Int) : Option (Int) := if a1 < 1 then (some 0) else (tendrilref20_Fair.l0 k l0 a1 0)
theorem tendrilref20_Fair.mono_l : ∀ k, (∀ y0 y1 y2, LeO (tendrilref20_Fair.l0 k y0 y1 y2) (tendrilref20_Fair.l0 (k + 1) y0 y1 y2)) ∧ (∀ y0 y1 y2 y3 y4, LeO (tendrilref20_Fair.l1 k y0 y1 y2 y3 y4) (tendrilref20_Fair.l1 (k + 1) y0 y1 y2 y3 y4))
  | 0 => ⟨fun _ _ _ r h => by simp [tendrilref20_Fair.l0] at h, fun _ _ _ _ _ r h => by simp [tendrilref20_Fair.l1] at h⟩
  | k + 1 => by
    obtain ⟨ih0, ih1⟩ := tendrilref20_Fair.mono_l k
    refine ⟨?_, ?_⟩
    · intro y0 y1 y2
      unfold tendrilref20_Fair.l0
      repeat' first
      | (with_reducible exact ih0 _ _ _)
      | (with_reducible exact ih1 _ _ _ _ _)
      | (with_reducible exact tendrilref09_Has.mono _ _ _)
      | (with_reducible exact LeO.refl _)
      | (with_reducible exact LeO.none _)
      | (with_reducible refine LeO.ite ?_ ?_)
      | (with_reducible refine LeO.bind ?_ (fun _ => ?_))
      | exact ih0 _ _ _
      | exact ih1 _ _ _ _ _
      | exact tendrilref09_Has.mono _ _ _
      | exact LeO.none _
      | refine LeO.ite ?_ ?_
      | refine LeO.bind ?_ (fun _ => ?_)
    · intro y0 y1 y2 y3 y4
      unfold tendrilref20_Fair.l1
      repeat' first
      | (with_reducible exact ih0 _ _ _)
      | (with_reducible exact ih1 _ _ _ _ _)
      | (with_reducible exact tendrilref09_Has.mono _ _ _)
      | (with_reducible exact LeO.refl _)
      | (with_reducible exact LeO.none _)
      | (with_reducible refine LeO.ite ?_ ?_)
      | (with_reducible refine LeO.bind ?_ (fun _ => ?_))
      | exact ih0 _ _ _
      | exact ih1 _ _ _ _ _
      | exact tendrilref09_Has.mono _ _ _
      | exact LeO.none _
      | refine LeO.ite ?_ ?_
      | refine LeO.bind ?_ (fun _ => ?_)
theorem tendrilref20_Fair.mono : ∀ a0 a1 k, LeO (tendrilref20_Fair.f k a0 a1) (tendrilref20_Fair.f (k + 1) a0 a1) := by
  intro a0 a1 k
  obtain ⟨ih0, ih1⟩ := tendrilref20_Fair.mono_l k
  unfold tendrilref20_Fair.f
  repeat' first
      | (with_reducible exact ih0 _ _ _)
      | (with_reducible exact ih1 _ _ _ _ _)
      | (with_reducible exact tendrilref09_Has.mono _ _ _)
      | (with_reducible exact LeO.refl _)
      | (with_reducible exact LeO.none _)
      | (with_reducible refine LeO.ite ?_ ?_)
      | (with_reducible refine LeO.bind ?_ (fun _ => ?_))
      | exact ih0 _ _ _
      | exact ih1 _ _ _ _ _
      | exact tendrilref09_Has.mono _ _ _
      | exact LeO.none _
      | refine LeO.ite ?_ ?_
      | refine LeO.bind ?_ (fun _ => ?_)
set_option maxHeartbeats 8000000 in
set_option maxRecDepth 100000 in
theorem tendrilref20_Fair.calls (k : Nat) (A0 : Option Addr) (c0 : Nat) (l0 : List Int) (a1 : Int) (r : Int) (w : World) (hr0 : Kd.C (Kd.int .i64) w A0 l0.length l0) (hc0 : l0.length ≤ c0) (h : tendrilref20_Fair.f k l0 a1 = some r) :
    Calls Try.prog 22 #[.slice A0 l0.length c0, .int .i64 a1] w fun e w' => e = .returned (.int .i64 r) ∧ Drawn0 w w' := by
  have HR0 := Aside0.mk hr0
  have HC0 := Aside0.mk hc0
  clear hr0 hc0
  have H : (if a1 < 1 then (some 0) else (tendrilref20_Fair.l0 k l0 a1 0)) = some r := h
  clear h
  by_cases c3 : a1 < 1
  · rw [if_pos c3] at H
    have c3b0 : decide (a1 < 1) = true := decide_eq_true c3
    clear c3
    obtain rfl := Option.some.inj H
    go_enter Try.func22, Try.ntmps22
    go_wp2
    go_ret
    exact ⟨by first | rfl | (simp; done) | (simp [*]; done), by repeat (first | exact Drawn0.refl _ | apply Drawn0.step)⟩
  · rw [if_neg c3] at H
    have c3b0 : decide (a1 < 1) = false := decide_eq_false c3
    clear c3
    have H' := Aside0.mk H
    clear H
    go_enter Try.func22, Try.ntmps22
    go_wp2
    go_loopg [5] k (fun kq v5 w' => ∃ (x5_1 : Int), v5 = .int .i64 x5_1 ∧ Aside0 (tendrilref20_Fair.l0 kq l0 a1 x5_1 = some r) ∧ Aside0 (kq ≤ k) ∧ Drawn0 w w')
    case atStart => exact ⟨(0), (by first | rfl | (simp; done) | (simp [*]; done)), H', ⟨Nat.le_refl _⟩, by repeat (first | exact Drawn0.refl _ | apply Drawn0.step)⟩
    case round =>
      clear H'
      try clear c2
      try clear p2
      try clear c3
      try clear c3b0
      obtain ⟨x5_1, rfl, HA, HK1, ⟨m1, rfl⟩⟩ := hrel
      cases gk with
      | zero => exact absurd HA.out (by simp [tendrilref20_Fair.l0])
      | succ k1 =>
        have H := HA.out
        clear HA
        simp only [tendrilref20_Fair.l0] at H
        by_cases c4 : a1 = 0
        · rw [if_pos c4] at H
          exact absurd H (by simp)
        · rw [if_neg c4] at H
          have c4b0 : (a1 == 0) = false := beq_eq_false_iff_ne.mpr c4
          have c4b1 : (a1 != 0) = true := bne_iff_ne.mpr c4
          by_cases c5 : x5_1 < (wrap64 ((l0.length : Int) / a1))
          · rw [if_pos c5] at H
            have c5b0 : decide (x5_1 < (wrap64 ((l0.length : Int) / a1))) = true := decide_eq_true c5
            clear c5
            have H' := Aside0.mk H
            clear H
            go_wp2
            go_loopg [16] k1 (fun kq v16 w' => ∃ (x16_2 : Int), v16 = .int .i64 x16_2 ∧ Aside0 (tendrilref20_Fair.l1 kq l0 a1 x5_1 a1 x16_2 = some r) ∧ Aside0 (kq ≤ k1) ∧ Drawn0 w w')
            case atStart => exact ⟨(0), (by first | rfl | (simp; done) | (simp [*]; done)), H', ⟨Nat.le_refl _⟩, by repeat (first | exact Drawn0.refl _ | apply Drawn0.step)⟩
            case round =>
              clear H'
              try clear c2
              try clear p2
              try clear c3
              try clear c3b0
              try clear c4
              try clear c4b0
              try clear c4b1
              try clear c5
              try clear c5b0
              try clear p2
              obtain ⟨x16_2, rfl, HA, HK2, ⟨m2, rfl⟩⟩ := hrel
              cases gk with
              | zero => exact absurd HA.out (by simp [tendrilref20_Fair.l1])
              | succ k2 =>
                have H := HA.out
                clear HA
                simp only [tendrilref20_Fair.l1] at H
                by_cases c6 : x16_2 < a1
                · rw [if_pos c6] at H
                  have c6b0 : decide (x16_2 < a1) = true := decide_eq_true c6
                  clear c6
                  obtain ⟨ji7, hji7⟩ : ∃ j_ : Int, (wrap64 (x5_1 * a1)) = j_ := ⟨_, rfl⟩
                  replace H : (if 0 ≤ (ji7) then (if (ji7) ≤ (wrap64 ((ji7) + a1)) then (if (wrap64 ((ji7) + a1)) ≤ (l0.length : Int) then ((tendrilref09_Has.f k2 ((l0.take ((wrap64 ((ji7) + a1)) : Int).toNat).drop ((ji7) : Int).toNat) x16_2).bind fun t163 => (if t163 = true then (tendrilref20_Fair.l1 k2 l0 a1 x5_1 a1 (wrap64 (x16_2 + 1))) else (some x5_1))) else (none)) else (none)) else (none)) = some r := by first | (rw [hji7] at H; exact H) | (simp only [hji7] at H ⊢; exact H)
                  have hji7w : (IntKind.i64.wrap (x5_1 * a1)) = ji7 := (i64_w _).trans hji7
                  by_cases c8 : 0 ≤ (ji7)
                  · rw [if_pos c8] at H
                    have c8b0 := eq_true c8
                    have c8b1 : decide (0 ≤ (ji7)) = true := decide_eq_true c8
                    clear c8
                    by_cases c9 : (ji7) ≤ (wrap64 ((ji7) + a1))
                    · rw [if_pos c9] at H
                      have c9b0 := eq_true c9
                      have c9b1 : decide ((ji7) ≤ (wrap64 ((ji7) + a1))) = true := decide_eq_true c9
                      by_cases c10 : (wrap64 ((ji7) + a1)) ≤ (l0.length : Int)
                      · rw [if_pos c10] at H
                        have c10b0 := eq_true c10
                        have c10b1 : decide ((wrap64 ((ji7) + a1)) ≤ (l0.length : Int)) = true := decide_eq_true c10
                        replace H := Option.bind_eq_some_iff.mp H
                        obtain ⟨t163, A110, H⟩ := H
                        replace H : (if t163 = true then (tendrilref20_Fair.l1 k2 l0 a1 x5_1 a1 (wrap64 (x16_2 + 1))) else (some x5_1)) = some r := H
                        have A11 := Aside0.mk A110
                        clear A110
                        by_cases c12 : t163 = true
                        · subst c12
                          have H1 : (tendrilref20_Fair.l1 k2 l0 a1 x5_1 a1 (wrap64 (x16_2 + 1))) = some r := by rw [if_pos rfl] at H; exact H
                          clear H
                          have H := H1
                          clear H1
                          have H' := Aside0.mk H
                          clear H
                          obtain ⟨i013, hi013, _, hsz13, _⟩ := info_parts info3
                          obtain ⟨A13, hcut13, hA13, hC13⟩ := print_mid_of (P := Try.prog) (Value.int .i64) 0 22 3 .i64 .i64 Try.underlying22 hi013 hsz13 A0 c0 l0 (ji7) (wrap64 ((ji7) + a1)) (of_decide_eq_true (by first | (with_reducible assumption) | assumption)) (by first | omega | exact of_decide_eq_true (by first | (with_reducible assumption) | assumption)) (of_decide_eq_true (by first | (with_reducible assumption) | assumption)) HC0.out
                          have HR162 := Aside0.mk (Kd.C_of_reads (h1 := fun _ => rfl) (hA13 _ (Kd.reads_of_C HR0.out)))
                          have HC162 := Aside0.mk hC13
                          clear hA13 hC13 hi013 hsz13
                          go_wp2_with (first | ((with_reducible refine gate_callee (f := 50) rfl ?_); refine goesL_ (some 30) rfl rfl Try.func50 (by kernel_rfl) rfl #[.slice A13 ((l0.take ((wrap64 ((ji7) + a1)) : Int).toNat).drop ((ji7) : Int).toNat).length (c0 - (ji7).toNat), .int .i64 x16_2] rfl (by (try simp only [List.map_toArray, List.map_cons, List.map_nil]); first | done | (rw [show ((l0.take ((wrap64 ((ji7) + a1)) : Int).toNat).drop ((ji7) : Int).toNat).length = ((wrap64 ((ji7) + a1)).toNat - (ji7).toNat) from (by rw [List.length_drop, List.length_take]; have h_ : ((wrap64 ((ji7) + a1)) : Int) ≤ (l0.length : Int) := of_decide_eq_true (by first | (with_reducible assumption) | assumption); omega)] <;> rfl) | (simp only [hji7]; rfl) | rfl | (simp only [List.length_drop, List.length_take]; rfl)) ?_; (with_reducible refine (tendrilref09_Has.calls k2 _ _ ((l0.take ((wrap64 ((ji7) + a1)) : Int).toNat).drop ((ji7) : Int).toNat) x16_2 true _ ?side1 ?side2 A11.out).mono ?_); (case side1 => repeat (first | exact HR162.out | (with_reducible refine Kd.C_alloc ?_ _) | (with_reducible refine Kd.C_drewN ?_ _) | (with_reducible refine Kd.C_drew ?_))); (case side2 => exact HC162.out); rintro e w' ⟨rfl, ⟨nd, rfl⟩⟩; refine ⟨_, rfl, ?_⟩))
                          go_roundg k2
                          case measure => have := HK1.out; have := HK2.out; omega
                          case rel => exact ⟨(wrap64 (x16_2 + 1)), (by first | rfl | (simp; done) | (simp [*]; done)), H', ⟨by have := HK1.out; have := HK2.out; omega⟩, by repeat (first | exact Drawn0.refl _ | apply Drawn0.step)⟩
                        · replace c12 := Bool.eq_false_iff.mpr c12
                          subst c12
                          have H1 : (some x5_1) = some r := by rw [if_neg (show ¬ (false = true) by decide)] at H; exact H
                          clear H
                          have H := H1
                          clear H1
                          obtain rfl := Option.some.inj H
                          obtain ⟨i014, hi014, _, hsz14, _⟩ := info_parts info3
                          obtain ⟨A14, hcut14, hA14, hC14⟩ := print_mid_of (P := Try.prog) (Value.int .i64) 0 22 3 .i64 .i64 Try.underlying22 hi014 hsz14 A0 c0 l0 (ji7) (wrap64 ((ji7) + a1)) (of_decide_eq_true (by first | (with_reducible assumption) | assumption)) (by first | omega | exact of_decide_eq_true (by first | (with_reducible assumption) | assumption)) (of_decide_eq_true (by first | (with_reducible assumption) | assumption)) HC0.out
                          have HR162 := Aside0.mk (Kd.C_of_reads (h1 := fun _ => rfl) (hA14 _ (Kd.reads_of_C HR0.out)))
                          have HC162 := Aside0.mk hC14
                          clear hA14 hC14 hi014 hsz14
                          go_wp2_with (first | ((with_reducible refine gate_callee (f := 50) rfl ?_); refine goesL_ (some 30) rfl rfl Try.func50 (by kernel_rfl) rfl #[.slice A14 ((l0.take ((wrap64 ((ji7) + a1)) : Int).toNat).drop ((ji7) : Int).toNat).length (c0 - (ji7).toNat), .int .i64 x16_2] rfl (by (try simp only [List.map_toArray, List.map_cons, List.map_nil]); first | done | (rw [show ((l0.take ((wrap64 ((ji7) + a1)) : Int).toNat).drop ((ji7) : Int).toNat).length = ((wrap64 ((ji7) + a1)).toNat - (ji7).toNat) from (by rw [List.length_drop, List.length_take]; have h_ : ((wrap64 ((ji7) + a1)) : Int) ≤ (l0.length : Int) := of_decide_eq_true (by first | (with_reducible assumption) | assumption); omega)] <;> rfl) | (simp only [hji7]; rfl) | rfl | (simp only [List.length_drop, List.length_take]; rfl)) ?_; (with_reducible refine (tendrilref09_Has.calls k2 _ _ ((l0.take ((wrap64 ((ji7) + a1)) : Int).toNat).drop ((ji7) : Int).toNat) x16_2 false _ ?side1 ?side2 A11.out).mono ?_); (case side1 => repeat (first | exact HR162.out | (with_reducible refine Kd.C_alloc ?_ _) | (with_reducible refine Kd.C_drewN ?_ _) | (with_reducible refine Kd.C_drew ?_))); (case side2 => exact HC162.out); rintro e w' ⟨rfl, ⟨nd, rfl⟩⟩; refine ⟨_, rfl, ?_⟩))
                          go_ret
                          exact ⟨by first | rfl | (simp; done) | (simp only [← hji7] <;> (first | rfl | simp)) | (simp [*]; done), by repeat (first | exact Drawn0.refl _ | apply Drawn0.step)⟩
                      · rw [if_neg c10] at H
                        exact absurd H (by simp)
                    · rw [if_neg c9] at H
                      exact absurd H (by simp)
                  · rw [if_neg c8] at H
                    exact absurd H (by simp)
                · rw [if_neg c6] at H
                  have c6b0 : decide (x16_2 < a1) = false := decide_eq_false c6
                  clear c6
                  have H' := Aside0.mk H
                  clear H
                  go_wp2
                  go_roundg k2
                  case measure => have := HK1.out; have := HK2.out; omega
                  case rel => exact ⟨(wrap64 (x5_1 + 1)), (by first | rfl | (simp; done) | (simp [*]; done)), H', ⟨by have := HK1.out; have := HK2.out; omega⟩, by repeat (first | exact Drawn0.refl _ | apply Drawn0.step)⟩
          · rw [if_neg c5] at H
            have c5b0 : decide (x5_1 < (wrap64 ((l0.length : Int) / a1))) = false := decide_eq_false c5
            clear c5
            obtain rfl := Option.some.inj H
            go_wp2
            go_ret
            exact ⟨by first | rfl | (simp; done) | (simp [*]; done), by repeat (first | exact Drawn0.refl _ | apply Drawn0.step)⟩

end Go.Proofs.Ytifogeaamdiciaa.PBnd
