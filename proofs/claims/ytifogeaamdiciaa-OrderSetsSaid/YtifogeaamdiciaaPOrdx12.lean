-- Printed by wip/tools/myprint.py of this repo, over the kit's printer
import Derived.Test.YtifogeaamdiciaaPOrdx0
import Derived.Test.YtifogeaamdiciaaPOrdx2
namespace Go.Proofs.Ytifogeaamdiciaa.POrd
open Go.RowKit Go.Proofs.YtifogeaamdiciaaW.PrintWords Go.Proofs.YtifogeaamdiciaaW.PrintLast Go.Proofs.YtifogeaamdiciaaW.PrintMore
attribute [local go_sem] max2_int min2_int max_two min_two max_three min_three max_four min_four max_five min_five   -- for this text's walks alone
set_option linter.unusedVariables false
set_option linter.unusedSimpArgs false

/-! ### order_Within: function 48 (override) -/
-- OVERRIDE tendril/order.Within name=order_Within rounds=0 making=1 imports=Derived.Test.YtifogeaamdiciaaIMap,Derived.Maps.RangeWalk needs=tendril/order.met
open Go.Maps
def order_Within.f (l0 : List Int) (l1 : List Int) : Option (Bool) := if (l0.length ≤ 4611686018427387903 ∧ (∀ x ∈ l0, (Lit.int .i64 x).wf = true)) ∧ l1.length ≤ 4611686018427387903 ∧ (∀ x ∈ l1, (Lit.int .i64 x).wf = true) then some (l0.all (fun x => l1.contains x)) else none
set_option maxHeartbeats 8000000 in
set_option maxRecDepth 100000 in
theorem within_calls (A0 : Option Addr) (c0 : Nat) (l0 : List Int) (A1 : Option Addr) (c1 : Nat) (l1 : List Int) (w : World) (hr0 : Kd.C (Kd.int .i64) w A0 l0.length l0) (hc0 : l0.length ≤ c0) (hr1 : Kd.C (Kd.int .i64) w A1 l1.length l1) (hc1 : l1.length ≤ c1)
    (hl0 : l0.length ≤ 4611686018427387903) (hw0 : ∀ x ∈ l0, (Lit.int .i64 x).wf = true) (hl1 : l1.length ≤ 4611686018427387903) (hw1 : ∀ x ∈ l1, (Lit.int .i64 x).wf = true) :
    Calls Try.prog 48 #[.slice A0 l0.length c0, .slice A1 l1.length c1] w fun e w' => e = .returned (.bool (l0.all (fun x => l1.contains x))) ∧ Below w.heap.size w w' := by
  obtain ⟨R, hR⟩ : ∃ R, l0.all (fun x => l1.contains x) = R := ⟨_, rfl⟩
  rw [hR]
  have HRR := Aside0.mk hR
  clear hR
  have HR0 := Aside0.mk hr0
  have HC0 := Aside0.mk hc0
  have HR1 := Aside0.mk hr1
  have HC1 := Aside0.mk hc1
  have HW0 := Aside0.mk hw0
  have HW1 := Aside0.mk hw1
  clear hr0 hc0 hr1 hc1 hw0 hw1
  go_enter Try.func48, Try.ntmps48
  go_wp2_with fail
  refine (met_calls A1 c1 l1 w HR1.out HC1.out hl1 HW1.out).mono ?_
  rintro e w1 ⟨rfl, hm1, hb1⟩
  have HM1 := Aside0.mk hm1
  have HB1 := Aside0.mk hb1
  clear hm1 hb1
  go_wp2_with fail
  refine (met_calls A0 c0 l0 w1 (Kd.C_below HR0.out HB1.out) HC0.out hl0 HW0.out).mono ?_
  rintro e w2 ⟨rfl, ⟨D, hown, hS⟩, hb2⟩
  have hs1 := HM1.out.lt
  have hs2 := hown.lt
  have hb12 := below_step HB1.out hb2
  go_wp2_with (first | (at_range; refine wpList_range_own _ rfl _ 72 rfl 3 4 (int_keyed Try.underlying3) Try.underlying72 _ w1.heap.size l0.length D rfl hown ?_; intro w3 hrg3 hg3 hs3))
  have HM3 : Aside0 (IMap.BMap Try.prog 3 4 w3 w.heap.size l1.length (fun x => l1.contains x)) := ⟨(HM1.out.below hb2).kept hg3 (by simp)⟩
  have HB3 : Aside0 (Below w.heap.size w w3) := ⟨hb12.grown hg3 (below_size hb12) (by simp)⟩
  have HS := Aside0.mk hS
  have HRG3 := Aside0.mk hrg3
  clear hown hS hb2 hb12 hg3 hrg3 hs3
  go_frame
  go_loopw [13] (fun _ wr => ∃ (left : Lit → Bool) (cnt : Nat), Aside0 (wr.ranges Try.prog 3 (plainElem Try.prog 4) w1.heap.size w2.heap.size l0.length D left cnt) ∧ Aside0 (IMap.BMap Try.prog 3 4 wr w.heap.size l1.length (fun x => l1.contains x)) ∧ Aside0 (Below w.heap.size w wr) ∧ Aside0 (∀ x : Int, has D (.int .i64 x) = true → left (.int .i64 x) = false → l1.contains x = true)) (fun _ wr => wr.rangeLeft w1.heap.size w2.heap.size)
  case atStart => exact ⟨_, _, HRG3, HM3, HB3, ⟨fun x h1 h2 => by rw [h1] at h2; cases h2⟩⟩
  case round =>
    clear HRG3 HM3 HB3
    obtain ⟨left, cnt, HRG, HM, HB, HL⟩ := hrel
    go_wp2_with (first | (at_next; refine IMap.wpList_next rfl _ rfl Try.underlying3 w1.heap.size w2.heap.size l0.length D left cnt rfl HRG.out ?_ ?_))
    · intro hl0'
      have hRt : true = R := by
        rw [← HRR.out]
        symm
        rw [List.all_eq_true]
        intro x hx
        exact HL.out x (by rw [(HS.out x).2, List.contains_iff_mem]; exact hx) (hl0' _)
      have HRT := Aside0.mk hRt
      clear hRt hl0'
      go_wp2
      go_ret
      obtain rfl := HRT.out
      exact ⟨rfl, HB.out⟩
    · intro x v w4 cnt4 hwx hlk hh hrg4 hlt4 hg4 hen
      have HM4 : Aside0 (IMap.BMap Try.prog 3 4 w4 w.heap.size l1.length (fun x => l1.contains x)) := ⟨HM.out.kept hg4 (by simp; omega)⟩
      have HB4 : Aside0 (Below w.heap.size w w4) := ⟨HB.out.grown hg4 (below_size HB.out) (fun k e => by cases e; omega)⟩
      have hhas : l0.contains x = true := by rw [← (HS.out x).2]; exact hh
      have hlook := HM4.out.lookup Try.underlying3 Try.underlying4 Try.underlying72 (Try.zeroValue4 w4) x hwx
      have HRG4 := Aside0.mk hrg4
      have HH := Aside0.mk hhas
      clear hrg4 hh hhas hlk hg4
      cases hc : l1.contains x with
      | true =>
        rw [hc] at hlook
        have HC := Aside0.mk hc
        clear hc
        go_wp2
        go_roundw
        case rel => exact ⟨_, cnt4, HRG4, HM4, HB4, ⟨fun z h1 h2 => by
          by_cases e : z = x
          · rw [e]; exact HC.out
          · refine HL.out z h1 ?_
            simpa [Lit.sameKey, e] using h2⟩⟩
        case measure => rw [HRG4.out.left_eq, HRG.out.left_eq]; exact hlt4
      | false =>
        rw [hc] at hlook
        have hRf : false = R := by
          rw [← HRR.out]
          symm
          rw [Bool.eq_false_iff, ne_eq, List.all_eq_true]
          intro hall
          have := hall x (List.contains_iff_mem.1 HH.out)
          rw [hc] at this
          cases this
        have HRF := Aside0.mk hRf
        clear hRf hc
        go_wp2
        go_ret
        obtain rfl := HRF.out
        exact ⟨rfl, HB4.out⟩
theorem order_Within.calls (A0 : Option Addr) (c0 : Nat) (l0 : List Int) (A1 : Option Addr) (c1 : Nat) (l1 : List Int) (r : Bool) (w : World) (hr0 : Kd.C (Kd.int .i64) w A0 l0.length l0) (hc0 : l0.length ≤ c0) (hr1 : Kd.C (Kd.int .i64) w A1 l1.length l1) (hc1 : l1.length ≤ c1) (h : order_Within.f l0 l1 = some r) :
    Calls Try.prog 48 #[.slice A0 l0.length c0, .slice A1 l1.length c1] w fun e w' => e = .returned (.bool r) ∧ Below w.heap.size w w' := by
  unfold order_Within.f at h
  split at h
  · rename_i hh
    obtain rfl := Option.some.inj h
    exact within_calls A0 c0 l0 A1 c1 l1 w hr0 hc0 hr1 hc1 hh.1.1 hh.1.2 hh.2.1 hh.2.2
  · cases h

end Go.Proofs.Ytifogeaamdiciaa.POrd
