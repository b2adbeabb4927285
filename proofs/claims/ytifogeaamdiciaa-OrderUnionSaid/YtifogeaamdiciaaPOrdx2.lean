-- Printed by wip/tools/myprint.py of this repo, over the kit's printer
import Derived.Test.YtifogeaamdiciaaPOrdx0
namespace Go.Proofs.Ytifogeaamdiciaa.POrd
open Go.RowKit Go.Proofs.YtifogeaamdiciaaW.PrintWords Go.Proofs.YtifogeaamdiciaaW.PrintLast Go.Proofs.YtifogeaamdiciaaW.PrintMore
attribute [local go_sem] max2_int min2_int max_two min_two max_three min_three max_four min_four max_five min_five   -- for this text's walks alone
set_option linter.unusedVariables false
set_option linter.unusedSimpArgs false

/-! ### order_met: function 67 (helper) -/
-- OVERRIDE tendril/order.met name=order_met rounds=0 making=1 helper=1 imports=Derived.Test.YtifogeaamdiciaaIMap
set_option maxHeartbeats 8000000 in
set_option maxRecDepth 100000 in
theorem met_calls (A0 : Option Addr) (c0 : Nat) (l0 : List Int) (w : World) (hr0 : Kd.C (Kd.int .i64) w A0 l0.length l0) (hc0 : l0.length ≤ c0) (hl : l0.length ≤ 4611686018427387903) (hwf : ∀ x ∈ l0, (Lit.int .i64 x).wf = true) :
    Calls Try.prog 67 #[.slice A0 l0.length c0] w fun e w' => e = .returned (.map (some w.heap.size)) ∧ IMap.BMap Try.prog 3 4 w' w.heap.size l0.length (fun x => l0.contains x) ∧ Below w.heap.size w w' := by
  have HR0 := Aside0.mk hr0
  have HC0 := Aside0.mk hc0
  have HWF := Aside0.mk hwf
  clear hr0 hc0 hwf
  have hmm := @run_makeMap Try.prog
  have HM0 := Aside0.mk (IMap.BMap.made w Try.prog 3 4)
  have HB0 := Aside0.mk ((Below.refl w.heap.size w).alloc (Nat.le_refl _) (.map #[] 0))
  go_enter Try.func67, Try.ntmps67
  go_wp2
  go_loopg [9] l0.length (fun kq v9 w' => ∃ n : Nat, n ≤ l0.length ∧ Aside0 (n + kq = l0.length) ∧ v9 = .int .i64 n ∧ Aside0 (IMap.BMap Try.prog 3 4 w' w.heap.size n (fun x => (l0.take n).contains x)) ∧ Aside0 (Below w.heap.size w w'))
  case atStart => exact ⟨0, Nat.zero_le _, ⟨by omega⟩, rfl, ⟨by simpa using HM0.out⟩, HB0⟩
  case round =>
    clear hmm
    obtain ⟨n, hn, HK, rfl, HM, HB⟩ := hrel
    by_cases hlt : n < l0.length
    · obtain ⟨ad, ead, x0⟩ := Kd.at_int HR0.out (n : Int) (by omega) (by omega)
      cases ead
      replace x0 := (HB.out.cell (World.block_lt_of_cell? w _ x0)).trans x0
      have hx : rd l0 (n : Int) = l0[n] := by simp [rd, hlt]
      have hwx := HWF.out l0[n] (List.getElem_mem hlt)
      have htk := List.take_succ_eq_append_getElem hlt
      rw [hx] at x0
      simp only [Int.toNat_natCast] at x0
      generalize l0[n] = x at x0 hwx htk
      clear hx
      have HTK := Aside0.mk htk
      have HWX := Aside0.mk hwx
      clear hwx htk
      have hd := HK.out
      obtain ⟨kk, rfl⟩ : ∃ q, gk = q + 1 := ⟨gk - 1, by omega⟩
      go_wp2_with (at_mapUpdate; refine IMap.wpList_put rfl _ _ _ 72 rfl Try.underlying3 Try.underlying4 Try.underlying72 rfl HM.out (by unfold maxLen; omega) x HWX.out rfl rfl ?_; intro w9 hm9 hg9; have HM9 := Aside0.mk hm9; have HB9 := Aside0.mk (HB.out.grown hg9 (below_size HB.out) (fun k e => by cases e; exact Nat.le_refl _)); clear hm9 hg9)
      go_roundg kk
      case measure => omega
      case rel => exact ⟨n + 1, hlt, ⟨by omega⟩, by simp, ⟨by
        have := HM9.out
        have e : (fun x => (l0.take (n + 1)).contains x) = (fun y => y == x || (l0.take n).contains y) := by
          funext y
          rw [HTK.out]
          rw [Bool.eq_iff_iff]
          simp [or_comm]
        rw [e]
        exact this⟩, HB9⟩
    · obtain rfl : n = l0.length := by omega
      go_wp2
      go_ret
      exact ⟨rfl, by simpa using HM.out, HB.out⟩

end Go.Proofs.Ytifogeaamdiciaa.POrd
