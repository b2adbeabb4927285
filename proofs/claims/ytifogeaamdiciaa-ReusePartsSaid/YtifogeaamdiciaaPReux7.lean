-- Printed by wip/tools/myprint.py of this repo, over the kit's printer
import Derived.Test.YtifogeaamdiciaaPReux0
namespace Go.Proofs.Ytifogeaamdiciaa.PReu
open Go.RowKit Go.Proofs.YtifogeaamdiciaaW.PrintWords Go.Proofs.YtifogeaamdiciaaW.PrintLast Go.Proofs.YtifogeaamdiciaaW.PrintMore
attribute [local go_sem] max2_int min2_int max_two min_two max_three min_three max_four min_four max_five min_five   -- for this text's walks alone
set_option linter.unusedVariables false
set_option linter.unusedSimpArgs false

/-! ### reuse_Twice: function 38 (override) -/
-- OVERRIDE tendril/reuse.Twice name=reuse_Twice rounds=0 making=1 imports=Derived.Test.YtifogeaamdiciaaIMap
def twiceL : List Int → List Int → Bool
  | _, [] => false
  | s, x :: r => s.contains x || twiceL (s ++ [x]) r
def reuse_Twice.f (l0 : List Int) : Option (Bool) := if l0.length ≤ 4611686018427387903 ∧ (∀ x ∈ l0, (Lit.int .i64 x).wf = true) then some (twiceL [] l0) else none
set_option maxHeartbeats 8000000 in
set_option maxRecDepth 100000 in
theorem twice_calls (A0 : Option Addr) (c0 : Nat) (l0 : List Int) (w : World) (hr0 : Kd.C (Kd.int .i64) w A0 l0.length l0) (hc0 : l0.length ≤ c0) (hl : l0.length ≤ 4611686018427387903) (hwf : ∀ x ∈ l0, (Lit.int .i64 x).wf = true) :
    Calls Try.prog 38 #[.slice A0 l0.length c0] w fun e w' => e = .returned (.bool (twiceL [] l0)) ∧ Below w.heap.size w w' := by
  obtain ⟨R, hR⟩ : ∃ R, twiceL [] l0 = R := ⟨_, rfl⟩
  rw [hR]
  have HRR := Aside0.mk hR
  clear hR
  have HR0 := Aside0.mk hr0
  have HC0 := Aside0.mk hc0
  have HWF := Aside0.mk hwf
  clear hr0 hc0 hwf
  have HB := Aside0.mk (Below.refl w.heap.size w)
  have hmm := @run_makeMap Try.prog
  have HM0 := Aside0.mk (IMap.BMap.made w Try.prog 3 4)
  have HB0 := Aside0.mk ((Below.refl w.heap.size w).alloc (Nat.le_refl _) (.map #[] 0))
  go_enter Try.func38, Try.ntmps38
  go_wp2
  go_loopg [9] l0.length (fun kq v8 w' => ∃ n : Nat, n ≤ l0.length ∧ Aside0 (n + kq = l0.length) ∧ v8 = .int .i64 n ∧ Aside0 (IMap.BMap Try.prog 3 4 w' w.heap.size n (fun x => (l0.take n).contains x)) ∧ Aside0 (twiceL (l0.take n) (l0.drop n) = R) ∧ Aside0 (Below w.heap.size w w'))
  case atStart => exact ⟨0, Nat.zero_le _, ⟨by omega⟩, rfl, ⟨by simpa using HM0.out⟩, HRR, HB0⟩
  case round =>
    clear hmm
    obtain ⟨n, hn, HK, rfl, HM, HT, HB⟩ := hrel
    by_cases hlt : n < l0.length
    · obtain ⟨ad, ead, x0⟩ := Kd.at_int HR0.out (n : Int) (by omega) (by omega)
      cases ead
      replace x0 := (HB.out.cell (World.block_lt_of_cell? w _ x0)).trans x0
      have hx : rd l0 (n : Int) = l0[n] := by simp [rd, hlt]
      have hwx := HWF.out l0[n] (List.getElem_mem hlt)
      have hd := HT.out
      rw [List.drop_eq_getElem_cons hlt, twiceL, ← List.take_succ_eq_append_getElem hlt] at hd
      have htk := List.take_succ_eq_append_getElem hlt
      rw [hx] at x0
      simp only [Int.toNat_natCast] at x0
      generalize l0[n] = x at x0 hwx hd htk
      clear hx
      have HTK := Aside0.mk htk
      have hlook := HM.out.lookup Try.underlying3 Try.underlying4 Try.underlying72 (Try.zeroValue4 wr) x hwx
      have HWX := Aside0.mk hwx
      clear hwx htk
      cases hc : (l0.take n).contains x with
      | true =>
        rw [hc] at hd hlook
        rw [Bool.true_or] at hd
        have HD := Aside0.mk hd
        clear hd hc
        go_wp2
        go_ret
        obtain rfl : R = true := HD.out.symm
        exact ⟨rfl, HB.out⟩
      | false =>
        rw [hc] at hd hlook
        rw [Bool.false_or] at hd
        have HD := Aside0.mk hd
        clear hd hc
        have hd := HK.out
        obtain ⟨kk, rfl⟩ : ∃ q, gk = q + 1 := ⟨gk - 1, by omega⟩
        go_wp2_with (at_mapUpdate; refine IMap.wpList_put rfl _ _ _ 72 rfl Try.underlying3 Try.underlying4 Try.underlying72 rfl HM.out (by unfold maxLen; omega) x HWX.out rfl rfl ?_; intro w9 hm9 hg9; have HM9 := Aside0.mk hm9; have HB9 := Aside0.mk (HB.out.grown hg9 (below_size HB.out) (fun k e => by cases e; exact Nat.le_refl _)); clear hm9 hg9)
        go_roundg kk
        case measure => omega
        case rel => exact ⟨n + 1, hlt, ⟨by omega⟩, by simp, ⟨by
          have := HM9.out
          have e : (fun x => (l0.take (n + 1)).contains x) = (fun y => y == x || (l0.take n).contains y) := by
            funext y
            rw [HTK.out]
            rw [Bool.eq_iff_iff]
            simp [or_comm]
          rw [e]
          exact this⟩, HD, HB9⟩
    · obtain rfl : n = l0.length := by omega
      have hd := HT.out
      rw [List.drop_length, twiceL] at hd
      have HD := Aside0.mk hd
      clear hd
      go_wp2
      go_ret
      obtain rfl : R = false := HD.out.symm
      exact ⟨rfl, HB.out⟩
theorem reuse_Twice.calls (A0 : Option Addr) (c0 : Nat) (l0 : List Int) (r : Bool) (w : World) (hr0 : Kd.C (Kd.int .i64) w A0 l0.length l0) (hc0 : l0.length ≤ c0) (h : reuse_Twice.f l0 = some r) :
    Calls Try.prog 38 #[.slice A0 l0.length c0] w fun e w' => e = .returned (.bool r) ∧ Below w.heap.size w w' := by
  unfold reuse_Twice.f at h
  split at h
  · rename_i hh
    obtain rfl := Option.some.inj h
    exact twice_calls A0 c0 l0 w hr0 hc0 hh.1 hh.2
  · cases h

end Go.Proofs.Ytifogeaamdiciaa.PReu
