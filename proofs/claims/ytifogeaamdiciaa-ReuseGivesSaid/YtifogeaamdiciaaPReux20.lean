-- Printed by wip/tools/myprint.py of this repo, over the kit's printer
import Derived.Test.YtifogeaamdiciaaPReux0
import Derived.Test.YtifogeaamdiciaaPReux7
namespace Go.Proofs.Ytifogeaamdiciaa.PReu
open Go.RowKit Go.Proofs.YtifogeaamdiciaaW.PrintWords Go.Proofs.YtifogeaamdiciaaW.PrintLast Go.Proofs.YtifogeaamdiciaaW.PrintMore
attribute [local go_sem] max2_int min2_int max_two min_two max_three min_three max_four min_four max_five min_five   -- for this text's walks alone
set_option linter.unusedVariables false
set_option linter.unusedSimpArgs false

/-! ### tendrilref23_Twice: function 39 (override) -/
-- OVERRIDE tendril/tendrilref23.Twice name=tendrilref23_Twice rounds=0 making=0 needs=tendril/reuse.Twice
def tendrilref23_Twice.f (l0 : List Int) : Option (Bool) := if l0.length ≤ 4611686018427387903 then some (twiceL [] l0) else none
set_option maxHeartbeats 8000000 in
set_option maxRecDepth 100000 in
theorem refTwice_calls (A0 : Option Addr) (c0 : Nat) (l0 : List Int) (w : World) (hr0 : Kd.C (Kd.int .i64) w A0 l0.length l0) (hc0 : l0.length ≤ c0) (hl : l0.length ≤ 4611686018427387903) :
    Calls Try.prog 39 #[.slice A0 l0.length c0] w fun e w' => e = .returned (.bool (twiceL [] l0)) ∧ Drawn0 w w' := by
  obtain ⟨R, hR⟩ : ∃ R, twiceL [] l0 = R := ⟨_, rfl⟩
  rw [hR]
  have HRR := Aside0.mk hR
  clear hR
  have HR0 := Aside0.mk hr0
  have HC0 := Aside0.mk hc0
  clear hr0 hc0
  go_enter Try.func39, Try.ntmps39
  go_wp2
  go_loopg [9] l0.length (fun kq v9 w' => ∃ n : Nat, n ≤ l0.length ∧ Aside0 (n + kq = l0.length) ∧ v9 = .int .i64 n ∧ Aside0 (twiceL (l0.take n) (l0.drop n) = R) ∧ Drawn0 w w')
  case atStart => exact ⟨0, Nat.zero_le _, ⟨by omega⟩, rfl, HRR, by repeat (first | exact Drawn0.refl _ | apply Drawn0.step)⟩
  case round =>
    clear HRR
    obtain ⟨n, hn, HK, rfl, HT, ⟨m1, rfl⟩⟩ := hrel
    by_cases hlt : n < l0.length
    · obtain ⟨ad, ead, x0⟩ := Kd.at_int HR0.out (n : Int) (by omega) (by omega)
      cases ead
      have hx : rd l0 (n : Int) = l0[n] := by simp [rd, hlt]
      obtain ⟨i07, hi07, _, hsz7, _⟩ := info_parts info3
      obtain ⟨hcut7, hA7, hC7⟩ := print_take_of (P := Try.prog) (Value.int .i64) 0 22 3 .i64 Try.underlying22 hi07 hsz7 (some ad) c0 l0 (n : Int) (by omega) (by omega) HC0.out
      have hlen : (l0.take n).length = n := by rw [List.length_take]; omega
      rw [Int.toNat_natCast, hlen] at hcut7
      have HR2 := Kd.C_of_reads (h1 := fun _ => rfl) (hA7 _ (Kd.reads_of_C HR0.out))
      rw [Int.toNat_natCast, hlen] at HR2
      have HR2 := Aside0.mk HR2
      clear hA7 hC7 hi07 hsz7
      have hd := HT.out
      rw [List.drop_eq_getElem_cons hlt, twiceL, ← List.take_succ_eq_append_getElem hlt] at hd
      rw [hx] at x0
      simp only [Int.toNat_natCast] at x0
      have HD := Aside0.mk hd
      clear hd
      go_wp2
      go_loopg [18] n (fun kq v18 w' => ∃ j : Nat, j ≤ n ∧ Aside0 (j + kq = n) ∧ v18 = .int .i64 j ∧ Aside0 (∀ i, i < j → ∀ h : i < l0.length, l0[n] ≠ l0[i]) ∧ Drawn0 w w')
      case atStart => exact ⟨0, Nat.zero_le _, ⟨by omega⟩, rfl, ⟨by intro i hi; omega⟩, by repeat (first | exact Drawn0.refl _ | apply Drawn0.step)⟩
      case round =>
        obtain ⟨j, hj, HK2, rfl, HN, ⟨m2, rfl⟩⟩ := hrel
        by_cases hjl : j < n
        · obtain ⟨ad2, ead2, y0⟩ := Kd.at_int HR2.out (j : Int) (by omega) (by omega)
          cases ead2
          have hy : rd (l0.take n) (j : Int) = l0[j] := by simp [rd, hlen, hjl, Nat.lt_trans hjl hlt]
          rw [hy] at y0
          simp only [Int.toNat_natCast] at y0
          by_cases e : l0[n] = l0[j]
          · have eb : (l0[n] == l0[j]) = true := beq_iff_eq.mpr e
            have hR : true = R := by
              have := HD.out
              have hc : (l0.take n).contains l0[n] = true := by
                rw [List.contains_iff_mem, e]
                exact List.mem_take_iff_getElem.2 ⟨j, by omega, rfl⟩
              rw [hc, Bool.true_or] at this
              exact this
            have HR' := Aside0.mk hR
            clear hR
            go_wp2
            go_ret
            obtain rfl := HR'.out
            exact ⟨rfl, by repeat (first | exact Drawn0.refl _ | apply Drawn0.step)⟩
          · have eb : (l0[n] == l0[j]) = false := beq_eq_false_iff_ne.mpr e
            have hk2 := HK2.out
            obtain ⟨kk, rfl⟩ : ∃ q, gk = q + 1 := ⟨gk - 1, by omega⟩
            have HN' : Aside0 (∀ i, i < j + 1 → ∀ h : i < l0.length, l0[n] ≠ l0[i]) := ⟨by
              intro i hi h
              by_cases h2 : i < j
              · exact HN.out i h2 h
              · obtain rfl : i = j := by omega
                exact e⟩
            go_wp2
            go_roundg kk
            case measure => omega
            case rel => exact ⟨j + 1, hjl, ⟨by omega⟩, by simp, HN', by repeat (first | exact Drawn0.refl _ | apply Drawn0.step)⟩
        · obtain rfl : j = n := by omega
          have hk := HK.out
          have HT2 : Aside0 (twiceL (l0.take (j + 1)) (l0.drop (j + 1)) = R) := ⟨by
            have := HD.out
            have hc : (l0.take j).contains l0[j] = false := by
              rw [Bool.eq_false_iff, ne_eq, List.contains_iff_mem]
              intro hm
              obtain ⟨i, hi, hi2⟩ := List.mem_take_iff_getElem.1 hm
              exact HN.out i (by omega) (by omega) hi2.symm
            rw [hc, Bool.false_or] at this
            exact this⟩
          go_wp2
          obtain ⟨kk, hkk⟩ : ∃ q, l0.length - j = q + 1 := ⟨l0.length - j - 1, by omega⟩
          go_roundg kk
          case measure => omega
          case rel => exact ⟨j + 1, hlt, ⟨by omega⟩, by simp, HT2, by repeat (first | exact Drawn0.refl _ | apply Drawn0.step)⟩
    · obtain rfl : n = l0.length := by omega
      have hd := HT.out
      rw [List.drop_length, twiceL] at hd
      have HD := Aside0.mk hd
      clear hd
      go_wp2
      go_ret
      obtain rfl : R = false := HD.out.symm
      exact ⟨rfl, by repeat (first | exact Drawn0.refl _ | apply Drawn0.step)⟩
theorem tendrilref23_Twice.calls (A0 : Option Addr) (c0 : Nat) (l0 : List Int) (r : Bool) (w : World) (hr0 : Kd.C (Kd.int .i64) w A0 l0.length l0) (hc0 : l0.length ≤ c0) (h : tendrilref23_Twice.f l0 = some r) :
    Calls Try.prog 39 #[.slice A0 l0.length c0] w fun e w' => e = .returned (.bool r) ∧ Drawn0 w w' := by
  unfold tendrilref23_Twice.f at h
  split at h
  · rename_i hh
    obtain rfl := Option.some.inj h
    exact refTwice_calls A0 c0 l0 w hr0 hc0 hh
  · cases h

end Go.Proofs.Ytifogeaamdiciaa.PReu
