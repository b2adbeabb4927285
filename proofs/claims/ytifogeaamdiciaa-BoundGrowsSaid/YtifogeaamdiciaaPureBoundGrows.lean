/-
tendrillaw20.BoundGrows: more operations, or more records, take no fewer windows; for every input.
-/
import Derived.Test.YtifogeaamdiciaaSaidBoundGrows
import Derived.Test.YtifogeaamdiciaaCostLaws
namespace Go.Proofs.Ytifogeaamdiciaa.Pure
open Go.RowKit Go.Proofs.Ytifogeaamdiciaa.PBnd Go.Proofs.YtifogeaamdiciaaW.PrintWords Go.Proofs.YtifogeaamdiciaaW.PrintLast Go.Proofs.YtifogeaamdiciaaW.PrintMore

theorem grow_mn {x : Int} (h0 : 1 ≤ x) (h1 : x ≤ 64) : x ≤ mn (wrap64 (x + 1)) 64 ∧ mn (wrap64 (x + 1)) 64 ≤ 64 := by
  rw [w64 (x + 1) (by omega) (by omega)]
  unfold mn
  split <;> omega
theorem cost_mono {I E P E' P' : Int} (hE : 1 ≤ E) (hP : 1 ≤ P) (h1 : E ≤ E') (h2 : P ≤ P') : costV I E P ≤ costV I E' P' := by
  have a := sq_bd (x := E + 4) (a := 0) (b := E' + 4) (by omega) (by omega) (by omega)
  have b := sq_bd (x := P + 3) (a := 0) (b := P' + 3) (by omega) (by omega) (by omega)
  unfold costV
  omega
theorem grows (k : Nat) (N E P I J ops : Int) : tendrillaw20_BoundGrows.f (k + 6) N E P I J ops = some true := by
  unfold tendrillaw20_BoundGrows.f
  rw [live_f, ref_check]
  simp only [Option.bind_some, if_true]
  by_cases h : OkC N E P I J
  case neg =>
    rw [if_neg h, if_neg (by omega), tendrillaw20_BoundGrows.j0, if_pos rfl, cost_bad h]
    simp
  rw [if_pos h, if_pos rfl]
  have hj : ops < 0 ∨ ops ≥ 64 → tendrillaw20_BoundGrows.j0 (k + 6) ops true N E P I J = some true := by
    intro hx
    rw [tendrillaw20_BoundGrows.j0, if_pos rfl, cost_ok h]
    simp only [Option.bind_some]
    have := cost_bd h
    rw [if_neg (by omega)]
    by_cases c : ops < 0
    · rw [if_pos c]
    · rw [if_neg c, decide_eq_true (by omega)]
  by_cases c1 : ops < 0
  · rw [if_pos c1, hj (.inl c1)]
  rw [if_neg c1]
  by_cases c2 : ops ≥ 64
  · rw [decide_eq_true c2, hj (.inr c2)]
  rw [decide_eq_false c2, tendrillaw20_BoundGrows.j0, if_neg (by simp), cost_ok h]
  simp only [Option.bind_some]
  have hc := cost_bd h
  have hE := grow_mn h.2.1.1 h.2.1.2
  have hP := grow_mn h.2.2.1.1 h.2.2.1.2
  generalize mn (wrap64 (E + 1)) 64 = E' at hE
  generalize mn (wrap64 (P + 1)) 64 = P' at hP
  have h' : OkC N E' P' I J := by
    obtain ⟨a, b, c, d, e⟩ := h
    exact ⟨a, by omega, by omega, d, e⟩
  have hm : costV I E P ≤ costV I E' P' := cost_mono h.2.1.1 h.2.2.1.1 hE.1 hP.1
  rw [if_pos (by omega), cost_ok h']
  simp only [Option.bind_some]
  rw [if_pos (by omega), win_ok (k + 4) h (by omega) (by omega)]
  simp only [Option.bind_some]
  have a0 := cube_bd (c := ops + 1) (by omega) (by omega)
  have hE1 := h.2.1.1
  have w0 : costV I E P ≤ wndV ops I E P := by
    unfold wndV
    generalize (ops + 1) * ((ops + 1) * (ops + 1)) = u at a0
    have x1 : 1 * costV I E P ≤ 16 * u * costV I E P := Int.mul_le_mul_of_nonneg_right (by omega) (by omega)
    have x2 : 16 * u * costV I E P * 1 ≤ 16 * u * costV I E P * (E + 2) := Int.mul_le_mul_of_nonneg_left (by omega) (by omega)
    omega
  rw [if_pos w0, w64 (ops + 1) (by omega) (by omega), win_ok (k + 4) h (by omega) (by omega)]
  simp only [Option.bind_some]
  have w1 : wndV ops I E P < wndV (ops + 1) I E P := by
    have hlt : (ops + 1) * ((ops + 1) * (ops + 1)) < (ops + 1 + 1) * ((ops + 1 + 1) * (ops + 1 + 1)) := by
      have y1 : (ops + 1) * (ops + 1) ≤ (ops + 1 + 1) * (ops + 1 + 1) := Int.mul_le_mul (by omega) (by omega) (by omega) (by omega)
      have y2 : (ops + 1) * ((ops + 1) * (ops + 1)) ≤ (ops + 1) * ((ops + 1 + 1) * (ops + 1 + 1)) := Int.mul_le_mul_of_nonneg_left y1 (by omega)
      have y3 : 0 < (ops + 1 + 1) * (ops + 1 + 1) := Int.mul_pos (by omega) (by omega)
      have y4 : (ops + 1 + 1) * ((ops + 1 + 1) * (ops + 1 + 1)) = (ops + 1) * ((ops + 1 + 1) * (ops + 1 + 1)) + (ops + 1 + 1) * (ops + 1 + 1) := by
        rw [Int.add_mul (ops + 1) 1, Int.one_mul]
      omega
    unfold wndV
    generalize (ops + 1) * ((ops + 1) * (ops + 1)) = u at hlt
    generalize (ops + 1 + 1) * ((ops + 1 + 1) * (ops + 1 + 1)) = v at hlt
    exact Int.mul_lt_mul_of_pos_right (Int.mul_lt_mul_of_pos_right (by omega) (by omega)) (by omega)
  rw [if_pos w1, win_ok (k + 4) h' (by omega) (by omega)]
  simp only [Option.bind_some]
  have w2 : wndV ops I E P ≤ wndV ops I E' P' := by
    unfold wndV
    generalize (ops + 1) * ((ops + 1) * (ops + 1)) = u at a0
    exact Int.mul_le_mul (Int.mul_le_mul_of_nonneg_left hm (by omega)) (by omega) (by omega) (Int.mul_nonneg (by omega) (by omega))
  rw [decide_eq_true w2]
theorem BoundGrows : tendrillaw20_BoundGrows.Pure := fun _ _ _ _ => ⟨6, grows 0 _ _ _ _ _ _⟩
end Go.Proofs.Ytifogeaamdiciaa.Pure
