import Derived.Test.YtifogeaamdiciaaPBndx6
import Derived.Test.YtifogeaamdiciaaPBndx7
import Derived.Test.YtifogeaamdiciaaFairLaws
namespace Go.Proofs.Ytifogeaamdiciaa.PBnd
open Go.RowKit Go.Proofs.YtifogeaamdiciaaW.PrintWords Go.Proofs.YtifogeaamdiciaaW.PrintLast Go.Proofs.YtifogeaamdiciaaW.PrintMore

theorem w64 (x : Int) (h0 : -9223372036854775808 ≤ x) (h1 : x ≤ 9223372036854775807) : wrap64 x = x := by unfold wrap64; omega
def OkC (N E P I J : Int) : Prop := (1 ≤ N ∧ N ≤ 64) ∧ (1 ≤ E ∧ E ≤ 64) ∧ (1 ≤ P ∧ P ≤ 64) ∧ (1 ≤ I ∧ I ≤ 64) ∧ (1 ≤ J ∧ J ≤ 64)
instance (N E P I J : Int) : Decidable (OkC N E P I J) := by unfold OkC; infer_instance
theorem mn_lt (a b c : Int) : mn a b < c ↔ a < c ∨ b < c := by unfold mn; split <;> omega
theorem mx_gt (a b c : Int) : mx a b > c ↔ a > c ∨ b > c := by unfold mx; split <;> omega
theorem place_ok {N E P I J : Int} (h : OkC N E P I J) : place_Check.f N E P I J = some 0 := by
  obtain ⟨h1, h2, h3, h4, h5⟩ := h
  unfold place_Check.f
  rw [if_neg (by simp only [mn_lt]; omega), if_neg (by simp only [mx_gt]; omega), if_neg (by simp only [mx_gt]; omega)]
theorem place_bad {N E P I J : Int} (h : ¬ OkC N E P I J) : place_Check.f N E P I J = some 1 := by
  unfold OkC at h
  unfold place_Check.f
  by_cases c1 : mn (mn (mn (mn N E) P) I) J < 1
  · rw [if_pos c1]
  rw [if_neg c1]
  simp only [mn_lt] at c1
  by_cases c2 : mx (mx N E) P > 64
  · rw [if_pos c2]
  rw [if_neg c2]
  simp only [mx_gt] at c2
  rw [if_pos (by simp only [mx_gt]; omega)]
theorem ref_step {k : Nat} {l : List Int} {i : Nat} (hi : i < l.length) (hl : l.length ≤ 5) : tendrilref03_Check.l0 (k + 1) l (l.length : Int) (i : Int) = if l[i] < 1 then some 1 else if l[i] > 64 then some 1 else tendrilref03_Check.l0 k l (l.length : Int) ((i + 1 : Nat) : Int) := by
  rw [tendrilref03_Check.l0, if_pos (by omega), if_pos (by omega), if_pos (by omega)]
  have : rd l (i : Int) = l[i] := by simp [rd, hi]
  rw [this, w64 _ (by omega) (by omega)]
  rfl
theorem ref_check (k : Nat) (N E P I J : Int) : tendrilref03_Check.f (k + 6) N E P I J = some (if OkC N E P I J then 0 else 1) := by
  unfold tendrilref03_Check.f
  simp only [Option.bind_some]
  have h0 := ref_step (k := k + 5) (l := [N, E, P, I, J]) (i := 0) (by simp) (by simp)
  have h1 := ref_step (k := k + 4) (l := [N, E, P, I, J]) (i := 1) (by simp) (by simp)
  have h2 := ref_step (k := k + 3) (l := [N, E, P, I, J]) (i := 2) (by simp) (by simp)
  have h3 := ref_step (k := k + 2) (l := [N, E, P, I, J]) (i := 3) (by simp) (by simp)
  have h4 := ref_step (k := k + 1) (l := [N, E, P, I, J]) (i := 4) (by simp) (by simp)
  have h5 : tendrilref03_Check.l0 (k + 1) [N, E, P, I, J] (([N, E, P, I, J] : List Int).length : Int) ((4 + 1 : Nat) : Int) = some 0 := by
    rw [tendrilref03_Check.l0, if_neg (by simp)]
  have h6 : tendrilref03_Check.l0 (k + 6) [N, E, P, I, J] (([N, E, P, I, J] : List Int).length : Int) 0 = _ := h0
  rw [h6, h1, h2, h3, h4, h5]
  simp only [List.getElem_cons_zero, List.getElem_cons_succ]
  by_cases c : OkC N E P I J
  · rw [if_pos c]
    unfold OkC at c
    repeat rw [if_neg (by omega)]
  · rw [if_neg c]
    unfold OkC at c
    repeat' split
    all_goals first | rfl | omega
def costV (I E P : Int) : Int := 64 + 4 * (I + (E + 4) * (E + 4) + (P + 3) * (P + 3))
theorem sq_bd {x a b : Int} (h0 : 0 ≤ a) (h1 : a ≤ x) (h2 : x ≤ b) : a * a ≤ x * x ∧ x * x ≤ b * b :=
  ⟨Int.mul_le_mul h1 h1 h0 (by omega), Int.mul_le_mul h2 h2 (by omega) (by omega)⟩
theorem cost_bd {N E P I J : Int} (h : OkC N E P I J) : 64 ≤ costV I E P ∧ costV I E P ≤ 36772 := by
  obtain ⟨h1, h2, h3, h4, h5⟩ := h
  have a := sq_bd (x := E + 4) (a := 0) (b := 68) (by omega) (by omega) (by omega)
  have b := sq_bd (x := P + 3) (a := 0) (b := 67) (by omega) (by omega) (by omega)
  unfold costV
  omega
theorem cost_ok {N E P I J : Int} (h : OkC N E P I J) : bound_Cost.f N E P I J = some (costV I E P) := by
  have hb := cost_bd h
  have hp := place_ok h
  obtain ⟨h1, h2, h3, h4, h5⟩ := h
  have a := sq_bd (x := E + 4) (a := 0) (b := 68) (by omega) (by omega) (by omega)
  have b := sq_bd (x := P + 3) (a := 0) (b := 67) (by omega) (by omega) (by omega)
  unfold bound_Cost.f bound_square.f
  rw [hp]
  simp only [Option.bind_some, if_true]
  rw [w64 (E + 4) (by omega) (by omega), w64 (P + 3) (by omega) (by omega)]
  unfold costV at hb ⊢
  generalize (E + 4) * (E + 4) = s at a hb ⊢
  generalize (P + 3) * (P + 3) = q at b hb ⊢
  rw [w64 s (by omega) (by omega), w64 q (by omega) (by omega), w64 (I + s) (by omega) (by omega), w64 (I + s + q) (by omega) (by omega), w64 (4 * _) (by omega) (by omega), w64 _ (by omega) (by omega)]
theorem cost_bad {N E P I J : Int} (h : ¬ OkC N E P I J) : bound_Cost.f N E P I J = some 0 := by
  unfold bound_Cost.f
  rw [place_bad h]
  rfl
theorem rcost (k : Nat) (N E P I J : Int) : tendrilref20_Cost.f (k + 6) N E P I J = some (if OkC N E P I J then costV I E P else 0) := by
  unfold tendrilref20_Cost.f
  rw [ref_check]
  simp only [Option.bind_some]
  by_cases h : OkC N E P I J
  · have hb := cost_bd h
    rw [if_pos h, if_pos rfl, if_pos h]
    obtain ⟨h1, h2, h3, h4, h5⟩ := h
    have a := sq_bd (x := E + 4) (a := 0) (b := 68) (by omega) (by omega) (by omega)
    have b := sq_bd (x := P + 3) (a := 0) (b := 67) (by omega) (by omega) (by omega)
    rw [w64 (E + 4) (by omega) (by omega), w64 (P + 3) (by omega) (by omega), w64 (4 * I) (by omega) (by omega), w64 (4 * (E + 4)) (by omega) (by omega), w64 (4 * (P + 3)) (by omega) (by omega), Int.mul_assoc, Int.mul_assoc]
    unfold costV at hb ⊢
    generalize (E + 4) * (E + 4) = s at a hb ⊢
    generalize (P + 3) * (P + 3) = q at b hb ⊢
    rw [w64 (4 * s) (by omega) (by omega), w64 (4 * q) (by omega) (by omega), w64 (64 + 4 * I) (by omega) (by omega), w64 (64 + 4 * I + 4 * s) (by omega) (by omega), w64 _ (by omega) (by omega)]
    congr 1
    omega
  · rw [if_neg h, if_neg h, if_neg (by omega)]
def wndV (ops I E P : Int) : Int := 16 * ((ops + 1) * ((ops + 1) * (ops + 1))) * costV I E P * (E + 2)
theorem cube_bd {c : Int} (h0 : 1 ≤ c) (h1 : c ≤ 65) : 1 ≤ c * c ∧ c * c ≤ 4225 ∧ 1 ≤ c * (c * c) ∧ c * (c * c) ≤ 274625 := by
  have a := sq_bd (x := c) (a := 1) (b := 65) (by omega) h0 h1
  have b : 1 * 1 ≤ c * (c * c) := Int.mul_le_mul h0 a.1 (by omega) (by omega)
  have d : c * (c * c) ≤ 65 * 4225 := Int.mul_le_mul h1 a.2 (by omega) (by omega)
  omega
theorem win_bd {N E P I J ops : Int} (h : OkC N E P I J) (h0 : 0 ≤ ops) (h1 : ops ≤ 64) :
    0 ≤ 16 * ((ops + 1) * ((ops + 1) * (ops + 1))) * costV I E P ∧ 16 * ((ops + 1) * ((ops + 1) * (ops + 1))) * costV I E P ≤ 4394000 * 36772 ∧ 0 ≤ wndV ops I E P ∧ wndV ops I E P ≤ 4394000 * 36772 * 66 := by
  have hc := cost_bd h
  obtain ⟨_, h2, _⟩ := h
  have a := cube_bd (c := ops + 1) (by omega) (by omega)
  unfold wndV
  generalize (ops + 1) * ((ops + 1) * (ops + 1)) = u at a
  generalize costV I E P = v at hc
  have b1 : 0 ≤ 16 * u * v := Int.mul_nonneg (by omega) (by omega)
  have b2 : 16 * u * v ≤ 4394000 * 36772 := Int.mul_le_mul (by omega) (by omega) (by omega) (by omega)
  refine ⟨b1, b2, Int.mul_nonneg b1 (by omega), Int.mul_le_mul b2 (by omega) (by omega) (by omega)⟩
theorem win_ok {N E P I J ops : Int} (k : Nat) (h : OkC N E P I J) (h0 : 0 ≤ ops) (h1 : ops ≤ 64) : bound_Windows.f (k + 1) N E P I J ops = some (wndV ops I E P) := by
  have hb := win_bd h h0 h1
  have hc := cost_bd h
  unfold bound_Windows.f
  rw [place_ok h]
  simp only [Option.bind_some, if_true]
  rw [if_neg (by omega), decide_eq_false (by omega)]
  rw [bound_Windows.j0, if_neg (by simp), cost_ok h]
  unfold bound_cube.f bound_square.f
  simp only [Option.bind_some]
  obtain ⟨_, h2, _⟩ := h
  have a := cube_bd (c := ops + 1) (by omega) (by omega)
  rw [w64 (ops + 1) (by omega) (by omega), w64 ((ops + 1) * (ops + 1)) (by omega) (by omega), w64 ((ops + 1) * ((ops + 1) * (ops + 1))) (by omega) (by omega), w64 (16 * _) (by omega) (by omega), w64 (16 * _ * _) (by omega) (by omega), w64 (E + 2) (by omega) (by omega)]
  unfold wndV at hb ⊢
  rw [w64 _ (by omega) (by omega)]
theorem win_bad {N E P I J ops : Int} (k : Nat) (h : ¬ (OkC N E P I J ∧ 0 ≤ ops ∧ ops ≤ 64)) : bound_Windows.f (k + 1) N E P I J ops = some 0 := by
  have hj : bound_Windows.j0 (k + 1) ops true N E P I J = some 0 := by rw [bound_Windows.j0, if_pos rfl]
  unfold bound_Windows.f
  by_cases h1 : OkC N E P I J
  · rw [place_ok h1]
    simp only [Option.bind_some, if_true]
    rw [hj]
    by_cases c : ops < 0
    · rw [if_pos c]
    · have hx : ops > 64 := by
        rcases Int.lt_or_le 64 ops with y | y
        · exact y
        · exact absurd ⟨h1, by omega, y⟩ h
      rw [if_neg c, decide_eq_true hx, hj]
  · rw [place_bad h1]
    simp only [Option.bind_some]
    rw [if_neg (by omega), hj]
theorem rwin (k : Nat) (N E P I J ops : Int) : tendrilref20_Windows.f (k + 6) N E P I J ops = some (if OkC N E P I J ∧ 0 ≤ ops ∧ ops ≤ 64 then wndV ops I E P else 0) := by
  unfold tendrilref20_Windows.f
  rw [ref_check, rcost]
  by_cases c1 : ops < 0
  · rw [if_pos c1, if_neg (by omega)]
  rw [if_neg c1]
  by_cases c2 : ops > 64
  · rw [if_pos c2, if_neg (by omega)]
  rw [if_neg c2]
  simp only [Option.bind_some]
  by_cases h : OkC N E P I J
  · have hb := win_bd h (by omega) (by omega : ops ≤ 64)
    have hc := cost_bd h
    rw [if_pos h, if_pos rfl, if_pos h, if_pos ⟨h, by omega, by omega⟩]
    obtain ⟨_, h2, _⟩ := h
    have a := cube_bd (c := ops + 1) (by omega) (by omega)
    rw [w64 (ops + 1) (by omega) (by omega), w64 (16 * (ops + 1)) (by omega) (by omega)]
    have e1 : 16 * (ops + 1) * (ops + 1) = 16 * ((ops + 1) * (ops + 1)) := Int.mul_assoc _ _ _
    have e2 : 16 * ((ops + 1) * (ops + 1)) * (ops + 1) = 16 * ((ops + 1) * ((ops + 1) * (ops + 1))) := by
      rw [Int.mul_assoc, Int.mul_comm ((ops + 1) * (ops + 1))]
    rw [e1, w64 (16 * ((ops + 1) * (ops + 1))) (by omega) (by omega), e2, w64 (16 * ((ops + 1) * ((ops + 1) * (ops + 1)))) (by omega) (by omega), w64 (16 * _ * _) (by omega) (by omega), w64 (E + 2) (by omega) (by omega)]
    unfold wndV at hb ⊢
    rw [w64 _ (by omega) (by omega)]
  · rw [if_neg h, if_neg (by omega), if_neg (by intro x; exact h x.1)]
end Go.Proofs.Ytifogeaamdiciaa.PBnd
