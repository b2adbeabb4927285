/-
tendrillaw20.BoundWhole: a window that is gone through from any thread on is whole; one in which a thread is twice is not; for every input.
-/
import Derived.Test.YtifogeaamdiciaaPBndx4
import Derived.Test.YtifogeaamdiciaaFairLaws
namespace Go.Proofs.Ytifogeaamdiciaa.Pure
open Go.RowKit Go.Proofs.Ytifogeaamdiciaa.PBnd Go.Proofs.YtifogeaamdiciaaW.PrintWords Go.Proofs.YtifogeaamdiciaaW.PrintLast

def rot (n f : Nat) (k : Nat) : List Int := (List.range k).map (fun t => (((f + t) % n : Nat) : Int))
theorem rot_length (n f k : Nat) : (rot n f k).length = k := by simp [rot]
theorem rot_succ (n f k : Nat) : rot n f (k + 1) = rot n f k ++ [(((f + k) % n : Nat) : Int)] := by simp [rot, List.range_succ]
theorem rot_inj (n f a b : Nat) (ha : a < n) (hb : b < n) (h : (f + a) % n = (f + b) % n) : a = b := by
  have h1 := Nat.mod_add_div (f + a) n
  have h2 := Nat.mod_add_div (f + b) n
  rw [h] at h1
  generalize (f + a) / n = x at h1
  generalize (f + b) / n = y at h2
  rcases Nat.lt_trichotomy x y with c | c | c
  · have : n * (x + 1) ≤ n * y := Nat.mul_le_mul_left n c
    rw [Nat.mul_succ] at this
    omega
  · subst c; omega
  · have : n * (y + 1) ≤ n * x := Nat.mul_le_mul_left n c
    rw [Nat.mul_succ] at this
    omega
theorem rot_whole (n f : Nat) (hf : f < n) : wholeB (rot n f n) n = true := by
  unfold wholeB
  rw [rot_length]
  simp only [Nat.le_refl, decide_true, Bool.true_and, List.all_eq_true, List.mem_range]
  intro i hi
  rw [List.contains_iff_mem]
  unfold rot
  rw [List.mem_map]
  by_cases c : f ≤ i
  · exact ⟨i - f, by rw [List.mem_range]; omega, by rw [show f + (i - f) = i by omega, Nat.mod_eq_of_lt hi]⟩
  · refine ⟨n + i - f, by rw [List.mem_range]; omega, ?_⟩
    rw [show f + (n + i - f) = i + n by omega, Nat.add_mod_right, Nat.mod_eq_of_lt hi]
theorem bad_whole (n f t u : Nat) (hn : 0 < n) (ht : t < n) (hu : u < n) (hne : u ≠ t) : wholeB ((rot n f n).set t (((f + u) % n : Nat) : Int)) n = false := by
  unfold wholeB
  have hv : (f + t) % n < n := Nat.mod_lt _ hn
  have hnc : ((rot n f n).set t (((f + u) % n : Nat) : Int)).contains (((f + t) % n : Nat) : Int) = false := by
    rw [Bool.eq_false_iff]
    intro h
    rw [List.contains_iff_mem, List.mem_iff_getElem] at h
    obtain ⟨i, hi, h⟩ := h
    have hi' : i < n := by simpa [rot] using hi
    rw [List.getElem_set] at h
    by_cases c : t = i
    · rw [if_pos c] at h
      exact hne (rot_inj n f u t hu ht (by omega))
    · rw [if_neg c] at h
      have : ((rot n f n)[i]'(by simpa [rot] using hi')) = (((f + i) % n : Nat) : Int) := by simp [rot]
      rw [this] at h
      exact c (rot_inj n f i t hi' ht (by omega)).symm
  have : (List.range n).all (fun (i : Nat) => ((rot n f n).set t (((f + u) % n : Nat) : Int)).contains (i : Int)) = false := by
    rw [Bool.eq_false_iff]
    intro h
    rw [List.all_eq_true] at h
    have := h ((f + t) % n) (by rw [List.mem_range]; exact hv)
    rw [hnc] at this
    cases this
  rw [this, Bool.and_false]

theorem mk_loop (n f t : Nat) (hn : 2 ≤ n) (h60 : n ≤ 60) (hf : f < n) (ht : t < n) (d : Nat) : ∀ (k i : Nat), i + d = n → d < k →
    tendrillaw20_BoundWhole.l0 k (n : Int) (f : Int) (t : Int) (rot n f i) (n : Int) (i : Int) = some true := by
  induction d with
  | zero =>
    intro k i hi hk
    obtain ⟨k, rfl⟩ : ∃ q, k = q + 1 := ⟨k - 1, by omega⟩
    obtain rfl : i = n := by omega
    simp only [tendrillaw20_BoundWhole.l0]
    have hl : (rot i f i).length = i := rot_length i f i
    have hu : Int.tmod (wrap64 ((t : Int) + 1)) (i : Int) = (((t + 1) % i : Nat) : Int) := by
      rw [show wrap64 ((t : Int) + 1) = ((t + 1 : Nat) : Int) by unfold wrap64; omega]
      rfl
    have hu2 : (t + 1) % i < i := Nat.mod_lt _ (by omega)
    have hne : (t + 1) % i ≠ t := by
      by_cases c : t + 1 = i
      · rw [c, Nat.mod_self]; omega
      · rw [Nat.mod_eq_of_lt (by omega)]; omega
    rw [if_neg (by omega), hu]
    generalize (t + 1) % i = u at hu2 hne
    simp only [List.nil_append, List.length_nil, Option.bind_some, hl]
    rw [if_pos (by omega), if_neg (by omega), if_pos (by omega), if_pos (by omega), if_pos (by omega), if_pos (by omega)]
    have hrd : rd (rot i f i) (u : Int) = (((f + u) % i : Nat) : Int) := by
      simp [rd, rot, hu2]
    rw [hrd, show ((t : Int)).toNat = t from rfl]
    rw [fair_f _ i (by omega) (by omega) (by rw [hl]; omega)]
    have hw := rot_whole i f hf
    have hb := bad_whole i f t u (by omega) ht hu2 hne
    have hbl : ((rot i f i).set t (((f + u) % i : Nat) : Int)).length = i := by rw [List.length_set, hl]
    generalize (rot i f i).set t (((f + u) % i : Nat) : Int) = bad at hb hbl
    have f1 : fairN (rot i f i) i = 1 := by
      have := fairN_cons (rot i f i) [] i (by omega) hl
      rw [List.append_nil, hw, if_pos rfl, fairN_nil i (by omega)] at this
      exact this
    have f2 : fairN bad i = 0 := by
      have := fairN_cons bad [] i (by omega) hbl
      rw [List.append_nil, hb, if_neg (by simp)] at this
      exact this
    have f3 : fairN (rot i f i ++ bad) i = 1 := by
      rw [fairN_cons _ _ i (by omega) hl, hw, if_pos rfl, f2]
    have hw1 : wrap64 ((i : Int) - 1) = ((i - 1 : Nat) : Int) := by unfold wrap64; omega
    rw [f1]
    simp only [Option.bind_some]
    rw [if_pos (by rfl), fair_f bad i (by omega) (by omega) (by omega), f2]
    simp only [Option.bind_some]
    rw [if_pos (by rfl), hw1, if_pos (by omega), if_pos (by omega), Int.toNat_natCast, fair_f _ i (by omega) (by omega) (by rw [List.length_take]; omega), fairN_short _ i (by rw [List.length_take]; omega)]
    simp only [Option.bind_some]
    rw [if_pos (by rfl), if_pos (by omega), fair_f _ i (by omega) (by omega) (by rw [List.length_append]; omega), f3]
    rfl
  | succ d ih =>
    intro k i hi hk
    obtain ⟨k, rfl⟩ : ∃ q, k = q + 1 := ⟨k - 1, by omega⟩
    simp only [tendrillaw20_BoundWhole.l0]
    rw [if_pos (by omega), if_neg (by omega), if_pos (by rw [rot_length]; omega)]
    have e1 : Int.tmod (wrap64 ((f : Int) + (i : Int))) (n : Int) = (((f + i) % n : Nat) : Int) := by
      rw [show wrap64 ((f : Int) + (i : Int)) = ((f + i : Nat) : Int) by unfold wrap64; omega]
      rfl
    rw [e1, ← rot_succ, show wrap64 ((i : Int) + 1) = ((i + 1 : Nat) : Int) by unfold wrap64; omega]
    exact ih k (i + 1) (by omega) (by omega)

theorem BoundWhole : tendrillaw20_BoundWhole.Pure := by
  intro a0 a1 a2 _ _ _
  refine ⟨70, ?_⟩
  unfold tendrillaw20_BoundWhole.f
  rw [live_f]
  simp only [Option.bind_some, if_true]
  have hj : ∀ x y z, tendrillaw20_BoundWhole.j0 70 x y z true = some true := fun x y z => by simp only [tendrillaw20_BoundWhole.j0, if_true]
  rw [hj]
  by_cases c1 : a0 < 2
  · rw [if_pos c1]
  rw [if_neg c1]
  by_cases c2 : a0 > 60
  · rw [if_pos c2]
  rw [if_neg c2]
  by_cases c3 : a1 < 0
  · rw [if_pos c3]
  rw [if_neg c3]
  by_cases c4 : a1 ≥ a0
  · rw [if_pos c4]
  rw [if_neg c4]
  by_cases c5 : a2 < 0
  · rw [if_pos c5]
  rw [if_neg c5]
  by_cases c6 : a2 ≥ a0
  · rw [decide_eq_true c6, hj]
  rw [decide_eq_false c6]
  obtain ⟨n, rfl⟩ := Int.eq_ofNat_of_zero_le (show 0 ≤ a0 by omega)
  obtain ⟨f, rfl⟩ := Int.eq_ofNat_of_zero_le (show 0 ≤ a1 by omega)
  obtain ⟨t, rfl⟩ := Int.eq_ofNat_of_zero_le (show 0 ≤ a2 by omega)
  simp only [tendrillaw20_BoundWhole.j0]
  rw [if_neg (by simp)]
  exact mk_loop n f t (by omega) (by omega) (by omega) (by omega) n 69 0 (by omega) (by omega)
end Go.Proofs.Ytifogeaamdiciaa.Pure
