/- The merge of two sorted blocks of edges' ends, however long. -/
import Derived.Test.YteoeolfcpmalfaaGreatDoorQ24
import Derived.Test.YteoeolfcpmalfaaGreatDoorQ16
import Derived.Test.YteoeolfcpmalfaaGreatDoorQ19
import Derived.Test.YteoeolfcpmalfaaGreatDoorQ22
namespace Go.Ax.Cd
set_option linter.unusedVariables false
set_option maxRecDepth 100000
namespace SEn
set_option maxHeartbeats 4000000 in
theorem sym_val : ∀ (k : Nat) (P U V Q : List En) (a m b : Int), U.length + V.length ≤ k → 0 < U.length → 0 < V.length → Srt ky U → Srt ky V → a = P.length → m = P.length + U.length → b = P.length + U.length + V.length → (P ++ U ++ V ++ Q).length ≤ 1000000 →
    (symKEn k (P ++ U ++ V ++ Q) a m b).val = some (P ++ isort ky (U ++ V) ++ Q)
  | 0, P, U, V, Q, a, m, b, hk, hu0, hv0, hU, hV, ha, hm, hb, hs => by omega
  | k + 1, P, U, V, Q, a, m, b, hk, hu0, hv0, hU, hV, ha, hm, hb, hs => by
    show (symEnTr (symKEn k) a m b (P ++ U ++ V ++ Q)).val = _
    by_cases hu1 : U.length = 1
    · obtain ⟨x, rfl⟩ := List.length_eq_one_iff.1 hu1
      have := sym1 (rec := symKEn k) P x V Q hV ha (by simpa using hm) (by simpa using hb) (by simpa using hs)
      simpa using this
    by_cases hv1 : V.length = 1
    · obtain ⟨y, rfl⟩ := List.length_eq_one_iff.1 hv1
      have := sym2 (rec := symKEn k) P U y Q hU (by omega) ha hm (by simpa using hb) (by simpa using hs)
      simpa using this
    simp only [List.length_append] at hs
    generalize hd : P ++ U ++ V ++ Q = d
    have hdl : d.length = P.length + U.length + V.length + Q.length := by rw [← hd]; simp [Nat.add_assoc]
    have rU : ∀ t (ht : t < U.length), rd (e := E) d ((P.length + t : Nat) : Int) = U[t] := fun t ht => rd_in (R := V ++ Q) (by rw [← hd]; simp) ht
    have rV : ∀ t (ht : t < V.length), rd (e := E) d ((P.length + U.length + t : Nat) : Int) = V[t] := fun t ht => by
      have := rd_in (d := d) (L := P ++ U) (W := V) (R := Q) hd.symm ht
      simpa using this
    have mU : ∀ s t, P.length ≤ s → s ≤ t → t < P.length + U.length → ky (rd (e := E) d ((s : Nat) : Int)) ≤ ky (rd (e := E) d ((t : Nat) : Int)) := fun s t h1 h2 h3 => by
      obtain ⟨s, rfl⟩ : ∃ s', s = P.length + s' := ⟨s - P.length, by omega⟩
      obtain ⟨t, rfl⟩ : ∃ t', t = P.length + t' := ⟨t - P.length, by omega⟩
      rw [rU s (by omega), rU t (by omega)]
      exact hU.idx (by omega) (by omega)
    have mV : ∀ s t, P.length + U.length ≤ s → s ≤ t → t < P.length + U.length + V.length → ky (rd (e := E) d ((s : Nat) : Int)) ≤ ky (rd (e := E) d ((t : Nat) : Int)) := fun s t h1 h2 h3 => by
      obtain ⟨s, rfl⟩ : ∃ s', s = P.length + U.length + s' := ⟨s - (P.length + U.length), by omega⟩
      obtain ⟨t, rfl⟩ : ∃ t', t = P.length + U.length + t' := ⟨t - (P.length + U.length), by omega⟩
      rw [rV s (by omega), rV t (by omega)]
      exact hV.idx (by omega) (by omega)
    obtain ⟨A, hA⟩ : ∃ A, A = P.length := ⟨_, rfl⟩
    obtain ⟨M, hM⟩ : ∃ M, M = P.length + U.length := ⟨_, rfl⟩
    obtain ⟨B, hB⟩ : ∃ B, B = P.length + U.length + V.length := ⟨_, rfl⟩
    rw [← hM, ← hA] at mU
    rw [← hB, ← hM] at mV
    obtain ⟨mid, hmid⟩ : ∃ mid, mid = (A + B) / 2 := ⟨_, rfl⟩
    have ha' : a = (A : Int) := by omega
    have hm' : m = (M : Int) := by omega
    have hb' : b = (B : Int) := by omega
    subst ha' hm' hb'
    have c1 : (w64 ((M : Int) - (A : Int)) == 1) = false := by rw [w64_id] <;> (try simp) <;> omega
    have c2 : (w64 ((B : Int) - (M : Int)) == 1) = false := by rw [w64_id] <;> (try simp) <;> omega
    have emid : w64 (sh64 (w64u (w64 ((A : Int) + (B : Int)))) 1) = (mid : Int) := by rw [half] <;> omega
    have en : w64 ((mid : Int) + (M : Int)) = ((mid + M : Nat) : Int) := by rw [w64_id] <;> omega
    have en1 : w64 (((mid + M : Nat) : Int) - 1) = ((mid + M - 1 : Nat) : Int) := by rw [w64_id] <;> omega
    have enb : M > mid → w64 (((mid + M : Nat) : Int) - (B : Int)) = ((mid + M - B : Nat) : Int) := fun h => by rw [w64_id] <;> omega
    obtain ⟨lo, hlo⟩ : ∃ lo, lo = if M > mid then mid + M - B else A := ⟨_, rfl⟩
    obtain ⟨hi, hhi⟩ : ∃ hi, hi = if M > mid then mid else M := ⟨_, rfl⟩
    have b0 : A ≤ lo ∧ lo ≤ hi ∧ hi ≤ M ∧ hi ≤ mid ∧ mid + M ≤ lo + B := by
      rw [hlo, hhi]
      split <;> omega
    obtain ⟨b1, b2, b3, b4, b5⟩ := b0
    let p : Nat → Bool := fun t => !decide (ky (rd (e := E) d ((mid + M - 1 - t : Nat) : Int)) < ky (rd (e := E) d (t : Int)))
    obtain ⟨r, k1, k2, k3, k4, k5⟩ := bs_val (body := symEnL4Step (A : Int) (M : Int) (B : Int) (mid : Int) ((mid + M : Nat) : Int) ((mid + M - 1 : Nat) : Int) d) (p := p) (lo := lo) (hi := hi) (fun i j h1 h2 h3 => by
      by_cases c : i < j
      · rw [if_pos c]
        have e1 : w64 (sh64 (w64u (w64 ((i : Int) + (j : Int)))) 1) = (((i + j) / 2 : Nat) : Int) := by rw [half] <;> omega
        have e2 : w64 ((((i + j) / 2 : Nat) : Int) + 1) = (((i + j) / 2 + 1 : Nat) : Int) := by rw [w64_id] <;> omega
        have e3 : w64 (((mid + M - 1 : Nat) : Int) - (((i + j) / 2 : Nat) : Int)) = ((mid + M - 1 - (i + j) / 2 : Nat) : Int) := by rw [w64_id] <;> omega
        have i1 := inR_ge (n := d.length) (i := (i + j) / 2) (by omega)
        have i2 := inR_ge (n := d.length) (i := mid + M - 1 - (i + j) / 2) (by omega)
        obtain ⟨cv, q1, q2⟩ := cmp_val (rd (e := E) d ((mid + M - 1 - (i + j) / 2 : Nat) : Int)) (rd (e := E) d (((i + j) / 2 : Nat) : Int))
        have cc : ((i : Int) < (j : Int)) := by omega
        have q3 : (!decide (cv < 0)) = p ((i + j) / 2) := by rw [q2]
        simp only [symEnL4Step, cc, decide_true, cond_true, e1, e3, i1, i2, rdE, T.val_bind, q1, Option.bind_some, q3, e2]
        cases p ((i + j) / 2) <;> rfl
      · rw [if_neg c]
        have cc : ¬ ((i : Int) < (j : Int)) := by omega
        simp only [symEnL4Step, cc, decide_false, cond_false, T.val_ret]) (fun s t h1 h2 h3 ht => by
      simp only [p, Bool.not_eq_true', decide_eq_false_iff_not] at ht ⊢
      have := mU s t (by omega) h2 (by omega)
      have := mV (mid + M - 1 - t) (mid + M - 1 - s) (by omega) (by omega) (by omega)
      omega) 4611686018427387904 lo hi (by omega) (Nat.le_refl _) b2 (Nat.le_refl _) (fun t h1 h2 => by omega) (fun t h1 h2 => by omega)
    have ee : w64 (((mid + M : Nat) : Int) - (r : Int)) = ((mid + M - r : Nat) : Int) := by rw [w64_id] <;> omega
    have hl : (if (M : Int) > (mid : Int) then (T.loop (symEnL4Step (A : Int) (M : Int) (B : Int) (mid : Int) (w64 ((mid : Int) + (M : Int))) (w64 (w64 ((mid : Int) + (M : Int)) - 1)) d) 4611686018427387904 (w64 (w64 ((mid : Int) + (M : Int)) - (B : Int)), (mid : Int))).val
        else (T.loop (symEnL4Step (A : Int) (M : Int) (B : Int) (mid : Int) (w64 ((mid : Int) + (M : Int))) (w64 (w64 ((mid : Int) + (M : Int)) - 1)) d) 4611686018427387904 ((A : Int), (M : Int))).val) = some (r : Int) := by
      rw [en, en1]
      by_cases c : M > mid
      · rw [if_pos (by omega), enb c]
        rw [if_pos c] at hlo hhi
        rw [hlo, hhi] at k1
        exact k1
      · rw [if_neg (by omega)]
        rw [if_neg c] at hlo hhi
        rw [hlo, hhi] at k1
        exact k1
    obtain ⟨U1, X, rfl, hU1⟩ : ∃ U1 X, U = U1 ++ X ∧ U1.length = r - A := ⟨U.take (r - A), U.drop (r - A), by simp, by simp; omega⟩
    obtain ⟨Y, V2, rfl, hY⟩ : ∃ Y V2, V = Y ++ V2 ∧ Y.length = mid - r := ⟨V.take (mid - r), V.drop (mid - r), by simp, by simp; omega⟩
    simp only [List.length_append] at hs hM hB hk hdl
    have hu := List.pairwise_append.1 hU
    have hv := List.pairwise_append.1 hV
    -- what lies where
    have iX : ∀ x ∈ X, r < M ∧ ky (rd (e := E) d (r : Int)) ≤ ky x := fun x hx => by
      obtain ⟨i, hi', rfl⟩ := of_mem hx
      have := rU (U1.length + i) (by simp; omega)
      rw [List.getElem_append_right (by omega)] at this
      simp only [Nat.add_sub_cancel_left] at this
      rw [← this]
      exact ⟨by omega, mU r (P.length + (U1.length + i)) (by omega) (by omega) (by omega)⟩
    have iU1 : ∀ x ∈ U1, A < r ∧ ky x ≤ ky (rd (e := E) d ((r - 1 : Nat) : Int)) := fun x hx => by
      obtain ⟨i, hi', rfl⟩ := of_mem hx
      have := rU i (by simp; omega)
      rw [List.getElem_append_left hi'] at this
      rw [← this]
      exact ⟨by omega, mU (P.length + i) (r - 1) (by omega) (by omega) (by omega)⟩
    have iY : ∀ y ∈ Y, r < mid ∧ ky y ≤ ky (rd (e := E) d ((mid + M - r - 1 : Nat) : Int)) := fun y hy => by
      obtain ⟨i, hi', rfl⟩ := of_mem hy
      have := rV i (by simp; omega)
      rw [List.getElem_append_left hi'] at this
      rw [← this]
      exact ⟨by omega, mV (P.length + (U1 ++ X).length + i) (mid + M - r - 1) (by simp; omega) (by simp; omega) (by omega)⟩
    have iV2 : ∀ y ∈ V2, mid + M - r < B ∧ ky (rd (e := E) d ((mid + M - r : Nat) : Int)) ≤ ky y := fun y hy => by
      obtain ⟨i, hi', rfl⟩ := of_mem hy
      have := rV (Y.length + i) (by simp; omega)
      rw [List.getElem_append_right (by omega)] at this
      simp only [Nat.add_sub_cancel_left] at this
      rw [← this]
      exact ⟨by omega, mV (mid + M - r) (P.length + (U1 ++ X).length + (Y.length + i)) (by omega) (by simp; omega) (by simp; omega)⟩
    have hYX : ∀ x ∈ X, ∀ y ∈ Y, ky y < ky x := fun x hx y hy => by
      obtain ⟨x1, x2⟩ := iX x hx
      obtain ⟨y1, y2⟩ := iY y hy
      have hr : r < hi := by
        rw [hhi]
        split <;> omega
      have := k5 r (Nat.le_refl _) hr
      simp only [p, Bool.not_eq_false', decide_eq_true_eq] at this
      rw [show mid + M - 1 - r = mid + M - r - 1 by omega] at this
      omega
    have hUV : ∀ x ∈ U1, ∀ y ∈ V2, ky x ≤ ky y := fun x hx y hy => by
      obtain ⟨x1, x2⟩ := iU1 x hx
      obtain ⟨y1, y2⟩ := iV2 y hy
      have hr : lo ≤ r - 1 := by
        rw [hlo]
        split <;> omega
      have := k4 (r - 1) hr (by omega)
      simp only [p, Bool.not_eq_true', decide_eq_false_iff_not] at this
      rw [show mid + M - 1 - (r - 1) = mid + M - r by omega] at this
      omega
    have sUY : U1 = [] ∨ Y = [] → Srt ky (U1 ++ Y) := fun h => by
      rcases h with rfl | rfl
      · exact hv.1
      · rw [List.append_nil]; exact hu.1
    have sXV : X = [] ∨ V2 = [] → Srt ky (X ++ V2) := fun h => by
      rcases h with rfl | rfl
      · exact hv.2.1
      · rw [List.append_nil]; exact hu.2.1
    have fin : isort ky (U1 ++ Y) ++ isort ky (X ++ V2) = isort ky ((U1 ++ X) ++ (Y ++ V2)) := by
      refine isort_eq (Srt.app (isort_srt _) (isort_srt _) (fun x hx y hy => ?_)) ?_
      · rw [isort_mem, List.mem_append] at hx hy
        rcases hx with hx | hx <;> rcases hy with hy | hy
        · exact hu.2.2 x hx y hy
        · exact hUV x hx y hy
        · exact Int.le_of_lt (hYX y hy x hx)
        · exact hv.2.2 x hx y hy
      · refine (SE.append (isort_SE _) (isort_SE _)).trans ?_
        have := SE.append (key := ky) (SE.append (SE.refl U1) (SE.swap (X := Y) (Y := X) (fun y hy x hx => by have := hYX x hx y hy; omega))) (SE.refl V2)
        simpa using this
    have l1 : (isort ky (U1 ++ Y)).length = U1.length + Y.length := by rw [isort_len]; simp
    have := sym_gen (rec := symKEn k) (a := (A : Int)) (m := (M : Int)) (b := (B : Int)) (mid := (mid : Int)) (e := ((mid + M - r : Nat) : Int)) (s := 0) (x0 := (r : Int)) (d := d) (d1 := P ++ U1 ++ Y ++ X ++ V2 ++ Q) (d2 := P ++ isort ky (U1 ++ Y) ++ X ++ V2 ++ Q) (d3 := P ++ isort ky (U1 ++ Y) ++ isort ky (X ++ V2) ++ Q) c1 c2 emid (by rw [en, ee]) hl ?_ ?_ ?_
    · rw [this, ← fin]
      simp
    · by_cases c : (r : Int) < (M : Int) ∧ (M : Int) < ((mid + M - r : Nat) : Int)
      · rw [if_pos c]
        have := rot_val (a := (r : Int)) (m := (M : Int)) (b := ((mid + M - r : Nat) : Int)) (P ++ U1) X Y (V2 ++ Q) (by omega) (by omega) (by simp; omega) (by simp; omega) (by simp; omega) (by simp; omega)
        rw [← hd]
        simpa using this
      · rw [if_neg c, ← hd]
        have : X = [] ∨ Y = [] := by
          rcases Nat.eq_zero_or_pos X.length with h | h
          · exact .inl (by simpa using h)
          · refine .inr (by rw [← List.length_eq_zero_iff]; omega)
        rcases this with rfl | rfl <;> simp
    · by_cases c : (A : Int) < (r : Int) ∧ (r : Int) < (mid : Int)
      · rw [if_pos c]
        have := sym_val k P U1 Y (X ++ V2 ++ Q) (A : Int) (r : Int) (mid : Int) (by omega) (by omega) (by omega) hu.1 hv.1 (by omega) (by omega) (by omega) (by simp; omega)
        simpa using this
      · rw [if_neg c]
        have : U1 = [] ∨ Y = [] := by
          rcases Nat.eq_zero_or_pos U1.length with h | h
          · exact .inl (by simpa using h)
          · refine .inr (by rw [← List.length_eq_zero_iff]; omega)
        rw [isort_of_srt (sUY this)]
        simp
    · by_cases c : (mid : Int) < ((mid + M - r : Nat) : Int) ∧ ((mid + M - r : Nat) : Int) < (B : Int)
      · rw [if_pos c]
        have := sym_val k (P ++ isort ky (U1 ++ Y)) X V2 Q (mid : Int) ((mid + M - r : Nat) : Int) (B : Int) (by omega) (by omega) (by omega) hu.2.1 hv.2.1 (by simp [l1]; omega) (by simp [l1]; omega) (by simp [l1]; omega) (by simp [l1]; omega)
        simpa using this
      · rw [if_neg c]
        have : X = [] ∨ V2 = [] := by
          rcases Nat.eq_zero_or_pos X.length with h | h
          · exact .inl (by simpa using h)
          · refine .inr (by rw [← List.length_eq_zero_iff]; omega)
        rw [isort_of_srt (sXV this)]
        simp
theorem sortM_val {P U V Q : List En} {a m b : Int} (hu0 : 0 < U.length) (hv0 : 0 < V.length) (hU : Srt ky U) (hV : Srt ky V) (ha : a = P.length) (hm : m = P.length + U.length) (hb : b = P.length + U.length + V.length) (hs : (P ++ U ++ V ++ Q).length ≤ 1000000) :
    (sortMEn (P ++ U ++ V ++ Q) a m b).val = some (P ++ isort ky (U ++ V) ++ Q) :=
  sym_val FU P U V Q a m b (by simp only [List.length_append] at hs; unfold FU; omega) hu0 hv0 hU hV ha hm hb hs
end SEn
end Go.Ax.Cd
/- The library's stable sort of edges' ends. -/
namespace Go.Ax.Cd
set_option linter.unusedVariables false
set_option maxRecDepth 100000
namespace SEn
inductive Blk (s : Nat) : List En → Prop
  | last (l : List En) : l.length ≤ s → Srt ky l → Blk s l
  | cons (c l : List En) : c.length = s → Srt ky c → Blk s l → Blk s (c ++ l)
theorem Blk.srt {s : Nat} {l : List En} (h : Blk s l) (hl : l.length ≤ s) : Srt ky l := by
  cases h with
  | last _ h1 h2 => exact h2
  | cons c l' h1 h2 h3 =>
    have : l' = [] := by
      rw [← List.length_eq_zero_iff]
      simp at hl
      omega
    subst this
    rw [List.append_nil]
    exact h2
theorem Blk.two {s : Nat} {l : List En} (h : Blk s l) (hl : s < l.length) : ∃ c R, l = c ++ R ∧ c.length = s ∧ Srt ky c ∧ Blk s R := by
  cases h with
  | last _ h1 h2 => omega
  | cons c l' h1 h2 h3 => exact ⟨c, l', rfl, h1, h2, h3⟩
theorem first_loop {n : Int} : ∀ (k : Nat) (R D : List En), n = D.length + R.length → (D ++ R).length ≤ 1000000 → R.length < k →
    ∃ F R2, (T.loop (stabVEnL0Step n 20) k ((D.length : Int), (D.length : Int) + 20, D ++ R)).val = some (((D.length + F.length : Nat) : Int), D ++ F ++ R2) ∧ R2.length < 20 ∧ SE ky (F ++ R2) R ∧ (∀ X, Blk 20 X → Blk 20 (F ++ X))
  | 0, R, D, hn, hs, hk => by omega
  | k + 1, R, D, hn, hs, hk => by
    simp only [List.length_append] at hs
    by_cases c : R.length < 20
    · refine ⟨[], R, loop_end ?_, c, SE.refl _, fun X h => h⟩
      have c1 : ¬ ((D.length : Int) + 20 ≤ n) := by omega
      simp [stabVEnL0Step, c1, T.val_ret]
    · obtain ⟨C, R, rfl, hC⟩ : ∃ C R', R = C ++ R' ∧ C.length = 20 := ⟨R.take 20, R.drop 20, by simp, by simp; omega⟩
      simp only [List.length_append] at hs hn hk
      have c1 : (D.length : Int) + 20 ≤ n := by omega
      have hv := ins_val (a := (D.length : Int)) (b := (D.length : Int) + 20) D C R rfl (by omega) (by simp; omega)
      have lI : (isort ky C).length = 20 := by rw [isort_len, hC]
      obtain ⟨F, R2, k1, k2, k3, k4⟩ := first_loop (n := n) k R (D ++ isort ky C) (by simp [lI]; omega) (by simp [lI]; omega) (by omega)
      have e1 : w64 ((D.length : Int) + 20 + 20) = ((D ++ isort ky C).length : Int) + 20 := by rw [w64_id] <;> (try simp [lI]) <;> omega
      have e2 : ((D ++ isort ky C).length : Int) = (D.length : Int) + 20 := by simp [lI]
      refine ⟨isort ky C ++ F, R2, loop_step (s' := (((D ++ isort ky C).length : Int), ((D ++ isort ky C).length : Int) + 20, D ++ isort ky C ++ R)) ?_ (k1.trans ?_), k2, ?_, fun X h => ?_⟩
      · simp only [stabVEnL0Step, c1, decide_true, cond_true, T.val_bind]
        rw [show D ++ (C ++ R) = D ++ C ++ R by simp, hv]
        simp only [Option.bind_some, T.val_ret, e1]
        rw [e2]
      · simp
        omega
      · rw [List.append_assoc]
        exact SE.append (isort_SE C) k3
      · rw [List.append_assoc]
        exact .cons _ _ lI (isort_srt C) (k4 X h)
theorem pass_loop {n : Int} {s : Nat} (h0 : 0 < s) (hs1 : s ≤ 1000000) : ∀ (k : Nat) (R D : List En), Blk s R → n = D.length + R.length → (D ++ R).length ≤ 1000000 → R.length < k →
    ∃ F R2, (T.loop (stabVEnL2Step n (s : Int)) k ((D.length : Int), (D.length : Int) + 2 * s, D ++ R)).val = some (((D.length + F.length : Nat) : Int), D ++ F ++ R2) ∧ R2.length < 2 * s ∧ Blk s R2 ∧ SE ky (F ++ R2) R ∧ (∀ X, Blk (2 * s) X → Blk (2 * s) (F ++ X))
  | 0, R, D, hR, hn, hs, hk => by omega
  | k + 1, R, D, hR, hn, hs, hk => by
    simp only [List.length_append] at hs
    by_cases c : R.length < 2 * s
    · refine ⟨[], R, loop_end ?_, c, hR, SE.refl _, fun X h => h⟩
      have c1 : ¬ ((D.length : Int) + 2 * s ≤ n) := by omega
      simp [stabVEnL2Step, c1, T.val_ret]
    · obtain ⟨C1, R1, rfl, hC1, sC1, hR1⟩ := hR.two (by omega)
      simp only [List.length_append] at hs hn hk c
      obtain ⟨C2, R, rfl, hC2, sC2, hR⟩ : ∃ C2 R', R1 = C2 ++ R' ∧ C2.length = s ∧ Srt ky C2 ∧ Blk s R' := by
        by_cases c2 : R1.length ≤ s
        · exact ⟨R1, [], by simp, by omega, hR1.srt c2, .last [] (by simp) (by simp [Srt])⟩
        · exact hR1.two (by omega)
      simp only [List.length_append] at hs hn hk c
      have c1 : (D.length : Int) + 2 * s ≤ n := by omega
      have e0 : w64 ((D.length : Int) + (s : Int)) = (D.length : Int) + (s : Int) := by rw [w64_id] <;> omega
      have hv := sortM_val (P := D) (U := C1) (V := C2) (Q := R) (a := (D.length : Int)) (m := w64 ((D.length : Int) + (s : Int))) (b := (D.length : Int) + 2 * s) (by omega) (by omega) sC1 sC2 rfl (by rw [e0]; omega) (by omega) (by simp; omega)
      have lI : (isort ky (C1 ++ C2)).length = 2 * s := by rw [isort_len]; simp; omega
      obtain ⟨F, R2, k1, k2, k2', k3, k4⟩ := pass_loop (n := n) h0 hs1 k R (D ++ isort ky (C1 ++ C2)) hR (by simp [lI]; omega) (by simp [lI]; omega) (by omega)
      have e3 : w64 (2 * (s : Int)) = 2 * s := by rw [w64_id] <;> omega
      have e1 : w64 ((D.length : Int) + 2 * s + w64 (2 * (s : Int))) = ((D ++ isort ky (C1 ++ C2)).length : Int) + 2 * s := by rw [e3, w64_id] <;> (try simp [lI]) <;> omega
      have e2 : ((D ++ isort ky (C1 ++ C2)).length : Int) = (D.length : Int) + 2 * s := by simp [lI]
      refine ⟨isort ky (C1 ++ C2) ++ F, R2, loop_step (s' := (((D ++ isort ky (C1 ++ C2)).length : Int), ((D ++ isort ky (C1 ++ C2)).length : Int) + 2 * s, D ++ isort ky (C1 ++ C2) ++ R)) ?_ (k1.trans ?_), k2, k2', ?_, fun X h => ?_⟩
      · simp only [stabVEnL2Step, c1, decide_true, cond_true, T.val_bind]
        rw [show D ++ (C1 ++ (C2 ++ R)) = D ++ C1 ++ C2 ++ R by simp, hv]
        simp only [Option.bind_some, T.val_ret, e1]
        rw [e2]
      · simp
        omega
      · rw [List.append_assoc, show C1 ++ (C2 ++ R) = (C1 ++ C2) ++ R by simp]
        exact SE.append (isort_SE _) k3
      · rw [List.append_assoc]
        exact .cons _ _ lI (isort_srt _) (k4 X h)
theorem outer_loop {n : Int} : ∀ (k : Nat) (s : Nat) (d : List En), 0 < s → s ≤ 2000000 → Blk s d → n = d.length → d.length ≤ 1000000 → d.length < s + k →
    ∃ d', (T.loop (stabVEnL1Step n) (k + 1) ((s : Int), d)).val = some d' ∧ Srt ky d' ∧ SE ky d' d
  | 0, s, d, h0, hs1, hd, hn, hs, hk => by
    refine ⟨d, loop_end ?_, hd.srt (by omega), SE.refl _⟩
    have c1 : ¬ ((s : Int) < n) := by omega
    simp [stabVEnL1Step, c1, T.val_ret]
  | k + 1, s, d, h0, hs1, hd, hn, hs, hk => by
    by_cases c : (s : Int) < n
    · obtain ⟨F, R2, k1, k2, k2', k3, k4⟩ := pass_loop (n := n) (s := s) h0 (by omega) 4611686018427387904 d [] hd (by simpa using hn) (by simpa using hs) (by omega)
      have hlen : F.length + R2.length = d.length := by
        have h1 := isort_len (key := ky) (F ++ R2)
        rw [isort_of_SE k3, isort_len] at h1
        simp at h1
        omega
      have e3 : w64 (2 * (s : Int)) = 2 * s := by rw [w64_id] <;> omega
      have e4 : w64 ((s : Int) * 2) = ((2 * s : Nat) : Int) := by rw [w64_id] <;> omega
      simp only [List.length_nil, Int.ofNat_zero, Nat.zero_add, List.nil_append, Int.zero_add] at k1
      have k1' : (T.loop (stabVEnL2Step n (s : Int)) 4611686018427387904 (0, w64 (2 * (s : Int)), d)).val = some ((F.length : Int), F ++ R2) := by rw [e3]; exact k1
      have e5 : w64 ((F.length : Int) + (s : Int)) = (F.length : Int) + (s : Int) := by rw [w64_id] <;> omega
      by_cases c2 : (F.length : Int) + (s : Int) < n
      · obtain ⟨C1, R, rfl, hC1, sC1, hR⟩ := k2'.two (by omega)
        simp only [List.length_append] at hlen k2
        have sR := hR.srt (by omega)
        have hv := sortM_val (P := F) (U := C1) (V := R) (Q := []) (a := (F.length : Int)) (m := (F.length : Int) + (s : Int)) (b := n) (by omega) (by omega) sC1 sR rfl (by omega) (by omega) (by simp; omega)
        obtain ⟨d', j1, j2, j3⟩ := outer_loop (n := n) k (2 * s) (F ++ isort ky (C1 ++ R)) (by omega) (by omega) (k4 _ (.last _ (by rw [isort_len]; simp; omega) (isort_srt _))) (by simp [isort_len]; omega) (by simp [isort_len]; omega) (by simp [isort_len]; omega)
        refine ⟨d', loop_step (s' := (((2 * s : Nat) : Int), F ++ isort ky (C1 ++ R))) ?_ j1, j2, j3.trans ((SE.append (SE.refl F) (isort_SE _)).trans k3)⟩
        simp only [stabVEnL1Step, c, decide_true, cond_true, T.val_bind, k1', Option.bind_some, e5, c2]
        rw [show F ++ (C1 ++ R) = F ++ C1 ++ R ++ [] by simp, hv]
        simp only [Option.bind_some, T.val_ret, e4]
        simp
      · have sR := k2'.srt (by omega)
        obtain ⟨d', j1, j2, j3⟩ := outer_loop (n := n) k (2 * s) (F ++ R2) (by omega) (by omega) (k4 _ (.last _ (by omega) sR)) (by simp; omega) (by simp; omega) (by simp; omega)
        refine ⟨d', loop_step (s' := (((2 * s : Nat) : Int), F ++ R2)) ?_ j1, j2, j3.trans k3⟩
        simp only [stabVEnL1Step, c, decide_true, cond_true, T.val_bind, k1', Option.bind_some, e5, c2, decide_false, cond_false, T.val_ret, e4]
    · refine ⟨d, loop_end ?_, hd.srt (by omega), SE.refl _⟩
      simp [stabVEnL1Step, c, T.val_ret]
theorem stab_val (d : List En) (hs : d.length ≤ 1000000) : (stabWEnTr d).val = some (isort ky d) := by
  have key : (stabVEnTr (Int.ofNat d.length) d).val = some (isort ky d) := by
    obtain ⟨F, R2, k1, k2, k3, k4⟩ := first_loop (n := Int.ofNat d.length) 4611686018427387904 d [] (by simp) (by simpa using hs) (by omega)
    have hlen : F.length + R2.length = d.length := by
      have h1 := isort_len (key := ky) (F ++ R2)
      rw [isort_of_SE k3, isort_len] at h1
      simp at h1
      omega
    simp only [List.length_nil, Int.ofNat_zero, Nat.zero_add, List.nil_append, Int.zero_add] at k1
    have hv := ins_val (a := (F.length : Int)) (b := Int.ofNat d.length) F R2 [] rfl (by simp; omega) (by simp; omega)
    simp only [List.append_nil] at hv
    have hl2 : (F ++ isort ky R2).length = d.length := by simp [isort_len]; omega
    obtain ⟨d', j1, j2, j3⟩ := outer_loop (n := Int.ofNat d.length) 4611686018427387903 20 (F ++ isort ky R2) (by omega) (by omega) (k4 _ (.last _ (by rw [isort_len]; omega) (isort_srt _))) (by rw [hl2]; rfl) (by omega) (by omega)
    have hd' : d' = isort ky d := isort_eq j2 (j3.trans ((SE.append (SE.refl F) (isort_SE _)).trans k3))
    unfold stabVEnTr
    rw [T.val_bind, k1, Option.bind_some]
    simp only [T.val_bind, hv, Option.bind_some]
    have j1' : (T.loop (stabVEnL1Step (Int.ofNat d.length)) 4611686018427387904 (20, F ++ isort ky R2)).val = some d' := j1
    rw [j1', hd']
    rfl
  unfold stabWEnTr
  rw [T.val_bind, key]
  rfl
end SEn
end Go.Ax.Cd
/- The contracts of the two stable sorts. -/
namespace Go.Ax.Cd
open Go.Proofs
/-- The row is sorted in its place. -/
@[reducible] def fixC (C : Con) : Con := { C with fix := [0] }
/-- Sorted by keys, those of the same key as they stand. -/
def sortPr (l : List Pr) : List Pr := isort SPr.ky l
def sortEn (l : List En) : List En := isort SEn.ky l
def sortG (n : Nat) : Bool := decide (n ≤ 1000000)
theorem fx_mono {f : Nat} {vs os rs os'} {sp sp' : VhL (.s (.own 0) :: vs) × OShL os → Option (VhL rs × OShL os')} (h : Sound Tryz.prog gl f (Con.fx vs os rs os' sp)) (hs : ∀ x y, sp' x = some y → sp x = some y) : Sound Tryz.prog gl f (Con.fx vs os rs os' sp') :=
  fun a b c d e g => h a b c d e (hs _ _ g)
@[reducible] def stabPrI : Ifc (VhL [.s (.own 0), .clo 93 []] × OShL [.arr (.st .pr)]) (VhL [] × OShL [.arr (.st .pr)]) where
  α := List Pr
  tr x := T.gret (sortG x.2.1.length) (sortPr x.2.1)
  got _ := []
  did _ := []
  enc _ a _ := ((), (a, ()))
  stop _ _ := ((), ([], ()))
abbrev stabPr_T : Type := VhL [.s (.own 0), .clo 93 []] × OShL [.arr (.st .pr)] → Option (VhL [] × OShL [.arr (.st .pr)])
noncomputable abbrev stabPr_C (sp : stabPr_T) : Con := fixC (Con.of [.s (.own 0), .clo 93 []] [.arr (.st .pr)] [] [.arr (.st .pr)] sp)
theorem stabPr_g : Callable Tryz.prog 92 := ⟨Tryz.f92, body Tryz.f92, by kernel_rfl, by kernel_rfl, by kernel_rfl⟩
theorem stabPr_ok : Sound Tryz.prog gl 92 (stabPr_C (Ifc.spec stabPrI)) := fx_mono stabWPr_ok (by
  rintro ⟨⟨⟨⟩, ⟨⟩, ⟨⟩⟩, ⟨l, ⟨⟩⟩⟩ y hy
  unfold Ifc.spec at hy
  dsimp only at hy
  by_cases c : l.length ≤ 1000000
  · rw [show sortG l.length = true from decide_eq_true c] at hy
    cases hy
    show ((stabWPrTr l).val).map _ = _
    rw [SPr.stab_val l c]
    rfl
  · rw [show sortG l.length = false from decide_eq_false c] at hy
    cases hy)
@[reducible] def stabEnI : Ifc (VhL [.s (.own 0), .clo 98 []] × OShL [.arr (.st .en)]) (VhL [] × OShL [.arr (.st .en)]) where
  α := List En
  tr x := T.gret (sortG x.2.1.length) (sortEn x.2.1)
  got _ := []
  did _ := []
  enc _ a _ := ((), (a, ()))
  stop _ _ := ((), ([], ()))
abbrev stabEn_T : Type := VhL [.s (.own 0), .clo 98 []] × OShL [.arr (.st .en)] → Option (VhL [] × OShL [.arr (.st .en)])
noncomputable abbrev stabEn_C (sp : stabEn_T) : Con := fixC (Con.of [.s (.own 0), .clo 98 []] [.arr (.st .en)] [] [.arr (.st .en)] sp)
theorem stabEn_g : Callable Tryz.prog 97 := ⟨Tryz.f97, body Tryz.f97, by kernel_rfl, by kernel_rfl, by kernel_rfl⟩
theorem stabEn_ok : Sound Tryz.prog gl 97 (stabEn_C (Ifc.spec stabEnI)) := fx_mono stabWEn_ok (by
  rintro ⟨⟨⟨⟩, ⟨⟩, ⟨⟩⟩, ⟨l, ⟨⟩⟩⟩ y hy
  unfold Ifc.spec at hy
  dsimp only at hy
  by_cases c : l.length ≤ 1000000
  · rw [show sortG l.length = true from decide_eq_true c] at hy
    cases hy
    show ((stabWEnTr l).val).map _ = _
    rw [SEn.stab_val l c]
    rfl
  · rw [show sortG l.length = false from decide_eq_false c] at hy
    cases hy)
end Go.Ax.Cd
