/- The merge of two sorted blocks, and the whole sort, of pairs. -/
import Derived.Test.YteoeolfcpmalfaaGreatDoorQ21
import Derived.Test.YteoeolfcpmalfaaGreatDoorQ19
namespace Go.Ax.Cd
set_option linter.unusedVariables false
set_option maxRecDepth 100000
namespace SPr
set_option linter.unusedSimpArgs false
theorem rd_in {d L W R : List Pr} (h : d = L ++ W ++ R) {t : Nat} (ht : t < W.length) : rd (e := E) d ((L.length + t : Nat) : Int) = W[t] := by
  subst h
  rw [rd_ge (e := E) (by simp; omega)]
  rw [List.getElem_append_left (by simp; omega), List.getElem_append_right (by omega)]
  simp
theorem of_mem {l : List Pr} {x : Pr} (h : x ∈ l) : ∃ (i : Nat) (hi : i < l.length), l[i] = x := List.mem_iff_getElem.1 h
/-- One into what is sorted behind it. -/
theorem sym1 {rec : List Pr → Int → Int → Int → T (List Pr)} {a m b : Int} (P : List Pr) (x : Pr) (V Q : List Pr) (hV : Srt ky V) (ha : a = P.length) (hm : m = P.length + 1) (hb : b = P.length + 1 + V.length) (hs : (P ++ x :: V ++ Q).length ≤ 1000000) :
    (symPrTr rec a m b (P ++ x :: V ++ Q)).val = some (P ++ isort ky (x :: V) ++ Q) := by
  simp only [List.length_append, List.length_cons] at hs
  have c1 : (w64 (m - a) == 1) = true := by rw [w64_id] <;> (try simp) <;> omega
  let p : Nat → Bool := fun t => decide (ky (rd (e := E) (P ++ x :: V ++ Q) (t : Int)) < ky x)
  have hV' : ∀ t, t < V.length → ∀ (ht : t < V.length), rd (e := E) (P ++ x :: V ++ Q) ((P.length + 1 + t : Nat) : Int) = V[t] := fun t _ ht => by
    have := rd_in (d := P ++ x :: V ++ Q) (L := P ++ [x]) (W := V) (R := Q) (by simp) ht
    simpa using this
  obtain ⟨r, k1, k2, k3, k4, k5⟩ := bs_val (body := symPrL0Step a (P ++ x :: V ++ Q)) (p := p) (lo := P.length + 1) (hi := P.length + 1 + V.length) (fun i j h1 h2 h3 => by
    have hx : rd (e := E) (P ++ x :: V ++ Q) a = x := rd_at (e := E) (A := P) (R := V ++ Q) (by simp) ha
    have ix := inR_at (e := E) (l := P ++ x :: V ++ Q) (A := P) (x := x) (R := V ++ Q) (by simp) ha
    by_cases c : i < j
    · rw [if_pos c]
      have e1 : w64 (sh64 (w64u (w64 ((i : Int) + (j : Int)))) 1) = (((i + j) / 2 : Nat) : Int) := by rw [half] <;> omega
      have e2 : w64 ((((i + j) / 2 : Nat) : Int) + 1) = (((i + j) / 2 + 1 : Nat) : Int) := by rw [w64_id] <;> omega
      have ih := inR_ge (n := (P ++ x :: V ++ Q).length) (i := (i + j) / 2) (by simp; omega)
      obtain ⟨cv, q1, q2⟩ := cmp_val (rd (e := E) (P ++ x :: V ++ Q) (((i + j) / 2 : Nat) : Int)) x
      have cc : ((i : Int) < (j : Int)) := by omega
      have q3 : decide (cv < 0) = p ((i + j) / 2) := q2
      simp only [symPrL0Step, cc, decide_true, cond_true, e1, ih, ix, rdE, hx, T.val_bind, q1, Option.bind_some, q3, e2]
      cases p ((i + j) / 2) <;> rfl
    · rw [if_neg c]
      have cc : ¬ ((i : Int) < (j : Int)) := by omega
      simp only [symPrL0Step, cc, decide_false, cond_false, T.val_ret]) (fun s t h1 h2 h3 ht => by
    have ht' := of_decide_eq_true ht
    obtain ⟨s, rfl⟩ : ∃ s', s = P.length + 1 + s' := ⟨s - (P.length + 1), by omega⟩
    obtain ⟨t, rfl⟩ : ∃ t', t = P.length + 1 + t' := ⟨t - (P.length + 1), by omega⟩
    refine decide_eq_true ?_
    rw [hV' t (by omega) (by omega)] at ht'
    rw [hV' s (by omega) (by omega)]
    have := hV.idx (i := s) (j := t) (by omega) (by omega)
    omega) 4611686018427387904 (P.length + 1) (P.length + 1 + V.length) (by omega) (by omega) (by omega) (Nat.le_refl _) (fun t h1 h2 => by omega) (fun t h1 h2 => by omega)
  have hm1 : m = ((P.length + 1 : Nat) : Int) := by omega
  have hb1 : b = ((P.length + 1 + V.length : Nat) : Int) := by omega
  obtain ⟨V1, V2, rfl, hV1⟩ : ∃ V1 V2, V = V1 ++ V2 ∧ V1.length = r - (P.length + 1) := ⟨V.take (r - (P.length + 1)), V.drop (r - (P.length + 1)), by simp, by simp; omega⟩
  have lo1 : ∀ v ∈ V1, ky v < ky x := fun v hv => by
    obtain ⟨i, hi, rfl⟩ := of_mem hv
    have := of_decide_eq_true (k4 (P.length + 1 + i) (by omega) (by omega))
    rw [hV' i (by simp; omega) (by simp; omega), List.getElem_append_left hi] at this
    exact this
  have hi1 : ∀ v ∈ V2, ky x ≤ ky v := fun v hv => by
    obtain ⟨i, hi, rfl⟩ := of_mem hv
    have hl : (V1 ++ V2).length = V1.length + V2.length := by simp
    have := of_decide_eq_false (k5 (P.length + 1 + (V1.length + i)) (by omega) (by omega))
    rw [hV' (V1.length + i) (by omega) (by omega), List.getElem_append_right (by omega)] at this
    simp at this
    exact this
  have hv2 := List.pairwise_append.1 hV
  have hI : V1 ++ x :: V2 = isort ky (x :: (V1 ++ V2)) := isort_eq (Srt.app hv2.1 (List.pairwise_cons.2 ⟨hi1, hv2.2.1⟩) (fun u hu v hv => by
      rcases List.mem_cons.1 hv with rfl | hv
      · have := lo1 u hu; omega
      · exact hv2.2.2 u hu v hv)) (by
    have := SE.append (key := ky) (SE.swap (X := V1) (Y := [x]) (fun u hu v hv => by simp only [List.mem_singleton] at hv; subst hv; have := lo1 u hu; omega)) (SE.refl V2)
    simpa using this)
  have hf := fwd_loop (r := (r : Int)) V1 P x (V2 ++ Q) 4611686018427387904 (by omega) (by simp at hs ⊢; omega) (by omega)
  unfold symPrTr
  rw [c1, cond_true, T.val_bind, hm1, hb1, k1, Option.bind_some, T.val_bind]
  rw [show P ++ x :: (V1 ++ V2) ++ Q = P ++ x :: V1 ++ (V2 ++ Q) by simp, ha, hf, ← hI]
  simp [T.val_ret]
/-- One into what is sorted ahead of it. -/
theorem sym2 {rec : List Pr → Int → Int → Int → T (List Pr)} {a m b : Int} (P U : List Pr) (y : Pr) (Q : List Pr) (hU : Srt ky U) (hl : 1 < U.length) (ha : a = P.length) (hm : m = P.length + U.length) (hb : b = P.length + U.length + 1) (hs : (P ++ U ++ y :: Q).length ≤ 1000000) :
    (symPrTr rec a m b (P ++ U ++ y :: Q)).val = some (P ++ isort ky (U ++ [y]) ++ Q) := by
  simp only [List.length_append, List.length_cons] at hs
  have c1 : (w64 (m - a) == 1) = false := by rw [w64_id] <;> (try simp) <;> omega
  have c2 : (w64 (b - m) == 1) = true := by rw [w64_id] <;> (try simp) <;> omega
  let p : Nat → Bool := fun t => !decide (ky y < ky (rd (e := E) (P ++ U ++ y :: Q) (t : Int)))
  have hU' : ∀ t, t < U.length → ∀ (ht : t < U.length), rd (e := E) (P ++ U ++ y :: Q) ((P.length + t : Nat) : Int) = U[t] := fun t _ ht => rd_in rfl ht
  obtain ⟨r, k1, k2, k3, k4, k5⟩ := bs_val (body := symPrL2Step m (P ++ U ++ y :: Q)) (p := p) (lo := P.length) (hi := P.length + U.length) (fun i j h1 h2 h3 => by
    have hx : rd (e := E) (P ++ U ++ y :: Q) m = y := rd_at (e := E) (A := P ++ U) (R := Q) rfl (by simp; omega)
    have ix := inR_at (e := E) (l := P ++ U ++ y :: Q) (A := P ++ U) (x := y) (R := Q) (i := m) rfl (by simp; omega)
    by_cases c : i < j
    · rw [if_pos c]
      have e1 : w64 (sh64 (w64u (w64 ((i : Int) + (j : Int)))) 1) = (((i + j) / 2 : Nat) : Int) := by rw [half] <;> omega
      have e2 : w64 ((((i + j) / 2 : Nat) : Int) + 1) = (((i + j) / 2 + 1 : Nat) : Int) := by rw [w64_id] <;> omega
      have ih := inR_ge (n := (P ++ U ++ y :: Q).length) (i := (i + j) / 2) (by simp; omega)
      obtain ⟨cv, q1, q2⟩ := cmp_val y (rd (e := E) (P ++ U ++ y :: Q) (((i + j) / 2 : Nat) : Int))
      have cc : ((i : Int) < (j : Int)) := by omega
      have q3 : (!decide (cv < 0)) = p ((i + j) / 2) := by rw [q2]
      simp only [symPrL2Step, cc, decide_true, cond_true, e1, ih, ix, rdE, hx, T.val_bind, q1, Option.bind_some, q3, e2]
      cases p ((i + j) / 2) <;> rfl
    · rw [if_neg c]
      have cc : ¬ ((i : Int) < (j : Int)) := by omega
      simp only [symPrL2Step, cc, decide_false, cond_false, T.val_ret]) (fun s t h1 h2 h3 ht => by
    obtain ⟨s, rfl⟩ : ∃ s', s = P.length + s' := ⟨s - P.length, by omega⟩
    obtain ⟨t, rfl⟩ : ∃ t', t = P.length + t' := ⟨t - P.length, by omega⟩
    simp only [p, Bool.not_eq_true', decide_eq_false_iff_not] at ht ⊢
    rw [hU' t (by omega) (by omega)] at ht
    rw [hU' s (by omega) (by omega)]
    have := hU.idx (i := s) (j := t) (by omega) (by omega)
    omega) 4611686018427387904 P.length (P.length + U.length) (by omega) (by omega) (by omega) (Nat.le_refl _) (fun t h1 h2 => by omega) (fun t h1 h2 => by omega)
  have hm1 : m = ((P.length + U.length : Nat) : Int) := by omega
  obtain ⟨U1, U2, rfl, hU1⟩ : ∃ U1 U2, U = U1 ++ U2 ∧ U1.length = r - P.length := ⟨U.take (r - P.length), U.drop (r - P.length), by simp, by simp; omega⟩
  have hl2 : (U1 ++ U2).length = U1.length + U2.length := by simp
  have lo1 : ∀ v ∈ U1, ky v ≤ ky y := fun v hv => by
    obtain ⟨i, hi, rfl⟩ := of_mem hv
    have := k4 (P.length + i) (by omega) (by omega)
    simp only [p, Bool.not_eq_true', decide_eq_false_iff_not] at this
    rw [hU' i (by omega) (by omega), List.getElem_append_left hi] at this
    omega
  have hi1 : ∀ v ∈ U2, ky y < ky v := fun v hv => by
    obtain ⟨i, hi, rfl⟩ := of_mem hv
    have := k5 (P.length + (U1.length + i)) (by omega) (by omega)
    simp only [p, Bool.not_eq_false', decide_eq_true_eq] at this
    rw [hU' (U1.length + i) (by omega) (by omega), List.getElem_append_right (by omega)] at this
    simp at this
    exact this
  have hu2 := List.pairwise_append.1 hU
  have hI : U1 ++ y :: U2 = isort ky ((U1 ++ U2) ++ [y]) := isort_eq (Srt.app hu2.1 (List.pairwise_cons.2 ⟨fun v hv => by have := hi1 v hv; omega, hu2.2.1⟩) (fun u hu v hv => by
      rcases List.mem_cons.1 hv with rfl | hv
      · exact lo1 u hu
      · exact hu2.2.2 u hu v hv)) (by
    have := SE.append (key := ky) (SE.refl U1) (SE.swap (X := [y]) (Y := U2) (fun u hu v hv => by simp only [List.mem_singleton] at hu; subst hu; have := hi1 v hv; omega))
    simpa using this)
  have hf := bwd_loop (r := (r : Int)) U2.length U2 (P ++ U1) y Q 4611686018427387904 rfl (by simp; omega) (by simp at hs ⊢; omega) (by omega)
  unfold symPrTr
  rw [hm1] at k1
  rw [c1, cond_false, c2, cond_true, T.val_bind, ha, hm1, k1, Option.bind_some, T.val_bind]
  rw [show ((P.length + (U1 ++ U2).length : Nat) : Int) = (((P ++ U1).length + U2.length : Nat) : Int) by simp; omega, show P ++ (U1 ++ U2) ++ y :: Q = P ++ U1 ++ U2 ++ y :: Q by simp, hf, ← hI]
  simp [T.val_ret]
/-- How the general case goes on. -/
theorem sym_gen {rec : List Pr → Int → Int → Int → T (List Pr)} {a m b mid e s x0 : Int} {d d1 d2 d3 : List Pr} (c1 : (w64 (m - a) == 1) = false) (c2 : (w64 (b - m) == 1) = false) (hmid : w64 (sh64 (w64u (w64 (a + b))) 1) = mid)
    (he : w64 (w64 (mid + m) - x0) = e)
    (hl : (if m > mid then (T.loop (symPrL4Step a m b mid (w64 (mid + m)) (w64 (w64 (mid + m) - 1)) d) 4611686018427387904 (w64 (w64 (mid + m) - b), mid)).val else (T.loop (symPrL4Step a m b mid (w64 (mid + m)) (w64 (w64 (mid + m) - 1)) d) 4611686018427387904 (a, m)).val) = some x0)
    (s1 : if x0 < m ∧ m < e then (rotPrTr x0 m e d).val = some d1 else d1 = d)
    (s2 : if a < x0 ∧ x0 < mid then (rec d1 a x0 mid).val = some d2 else d2 = d1)
    (s3 : if mid < e ∧ e < b then (rec d2 mid e b).val = some d3 else d3 = d2) : (symPrTr rec a m b d).val = some d3 := by
  unfold symPrTr
  simp only [c1, c2, cond_false, hmid]
  have key : ∀ (t : T Int) (K : Int → T (List Pr)), t.val = some x0 → (K x0).val = some d3 → (t.bind K).val = some d3 := fun t K h1 h2 => by rw [T.val_bind, h1]; exact h2
  by_cases c : m > mid
  · rw [if_pos c] at hl
    simp only [c, decide_true, cond_true]
    refine key _ _ hl ?_
    simp only [he]
    clear hl c1 c2 hmid he key
    by_cases h1 : x0 < m <;> by_cases h2 : m < e <;> by_cases h3 : a < x0 <;> by_cases h4 : x0 < mid <;> by_cases h5 : mid < e <;> by_cases h6 : e < b <;>
      simp_all only [and_self, and_false, false_and, if_true, if_false, decide_true, decide_false, cond_true, cond_false, T.val_bind, Option.bind_some, T.val_ret, and_true, true_and]
  · rw [if_neg c] at hl
    simp only [c, decide_false, cond_false]
    refine key _ _ hl ?_
    simp only [he]
    clear hl c1 c2 hmid he key
    by_cases h1 : x0 < m <;> by_cases h2 : m < e <;> by_cases h3 : a < x0 <;> by_cases h4 : x0 < mid <;> by_cases h5 : mid < e <;> by_cases h6 : e < b <;>
      simp_all only [and_self, and_false, false_and, if_true, if_false, decide_true, decide_false, cond_true, cond_false, T.val_bind, Option.bind_some, T.val_ret, and_true, true_and]
end SPr
end Go.Ax.Cd
/- The merge of two sorted blocks of pairs, however long. -/
namespace Go.Ax.Cd
set_option linter.unusedVariables false
set_option maxRecDepth 100000
namespace SPr
set_option maxHeartbeats 4000000 in
theorem sym_val : ∀ (k : Nat) (P U V Q : List Pr) (a m b : Int), U.length + V.length ≤ k → 0 < U.length → 0 < V.length → Srt ky U → Srt ky V → a = P.length → m = P.length + U.length → b = P.length + U.length + V.length → (P ++ U ++ V ++ Q).length ≤ 1000000 →
    (symKPr k (P ++ U ++ V ++ Q) a m b).val = some (P ++ isort ky (U ++ V) ++ Q)
  | 0, P, U, V, Q, a, m, b, hk, hu0, hv0, hU, hV, ha, hm, hb, hs => by omega
  | k + 1, P, U, V, Q, a, m, b, hk, hu0, hv0, hU, hV, ha, hm, hb, hs => by
    show (symPrTr (symKPr k) a m b (P ++ U ++ V ++ Q)).val = _
    by_cases hu1 : U.length = 1
    · obtain ⟨x, rfl⟩ := List.length_eq_one_iff.1 hu1
      have := sym1 (rec := symKPr k) P x V Q hV ha (by simpa using hm) (by simpa using hb) (by simpa using hs)
      simpa using this
    by_cases hv1 : V.length = 1
    · obtain ⟨y, rfl⟩ := List.length_eq_one_iff.1 hv1
      have := sym2 (rec := symKPr k) P U y Q hU (by omega) ha hm (by simpa using hb) (by simpa using hs)
      simpa using this
    simp only [List.length_append] at hs
    generalize hd : P ++ U ++ V ++ Q = d
    have hdl : d.length = P.length + U.length + V.length + Q.length := by rw [← hd]; simp [Nat.add_assoc]
    have rU : ∀ t (ht : t < U.length), rd (e := E) d ((P.length + t : Nat) : Int) = U[t] := fun t ht => rd_in (R := V ++ Q) (by rw [← hd]; simp) ht
    have rV : ∀ t (ht : t < V.length), rd (e := E) d ((P.length + U.length + t : Nat) : Int) = V[t] := fun t ht => by
      have := rd_in (d := d) (L := P ++ U) (W := V) (R := Q) hd.symm ht
      simpa using this
    have mU : ∀ s t, P.length ≤ s → s ≤ t → t < P.length + U.length → ky (rd (e := E) d ((s : Nat) : Int)) ≤ ky (rd (e := E) d ((t : Nat) : Int)) := fun s t h1 h2 h3 => by
      obtain ⟨s, rfl⟩ : ∃ s', s = P.length + s' := ⟨s - P.length, by omega⟩
      obtain ⟨t, rfl⟩ : ∃ t', t = P.length + t' := ⟨t - P.length, by omega⟩
      rw [rU s (by omega), rU t (by omega)]
      exact hU.idx (by omega) (by omega)
    have mV : ∀ s t, P.length + U.length ≤ s → s ≤ t → t < P.length + U.length + V.length → ky (rd (e := E) d ((s : Nat) : Int)) ≤ ky (rd (e := E) d ((t : Nat) : Int)) := fun s t h1 h2 h3 => by
      obtain ⟨s, rfl⟩ : ∃ s', s = P.length + U.length + s' := ⟨s - (P.length + U.length), by omega⟩
      obtain ⟨t, rfl⟩ : ∃ t', t = P.length + U.length + t' := ⟨t - (P.length + U.length), by omega⟩
      rw [rV s (by omega), rV t (by omega)]
      exact hV.idx (by omega) (by omega)
    obtain ⟨A, hA⟩ : ∃ A, A = P.length := ⟨_, rfl⟩
    obtain ⟨M, hM⟩ : ∃ M, M = P.length + U.length := ⟨_, rfl⟩
    obtain ⟨B, hB⟩ : ∃ B, B = P.length + U.length + V.length := ⟨_, rfl⟩
    rw [← hM, ← hA] at mU
    rw [← hB, ← hM] at mV
    obtain ⟨mid, hmid⟩ : ∃ mid, mid = (A + B) / 2 := ⟨_, rfl⟩
    have ha' : a = (A : Int) := by omega
    have hm' : m = (M : Int) := by omega
    have hb' : b = (B : Int) := by omega
    subst ha' hm' hb'
    have c1 : (w64 ((M : Int) - (A : Int)) == 1) = false := by rw [w64_id] <;> (try simp) <;> omega
    have c2 : (w64 ((B : Int) - (M : Int)) == 1) = false := by rw [w64_id] <;> (try simp) <;> omega
    have emid : w64 (sh64 (w64u (w64 ((A : Int) + (B : Int)))) 1) = (mid : Int) := by rw [half] <;> omega
    have en : w64 ((mid : Int) + (M : Int)) = ((mid + M : Nat) : Int) := by rw [w64_id] <;> omega
    have en1 : w64 (((mid + M : Nat) : Int) - 1) = ((mid + M - 1 : Nat) : Int) := by rw [w64_id] <;> omega
    have enb : M > mid → w64 (((mid + M : Nat) : Int) - (B : Int)) = ((mid + M - B : Nat) : Int) := fun h => by rw [w64_id] <;> omega
    obtain ⟨lo, hlo⟩ : ∃ lo, lo = if M > mid then mid + M - B else A := ⟨_, rfl⟩
    obtain ⟨hi, hhi⟩ : ∃ hi, hi = if M > mid then mid else M := ⟨_, rfl⟩
    have b0 : A ≤ lo ∧ lo ≤ hi ∧ hi ≤ M ∧ hi ≤ mid ∧ mid + M ≤ lo + B := by
      rw [hlo, hhi]
      split <;> omega
    obtain ⟨b1, b2, b3, b4, b5⟩ := b0
    let p : Nat → Bool := fun t => !decide (ky (rd (e := E) d ((mid + M - 1 - t : Nat) : Int)) < ky (rd (e := E) d (t : Int)))
    obtain ⟨r, k1, k2, k3, k4, k5⟩ := bs_val (body := symPrL4Step (A : Int) (M : Int) (B : Int) (mid : Int) ((mid + M : Nat) : Int) ((mid + M - 1 : Nat) : Int) d) (p := p) (lo := lo) (hi := hi) (fun i j h1 h2 h3 => by
      by_cases c : i < j
      · rw [if_pos c]
        have e1 : w64 (sh64 (w64u (w64 ((i : Int) + (j : Int)))) 1) = (((i + j) / 2 : Nat) : Int) := by rw [half] <;> omega
        have e2 : w64 ((((i + j) / 2 : Nat) : Int) + 1) = (((i + j) / 2 + 1 : Nat) : Int) := by rw [w64_id] <;> omega
        have e3 : w64 (((mid + M - 1 : Nat) : Int) - (((i + j) / 2 : Nat) : Int)) = ((mid + M - 1 - (i + j) / 2 : Nat) : Int) := by rw [w64_id] <;> omega
        have i1 := inR_ge (n := d.length) (i := (i + j) / 2) (by omega)
        have i2 := inR_ge (n := d.length) (i := mid + M - 1 - (i + j) / 2) (by omega)
        obtain ⟨cv, q1, q2⟩ := cmp_val (rd (e := E) d ((mid + M - 1 - (i + j) / 2 : Nat) : Int)) (rd (e := E) d (((i + j) / 2 : Nat) : Int))
        have cc : ((i : Int) < (j : Int)) := by omega
        have q3 : (!decide (cv < 0)) = p ((i + j) / 2) := by rw [q2]
        simp only [symPrL4Step, cc, decide_true, cond_true, e1, e3, i1, i2, rdE, T.val_bind, q1, Option.bind_some, q3, e2]
        cases p ((i + j) / 2) <;> rfl
      · rw [if_neg c]
        have cc : ¬ ((i : Int) < (j : Int)) := by omega
        simp only [symPrL4Step, cc, decide_false, cond_false, T.val_ret]) (fun s t h1 h2 h3 ht => by
      simp only [p, Bool.not_eq_true', decide_eq_false_iff_not] at ht ⊢
      have := mU s t (by omega) h2 (by omega)
      have := mV (mid + M - 1 - t) (mid + M - 1 - s) (by omega) (by omega) (by omega)
      omega) 4611686018427387904 lo hi (by omega) (Nat.le_refl _) b2 (Nat.le_refl _) (fun t h1 h2 => by omega) (fun t h1 h2 => by omega)
    have ee : w64 (((mid + M : Nat) : Int) - (r : Int)) = ((mid + M - r : Nat) : Int) := by rw [w64_id] <;> omega
    have hl : (if (M : Int) > (mid : Int) then (T.loop (symPrL4Step (A : Int) (M : Int) (B : Int) (mid : Int) (w64 ((mid : Int) + (M : Int))) (w64 (w64 ((mid : Int) + (M : Int)) - 1)) d) 4611686018427387904 (w64 (w64 ((mid : Int) + (M : Int)) - (B : Int)), (mid : Int))).val
        else (T.loop (symPrL4Step (A : Int) (M : Int) (B : Int) (mid : Int) (w64 ((mid : Int) + (M : Int))) (w64 (w64 ((mid : Int) + (M : Int)) - 1)) d) 4611686018427387904 ((A : Int), (M : Int))).val) = some (r : Int) := by
      rw [en, en1]
      by_cases c : M > mid
      · rw [if_pos (by omega), enb c]
        rw [if_pos c] at hlo hhi
        rw [hlo, hhi] at k1
        exact k1
      · rw [if_neg (by omega)]
        rw [if_neg c] at hlo hhi
        rw [hlo, hhi] at k1
        exact k1
    obtain ⟨U1, X, rfl, hU1⟩ : ∃ U1 X, U = U1 ++ X ∧ U1.length = r - A := ⟨U.take (r - A), U.drop (r - A), by simp, by simp; omega⟩
    obtain ⟨Y, V2, rfl, hY⟩ : ∃ Y V2, V = Y ++ V2 ∧ Y.length = mid - r := ⟨V.take (mid - r), V.drop (mid - r), by simp, by simp; omega⟩
    simp only [List.length_append] at hs hM hB hk hdl
    have hu := List.pairwise_append.1 hU
    have hv := List.pairwise_append.1 hV
    -- what lies where
    have iX : ∀ x ∈ X, r < M ∧ ky (rd (e := E) d (r : Int)) ≤ ky x := fun x hx => by
      obtain ⟨i, hi', rfl⟩ := of_mem hx
      have := rU (U1.length + i) (by simp; omega)
      rw [List.getElem_append_right (by omega)] at this
      simp only [Nat.add_sub_cancel_left] at this
      rw [← this]
      exact ⟨by omega, mU r (P.length + (U1.length + i)) (by omega) (by omega) (by omega)⟩
    have iU1 : ∀ x ∈ U1, A < r ∧ ky x ≤ ky (rd (e := E) d ((r - 1 : Nat) : Int)) := fun x hx => by
      obtain ⟨i, hi', rfl⟩ := of_mem hx
      have := rU i (by simp; omega)
      rw [List.getElem_append_left hi'] at this
      rw [← this]
      exact ⟨by omega, mU (P.length + i) (r - 1) (by omega) (by omega) (by omega)⟩
    have iY : ∀ y ∈ Y, r < mid ∧ ky y ≤ ky (rd (e := E) d ((mid + M - r - 1 : Nat) : Int)) := fun y hy => by
      obtain ⟨i, hi', rfl⟩ := of_mem hy
      have := rV i (by simp; omega)
      rw [List.getElem_append_left hi'] at this
      rw [← this]
      exact ⟨by omega, mV (P.length + (U1 ++ X).length + i) (mid + M - r - 1) (by simp; omega) (by simp; omega) (by omega)⟩
    have iV2 : ∀ y ∈ V2, mid + M - r < B ∧ ky (rd (e := E) d ((mid + M - r : Nat) : Int)) ≤ ky y := fun y hy => by
      obtain ⟨i, hi', rfl⟩ := of_mem hy
      have := rV (Y.length + i) (by simp; omega)
      rw [List.getElem_append_right (by omega)] at this
      simp only [Nat.add_sub_cancel_left] at this
      rw [← this]
      exact ⟨by omega, mV (mid + M - r) (P.length + (U1 ++ X).length + (Y.length + i)) (by omega) (by simp; omega) (by simp; omega)⟩
    have hYX : ∀ x ∈ X, ∀ y ∈ Y, ky y < ky x := fun x hx y hy => by
      obtain ⟨x1, x2⟩ := iX x hx
      obtain ⟨y1, y2⟩ := iY y hy
      have hr : r < hi := by
        rw [hhi]
        split <;> omega
      have := k5 r (Nat.le_refl _) hr
      simp only [p, Bool.not_eq_false', decide_eq_true_eq] at this
      rw [show mid + M - 1 - r = mid + M - r - 1 by omega] at this
      omega
    have hUV : ∀ x ∈ U1, ∀ y ∈ V2, ky x ≤ ky y := fun x hx y hy => by
      obtain ⟨x1, x2⟩ := iU1 x hx
      obtain ⟨y1, y2⟩ := iV2 y hy
      have hr : lo ≤ r - 1 := by
        rw [hlo]
        split <;> omega
      have := k4 (r - 1) hr (by omega)
      simp only [p, Bool.not_eq_true', decide_eq_false_iff_not] at this
      rw [show mid + M - 1 - (r - 1) = mid + M - r by omega] at this
      omega
    have sUY : U1 = [] ∨ Y = [] → Srt ky (U1 ++ Y) := fun h => by
      rcases h with rfl | rfl
      · exact hv.1
      · rw [List.append_nil]; exact hu.1
    have sXV : X = [] ∨ V2 = [] → Srt ky (X ++ V2) := fun h => by
      rcases h with rfl | rfl
      · exact hv.2.1
      · rw [List.append_nil]; exact hu.2.1
    have fin : isort ky (U1 ++ Y) ++ isort ky (X ++ V2) = isort ky ((U1 ++ X) ++ (Y ++ V2)) := by
      refine isort_eq (Srt.app (isort_srt _) (isort_srt _) (fun x hx y hy => ?_)) ?_
      · rw [isort_mem, List.mem_append] at hx hy
        rcases hx with hx | hx <;> rcases hy with hy | hy
        · exact hu.2.2 x hx y hy
        · exact hUV x hx y hy
        · exact Int.le_of_lt (hYX y hy x hx)
        · exact hv.2.2 x hx y hy
      · refine (SE.append (isort_SE _) (isort_SE _)).trans ?_
        have := SE.append (key := ky) (SE.append (SE.refl U1) (SE.swap (X := Y) (Y := X) (fun y hy x hx => by have := hYX x hx y hy; omega))) (SE.refl V2)
        simpa using this
    have l1 : (isort ky (U1 ++ Y)).length = U1.length + Y.length := by rw [isort_len]; simp
    have := sym_gen (rec := symKPr k) (a := (A : Int)) (m := (M : Int)) (b := (B : Int)) (mid := (mid : Int)) (e := ((mid + M - r : Nat) : Int)) (s := 0) (x0 := (r : Int)) (d := d) (d1 := P ++ U1 ++ Y ++ X ++ V2 ++ Q) (d2 := P ++ isort ky (U1 ++ Y) ++ X ++ V2 ++ Q) (d3 := P ++ isort ky (U1 ++ Y) ++ isort ky (X ++ V2) ++ Q) c1 c2 emid (by rw [en, ee]) hl ?_ ?_ ?_
    · rw [this, ← fin]
      simp
    · by_cases c : (r : Int) < (M : Int) ∧ (M : Int) < ((mid + M - r : Nat) : Int)
      · rw [if_pos c]
        have := rot_val (a := (r : Int)) (m := (M : Int)) (b := ((mid + M - r : Nat) : Int)) (P ++ U1) X Y (V2 ++ Q) (by omega) (by omega) (by simp; omega) (by simp; omega) (by simp; omega) (by simp; omega)
        rw [← hd]
        simpa using this
      · rw [if_neg c, ← hd]
        have : X = [] ∨ Y = [] := by
          rcases Nat.eq_zero_or_pos X.length with h | h
          · exact .inl (by simpa using h)
          · refine .inr (by rw [← List.length_eq_zero_iff]; omega)
        rcases this with rfl | rfl <;> simp
    · by_cases c : (A : Int) < (r : Int) ∧ (r : Int) < (mid : Int)
      · rw [if_pos c]
        have := sym_val k P U1 Y (X ++ V2 ++ Q) (A : Int) (r : Int) (mid : Int) (by omega) (by omega) (by omega) hu.1 hv.1 (by omega) (by omega) (by omega) (by simp; omega)
        simpa using this
      · rw [if_neg c]
        have : U1 = [] ∨ Y = [] := by
          rcases Nat.eq_zero_or_pos U1.length with h | h
          · exact .inl (by simpa using h)
          · refine .inr (by rw [← List.length_eq_zero_iff]; omega)
        rw [isort_of_srt (sUY this)]
        simp
    · by_cases c : (mid : Int) < ((mid + M - r : Nat) : Int) ∧ ((mid + M - r : Nat) : Int) < (B : Int)
      · rw [if_pos c]
        have := sym_val k (P ++ isort ky (U1 ++ Y)) X V2 Q (mid : Int) ((mid + M - r : Nat) : Int) (B : Int) (by omega) (by omega) (by omega) hu.2.1 hv.2.1 (by simp [l1]; omega) (by simp [l1]; omega) (by simp [l1]; omega) (by simp [l1]; omega)
        simpa using this
      · rw [if_neg c]
        have : X = [] ∨ V2 = [] := by
          rcases Nat.eq_zero_or_pos X.length with h | h
          · exact .inl (by simpa using h)
          · refine .inr (by rw [← List.length_eq_zero_iff]; omega)
        rw [isort_of_srt (sXV this)]
        simp
theorem sortM_val {P U V Q : List Pr} {a m b : Int} (hu0 : 0 < U.length) (hv0 : 0 < V.length) (hU : Srt ky U) (hV : Srt ky V) (ha : a = P.length) (hm : m = P.length + U.length) (hb : b = P.length + U.length + V.length) (hs : (P ++ U ++ V ++ Q).length ≤ 1000000) :
    (sortMPr (P ++ U ++ V ++ Q) a m b).val = some (P ++ isort ky (U ++ V) ++ Q) :=
  sym_val FU P U V Q a m b (by simp only [List.length_append] at hs; unfold FU; omega) hu0 hv0 hU hV ha hm hb hs
end SPr
end Go.Ax.Cd
/- The library's stable sort of pairs. -/
namespace Go.Ax.Cd
set_option linter.unusedVariables false
set_option maxRecDepth 100000
namespace SPr
inductive Blk (s : Nat) : List Pr → Prop
  | last (l : List Pr) : l.length ≤ s → Srt ky l → Blk s l
  | cons (c l : List Pr) : c.length = s → Srt ky c → Blk s l → Blk s (c ++ l)
theorem Blk.srt {s : Nat} {l : List Pr} (h : Blk s l) (hl : l.length ≤ s) : Srt ky l := by
  cases h with
  | last _ h1 h2 => exact h2
  | cons c l' h1 h2 h3 =>
    have : l' = [] := by
      rw [← List.length_eq_zero_iff]
      simp at hl
      omega
    subst this
    rw [List.append_nil]
    exact h2
theorem Blk.two {s : Nat} {l : List Pr} (h : Blk s l) (hl : s < l.length) : ∃ c R, l = c ++ R ∧ c.length = s ∧ Srt ky c ∧ Blk s R := by
  cases h with
  | last _ h1 h2 => omega
  | cons c l' h1 h2 h3 => exact ⟨c, l', rfl, h1, h2, h3⟩
theorem first_loop {n : Int} : ∀ (k : Nat) (R D : List Pr), n = D.length + R.length → (D ++ R).length ≤ 1000000 → R.length < k →
    ∃ F R2, (T.loop (stabVPrL0Step n 20) k ((D.length : Int), (D.length : Int) + 20, D ++ R)).val = some (((D.length + F.length : Nat) : Int), D ++ F ++ R2) ∧ R2.length < 20 ∧ SE ky (F ++ R2) R ∧ (∀ X, Blk 20 X → Blk 20 (F ++ X))
  | 0, R, D, hn, hs, hk => by omega
  | k + 1, R, D, hn, hs, hk => by
    simp only [List.length_append] at hs
    by_cases c : R.length < 20
    · refine ⟨[], R, loop_end ?_, c, SE.refl _, fun X h => h⟩
      have c1 : ¬ ((D.length : Int) + 20 ≤ n) := by omega
      simp [stabVPrL0Step, c1, T.val_ret]
    · obtain ⟨C, R, rfl, hC⟩ : ∃ C R', R = C ++ R' ∧ C.length = 20 := ⟨R.take 20, R.drop 20, by simp, by simp; omega⟩
      simp only [List.length_append] at hs hn hk
      have c1 : (D.length : Int) + 20 ≤ n := by omega
      have hv := ins_val (a := (D.length : Int)) (b := (D.length : Int) + 20) D C R rfl (by omega) (by simp; omega)
      have lI : (isort ky C).length = 20 := by rw [isort_len, hC]
      obtain ⟨F, R2, k1, k2, k3, k4⟩ := first_loop (n := n) k R (D ++ isort ky C) (by simp [lI]; omega) (by simp [lI]; omega) (by omega)
      have e1 : w64 ((D.length : Int) + 20 + 20) = ((D ++ isort ky C).length : Int) + 20 := by rw [w64_id] <;> (try simp [lI]) <;> omega
      have e2 : ((D ++ isort ky C).length : Int) = (D.length : Int) + 20 := by simp [lI]
      refine ⟨isort ky C ++ F, R2, loop_step (s' := (((D ++ isort ky C).length : Int), ((D ++ isort ky C).length : Int) + 20, D ++ isort ky C ++ R)) ?_ (k1.trans ?_), k2, ?_, fun X h => ?_⟩
      · simp only [stabVPrL0Step, c1, decide_true, cond_true, T.val_bind]
        rw [show D ++ (C ++ R) = D ++ C ++ R by simp, hv]
        simp only [Option.bind_some, T.val_ret, e1]
        rw [e2]
      · simp
        omega
      · rw [List.append_assoc]
        exact SE.append (isort_SE C) k3
      · rw [List.append_assoc]
        exact .cons _ _ lI (isort_srt C) (k4 X h)
theorem pass_loop {n : Int} {s : Nat} (h0 : 0 < s) (hs1 : s ≤ 1000000) : ∀ (k : Nat) (R D : List Pr), Blk s R → n = D.length + R.length → (D ++ R).length ≤ 1000000 → R.length < k →
    ∃ F R2, (T.loop (stabVPrL2Step n (s : Int)) k ((D.length : Int), (D.length : Int) + 2 * s, D ++ R)).val = some (((D.length + F.length : Nat) : Int), D ++ F ++ R2) ∧ R2.length < 2 * s ∧ Blk s R2 ∧ SE ky (F ++ R2) R ∧ (∀ X, Blk (2 * s) X → Blk (2 * s) (F ++ X))
  | 0, R, D, hR, hn, hs, hk => by omega
  | k + 1, R, D, hR, hn, hs, hk => by
    simp only [List.length_append] at hs
    by_cases c : R.length < 2 * s
    · refine ⟨[], R, loop_end ?_, c, hR, SE.refl _, fun X h => h⟩
      have c1 : ¬ ((D.length : Int) + 2 * s ≤ n) := by omega
      simp [stabVPrL2Step, c1, T.val_ret]
    · obtain ⟨C1, R1, rfl, hC1, sC1, hR1⟩ := hR.two (by omega)
      simp only [List.length_append] at hs hn hk c
      obtain ⟨C2, R, rfl, hC2, sC2, hR⟩ : ∃ C2 R', R1 = C2 ++ R' ∧ C2.length = s ∧ Srt ky C2 ∧ Blk s R' := by
        by_cases c2 : R1.length ≤ s
        · exact ⟨R1, [], by simp, by omega, hR1.srt c2, .last [] (by simp) (by simp [Srt])⟩
        · exact hR1.two (by omega)
      simp only [List.length_append] at hs hn hk c
      have c1 : (D.length : Int) + 2 * s ≤ n := by omega
      have e0 : w64 ((D.length : Int) + (s : Int)) = (D.length : Int) + (s : Int) := by rw [w64_id] <;> omega
      have hv := sortM_val (P := D) (U := C1) (V := C2) (Q := R) (a := (D.length : Int)) (m := w64 ((D.length : Int) + (s : Int))) (b := (D.length : Int) + 2 * s) (by omega) (by omega) sC1 sC2 rfl (by rw [e0]; omega) (by omega) (by simp; omega)
      have lI : (isort ky (C1 ++ C2)).length = 2 * s := by rw [isort_len]; simp; omega
      obtain ⟨F, R2, k1, k2, k2', k3, k4⟩ := pass_loop (n := n) h0 hs1 k R (D ++ isort ky (C1 ++ C2)) hR (by simp [lI]; omega) (by simp [lI]; omega) (by omega)
      have e3 : w64 (2 * (s : Int)) = 2 * s := by rw [w64_id] <;> omega
      have e1 : w64 ((D.length : Int) + 2 * s + w64 (2 * (s : Int))) = ((D ++ isort ky (C1 ++ C2)).length : Int) + 2 * s := by rw [e3, w64_id] <;> (try simp [lI]) <;> omega
      have e2 : ((D ++ isort ky (C1 ++ C2)).length : Int) = (D.length : Int) + 2 * s := by simp [lI]
      refine ⟨isort ky (C1 ++ C2) ++ F, R2, loop_step (s' := (((D ++ isort ky (C1 ++ C2)).length : Int), ((D ++ isort ky (C1 ++ C2)).length : Int) + 2 * s, D ++ isort ky (C1 ++ C2) ++ R)) ?_ (k1.trans ?_), k2, k2', ?_, fun X h => ?_⟩
      · simp only [stabVPrL2Step, c1, decide_true, cond_true, T.val_bind]
        rw [show D ++ (C1 ++ (C2 ++ R)) = D ++ C1 ++ C2 ++ R by simp, hv]
        simp only [Option.bind_some, T.val_ret, e1]
        rw [e2]
      · simp
        omega
      · rw [List.append_assoc, show C1 ++ (C2 ++ R) = (C1 ++ C2) ++ R by simp]
        exact SE.append (isort_SE _) k3
      · rw [List.append_assoc]
        exact .cons _ _ lI (isort_srt _) (k4 X h)
theorem outer_loop {n : Int} : ∀ (k : Nat) (s : Nat) (d : List Pr), 0 < s → s ≤ 2000000 → Blk s d → n = d.length → d.length ≤ 1000000 → d.length < s + k →
    ∃ d', (T.loop (stabVPrL1Step n) (k + 1) ((s : Int), d)).val = some d' ∧ Srt ky d' ∧ SE ky d' d
  | 0, s, d, h0, hs1, hd, hn, hs, hk => by
    refine ⟨d, loop_end ?_, hd.srt (by omega), SE.refl _⟩
    have c1 : ¬ ((s : Int) < n) := by omega
    simp [stabVPrL1Step, c1, T.val_ret]
  | k + 1, s, d, h0, hs1, hd, hn, hs, hk => by
    by_cases c : (s : Int) < n
    · obtain ⟨F, R2, k1, k2, k2', k3, k4⟩ := pass_loop (n := n) (s := s) h0 (by omega) 4611686018427387904 d [] hd (by simpa using hn) (by simpa using hs) (by omega)
      have hlen : F.length + R2.length = d.length := by
        have h1 := isort_len (key := ky) (F ++ R2)
        rw [isort_of_SE k3, isort_len] at h1
        simp at h1
        omega
      have e3 : w64 (2 * (s : Int)) = 2 * s := by rw [w64_id] <;> omega
      have e4 : w64 ((s : Int) * 2) = ((2 * s : Nat) : Int) := by rw [w64_id] <;> omega
      simp only [List.length_nil, Int.ofNat_zero, Nat.zero_add, List.nil_append, Int.zero_add] at k1
      have k1' : (T.loop (stabVPrL2Step n (s : Int)) 4611686018427387904 (0, w64 (2 * (s : Int)), d)).val = some ((F.length : Int), F ++ R2) := by rw [e3]; exact k1
      have e5 : w64 ((F.length : Int) + (s : Int)) = (F.length : Int) + (s : Int) := by rw [w64_id] <;> omega
      by_cases c2 : (F.length : Int) + (s : Int) < n
      · obtain ⟨C1, R, rfl, hC1, sC1, hR⟩ := k2'.two (by omega)
        simp only [List.length_append] at hlen k2
        have sR := hR.srt (by omega)
        have hv := sortM_val (P := F) (U := C1) (V := R) (Q := []) (a := (F.length : Int)) (m := (F.length : Int) + (s : Int)) (b := n) (by omega) (by omega) sC1 sR rfl (by omega) (by omega) (by simp; omega)
        obtain ⟨d', j1, j2, j3⟩ := outer_loop (n := n) k (2 * s) (F ++ isort ky (C1 ++ R)) (by omega) (by omega) (k4 _ (.last _ (by rw [isort_len]; simp; omega) (isort_srt _))) (by simp [isort_len]; omega) (by simp [isort_len]; omega) (by simp [isort_len]; omega)
        refine ⟨d', loop_step (s' := (((2 * s : Nat) : Int), F ++ isort ky (C1 ++ R))) ?_ j1, j2, j3.trans ((SE.append (SE.refl F) (isort_SE _)).trans k3)⟩
        simp only [stabVPrL1Step, c, decide_true, cond_true, T.val_bind, k1', Option.bind_some, e5, c2]
        rw [show F ++ (C1 ++ R) = F ++ C1 ++ R ++ [] by simp, hv]
        simp only [Option.bind_some, T.val_ret, e4]
        simp
      · have sR := k2'.srt (by omega)
        obtain ⟨d', j1, j2, j3⟩ := outer_loop (n := n) k (2 * s) (F ++ R2) (by omega) (by omega) (k4 _ (.last _ (by omega) sR)) (by simp; omega) (by simp; omega) (by simp; omega)
        refine ⟨d', loop_step (s' := (((2 * s : Nat) : Int), F ++ R2)) ?_ j1, j2, j3.trans k3⟩
        simp only [stabVPrL1Step, c, decide_true, cond_true, T.val_bind, k1', Option.bind_some, e5, c2, decide_false, cond_false, T.val_ret, e4]
    · refine ⟨d, loop_end ?_, hd.srt (by omega), SE.refl _⟩
      simp [stabVPrL1Step, c, T.val_ret]
theorem stab_val (d : List Pr) (hs : d.length ≤ 1000000) : (stabWPrTr d).val = some (isort ky d) := by
  have key : (stabVPrTr (Int.ofNat d.length) d).val = some (isort ky d) := by
    obtain ⟨F, R2, k1, k2, k3, k4⟩ := first_loop (n := Int.ofNat d.length) 4611686018427387904 d [] (by simp) (by simpa using hs) (by omega)
    have hlen : F.length + R2.length = d.length := by
      have h1 := isort_len (key := ky) (F ++ R2)
      rw [isort_of_SE k3, isort_len] at h1
      simp at h1
      omega
    simp only [List.length_nil, Int.ofNat_zero, Nat.zero_add, List.nil_append, Int.zero_add] at k1
    have hv := ins_val (a := (F.length : Int)) (b := Int.ofNat d.length) F R2 [] rfl (by simp; omega) (by simp; omega)
    simp only [List.append_nil] at hv
    have hl2 : (F ++ isort ky R2).length = d.length := by simp [isort_len]; omega
    obtain ⟨d', j1, j2, j3⟩ := outer_loop (n := Int.ofNat d.length) 4611686018427387903 20 (F ++ isort ky R2) (by omega) (by omega) (k4 _ (.last _ (by rw [isort_len]; omega) (isort_srt _))) (by rw [hl2]; rfl) (by omega) (by omega)
    have hd' : d' = isort ky d := isort_eq j2 (j3.trans ((SE.append (SE.refl F) (isort_SE _)).trans k3))
    unfold stabVPrTr
    rw [T.val_bind, k1, Option.bind_some]
    simp only [T.val_bind, hv, Option.bind_some]
    have j1' : (T.loop (stabVPrL1Step (Int.ofNat d.length)) 4611686018427387904 (20, F ++ isort ky R2)).val = some d' := j1
    rw [j1', hd']
    rfl
  unfold stabWPrTr
  rw [T.val_bind, key]
  rfl
end SPr
end Go.Ax.Cd
/- The package code by contracts (printed by wip/tools/con3.py). -/
namespace Go.Ax.Cd
open Go.Proofs
set_option linter.unusedVariables false
set_option maxRecDepth 100000
abbrev cdw1q0 : List OSh := [.arr (.st .en)]
def cmpEnTr (a : En) (b : En) : T (Int) :=
 (cmpITr a.edge b.edge).bind fun x0 =>
 .ret x0
@[reducible] def cmpEnI : PIf (VhL [.s (.e (.st .en)), .s (.e (.st .en))] × OShL []) (VhL [vi] × OShL []) where
  α := Int
  tr x := cmpEnTr x.1.1 x.1.2.1
  enc x a := ((a, ()), ())
abbrev cmpEn_T : Type := VhL [.s (.e (.st .en)), .s (.e (.st .en))] × OShL [] → Option (VhL [vi] × OShL [])
noncomputable abbrev cmpEn_C (sp : cmpEn_T) : Con := Con.of [.s (.e (.st .en)), .s (.e (.st .en))] [] [vi] [] sp
theorem cmpEn_g : Callable Tryz.prog 98 := ⟨Tryz.f98, body Tryz.f98, by kernel_rfl, by kernel_rfl, by kernel_rfl⟩
theorem cmpEn_raw (sp_cmpI : cmpI_T) (a : En) (b : En) : runN Tryz.f98 [.s (.e (.st .en)), .s (.e (.st .en))] [] [vi] [] [(94, cmpI_C sp_cmpI)] [] [] (((a, b, ()), ()) : VhL [.s (.e (.st .en)), .s (.e (.st .en))] × OShL []) = ((sp_cmpI ((a.edge, b.edge, ()), ())).bind fun val => some ((val.1.1, ()), ())) := by kernel_rfl
theorem cmpEn_ok : Sound Tryz.prog gl 98 (cmpEn_C (PIf.spec cmpEnI)) := by
  refine cnk (fn := Tryz.f98) (G := [(94, cmpI_C (PIf.spec cmpII))]) (GOk.cons cmpI_g cmpI_ok (GOk.nil)) (by kernel_rfl) (by kernel_rfl) (Lc := []) (nh := []) (noloopN (by kernel_rfl)) ?_
  rintro ⟨⟨a, b, _⟩, _⟩
  refine (cmpEn_raw (PIf.spec cmpII) a b).trans ?_
  show _ = ((cmpEnTr a b).val).map (cmpEnI.enc ((a, b, ()), ()))
  unfold cmpEnTr
  repeat' (first | (refine bindP (fun _ => ?_); try dsimp only [selim, cond_true, cond_false, Bool.not_true, Bool.not_false, one, mI, cmpII]) | rfl)
abbrev swapEnL0vs : List Vh := [.s (.ownC 0), vi, vi, vi, vi]
abbrev swapEnL0os : List OSh := cdw1q0
noncomputable abbrev swapEnL0fin : Fin := (Fin.one 1 Tryz.f135.ntmps (.exit 0) [0] [.s (.ownC 0)] cdw1q0)
def swapEnL0Step (v1 : Int) (v2 : Int) (v3 : Int) (st : Int × List En) : T ((Int × List En) ⊕ (List En)) :=
 let v4 := st.1
 let d := st.2
 bif decide (v4 < v3) then
 bif inR (w64 (v2 + v4)) d.length then
 bif inR (w64 (v1 + v4)) d.length then
 bif inR (w64 (v1 + v4)) d.length then
 bif inR (w64 (v2 + v4)) (wrE (EK.st SN.en) d (w64 (v1 + v4)) (rdE (EK.st SN.en) d (w64 (v2 + v4)))).length then
 .ret (Sum.inl (w64 (v4 + 1), wrE (EK.st SN.en) (wrE (EK.st SN.en) d (w64 (v1 + v4)) (rdE (EK.st SN.en) d (w64 (v2 + v4)))) (w64 (v2 + v4)) (rdE (EK.st SN.en) d (w64 (v1 + v4)))))
 else
 .bot
 else
 .bot
 else
 .bot
 else
 .bot
 else
 .ret (Sum.inr d)
@[reducible] def swapEnL0I : PIf (VhL swapEnL0vs × OShL swapEnL0os) swapEnL0fin.Y where
  α := List En
  tr x := T.loop (swapEnL0Step x.1.2.1 x.1.2.2.1 x.1.2.2.2.1) FU (x.1.2.2.2.2.1, x.2.1)
  enc x a := ((x.1.1, ()), (a, ()))
theorem swapEnL0_raw (sp_cmpEn : cmpEn_T) (v0 : Value) (v1 : Int) (v2 : Int) (v3 : Int) (v4 : Int) (d : List En) : runW 1 Tryz.f135 0 [0, 1, 2, 3, 10] swapEnL0vs swapEnL0os swapEnL0fin [(98, cmpEn_C sp_cmpEn)] [] [] (((v0, v1, v2, v3, v4, ()), (d, ())) : VhL swapEnL0vs × OShL swapEnL0os) = (bif decide (v4 < v3) then bif inR (w64 (v2 + v4)) d.length then bif inR (w64 (v1 + v4)) d.length then bif inR (w64 (v1 + v4)) d.length then bif inR (w64 (v2 + v4)) (wrE (EK.st SN.en) d (w64 (v1 + v4)) (rdE (EK.st SN.en) d (w64 (v2 + v4)))).length then some (Sum.inl ((v0, v1, v2, v3, w64 (v4 + 1), ()), wrE (EK.st SN.en) (wrE (EK.st SN.en) d (w64 (v1 + v4)) (rdE (EK.st SN.en) d (w64 (v2 + v4)))) (w64 (v2 + v4)) (rdE (EK.st SN.en) d (w64 (v1 + v4))), ())) else none else none else none else none
else some (Sum.inr ((v0, ()), d, ()))) := by kernel_rfl
theorem swapEnL0_ok : LOk Tryz.prog gl 1 (LCon.of Tryz.f135.ntmps [0, 1, 2, 3, 10] swapEnL0vs swapEnL0os swapEnL0fin (PIf.spec swapEnL0I)) (getL (body Tryz.f135) 0) := by
  refine lwk (Lc := []) (nh := []) (G := [(98, cmpEn_C (PIf.spec cmpEnI))]) (GOk.cons cmpEn_g cmpEn_ok (GOk.nil)) (noloopN (by kernel_rfl)) (Fin.one_ok _ _ _ _) ?_
  rintro ⟨⟨v0, v1, v2, v3, v4, _⟩, ⟨d, _⟩⟩ y hy
  refine ⟨_, loopP_ok (eX := fun (st : Int × List En) => (let v4 := st.1; let d := st.2; ((v0, v1, v2, v3, v4, ()), (d, ())) : VhL swapEnL0vs × OShL swapEnL0os)) (body := swapEnL0Step v1 v2 v3) (fun st => ?_) _ (v4, d) y hy⟩
  obtain ⟨v4, d⟩ := st
  refine (swapEnL0_raw (PIf.spec cmpEnI) v0 v1 v2 v3 v4 d).trans ?_
  unfold swapEnL0Step
  repeat' (first | refine cond_outP (fun _ => ?_) (fun _ => ?_) | rfl)
def swapEnTr (a : Int) (b : Int) (n : Int) (d : List En) : T (List En) :=
 (T.loop (swapEnL0Step a b n) 4611686018427387904 (0, d)).bind fun x0 =>
 .ret x0
@[reducible] def swapEnCI : PIf (VhL [.s (.ownC 0), vi, vi, vi, .clo 98 []] × OShL cdw1q0) (VhL [.s (.ownC 0)] × OShL cdw1q0) where
  α := List En
  tr x := swapEnTr x.1.2.1 x.1.2.2.1 x.1.2.2.2.1 x.2.1
  enc x a := ((x.1.1, ()), (a, ()))
@[reducible] def swapEnI : PIf (VhL [.s (.own 0), vi, vi, vi, .clo 98 []] × OShL cdw1q0) (VhL [] × OShL cdw1q0) where
  α := List En
  tr x := swapEnTr x.1.2.1 x.1.2.2.1 x.1.2.2.2.1 x.2.1
  enc x a := ((), (a, ()))
abbrev swapEn_T : Type := VhL [.s (.own 0), vi, vi, vi, .clo 98 []] × OShL cdw1q0 → Option (VhL [] × OShL cdw1q0)
noncomputable abbrev swapEn_C (sp : swapEn_T) : Con := Con.fx [vi, vi, vi, .clo 98 []] cdw1q0 [] cdw1q0 sp
theorem swapEn_g : Callable Tryz.prog 135 := ⟨Tryz.f135, body Tryz.f135, by kernel_rfl, by kernel_rfl, by kernel_rfl⟩
theorem swapEn_raw (sp_cmpEn : cmpEn_T) (sp_swapEnL0 : VhL swapEnL0vs × OShL swapEnL0os → Option swapEnL0fin.Y) (c0 : Value) (a : Int) (b : Int) (n : Int) (d : List En) : runX Tryz.f135 [vi, vi, vi, .clo 98 []] cdw1q0 [] cdw1q0 [(98, cmpEn_C sp_cmpEn)] [(1, LCon.of Tryz.f135.ntmps [0, 1, 2, 3, 10] swapEnL0vs swapEnL0os swapEnL0fin sp_swapEnL0)] [] (((c0, a, b, n, (), ()), (d, ())) : VhL [.s (.ownC 0), vi, vi, vi, .clo 98 []] × OShL cdw1q0) = ((sp_swapEnL0 ((c0, a, b, n, 0, ()), d, ())).bind fun val => some ((val.1.1, ()), val.2.1, ())) := by kernel_rfl
theorem swapEn_ok : Sound Tryz.prog gl 135 (swapEn_C (PIf.spec swapEnI)) := by
  refine cxk (I := swapEnCI) (J := swapEnI) (fn := Tryz.f135) (G := [(98, cmpEn_C (PIf.spec cmpEnI))]) (GOk.cons cmpEn_g cmpEn_ok (GOk.nil)) (by kernel_rfl) (by kernel_rfl) (Lc := [(1, LCon.of Tryz.f135.ntmps [0, 1, 2, 3, 10] swapEnL0vs swapEnL0os swapEnL0fin (PIf.spec swapEnL0I))]) (nh := []) (lcok (bs := [getL (body Tryz.f135) 0]) (by kernel_rfl) ⟨lone_ok (q := (1, LCon.of Tryz.f135.ntmps [0, 1, 2, 3, 10] swapEnL0vs swapEnL0os swapEnL0fin (PIf.spec swapEnL0I))) (by kernel_rfl) swapEnL0_ok, trivial⟩) ?_ (fun c0 x o y h => by obtain ⟨a, h1, rfl⟩ := Option.map_eq_some_iff.1 h; exact Option.map_eq_some_iff.2 ⟨a, h1, rfl⟩)
  rintro ⟨⟨c0, a, b, n, _, _⟩, ⟨d, _⟩⟩
  refine (swapEn_raw (PIf.spec cmpEnI) (PIf.spec swapEnL0I) c0 a b n d).trans ?_
  show _ = ((swapEnTr a b n d).val).map (swapEnCI.enc ((c0, a, b, n, (), ()), (d, ())))
  unfold swapEnTr
  repeat' (first | (refine bindP (fun _ => ?_); try dsimp only [selim, cond_true, cond_false, Bool.not_true, Bool.not_false, one, mI, cmpEnI, swapEnL0I]) | rfl)
abbrev rotEnL0vs : List Vh := [.s (.ownC 0), vi, .clo 98 [], vi, vi]
abbrev rotEnL0os : List OSh := cdw1q0
noncomputable abbrev rotEnL0fin : Fin := (Fin.one 1 Tryz.f130.ntmps (.exit 0) [0, 2, 4, 10] [.s (.ownC 0), vi, .clo 98 [], vi] cdw1q0)
def rotEnL0Step (v1 : Int) (st : Int × Int × List En) : T ((Int × Int × List En) ⊕ (Int × List En)) :=
 let v2 := st.1
 let v3 := st.2.1
 let d := st.2.2
 bif v2 != v3 then
 bif decide (v2 > v3) then
 (swapEnTr (w64 (v1 - v2)) v1 v3 d).bind fun x0 =>
 .ret (Sum.inl (w64 (v2 - v3), v3, x0))
 else
 (swapEnTr (w64 (v1 - v2)) (w64 (w64 (v1 + v3) - v2)) v2 d).bind fun x0 =>
 .ret (Sum.inl (v2, w64 (v3 - v2), x0))
 else
 .ret (Sum.inr (v2, d))
@[reducible] def rotEnL0I : PIf (VhL rotEnL0vs × OShL rotEnL0os) rotEnL0fin.Y where
  α := Int × List En
  tr x := T.loop (rotEnL0Step x.1.2.1) FU (x.1.2.2.2.1, x.1.2.2.2.2.1, x.2.1)
  enc x a := ((x.1.1, x.1.2.1, (), a.1, ()), (a.2, ()))
theorem rotEnL0_raw (sp_cmpEn : cmpEn_T) (sp_swapEn : swapEn_T) (v0 : Value) (v1 : Int) (v2 : Int) (v3 : Int) (d : List En) : runW 1 Tryz.f130 0 [0, 2, 4, 10, 11] rotEnL0vs rotEnL0os rotEnL0fin [(98, cmpEn_C sp_cmpEn), (135, swapEn_C sp_swapEn)] [] [] (((v0, v1, (), v2, v3, ()), (d, ())) : VhL rotEnL0vs × OShL rotEnL0os) = (bif v2 != v3 then bif decide (v2 > v3) then (sp_swapEn (((), w64 (v1 - v2), v1, v3, (), ()), d, ())).bind fun val => some (Sum.inl ((v0, v1, (), w64 (v2 - v3), v3, ()), val.2.1, ())) else (sp_swapEn (((), w64 (v1 - v2), w64 (w64 (v1 + v3) - v2), v2, (), ()), d, ())).bind fun val => some (Sum.inl ((v0, v1, (), v2, w64 (v3 - v2), ()), val.2.1, ()))
else some (Sum.inr ((v0, v1, (), v2, ()), d, ()))) := by kernel_rfl
theorem rotEnL0_ok : LOk Tryz.prog gl 1 (LCon.of Tryz.f130.ntmps [0, 2, 4, 10, 11] rotEnL0vs rotEnL0os rotEnL0fin (PIf.spec rotEnL0I)) (getL (body Tryz.f130) 0) := by
  refine lwk (Lc := []) (nh := []) (G := [(98, cmpEn_C (PIf.spec cmpEnI)), (135, swapEn_C (PIf.spec swapEnI))]) (GOk.cons cmpEn_g cmpEn_ok (GOk.cons swapEn_g swapEn_ok (GOk.nil))) (noloopN (by kernel_rfl)) (Fin.one_ok _ _ _ _) ?_
  rintro ⟨⟨v0, v1, _, v2, v3, _⟩, ⟨d, _⟩⟩ y hy
  refine ⟨_, loopP_ok (eX := fun (st : Int × Int × List En) => (let v2 := st.1; let v3 := st.2.1; let d := st.2.2; ((v0, v1, (), v2, v3, ()), (d, ())) : VhL rotEnL0vs × OShL rotEnL0os)) (body := rotEnL0Step v1) (fun st => ?_) _ (v2, v3, d) y hy⟩
  obtain ⟨v2, v3, d⟩ := st
  refine (rotEnL0_raw (PIf.spec cmpEnI) (PIf.spec swapEnI) v0 v1 v2 v3 d).trans ?_
  unfold rotEnL0Step
  repeat' (first | refine cond_outP (fun _ => ?_) (fun _ => ?_) | (refine bindP (fun _ => ?_); try dsimp only [selim, cond_true, cond_false, Bool.not_true, Bool.not_false, one, mI, cmpEnI, swapEnI]) | rfl)
def rotEnTr (a : Int) (m : Int) (b : Int) (d : List En) : T (List En) :=
 (T.loop (rotEnL0Step m) 4611686018427387904 (w64 (m - a), w64 (b - m), d)).bind fun x0 =>
 (swapEnTr (w64 (m - x0.1)) m x0.1 x0.2).bind fun x1 =>
 .ret x1
@[reducible] def rotEnCI : PIf (VhL [.s (.ownC 0), vi, vi, vi, .clo 98 []] × OShL cdw1q0) (VhL [.s (.ownC 0)] × OShL cdw1q0) where
  α := List En
  tr x := rotEnTr x.1.2.1 x.1.2.2.1 x.1.2.2.2.1 x.2.1
  enc x a := ((x.1.1, ()), (a, ()))
@[reducible] def rotEnI : PIf (VhL [.s (.own 0), vi, vi, vi, .clo 98 []] × OShL cdw1q0) (VhL [] × OShL cdw1q0) where
  α := List En
  tr x := rotEnTr x.1.2.1 x.1.2.2.1 x.1.2.2.2.1 x.2.1
  enc x a := ((), (a, ()))
abbrev rotEn_T : Type := VhL [.s (.own 0), vi, vi, vi, .clo 98 []] × OShL cdw1q0 → Option (VhL [] × OShL cdw1q0)
noncomputable abbrev rotEn_C (sp : rotEn_T) : Con := Con.fx [vi, vi, vi, .clo 98 []] cdw1q0 [] cdw1q0 sp
theorem rotEn_g : Callable Tryz.prog 130 := ⟨Tryz.f130, body Tryz.f130, by kernel_rfl, by kernel_rfl, by kernel_rfl⟩
theorem rotEn_raw (sp_cmpEn : cmpEn_T) (sp_swapEn : swapEn_T) (sp_rotEnL0 : VhL rotEnL0vs × OShL rotEnL0os → Option rotEnL0fin.Y) (c0 : Value) (a : Int) (m : Int) (b : Int) (d : List En) : runX Tryz.f130 [vi, vi, vi, .clo 98 []] cdw1q0 [] cdw1q0 [(98, cmpEn_C sp_cmpEn), (135, swapEn_C sp_swapEn)] [(2, LCon.of Tryz.f130.ntmps [0, 2, 4, 10, 11] rotEnL0vs rotEnL0os rotEnL0fin sp_rotEnL0)] [] (((c0, a, m, b, (), ()), (d, ())) : VhL [.s (.ownC 0), vi, vi, vi, .clo 98 []] × OShL cdw1q0) = ((sp_rotEnL0 ((c0, m, (), w64 (m - a), w64 (b - m), ()), d, ())).bind fun val => (sp_swapEn (((), w64 (val.1.2.1 - val.1.2.2.2.1), val.1.2.1, val.1.2.2.2.1, (), ()), val.2.1, ())).bind fun val_1 => some ((val.1.1, ()), val_1.2.1, ())) := by kernel_rfl
theorem rotEn_ok : Sound Tryz.prog gl 130 (rotEn_C (PIf.spec rotEnI)) := by
  refine cxk (I := rotEnCI) (J := rotEnI) (fn := Tryz.f130) (G := [(98, cmpEn_C (PIf.spec cmpEnI)), (135, swapEn_C (PIf.spec swapEnI))]) (GOk.cons cmpEn_g cmpEn_ok (GOk.cons swapEn_g swapEn_ok (GOk.nil))) (by kernel_rfl) (by kernel_rfl) (Lc := [(2, LCon.of Tryz.f130.ntmps [0, 2, 4, 10, 11] rotEnL0vs rotEnL0os rotEnL0fin (PIf.spec rotEnL0I))]) (nh := []) (lcok (bs := [getL (body Tryz.f130) 0]) (by kernel_rfl) ⟨lone_ok (q := (2, LCon.of Tryz.f130.ntmps [0, 2, 4, 10, 11] rotEnL0vs rotEnL0os rotEnL0fin (PIf.spec rotEnL0I))) (by kernel_rfl) rotEnL0_ok, trivial⟩) ?_ (fun c0 x o y h => by obtain ⟨a, h1, rfl⟩ := Option.map_eq_some_iff.1 h; exact Option.map_eq_some_iff.2 ⟨a, h1, rfl⟩)
  rintro ⟨⟨c0, a, m, b, _, _⟩, ⟨d, _⟩⟩
  refine (rotEn_raw (PIf.spec cmpEnI) (PIf.spec swapEnI) (PIf.spec rotEnL0I) c0 a m b d).trans ?_
  show _ = ((rotEnTr a m b d).val).map (rotEnCI.enc ((c0, a, m, b, (), ()), (d, ())))
  unfold rotEnTr
  repeat' (first | (refine bindP (fun _ => ?_); try dsimp only [selim, cond_true, cond_false, Bool.not_true, Bool.not_false, one, mI, cmpEnI, swapEnI, rotEnL0I]) | rfl)
abbrev insEnL1vs : List Vh := [.s (.ownC 0), vi, vi, .clo 98 [], vi, vi]
abbrev insEnL1os : List OSh := cdw1q0
noncomputable abbrev insEnL1fin : Fin := (Fin.one 1 Tryz.f123.ntmps (.exit 2) [0, 1, 2, 3, 8] [.s (.ownC 0), vi, vi, .clo 98 [], vi] cdw1q0)
def insEnL1Step (v1 : Int) (v2 : Int) (v3 : Int) (st : Int × List En) : T ((Int × List En) ⊕ (List En)) :=
 let v4 := st.1
 let d := st.2
 bif decide (v4 > v1) then
 bif inR v4 d.length then
 bif inR (w64 (v4 - 1)) d.length then
 (cmpEnTr (rdE (EK.st SN.en) d v4) (rdE (EK.st SN.en) d (w64 (v4 - 1)))).bind fun x0 =>
 bif decide (x0 < 0) then
 bif inR (w64 (v4 - 1)) d.length then
 bif inR v4 d.length then
 bif inR v4 d.length then
 bif inR (w64 (v4 - 1)) (wrE (EK.st SN.en) d v4 (rdE (EK.st SN.en) d (w64 (v4 - 1)))).length then
 .ret (Sum.inl (w64 (v4 - 1), wrE (EK.st SN.en) (wrE (EK.st SN.en) d v4 (rdE (EK.st SN.en) d (w64 (v4 - 1)))) (w64 (v4 - 1)) (rdE (EK.st SN.en) d v4)))
 else
 .bot
 else
 .bot
 else
 .bot
 else
 .bot
 else
 .ret (Sum.inr d)
 else
 .bot
 else
 .bot
 else
 .ret (Sum.inr d)
@[reducible] def insEnL1I : PIf (VhL insEnL1vs × OShL insEnL1os) insEnL1fin.Y where
  α := List En
  tr x := T.loop (insEnL1Step x.1.2.1 x.1.2.2.1 x.1.2.2.2.2.1) FU (x.1.2.2.2.2.2.1, x.2.1)
  enc x a := ((x.1.1, x.1.2.1, x.1.2.2.1, (), x.1.2.2.2.2.1, ()), (a, ()))
theorem insEnL1_raw (sp_cmpEn : cmpEn_T) (v0 : Value) (v1 : Int) (v2 : Int) (v3 : Int) (v4 : Int) (d : List En) : runW 1 Tryz.f123 1 [0, 1, 2, 3, 8, 9] insEnL1vs insEnL1os insEnL1fin [(98, cmpEn_C sp_cmpEn)] [] [] (((v0, v1, v2, (), v3, v4, ()), (d, ())) : VhL insEnL1vs × OShL insEnL1os) = (bif decide (v4 > v1) then bif inR v4 d.length then bif inR (w64 (v4 - 1)) d.length then (sp_cmpEn ((rdE (EK.st SN.en) d v4, rdE (EK.st SN.en) d (w64 (v4 - 1)), ()), ())).bind fun val => bif decide (val.1.1 < 0) then bif inR (w64 (v4 - 1)) d.length then bif inR v4 d.length then bif inR v4 d.length then bif inR (w64 (v4 - 1)) (wrE (EK.st SN.en) d v4 (rdE (EK.st SN.en) d (w64 (v4 - 1)))).length then some (Sum.inl ((v0, v1, v2, (), v3, w64 (v4 - 1), ()), wrE (EK.st SN.en) (wrE (EK.st SN.en) d v4 (rdE (EK.st SN.en) d (w64 (v4 - 1)))) (w64 (v4 - 1)) (rdE (EK.st SN.en) d v4), ())) else none else none else none else none else some (Sum.inr ((v0, v1, v2, (), v3, ()), d, ())) else none else none
else some (Sum.inr ((v0, v1, v2, (), v3, ()), d, ()))) := by kernel_rfl
theorem insEnL1_ok : LOk Tryz.prog gl 1 (LCon.of Tryz.f123.ntmps [0, 1, 2, 3, 8, 9] insEnL1vs insEnL1os insEnL1fin (PIf.spec insEnL1I)) (getL (body Tryz.f123) 1) := by
  refine lwk (Lc := []) (nh := []) (G := [(98, cmpEn_C (PIf.spec cmpEnI))]) (GOk.cons cmpEn_g cmpEn_ok (GOk.nil)) (noloopN (by kernel_rfl)) (Fin.one_ok _ _ _ _) ?_
  rintro ⟨⟨v0, v1, v2, _, v3, v4, _⟩, ⟨d, _⟩⟩ y hy
  refine ⟨_, loopP_ok (eX := fun (st : Int × List En) => (let v4 := st.1; let d := st.2; ((v0, v1, v2, (), v3, v4, ()), (d, ())) : VhL insEnL1vs × OShL insEnL1os)) (body := insEnL1Step v1 v2 v3) (fun st => ?_) _ (v4, d) y hy⟩
  obtain ⟨v4, d⟩ := st
  refine (insEnL1_raw (PIf.spec cmpEnI) v0 v1 v2 v3 v4 d).trans ?_
  unfold insEnL1Step
  repeat' (first | refine cond_outP (fun _ => ?_) (fun _ => ?_) | (refine bindP (fun _ => ?_); try dsimp only [selim, cond_true, cond_false, Bool.not_true, Bool.not_false, one, mI, cmpEnI]) | rfl)
abbrev insEnL0vs : List Vh := [.s (.ownC 0), vi, vi, .clo 98 [], vi]
abbrev insEnL0os : List OSh := cdw1q0
noncomputable abbrev insEnL0fin : Fin := (Fin.one 1 Tryz.f123.ntmps (.exit 0) [0] [.s (.ownC 0)] cdw1q0)
def insEnL0Step (v1 : Int) (v2 : Int) (st : Int × List En) : T ((Int × List En) ⊕ (List En)) :=
 let v3 := st.1
 let d := st.2
 bif decide (v3 < v2) then
 (T.loop (insEnL1Step v1 v2 v3) 4611686018427387904 (v3, d)).bind fun x0 =>
 .ret (Sum.inl (w64 (v3 + 1), x0))
 else
 .ret (Sum.inr d)
@[reducible] def insEnL0I : PIf (VhL insEnL0vs × OShL insEnL0os) insEnL0fin.Y where
  α := List En
  tr x := T.loop (insEnL0Step x.1.2.1 x.1.2.2.1) FU (x.1.2.2.2.2.1, x.2.1)
  enc x a := ((x.1.1, ()), (a, ()))
theorem insEnL0_raw (sp_cmpEn : cmpEn_T) (sp_insEnL1 : VhL insEnL1vs × OShL insEnL1os → Option insEnL1fin.Y) (v0 : Value) (v1 : Int) (v2 : Int) (v3 : Int) (d : List En) : runW 1 Tryz.f123 0 [0, 1, 2, 3, 8] insEnL0vs insEnL0os insEnL0fin [(98, cmpEn_C sp_cmpEn)] [(4, LCon.of Tryz.f123.ntmps [0, 1, 2, 3, 8, 9] insEnL1vs insEnL1os insEnL1fin sp_insEnL1)] [] (((v0, v1, v2, (), v3, ()), (d, ())) : VhL insEnL0vs × OShL insEnL0os) = (bif decide (v3 < v2) then (sp_insEnL1 ((v0, v1, v2, (), v3, v3, ()), d, ())).bind fun val => some (Sum.inl ((val.1.1, val.1.2.1, val.1.2.2.1, (), w64 (val.1.2.2.2.2.1 + 1), ()), val.2.1, ()))
else some (Sum.inr ((v0, ()), d, ()))) := by kernel_rfl
theorem insEnL0_ok : LOk Tryz.prog gl 1 (LCon.of Tryz.f123.ntmps [0, 1, 2, 3, 8] insEnL0vs insEnL0os insEnL0fin (PIf.spec insEnL0I)) (getL (body Tryz.f123) 0) := by
  refine lwk (Lc := [(4, LCon.of Tryz.f123.ntmps [0, 1, 2, 3, 8, 9] insEnL1vs insEnL1os insEnL1fin (PIf.spec insEnL1I))]) (nh := []) (G := [(98, cmpEn_C (PIf.spec cmpEnI))]) (GOk.cons cmpEn_g cmpEn_ok (GOk.nil)) (lcok (bs := [getL (body Tryz.f123) 1]) (by kernel_rfl) ⟨lone_ok (q := (4, LCon.of Tryz.f123.ntmps [0, 1, 2, 3, 8, 9] insEnL1vs insEnL1os insEnL1fin (PIf.spec insEnL1I))) (by kernel_rfl) insEnL1_ok, trivial⟩) (Fin.one_ok _ _ _ _) ?_
  rintro ⟨⟨v0, v1, v2, _, v3, _⟩, ⟨d, _⟩⟩ y hy
  refine ⟨_, loopP_ok (eX := fun (st : Int × List En) => (let v3 := st.1; let d := st.2; ((v0, v1, v2, (), v3, ()), (d, ())) : VhL insEnL0vs × OShL insEnL0os)) (body := insEnL0Step v1 v2) (fun st => ?_) _ (v3, d) y hy⟩
  obtain ⟨v3, d⟩ := st
  refine (insEnL0_raw (PIf.spec cmpEnI) (PIf.spec insEnL1I) v0 v1 v2 v3 d).trans ?_
  unfold insEnL0Step
  repeat' (first | refine cond_outP (fun _ => ?_) (fun _ => ?_) | (refine bindP (fun _ => ?_); try dsimp only [selim, cond_true, cond_false, Bool.not_true, Bool.not_false, one, mI, cmpEnI, insEnL1I]) | rfl)
def insEnTr (a : Int) (b : Int) (d : List En) : T (List En) :=
 (T.loop (insEnL0Step a b) 4611686018427387904 (w64 (a + 1), d)).bind fun x0 =>
 .ret x0
@[reducible] def insEnCI : PIf (VhL [.s (.ownC 0), vi, vi, .clo 98 []] × OShL cdw1q0) (VhL [.s (.ownC 0)] × OShL cdw1q0) where
  α := List En
  tr x := insEnTr x.1.2.1 x.1.2.2.1 x.2.1
  enc x a := ((x.1.1, ()), (a, ()))
@[reducible] def insEnI : PIf (VhL [.s (.own 0), vi, vi, .clo 98 []] × OShL cdw1q0) (VhL [] × OShL cdw1q0) where
  α := List En
  tr x := insEnTr x.1.2.1 x.1.2.2.1 x.2.1
  enc x a := ((), (a, ()))
abbrev insEn_T : Type := VhL [.s (.own 0), vi, vi, .clo 98 []] × OShL cdw1q0 → Option (VhL [] × OShL cdw1q0)
noncomputable abbrev insEn_C (sp : insEn_T) : Con := Con.fx [vi, vi, .clo 98 []] cdw1q0 [] cdw1q0 sp
theorem insEn_g : Callable Tryz.prog 123 := ⟨Tryz.f123, body Tryz.f123, by kernel_rfl, by kernel_rfl, by kernel_rfl⟩
theorem insEn_raw (sp_cmpEn : cmpEn_T) (sp_insEnL1 : VhL insEnL1vs × OShL insEnL1os → Option insEnL1fin.Y) (sp_insEnL0 : VhL insEnL0vs × OShL insEnL0os → Option insEnL0fin.Y) (c0 : Value) (a : Int) (b : Int) (d : List En) : runX Tryz.f123 [vi, vi, .clo 98 []] cdw1q0 [] cdw1q0 [(98, cmpEn_C sp_cmpEn)] [(4, LCon.of Tryz.f123.ntmps [0, 1, 2, 3, 8, 9] insEnL1vs insEnL1os insEnL1fin sp_insEnL1), (1, LCon.of Tryz.f123.ntmps [0, 1, 2, 3, 8] insEnL0vs insEnL0os insEnL0fin sp_insEnL0)] [] (((c0, a, b, (), ()), (d, ())) : VhL [.s (.ownC 0), vi, vi, .clo 98 []] × OShL cdw1q0) = ((sp_insEnL0 ((c0, a, b, (), w64 (a + 1), ()), d, ())).bind fun val => some ((val.1.1, ()), val.2.1, ())) := by kernel_rfl
theorem insEn_ok : Sound Tryz.prog gl 123 (insEn_C (PIf.spec insEnI)) := by
  refine cxk (I := insEnCI) (J := insEnI) (fn := Tryz.f123) (G := [(98, cmpEn_C (PIf.spec cmpEnI))]) (GOk.cons cmpEn_g cmpEn_ok (GOk.nil)) (by kernel_rfl) (by kernel_rfl) (Lc := [(4, LCon.of Tryz.f123.ntmps [0, 1, 2, 3, 8, 9] insEnL1vs insEnL1os insEnL1fin (PIf.spec insEnL1I)), (1, LCon.of Tryz.f123.ntmps [0, 1, 2, 3, 8] insEnL0vs insEnL0os insEnL0fin (PIf.spec insEnL0I))]) (nh := []) (lcok (bs := [getL (body Tryz.f123) 0, getL (body Tryz.f123) 1]) (by kernel_rfl) ⟨lone_ok (q := (1, LCon.of Tryz.f123.ntmps [0, 1, 2, 3, 8] insEnL0vs insEnL0os insEnL0fin (PIf.spec insEnL0I))) (by kernel_rfl) insEnL0_ok, lone_ok (q := (4, LCon.of Tryz.f123.ntmps [0, 1, 2, 3, 8, 9] insEnL1vs insEnL1os insEnL1fin (PIf.spec insEnL1I))) (by kernel_rfl) insEnL1_ok, trivial⟩) ?_ (fun c0 x o y h => by obtain ⟨a, h1, rfl⟩ := Option.map_eq_some_iff.1 h; exact Option.map_eq_some_iff.2 ⟨a, h1, rfl⟩)
  rintro ⟨⟨c0, a, b, _, _⟩, ⟨d, _⟩⟩
  refine (insEn_raw (PIf.spec cmpEnI) (PIf.spec insEnL1I) (PIf.spec insEnL0I) c0 a b d).trans ?_
  show _ = ((insEnTr a b d).val).map (insEnCI.enc ((c0, a, b, (), ()), (d, ())))
  unfold insEnTr
  repeat' (first | (refine bindP (fun _ => ?_); try dsimp only [selim, cond_true, cond_false, Bool.not_true, Bool.not_false, one, mI, cmpEnI, insEnL1I, insEnL0I]) | rfl)
end Go.Ax.Cd
