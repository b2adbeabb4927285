/- Merged. -/
import Derived.Test.YthcfkplfmjcmoaaGreatDoorQ28
import Derived.Test.YthcfkplfmjcmoaaGreatDoorQ26
import Derived.Test.YthcfkplfmjcmoaaGreatDoorQ21
import Derived.Test.YthcfkplfmjcmoaaGreatDoorQ24
import Derived.Test.YthcfkplfmjcmoaaGreatDoorQ27
import Derived.Test.YthcfkplfmjcmoaaGreatDoorQ20
namespace Go.Ax.Cd
set_option linter.unusedVariables false
set_option maxRecDepth 100000
namespace SEn
abbrev E : EK := .st .en
abbrev ky (x : En) : Int := x.edge
theorem cmp_val (x y : En) : ∃ c, (lJ x y).val = some c ∧ decide (c < 0) = decide (ky x < ky y) := by
 unfold lJ sF
 by_cases h1 : x.edge < y.edge
 ·exact ⟨-1, by simp [T.val_bind, T.val_ret, h1], by simp [ky, h1]⟩
 ·by_cases h2 : y.edge < x.edge
  ·exact ⟨1, by simp [T.val_bind, T.val_ret, h1, h2], by simp [ky, h1]⟩
  ·exact ⟨0, by simp [T.val_bind, T.val_ret, h1, h2], by simp [ky, h1]⟩
theorem swap_loop {a b n : Int} : ∀ (X Y A B C : List En) (i : Int) (k : Nat), X.length = Y.length → 0 ≤ i → i + X.length = n → a + i = A.length → b + i = A.length + X.length + B.length → 0 ≤ a → 0 ≤ b → (A ++ X ++ B ++ Y ++ C).length ≤ 1000000 → X.length < k →
  (T.loop (dO a b n) k (i, A ++ X ++ B ++ Y ++ C)).val = some (A ++ Y ++ B ++ X ++ C)
 | [], Y, A, B, C, i, k, hl, hi, hn, ha, hb, ha0, hb0, hs, hk => by
  obtain ⟨k, rfl⟩ : ∃ k', k = k' + 1 := ⟨k - 1, by simp at hk; omega⟩
  have : Y = [] := by simpa using hl.symm
  subst this
  refine bA ?_
  have : ¬ i < n := by simp at hn; omega
  simp [dO, this, T.val_ret]
 | x :: X, [], A, B, C, i, k, hl, _, _, _, _, _, _, _, _ => by simp at hl
 | x :: X, y :: Y, A, B, C, i, k, hl, hi, hn, ha, hb, ha0, hb0, hs, hk => by
  obtain ⟨k, rfl⟩ : ∃ k', k = k' + 1 := ⟨k - 1, by simp at hk; omega⟩
  simp only [List.length_append, List.length_cons] at hs hl hn hb hk
  have e1 : w64 (a + i) = (A.length : Int) := by rw [aD] <;> omega
  have e2 : w64 (b + i) = ((A ++ x :: X ++ B).length : Int) := by rw [aD] <;> (try simp) <;> omega
  have e2' : w64 (b + i) = ((A ++ y :: X ++ B).length : Int) := by rw [e2]; simp
  have e3 : w64 (i + 1) = i + 1 := by rw [aD] <;> omega
  have d1 : A ++ x :: X ++ B ++ y :: Y ++ C = A ++ x :: (X ++ B ++ y :: Y ++ C) := by simp
  have d2 : A ++ x :: X ++ B ++ y :: Y ++ C = (A ++ x :: X ++ B) ++ y :: (Y ++ C) := by simp
  have r1 : rd (e := E) (A ++ x :: X ++ B ++ y :: Y ++ C) (w64 (a + i)) = x := rd_at d1 e1
  have r2 : rd (e := E) (A ++ x :: X ++ B ++ y :: Y ++ C) (w64 (b + i)) = y := rd_at d2 e2
  have w1 : wr (e := E) (A ++ x :: X ++ B ++ y :: Y ++ C) (w64 (a + i)) y = A ++ y :: (X ++ B ++ y :: Y ++ C) := kX d1 e1
  have d3 : A ++ y :: (X ++ B ++ y :: Y ++ C) = (A ++ y :: X ++ B) ++ y :: (Y ++ C) := by simp
  have w2 : wr (e := E) (A ++ y :: (X ++ B ++ y :: Y ++ C)) (w64 (b + i)) x = (A ++ y :: X ++ B) ++ x :: (Y ++ C) := kX d3 e2'
  have i1 := bT (e := E) d1 e1
  have i2 := bT (e := E) d2 e2
  have i3 := bT (e := E) d3 e2'
  have ih := swap_loop (a := a) (b := b) (n := n) X Y (A ++ [y]) (B ++ [x]) C (i + 1) k (by omega) (by omega) (by omega) (by simp; omega) (by simp; omega) ha0 hb0 (by simp; omega) (by omega)
  refine aW (s' := (i + 1, A ++ [y] ++ X ++ (B ++ [x]) ++ Y ++ C)) ?_ (ih.trans (by simp))
  have c : i < n := by omega
  simp only [dO, rdE, wrE, c, decide_true, cond_true, i1, i2, r1, r2, w1, w2, i3, e3, T.val_ret]
  simp
theorem swap_val {a b n : Int} (X Y A B C : List En) (hl : X.length = Y.length) (hn : n = X.length) (ha : a = A.length) (hb : b = A.length + X.length + B.length) (hs : (A ++ X ++ B ++ Y ++ C).length ≤ 1000000) :
  (gV a b n (A ++ X ++ B ++ Y ++ C)).val = some (A ++ Y ++ B ++ X ++ C) := by
 unfold gV
 have hs' := hs
 simp only [List.length_append] at hs'
 rw [T.val_bind, swap_loop X Y A B C 0 _ hl (Int.le_refl _) (by omega) (by omega) (by omega) (by omega) (by omega) hs (by omega)]
 rfl
theorem rot_loop {m : Int} : ∀ (s : Nat) (P X Y Q : List En) (k : Nat), X.length + Y.length ≤ s → 0 < X.length → 0 < Y.length → m = P.length + X.length → (P ++ X ++ Y ++ Q).length ≤ 1000000 → s < k →
  ∃ P' X' Y' Q' : List En, (T.loop (dH m) k ((X.length : Int), (Y.length : Int), P ++ X ++ Y ++ Q)).val = some ((X'.length : Int), P' ++ X' ++ Y' ++ Q') ∧ X'.length = Y'.length ∧ m = P'.length + X'.length ∧ (P' ++ X' ++ Y' ++ Q').length ≤ 1000000 ∧ P' ++ Y' ++ X' ++ Q' = P ++ Y ++ X ++ Q
 | 0, P, X, Y, Q, k, h, hx, _, _, _, _ => by omega
 | s + 1, P, X, Y, Q, k, h, hx, hy, hm, hs, hk => by
  obtain ⟨k, rfl⟩ : ∃ k', k = k' + 1 := ⟨k - 1, by omega⟩
  have hs' := hs
  simp only [List.length_append] at hs'
  by_cases c : X.length = Y.length
  ·refine ⟨P, X, Y, Q, bA ?_, c, hm, hs, rfl⟩
   simp [dH, c, T.val_ret]
  ·have c1 : ((X.length : Int) != (Y.length : Int)) = true := by simp; omega
   by_cases c2 : X.length > Y.length
   ·-- the first part of X for Y
    obtain ⟨X1, X2, rfl, hX1⟩ : ∃ X1 X2, X = X1 ++ X2 ∧ X1.length = Y.length := ⟨X.take Y.length, X.drop Y.length, by simp, by simp; omega⟩
    simp only [List.length_append] at h hm c c2 hs' hx
    have e1 : w64 (m - ((X1 ++ X2).length : Int)) = (P.length : Int) := by rw [aD] <;> (try simp) <;> omega
    have e2 : w64 (((X1 ++ X2).length : Int) - (Y.length : Int)) = (X2.length : Int) := by rw [aD] <;> (try simp) <;> omega
    have hv := swap_val (a := P.length) (b := m) (n := Y.length) X1 Y P X2 Q hX1 (by omega) rfl (by omega) (by simp; omega)
    obtain ⟨P', X', Y', Q', k1, k2, k3, k4, k5⟩ := rot_loop (m := m) s (P ++ Y) X2 X1 Q k (by omega) (by omega) (by omega) (by simp; omega) (by simp; omega) (by omega)
    refine ⟨P', X', Y', Q', aW (s' := ((X2.length : Int), (Y.length : Int), P ++ Y ++ X2 ++ X1 ++ Q)) ?_ (by rw [← hX1]; exact k1), k2, k3, k4, by rw [k5]; simp⟩
    have c3 : ((X1 ++ X2).length : Int) > (Y.length : Int) := by simp; omega
    have d : P ++ (X1 ++ X2) ++ Y ++ Q = P ++ X1 ++ X2 ++ Y ++ Q := by simp
    simp only [dH, c1, c3, decide_true, cond_true, e1, e2, T.val_bind, d, hv, Option.bind_some, T.val_ret]
   ·obtain ⟨Y1, Y2, rfl, hY2⟩ : ∃ Y1 Y2, Y = Y1 ++ Y2 ∧ Y2.length = X.length := ⟨Y.take (Y.length - X.length), Y.drop (Y.length - X.length), by simp, by simp; omega⟩
    simp only [List.length_append] at h hm c c2 hs' hy
    have e1 : w64 (m - (X.length : Int)) = (P.length : Int) := by rw [aD] <;> omega
    have e2 : w64 (((Y1 ++ Y2).length : Int) - (X.length : Int)) = (Y1.length : Int) := by rw [aD] <;> (try simp) <;> omega
    have e4 : w64 (m + ((Y1 ++ Y2).length : Int)) = m + ((Y1 ++ Y2).length : Int) := by rw [aD] <;> (try simp) <;> omega
    have e3 : w64 (w64 (m + ((Y1 ++ Y2).length : Int)) - (X.length : Int)) = (P.length : Int) + X.length + Y1.length := by rw [e4, aD] <;> (try simp) <;> omega
    have hv := swap_val (a := P.length) (b := (P.length : Int) + X.length + Y1.length) (n := X.length) X Y2 P Y1 Q hY2.symm rfl rfl rfl (by simp; omega)
    obtain ⟨P', X', Y', Q', k1, k2, k3, k4, k5⟩ := rot_loop (m := m) s P Y2 Y1 (X ++ Q) k (by omega) (by omega) (by omega) (by omega) (by simp; omega) (by omega)
    refine ⟨P', X', Y', Q', aW (s' := ((X.length : Int), (Y1.length : Int), P ++ Y2 ++ Y1 ++ (X ++ Q))) ?_ (by rw [← hY2]; exact k1), k2, k3, k4, by rw [k5]; simp⟩
    have c3 : ¬ ((X.length : Int) > ((Y1 ++ Y2).length : Int)) := by simp; omega
    have d : P ++ X ++ (Y1 ++ Y2) ++ Q = P ++ X ++ Y1 ++ Y2 ++ Q := by simp
    simp only [dH, c1, c3, decide_false, cond_true, cond_false, e1, e2, e3, T.val_bind, d, hv, Option.bind_some, T.val_ret]
    simp
theorem rot_val {a m b : Int} (P X Y Q : List En) (hx : 0 < X.length) (hy : 0 < Y.length) (ha : a = P.length) (hm : m = P.length + X.length) (hb : b = P.length + X.length + Y.length) (hs : (P ++ X ++ Y ++ Q).length ≤ 1000000) :
  (lL a m b (P ++ X ++ Y ++ Q)).val = some (P ++ Y ++ X ++ Q) := by
 unfold lL
 have hs' := hs
 simp only [List.length_append] at hs'
 have e1 : w64 (m - a) = (X.length : Int) := by rw [aD] <;> omega
 have e2 : w64 (b - m) = (Y.length : Int) := by rw [aD] <;> omega
 obtain ⟨P', X', Y', Q', k1, k2, k3, k4, k5⟩ := rot_loop (m := m) (X.length + Y.length) P X Y Q 4611686018427387904 (Nat.le_refl _) hx hy hm hs (by omega)
 have k4' := k4
 simp only [List.length_append] at k4'
 have e3 : w64 (m - (X'.length : Int)) = (P'.length : Int) := by rw [aD] <;> omega
 have hv := swap_val (a := P'.length) (b := m) (n := X'.length) X' Y' P' [] Q' k2 rfl rfl (by simp; omega) (by simpa using k4)
 rw [e1, e2, T.val_bind, k1, Option.bind_some]
 simp only [e3, T.val_bind]
 rw [show P' ++ X' ++ Y' ++ Q' = P' ++ X' ++ [] ++ Y' ++ Q' by simp, hv]
 simp only [Option.bind_some, T.val_ret]
 rw [← k5]
 simp
end SEn
namespace SEn
theorem ins_loop {a b i : Int} : ∀ (n : Nat) (S P : List En) (x : En) (R : List En) (k : Nat), S.length = n → a = P.length → (P ++ S ++ x :: R).length ≤ 1000000 → n < k →
  ∃ S1 S2, S = S1 ++ S2 ∧ (∀ s ∈ S2, ky x < ky s) ∧ (∀ s, S1.getLast? = some s → ky s ≤ ky x) ∧ (T.loop (dI a b i) k (((P.length + S.length : Nat) : Int), P ++ S ++ x :: R)).val = some (P ++ S1 ++ x :: S2 ++ R)
 | 0, S, P, x, R, k, hn, ha, hs, hk => by
  obtain ⟨k, rfl⟩ : ∃ k', k = k' + 1 := ⟨k - 1, by omega⟩
  have : S = [] := by simpa using hn
  subst this
  refine ⟨[], [], rfl, by simp, by simp, bA ?_⟩
  have c : ¬ ((P.length : Int) > a) := by omega
  simp [dI, c, T.val_ret]
 | n + 1, S, P, x, R, k, hn, ha, hs, hk => by
  obtain ⟨k, rfl⟩ : ∃ k', k = k' + 1 := ⟨k - 1, by omega⟩
  obtain ⟨S, y, rfl⟩ : ∃ S' y, S = S' ++ [y] := ⟨S.dropLast, S.getLast (by intro h; simp [h] at hn), (List.dropLast_concat_getLast _).symm⟩
  simp only [List.length_append, List.length_cons, List.length_nil] at hn hs
  have e1 : w64 ((P.length + (S ++ [y]).length : Nat) - 1 : Int) = ((P ++ S).length : Int) := by rw [aD] <;> (try simp) <;> omega
  have c : ((P.length + (S ++ [y]).length : Nat) : Int) > a := by simp; omega
  have d1 : P ++ (S ++ [y]) ++ x :: R = (P ++ (S ++ [y])) ++ x :: R := rfl
  have d2 : P ++ (S ++ [y]) ++ x :: R = (P ++ S) ++ y :: (x :: R) := by simp
  have l1 : ((P.length + (S ++ [y]).length : Nat) : Int) = ((P ++ (S ++ [y])).length : Int) := by simp
  have r1 : rd (e := E) (P ++ (S ++ [y]) ++ x :: R) ((P.length + (S ++ [y]).length : Nat) : Int) = x := rd_at d1 l1
  have r2 : rd (e := E) (P ++ (S ++ [y]) ++ x :: R) (w64 ((P.length + (S ++ [y]).length : Nat) - 1 : Int)) = y := rd_at d2 e1
  have i1 := bT (e := E) d1 l1
  have i2 := bT (e := E) d2 e1
  obtain ⟨cv, hc1, hc2⟩ := cmp_val x y
  by_cases hxy : ky x < ky y
  ·have w1 : wr (e := E) (P ++ (S ++ [y]) ++ x :: R) ((P.length + (S ++ [y]).length : Nat) : Int) y = (P ++ (S ++ [y])) ++ y :: R := kX d1 l1
   have d3 : (P ++ (S ++ [y])) ++ y :: R = (P ++ S) ++ y :: (y :: R) := by simp
   have w2 : wr (e := E) ((P ++ (S ++ [y])) ++ y :: R) (w64 ((P.length + (S ++ [y]).length : Nat) - 1 : Int)) x = (P ++ S) ++ x :: (y :: R) := kX d3 e1
   have i3 := bT (e := E) d3 e1
   obtain ⟨S1, S2, k1, k2, k3, k4⟩ := ins_loop (a := a) (b := b) (i := i) n S P x (y :: R) k (by omega) ha (by simp; omega) (by omega)
   refine ⟨S1, S2 ++ [y], by rw [k1]; simp, fun s hs =>?_, k3, aW (s' := (((P.length + S.length : Nat) : Int), P ++ S ++ x :: (y :: R))) ?_ (k4.trans (by simp))⟩
   ·rcases List.mem_append.1 hs with hs | hs
    ·exact k2 s hs
    ·simp only [List.mem_singleton] at hs
     subst hs
     exact hxy
   ·have hc3 : decide (cv < 0) = true := by rw [hc2]; exact decide_eq_true hxy
    simp only [dI, rdE, wrE, c, decide_true, cond_true, i1, i2, r1, r2, T.val_bind, hc1, Option.bind_some, hc3, w1, w2, i3, T.val_ret]
    rw [e1]
    simp
  ·have hc3 : decide (cv < 0) = false := by rw [hc2]; exact decide_eq_false hxy
   refine ⟨S ++ [y], [], by simp, by simp, fun s hs =>?_, bA ?_⟩
   ·simp at hs
    subst hs
    omega
   ·simp only [dI, rdE, wrE, c, decide_true, cond_true, i1, i2, r1, r2, T.val_bind, hc1, Option.bind_some, hc3, cond_false, T.val_ret]
    simp
theorem last_le {S1 : List En} {x : En} (h : Srt ky S1) (hl : ∀ s, S1.getLast? = some s → ky s ≤ ky x) : ∀ s ∈ S1, ky s ≤ ky x := fun s hs => by
 cases hg : S1.getLast? with
 | none => rw [List.getLast?_eq_none_iff] at hg; subst hg; simp at hs
 | some z =>
  obtain ⟨ys, rfl⟩ := List.getLast?_eq_some_iff.1 hg
  have hz := hl z hg
  rcases List.mem_append.1 hs with h1 | h1
  ·have := (List.pairwise_append.1 h).2.2 s h1 z (by simp)
   omega
  ·simp only [List.mem_singleton] at h1
   subst h1
   exact hz
theorem ins_outer {a b : Int} : ∀ (R S P Q : List En) (k : Nat), Srt ky S → a = P.length → b = P.length + S.length + R.length → (P ++ S ++ R ++ Q).length ≤ 1000000 → R.length < k →
  (T.loop (cR a b) k (((P.length + S.length : Nat) : Int), P ++ S ++ R ++ Q)).val = some (P ++ aG ky (S ++ R) ++ Q)
 | [], S, P, Q, k, hS, ha, hb, hs, hk => by
  obtain ⟨k, rfl⟩ : ∃ k', k = k' + 1 := ⟨k - 1, by simp at hk; omega⟩
  refine bA ?_
  have c : ¬ (((P.length + S.length : Nat) : Int) < b) := by simp at hb; omega
  simp only [cR, c, decide_false, cond_false, T.val_ret]
  simp [eQ hS]
 | x :: R, S, P, Q, k, hS, ha, hb, hs, hk => by
  obtain ⟨k, rfl⟩ : ∃ k', k = k' + 1 := ⟨k - 1, by simp at hk; omega⟩
  simp only [List.length_append, List.length_cons] at hs hb hk
  obtain ⟨S1, S2, rfl, k2, k3, k4⟩ := ins_loop (a := a) (b := b) (i := ((P.length + S.length : Nat) : Int)) S.length S P x (R ++ Q) 4611686018427387904 rfl ha (by simp; omega) (by omega)
  have hS' := List.pairwise_append.1 hS
  have hle := last_le (S1 := S1) hS'.1 k3
  have hN : Srt ky (S1 ++ x :: S2) := Srt.app hS'.1 (List.pairwise_cons.2 ⟨fun s hs => by have := k2 s hs; omega, hS'.2.1⟩) (fun u hu v hv => by
   rcases List.mem_cons.1 hv with rfl | hv
   ·exact hle u hu
   ·exact hS'.2.2 u hu v hv)
  have hSE : SE ky (S1 ++ x :: S2) ((S1 ++ S2) ++ [x]) := by
   rw [List.append_assoc]
   exact SE.append (SE.refl _) (SE.swap (X := [x]) (Y := S2) (fun u hu v hv => by simp only [List.mem_singleton] at hu; subst hu; have := k2 v hv; omega))
  have ih := ins_outer (a := a) (b := b) R (S1 ++ x :: S2) P Q k hN ha (by simp only [List.length_append, List.length_cons] at hb ⊢; omega) (by simp only [List.length_append, List.length_cons] at hs ⊢; omega) (by omega)
  have hI : aG ky ((S1 ++ x :: S2) ++ R) = aG ky ((S1 ++ S2) ++ x :: R) := by
   refine gK ((SE.append hSE (SE.refl R)).trans ?_)
   simp only [List.append_assoc, List.cons_append, List.nil_append]
   exact SE.refl _
  rw [hI] at ih
  refine aW (s' := (((P.length + (S1 ++ x :: S2).length : Nat) : Int), P ++ (S1 ++ x :: S2) ++ R ++ Q)) ?_ ih
  have c : ((P.length + (S1 ++ S2).length : Nat) : Int) < b := by simp only [List.length_append] at hb ⊢; omega
  have d : P ++ (S1 ++ S2) ++ x :: R ++ Q = P ++ (S1 ++ S2) ++ x :: (R ++ Q) := by simp
  have e1 : w64 (((P.length + (S1 ++ S2).length : Nat) : Int) + 1) = ((P.length + (S1 ++ x :: S2).length : Nat) : Int) := by
   simp only [List.length_append, List.length_cons] at hs ⊢
   rw [aD] <;> omega
  simp only [cR, c, decide_true, cond_true, T.val_bind, d, k4, Option.bind_some, T.val_ret, e1]
  simp
theorem ins_val {a b : Int} (P U Q : List En) (ha : a = P.length) (hb : b = P.length + U.length) (hs : (P ++ U ++ Q).length ≤ 1000000) : (nI a b (P ++ U ++ Q)).val = some (P ++ aG ky U ++ Q) := by
 unfold nI
 simp only [List.length_append] at hs
 have e1 : w64 (a + 1) = ((P.length + 1 : Nat) : Int) := by rw [aD] <;> omega
 cases U with
 | nil =>
  have c : ¬ (((P.length + 1 : Nat) : Int) < b) := by simp at hb; omega
  have := bA (body := cR a b) (k := 4611686018427387903) (s := (((P.length + 1 : Nat) : Int), P ++ [] ++ Q)) (b := P ++ [] ++ Q) (by simp only [cR, c, decide_false, cond_false, T.val_ret])
  rw [T.val_bind, e1, this]
  rfl
 | cons x U =>
  simp only [List.length_cons] at hs hb
  have := ins_outer (a := a) (b := b) U [x] P Q 4611686018427387904 (by simp [Srt]) ha (by simp; omega) (by simp; omega) (by omega)
  rw [T.val_bind, e1, show P ++ x :: U ++ Q = P ++ [x] ++ U ++ Q by simp]
  rw [show ((P.length + [x].length : Nat) : Int) = ((P.length + 1 : Nat) : Int) by simp] at this
  rw [this]
  simp [T.val_ret]
theorem fwd_loop {r : Int} : ∀ (W P : List En) (x : En) (R : List En) (k : Nat), r = P.length + 1 + W.length → (P ++ x :: W ++ R).length ≤ 1000000 → W.length < k →
  (T.loop (eI r) k ((P.length : Int), P ++ x :: W ++ R)).val = some (P ++ W ++ x :: R)
 | [], P, x, R, k, hr, hs, hk => by
  obtain ⟨k, rfl⟩ : ∃ k', k = k' + 1 := ⟨k - 1, by simp at hk; omega⟩
  simp only [List.length_append, List.length_cons, List.length_nil] at hs hr
  refine bA ?_
  have c : ¬ ((P.length : Int) < w64 (r - 1)) := by rw [aD] <;> omega
  simp [eI, c, T.val_ret]
 | y :: W, P, x, R, k, hr, hs, hk => by
  obtain ⟨k, rfl⟩ : ∃ k', k = k' + 1 := ⟨k - 1, by simp at hk; omega⟩
  simp only [List.length_append, List.length_cons] at hs hr hk
  have c : (P.length : Int) < w64 (r - 1) := by rw [aD] <;> omega
  have e1 : w64 ((P.length : Int) + 1) = ((P ++ [x]).length : Int) := by rw [aD] <;> (try simp) <;> omega
  have e2 : w64 ((P.length : Int) + 1) = ((P ++ [y]).length : Int) := by rw [e1]; simp
  have d1 : P ++ x :: (y :: W) ++ R = P ++ x :: (y :: W ++ R) := by simp
  have d2 : P ++ x :: (y :: W) ++ R = (P ++ [x]) ++ y :: (W ++ R) := by simp
  have r1 : rd (e := E) (P ++ x :: (y :: W) ++ R) (P.length : Int) = x := rd_at d1 rfl
  have r2 : rd (e := E) (P ++ x :: (y :: W) ++ R) (w64 ((P.length : Int) + 1)) = y := rd_at d2 e1
  have w1 : wr (e := E) (P ++ x :: (y :: W) ++ R) (P.length : Int) y = P ++ y :: (y :: W ++ R) := kX d1 rfl
  have d3 : P ++ y :: (y :: W ++ R) = (P ++ [y]) ++ y :: (W ++ R) := by simp
  have w2 : wr (e := E) (P ++ y :: (y :: W ++ R)) (w64 ((P.length : Int) + 1)) x = (P ++ [y]) ++ x :: (W ++ R) := kX d3 e2
  have i1 := bT (e := E) d1 rfl
  have i2 := bT (e := E) d2 e1
  have i3 := bT (e := E) d3 e2
  have ih := fwd_loop (r := r) W (P ++ [y]) x R k (by simp; omega) (by simp; omega) (by omega)
  refine aW (s' := (((P ++ [y]).length : Int), P ++ [y] ++ x :: W ++ R)) ?_ (ih.trans (by simp))
  simp only [eI, rdE, wrE, c, decide_true, cond_true, i1, i2, r1, r2, w1, w2, i3, T.val_ret]
  rw [e2]
  simp
theorem bwd_loop {r : Int} : ∀ (n : Nat) (W P : List En) (x : En) (R : List En) (k : Nat), W.length = n → r = P.length → (P ++ W ++ x :: R).length ≤ 1000000 → n < k →
  (T.loop (eG r) k (((P.length + W.length : Nat) : Int), P ++ W ++ x :: R)).val = some (P ++ x :: W ++ R)
 | 0, W, P, x, R, k, hn, hr, hs, hk => by
  obtain ⟨k, rfl⟩ : ∃ k', k = k' + 1 := ⟨k - 1, by omega⟩
  have : W = [] := by simpa using hn
  subst this
  refine bA ?_
  have c : ¬ ((P.length : Int) > r) := by omega
  simp [eG, c, T.val_ret]
 | n + 1, W, P, x, R, k, hn, hr, hs, hk => by
  obtain ⟨k, rfl⟩ : ∃ k', k = k' + 1 := ⟨k - 1, by omega⟩
  obtain ⟨W, y, rfl⟩ : ∃ S' y, W = S' ++ [y] := ⟨W.dropLast, W.getLast (by intro h; simp [h] at hn), (List.dropLast_concat_getLast _).symm⟩
  simp only [List.length_append, List.length_cons, List.length_nil] at hn hs
  have e1 : w64 ((P.length + (W ++ [y]).length : Nat) - 1 : Int) = ((P ++ W).length : Int) := by rw [aD] <;> (try simp) <;> omega
  have c : ((P.length + (W ++ [y]).length : Nat) : Int) > r := by simp; omega
  have d2 : P ++ (W ++ [y]) ++ x :: R = (P ++ W) ++ y :: (x :: R) := by simp
  have l1 : ((P.length + (W ++ [y]).length : Nat) : Int) = ((P ++ (W ++ [y])).length : Int) := by simp
  have r1 : rd (e := E) (P ++ (W ++ [y]) ++ x :: R) ((P.length + (W ++ [y]).length : Nat) : Int) = x := rd_at rfl l1
  have r2 : rd (e := E) (P ++ (W ++ [y]) ++ x :: R) (w64 ((P.length + (W ++ [y]).length : Nat) - 1 : Int)) = y := rd_at d2 e1
  have i1 := bT (e := E) (l := P ++ (W ++ [y]) ++ x :: R) rfl l1
  have i2 := bT (e := E) d2 e1
  have w1 : wr (e := E) (P ++ (W ++ [y]) ++ x :: R) ((P.length + (W ++ [y]).length : Nat) : Int) y = (P ++ (W ++ [y])) ++ y :: R := kX rfl l1
  have d3 : (P ++ (W ++ [y])) ++ y :: R = (P ++ W) ++ y :: (y :: R) := by simp
  have w2 : wr (e := E) ((P ++ (W ++ [y])) ++ y :: R) (w64 ((P.length + (W ++ [y]).length : Nat) - 1 : Int)) x = (P ++ W) ++ x :: (y :: R) := kX d3 e1
  have i3 := bT (e := E) d3 e1
  have ih := bwd_loop (r := r) n W P x (y :: R) k (by omega) hr (by simp; omega) (by omega)
  refine aW (s' := (((P.length + W.length : Nat) : Int), P ++ W ++ x :: (y :: R))) ?_ (ih.trans (by simp))
  simp only [eG, rdE, wrE, c, decide_true, cond_true, i1, i2, r1, r2, w1, w2, i3, T.val_ret]
  rw [e1]
  simp
end SEn
namespace SEn
set_option linter.unusedSimpArgs false
theorem rd_in {d L W R : List En} (h : d = L ++ W ++ R) {t : Nat} (ht : t < W.length) : rd (e := E) d ((L.length + t : Nat) : Int) = W[t] := by
 subst h
 rw [bKd (e := E) (by simp; omega)]
 rw [List.getElem_append_left (by simp; omega), List.getElem_append_right (by omega)]
 simp
theorem of_mem {l : List En} {x : En} (h : x ∈ l) : ∃ (i : Nat) (hi : i < l.length), l[i] = x := List.mem_iff_getElem.1 h
theorem sym1 {rec : List En → Int → Int → Int → T (List En)} {a m b : Int} (P : List En) (x : En) (V Q : List En) (hV : Srt ky V) (ha : a = P.length) (hm : m = P.length + 1) (hb : b = P.length + 1 + V.length) (hs : (P ++ x :: V ++ Q).length ≤ 1000000) :
  (fL rec a m b (P ++ x :: V ++ Q)).val = some (P ++ aG ky (x :: V) ++ Q) := by
 simp only [List.length_append, List.length_cons] at hs
 have c1 : (w64 (m - a) == 1) = true := by rw [aD] <;> (try simp) <;> omega
 let p : Nat → Bool := fun t => decide (ky (rd (e := E) (P ++ x :: V ++ Q) (t : Int)) < ky x)
 have hV' : ∀ t, t < V.length → ∀ (ht : t < V.length), rd (e := E) (P ++ x :: V ++ Q) ((P.length + 1 + t : Nat) : Int) = V[t] := fun t _ ht => by
  have := rd_in (d := P ++ x :: V ++ Q) (L := P ++ [x]) (W := V) (R := Q) (by simp) ht
  simpa using this
 obtain ⟨r, k1, k2, k3, k4, k5⟩ := qG (body := eJ a (P ++ x :: V ++ Q)) (p := p) (lo := P.length + 1) (hi := P.length + 1 + V.length) (fun i j h1 h2 h3 => by
  have hx : rd (e := E) (P ++ x :: V ++ Q) a = x := rd_at (e := E) (A := P) (R := V ++ Q) (by simp) ha
  have ix := bT (e := E) (l := P ++ x :: V ++ Q) (A := P) (x := x) (R := V ++ Q) (by simp) ha
  by_cases c : i < j
  ·rw [if_pos c]
   have e1 : w64 (aB (aC (w64 ((i : Int) + (j : Int)))) 1) = (((i + j) / 2 : Nat) : Int) := by rw [half] <;> omega
   have e2 : w64 ((((i + j) / 2 : Nat) : Int) + 1) = (((i + j) / 2 + 1 : Nat) : Int) := by rw [aD] <;> omega
   have ih := qF (n := (P ++ x :: V ++ Q).length) (i := (i + j) / 2) (by simp; omega)
   obtain ⟨cv, q1, q2⟩ := cmp_val (rd (e := E) (P ++ x :: V ++ Q) (((i + j) / 2 : Nat) : Int)) x
   have cc : ((i : Int) < (j : Int)) := by omega
   have q3 : decide (cv < 0) = p ((i + j) / 2) := q2
   simp only [eJ, cc, decide_true, cond_true, e1, ih, ix, rdE, hx, T.val_bind, q1, Option.bind_some, q3, e2]
   cases p ((i + j) / 2) <;> rfl
  ·rw [if_neg c]
   have cc : ¬ ((i : Int) < (j : Int)) := by omega
   simp only [eJ, cc, decide_false, cond_false, T.val_ret]) (fun s t h1 h2 h3 ht => by
  have ht' := of_decide_eq_true ht
  obtain ⟨s, rfl⟩ : ∃ s', s = P.length + 1 + s' := ⟨s - (P.length + 1), by omega⟩
  obtain ⟨t, rfl⟩ : ∃ t', t = P.length + 1 + t' := ⟨t - (P.length + 1), by omega⟩
  refine decide_eq_true ?_
  rw [hV' t (by omega) (by omega)] at ht'
  rw [hV' s (by omega) (by omega)]
  have := hV.idx (i := s) (j := t) (by omega) (by omega)
  omega) 4611686018427387904 (P.length + 1) (P.length + 1 + V.length) (by omega) (by omega) (by omega) (Nat.le_refl _) (fun t h1 h2 => by omega) (fun t h1 h2 => by omega)
 have hm1 : m = ((P.length + 1 : Nat) : Int) := by omega
 have hb1 : b = ((P.length + 1 + V.length : Nat) : Int) := by omega
 obtain ⟨V1, V2, rfl, hV1⟩ : ∃ V1 V2, V = V1 ++ V2 ∧ V1.length = r - (P.length + 1) := ⟨V.take (r - (P.length + 1)), V.drop (r - (P.length + 1)), by simp, by simp; omega⟩
 have lo1 : ∀ v ∈ V1, ky v < ky x := fun v hv => by
  obtain ⟨i, hi, rfl⟩ := of_mem hv
  have := of_decide_eq_true (k4 (P.length + 1 + i) (by omega) (by omega))
  rw [hV' i (by simp; omega) (by simp; omega), List.getElem_append_left hi] at this
  exact this
 have hi1 : ∀ v ∈ V2, ky x ≤ ky v := fun v hv => by
  obtain ⟨i, hi, rfl⟩ := of_mem hv
  have hl : (V1 ++ V2).length = V1.length + V2.length := by simp
  have := of_decide_eq_false (k5 (P.length + 1 + (V1.length + i)) (by omega) (by omega))
  rw [hV' (V1.length + i) (by omega) (by omega), List.getElem_append_right (by omega)] at this
  simp at this
  exact this
 have hv2 := List.pairwise_append.1 hV
 have hI : V1 ++ x :: V2 = aG ky (x :: (V1 ++ V2)) := fE (Srt.app hv2.1 (List.pairwise_cons.2 ⟨hi1, hv2.2.1⟩) (fun u hu v hv => by
   rcases List.mem_cons.1 hv with rfl | hv
   ·have := lo1 u hu; omega
   ·exact hv2.2.2 u hu v hv)) (by
  have := SE.append (key := ky) (SE.swap (X := V1) (Y := [x]) (fun u hu v hv => by simp only [List.mem_singleton] at hv; subst hv; have := lo1 u hu; omega)) (SE.refl V2)
  simpa using this)
 have hf := fwd_loop (r := (r : Int)) V1 P x (V2 ++ Q) 4611686018427387904 (by omega) (by simp at hs ⊢; omega) (by omega)
 unfold fL
 rw [c1, cond_true, T.val_bind, hm1, hb1, k1, Option.bind_some, T.val_bind]
 rw [show P ++ x :: (V1 ++ V2) ++ Q = P ++ x :: V1 ++ (V2 ++ Q) by simp, ha, hf, ← hI]
 simp [T.val_ret]
theorem sym2 {rec : List En → Int → Int → Int → T (List En)} {a m b : Int} (P U : List En) (y : En) (Q : List En) (hU : Srt ky U) (hl : 1 < U.length) (ha : a = P.length) (hm : m = P.length + U.length) (hb : b = P.length + U.length + 1) (hs : (P ++ U ++ y :: Q).length ≤ 1000000) :
  (fL rec a m b (P ++ U ++ y :: Q)).val = some (P ++ aG ky (U ++ [y]) ++ Q) := by
 simp only [List.length_append, List.length_cons] at hs
 have c1 : (w64 (m - a) == 1) = false := by rw [aD] <;> (try simp) <;> omega
 have c2 : (w64 (b - m) == 1) = true := by rw [aD] <;> (try simp) <;> omega
 let p : Nat → Bool := fun t => !decide (ky y < ky (rd (e := E) (P ++ U ++ y :: Q) (t : Int)))
 have hU' : ∀ t, t < U.length → ∀ (ht : t < U.length), rd (e := E) (P ++ U ++ y :: Q) ((P.length + t : Nat) : Int) = U[t] := fun t _ ht => rd_in rfl ht
 obtain ⟨r, k1, k2, k3, k4, k5⟩ := qG (body := eH m (P ++ U ++ y :: Q)) (p := p) (lo := P.length) (hi := P.length + U.length) (fun i j h1 h2 h3 => by
  have hx : rd (e := E) (P ++ U ++ y :: Q) m = y := rd_at (e := E) (A := P ++ U) (R := Q) rfl (by simp; omega)
  have ix := bT (e := E) (l := P ++ U ++ y :: Q) (A := P ++ U) (x := y) (R := Q) (i := m) rfl (by simp; omega)
  by_cases c : i < j
  ·rw [if_pos c]
   have e1 : w64 (aB (aC (w64 ((i : Int) + (j : Int)))) 1) = (((i + j) / 2 : Nat) : Int) := by rw [half] <;> omega
   have e2 : w64 ((((i + j) / 2 : Nat) : Int) + 1) = (((i + j) / 2 + 1 : Nat) : Int) := by rw [aD] <;> omega
   have ih := qF (n := (P ++ U ++ y :: Q).length) (i := (i + j) / 2) (by simp; omega)
   obtain ⟨cv, q1, q2⟩ := cmp_val y (rd (e := E) (P ++ U ++ y :: Q) (((i + j) / 2 : Nat) : Int))
   have cc : ((i : Int) < (j : Int)) := by omega
   have q3 : (!decide (cv < 0)) = p ((i + j) / 2) := by rw [q2]
   simp only [eH, cc, decide_true, cond_true, e1, ih, ix, rdE, hx, T.val_bind, q1, Option.bind_some, q3, e2]
   cases p ((i + j) / 2) <;> rfl
  ·rw [if_neg c]
   have cc : ¬ ((i : Int) < (j : Int)) := by omega
   simp only [eH, cc, decide_false, cond_false, T.val_ret]) (fun s t h1 h2 h3 ht => by
  obtain ⟨s, rfl⟩ : ∃ s', s = P.length + s' := ⟨s - P.length, by omega⟩
  obtain ⟨t, rfl⟩ : ∃ t', t = P.length + t' := ⟨t - P.length, by omega⟩
  simp only [p, Bool.not_eq_true', decide_eq_false_iff_not] at ht ⊢
  rw [hU' t (by omega) (by omega)] at ht
  rw [hU' s (by omega) (by omega)]
  have := hU.idx (i := s) (j := t) (by omega) (by omega)
  omega) 4611686018427387904 P.length (P.length + U.length) (by omega) (by omega) (by omega) (Nat.le_refl _) (fun t h1 h2 => by omega) (fun t h1 h2 => by omega)
 have hm1 : m = ((P.length + U.length : Nat) : Int) := by omega
 obtain ⟨U1, U2, rfl, hU1⟩ : ∃ U1 U2, U = U1 ++ U2 ∧ U1.length = r - P.length := ⟨U.take (r - P.length), U.drop (r - P.length), by simp, by simp; omega⟩
 have hl2 : (U1 ++ U2).length = U1.length + U2.length := by simp
 have lo1 : ∀ v ∈ U1, ky v ≤ ky y := fun v hv => by
  obtain ⟨i, hi, rfl⟩ := of_mem hv
  have := k4 (P.length + i) (by omega) (by omega)
  simp only [p, Bool.not_eq_true', decide_eq_false_iff_not] at this
  rw [hU' i (by omega) (by omega), List.getElem_append_left hi] at this
  omega
 have hi1 : ∀ v ∈ U2, ky y < ky v := fun v hv => by
  obtain ⟨i, hi, rfl⟩ := of_mem hv
  have := k5 (P.length + (U1.length + i)) (by omega) (by omega)
  simp only [p, Bool.not_eq_false', decide_eq_true_eq] at this
  rw [hU' (U1.length + i) (by omega) (by omega), List.getElem_append_right (by omega)] at this
  simp at this
  exact this
 have hu2 := List.pairwise_append.1 hU
 have hI : U1 ++ y :: U2 = aG ky ((U1 ++ U2) ++ [y]) := fE (Srt.app hu2.1 (List.pairwise_cons.2 ⟨fun v hv => by have := hi1 v hv; omega, hu2.2.1⟩) (fun u hu v hv => by
   rcases List.mem_cons.1 hv with rfl | hv
   ·exact lo1 u hu
   ·exact hu2.2.2 u hu v hv)) (by
  have := SE.append (key := ky) (SE.refl U1) (SE.swap (X := [y]) (Y := U2) (fun u hu v hv => by simp only [List.mem_singleton] at hu; subst hu; have := hi1 v hv; omega))
  simpa using this)
 have hf := bwd_loop (r := (r : Int)) U2.length U2 (P ++ U1) y Q 4611686018427387904 rfl (by simp; omega) (by simp at hs ⊢; omega) (by omega)
 unfold fL
 rw [hm1] at k1
 rw [c1, cond_false, c2, cond_true, T.val_bind, ha, hm1, k1, Option.bind_some, T.val_bind]
 rw [show ((P.length + (U1 ++ U2).length : Nat) : Int) = (((P ++ U1).length + U2.length : Nat) : Int) by simp; omega, show P ++ (U1 ++ U2) ++ y :: Q = P ++ U1 ++ U2 ++ y :: Q by simp, hf, ← hI]
 simp [T.val_ret]
theorem sym_gen {rec : List En → Int → Int → Int → T (List En)} {a m b mid e s x0 : Int} {d d1 d2 d3 : List En} (c1 : (w64 (m - a) == 1) = false) (c2 : (w64 (b - m) == 1) = false) (hmid : w64 (aB (aC (w64 (a + b))) 1) = mid)
  (he : w64 (w64 (mid + m) - x0) = e)
  (hl : (if m > mid then (T.loop (bS a m b mid (w64 (mid + m)) (w64 (w64 (mid + m) - 1)) d) 4611686018427387904 (w64 (w64 (mid + m) - b), mid)).val else (T.loop (bS a m b mid (w64 (mid + m)) (w64 (w64 (mid + m) - 1)) d) 4611686018427387904 (a, m)).val) = some x0)
  (s1 : if x0 < m ∧ m < e then (lL x0 m e d).val = some d1 else d1 = d)
  (s2 : if a < x0 ∧ x0 < mid then (rec d1 a x0 mid).val = some d2 else d2 = d1)
  (s3 : if mid < e ∧ e < b then (rec d2 mid e b).val = some d3 else d3 = d2) : (fL rec a m b d).val = some d3 := by
 unfold fL
 simp only [c1, c2, cond_false, hmid]
 have key : ∀ (t : T Int) (K : Int → T (List En)), t.val = some x0 → (K x0).val = some d3 → (t.bind K).val = some d3 := fun t K h1 h2 => by rw [T.val_bind, h1]; exact h2
 by_cases c : m > mid
 ·rw [if_pos c] at hl
  simp only [c, decide_true, cond_true]
  refine key _ _ hl ?_
  simp only [he]
  clear hl c1 c2 hmid he key
  by_cases h1 : x0 < m <;> by_cases h2 : m < e <;> by_cases h3 : a < x0 <;> by_cases h4 : x0 < mid <;> by_cases h5 : mid < e <;> by_cases h6 : e < b <;>
   simp_all only [and_self, and_false, false_and, if_true, if_false, decide_true, decide_false, cond_true, cond_false, T.val_bind, Option.bind_some, T.val_ret, and_true, true_and]
 ·rw [if_neg c] at hl
  simp only [c, decide_false, cond_false]
  refine key _ _ hl ?_
  simp only [he]
  clear hl c1 c2 hmid he key
  by_cases h1 : x0 < m <;> by_cases h2 : m < e <;> by_cases h3 : a < x0 <;> by_cases h4 : x0 < mid <;> by_cases h5 : mid < e <;> by_cases h6 : e < b <;>
   simp_all only [and_self, and_false, false_and, if_true, if_false, decide_true, decide_false, cond_true, cond_false, T.val_bind, Option.bind_some, T.val_ret, and_true, true_and]
end SEn
namespace SEn
set_option maxHeartbeats 4000000 in
theorem sym_val : ∀ (k : Nat) (P U V Q : List En) (a m b : Int), U.length + V.length ≤ k → 0 < U.length → 0 < V.length → Srt ky U → Srt ky V → a = P.length → m = P.length + U.length → b = P.length + U.length + V.length → (P ++ U ++ V ++ Q).length ≤ 1000000 →
  (qI k (P ++ U ++ V ++ Q) a m b).val = some (P ++ aG ky (U ++ V) ++ Q)
 | 0, P, U, V, Q, a, m, b, hk, hu0, hv0, hU, hV, ha, hm, hb, hs => by omega
 | k + 1, P, U, V, Q, a, m, b, hk, hu0, hv0, hU, hV, ha, hm, hb, hs => by
  show (fL (qI k) a m b (P ++ U ++ V ++ Q)).val = _
  by_cases hu1 : U.length = 1
  ·obtain ⟨x, rfl⟩ := List.length_eq_one_iff.1 hu1
   have := sym1 (rec := qI k) P x V Q hV ha (by simpa using hm) (by simpa using hb) (by simpa using hs)
   simpa using this
  by_cases hv1 : V.length = 1
  ·obtain ⟨y, rfl⟩ := List.length_eq_one_iff.1 hv1
   have := sym2 (rec := qI k) P U y Q hU (by omega) ha hm (by simpa using hb) (by simpa using hs)
   simpa using this
  simp only [List.length_append] at hs
  generalize hd : P ++ U ++ V ++ Q = d
  have hdl : d.length = P.length + U.length + V.length + Q.length := by rw [← hd]; simp [Nat.add_assoc]
  have rU : ∀ t (ht : t < U.length), rd (e := E) d ((P.length + t : Nat) : Int) = U[t] := fun t ht => rd_in (R := V ++ Q) (by rw [← hd]; simp) ht
  have rV : ∀ t (ht : t < V.length), rd (e := E) d ((P.length + U.length + t : Nat) : Int) = V[t] := fun t ht => by
   have := rd_in (d := d) (L := P ++ U) (W := V) (R := Q) hd.symm ht
   simpa using this
  have mU : ∀ s t, P.length ≤ s → s ≤ t → t < P.length + U.length → ky (rd (e := E) d ((s : Nat) : Int)) ≤ ky (rd (e := E) d ((t : Nat) : Int)) := fun s t h1 h2 h3 => by
   obtain ⟨s, rfl⟩ : ∃ s', s = P.length + s' := ⟨s - P.length, by omega⟩
   obtain ⟨t, rfl⟩ : ∃ t', t = P.length + t' := ⟨t - P.length, by omega⟩
   rw [rU s (by omega), rU t (by omega)]
   exact hU.idx (by omega) (by omega)
  have mV : ∀ s t, P.length + U.length ≤ s → s ≤ t → t < P.length + U.length + V.length → ky (rd (e := E) d ((s : Nat) : Int)) ≤ ky (rd (e := E) d ((t : Nat) : Int)) := fun s t h1 h2 h3 => by
   obtain ⟨s, rfl⟩ : ∃ s', s = P.length + U.length + s' := ⟨s - (P.length + U.length), by omega⟩
   obtain ⟨t, rfl⟩ : ∃ t', t = P.length + U.length + t' := ⟨t - (P.length + U.length), by omega⟩
   rw [rV s (by omega), rV t (by omega)]
   exact hV.idx (by omega) (by omega)
  obtain ⟨A, hA⟩ : ∃ A, A = P.length := ⟨_, rfl⟩
  obtain ⟨M, hM⟩ : ∃ M, M = P.length + U.length := ⟨_, rfl⟩
  obtain ⟨B, hB⟩ : ∃ B, B = P.length + U.length + V.length := ⟨_, rfl⟩
  rw [← hM, ← hA] at mU
  rw [← hB, ← hM] at mV
  obtain ⟨mid, hmid⟩ : ∃ mid, mid = (A + B) / 2 := ⟨_, rfl⟩
  have ha' : a = (A : Int) := by omega
  have hm' : m = (M : Int) := by omega
  have hb' : b = (B : Int) := by omega
  subst ha' hm' hb'
  have c1 : (w64 ((M : Int) - (A : Int)) == 1) = false := by rw [aD] <;> (try simp) <;> omega
  have c2 : (w64 ((B : Int) - (M : Int)) == 1) = false := by rw [aD] <;> (try simp) <;> omega
  have emid : w64 (aB (aC (w64 ((A : Int) + (B : Int)))) 1) = (mid : Int) := by rw [half] <;> omega
  have en : w64 ((mid : Int) + (M : Int)) = ((mid + M : Nat) : Int) := by rw [aD] <;> omega
  have en1 : w64 (((mid + M : Nat) : Int) - 1) = ((mid + M - 1 : Nat) : Int) := by rw [aD] <;> omega
  have enb : M > mid → w64 (((mid + M : Nat) : Int) - (B : Int)) = ((mid + M - B : Nat) : Int) := fun h => by rw [aD] <;> omega
  obtain ⟨lo, hlo⟩ : ∃ lo, lo = if M > mid then mid + M - B else A := ⟨_, rfl⟩
  obtain ⟨hi, hhi⟩ : ∃ hi, hi = if M > mid then mid else M := ⟨_, rfl⟩
  have b0 : A ≤ lo ∧ lo ≤ hi ∧ hi ≤ M ∧ hi ≤ mid ∧ mid + M ≤ lo + B := by
   rw [hlo, hhi]
   split <;> omega
  obtain ⟨b1, b2, b3, b4, b5⟩ := b0
  let p : Nat → Bool := fun t => !decide (ky (rd (e := E) d ((mid + M - 1 - t : Nat) : Int)) < ky (rd (e := E) d (t : Int)))
  obtain ⟨r, k1, k2, k3, k4, k5⟩ := qG (body := bS (A : Int) (M : Int) (B : Int) (mid : Int) ((mid + M : Nat) : Int) ((mid + M - 1 : Nat) : Int) d) (p := p) (lo := lo) (hi := hi) (fun i j h1 h2 h3 => by
   by_cases c : i < j
   ·rw [if_pos c]
    have e1 : w64 (aB (aC (w64 ((i : Int) + (j : Int)))) 1) = (((i + j) / 2 : Nat) : Int) := by rw [half] <;> omega
    have e2 : w64 ((((i + j) / 2 : Nat) : Int) + 1) = (((i + j) / 2 + 1 : Nat) : Int) := by rw [aD] <;> omega
    have e3 : w64 (((mid + M - 1 : Nat) : Int) - (((i + j) / 2 : Nat) : Int)) = ((mid + M - 1 - (i + j) / 2 : Nat) : Int) := by rw [aD] <;> omega
    have i1 := qF (n := d.length) (i := (i + j) / 2) (by omega)
    have i2 := qF (n := d.length) (i := mid + M - 1 - (i + j) / 2) (by omega)
    obtain ⟨cv, q1, q2⟩ := cmp_val (rd (e := E) d ((mid + M - 1 - (i + j) / 2 : Nat) : Int)) (rd (e := E) d (((i + j) / 2 : Nat) : Int))
    have cc : ((i : Int) < (j : Int)) := by omega
    have q3 : (!decide (cv < 0)) = p ((i + j) / 2) := by rw [q2]
    simp only [bS, cc, decide_true, cond_true, e1, e3, i1, i2, rdE, T.val_bind, q1, Option.bind_some, q3, e2]
    cases p ((i + j) / 2) <;> rfl
   ·rw [if_neg c]
    have cc : ¬ ((i : Int) < (j : Int)) := by omega
    simp only [bS, cc, decide_false, cond_false, T.val_ret]) (fun s t h1 h2 h3 ht => by
   simp only [p, Bool.not_eq_true', decide_eq_false_iff_not] at ht ⊢
   have := mU s t (by omega) h2 (by omega)
   have := mV (mid + M - 1 - t) (mid + M - 1 - s) (by omega) (by omega) (by omega)
   omega) 4611686018427387904 lo hi (by omega) (Nat.le_refl _) b2 (Nat.le_refl _) (fun t h1 h2 => by omega) (fun t h1 h2 => by omega)
  have ee : w64 (((mid + M : Nat) : Int) - (r : Int)) = ((mid + M - r : Nat) : Int) := by rw [aD] <;> omega
  have hl : (if (M : Int) > (mid : Int) then (T.loop (bS (A : Int) (M : Int) (B : Int) (mid : Int) (w64 ((mid : Int) + (M : Int))) (w64 (w64 ((mid : Int) + (M : Int)) - 1)) d) 4611686018427387904 (w64 (w64 ((mid : Int) + (M : Int)) - (B : Int)), (mid : Int))).val
    else (T.loop (bS (A : Int) (M : Int) (B : Int) (mid : Int) (w64 ((mid : Int) + (M : Int))) (w64 (w64 ((mid : Int) + (M : Int)) - 1)) d) 4611686018427387904 ((A : Int), (M : Int))).val) = some (r : Int) := by
   rw [en, en1]
   by_cases c : M > mid
   ·rw [if_pos (by omega), enb c]
    rw [if_pos c] at hlo hhi
    rw [hlo, hhi] at k1
    exact k1
   ·rw [if_neg (by omega)]
    rw [if_neg c] at hlo hhi
    rw [hlo, hhi] at k1
    exact k1
  obtain ⟨U1, X, rfl, hU1⟩ : ∃ U1 X, U = U1 ++ X ∧ U1.length = r - A := ⟨U.take (r - A), U.drop (r - A), by simp, by simp; omega⟩
  obtain ⟨Y, V2, rfl, hY⟩ : ∃ Y V2, V = Y ++ V2 ∧ Y.length = mid - r := ⟨V.take (mid - r), V.drop (mid - r), by simp, by simp; omega⟩
  simp only [List.length_append] at hs hM hB hk hdl
  have hu := List.pairwise_append.1 hU
  have hv := List.pairwise_append.1 hV
  -- what lies where
  have iX : ∀ x ∈ X, r < M ∧ ky (rd (e := E) d (r : Int)) ≤ ky x := fun x hx => by
   obtain ⟨i, hi', rfl⟩ := of_mem hx
   have := rU (U1.length + i) (by simp; omega)
   rw [List.getElem_append_right (by omega)] at this
   simp only [Nat.add_sub_cancel_left] at this
   rw [← this]
   exact ⟨by omega, mU r (P.length + (U1.length + i)) (by omega) (by omega) (by omega)⟩
  have iU1 : ∀ x ∈ U1, A < r ∧ ky x ≤ ky (rd (e := E) d ((r - 1 : Nat) : Int)) := fun x hx => by
   obtain ⟨i, hi', rfl⟩ := of_mem hx
   have := rU i (by simp; omega)
   rw [List.getElem_append_left hi'] at this
   rw [← this]
   exact ⟨by omega, mU (P.length + i) (r - 1) (by omega) (by omega) (by omega)⟩
  have iY : ∀ y ∈ Y, r < mid ∧ ky y ≤ ky (rd (e := E) d ((mid + M - r - 1 : Nat) : Int)) := fun y hy => by
   obtain ⟨i, hi', rfl⟩ := of_mem hy
   have := rV i (by simp; omega)
   rw [List.getElem_append_left hi'] at this
   rw [← this]
   exact ⟨by omega, mV (P.length + (U1 ++ X).length + i) (mid + M - r - 1) (by simp; omega) (by simp; omega) (by omega)⟩
  have iV2 : ∀ y ∈ V2, mid + M - r < B ∧ ky (rd (e := E) d ((mid + M - r : Nat) : Int)) ≤ ky y := fun y hy => by
   obtain ⟨i, hi', rfl⟩ := of_mem hy
   have := rV (Y.length + i) (by simp; omega)
   rw [List.getElem_append_right (by omega)] at this
   simp only [Nat.add_sub_cancel_left] at this
   rw [← this]
   exact ⟨by omega, mV (mid + M - r) (P.length + (U1 ++ X).length + (Y.length + i)) (by omega) (by simp; omega) (by simp; omega)⟩
  have hYX : ∀ x ∈ X, ∀ y ∈ Y, ky y < ky x := fun x hx y hy => by
   obtain ⟨x1, x2⟩ := iX x hx
   obtain ⟨y1, y2⟩ := iY y hy
   have hr : r < hi := by
    rw [hhi]
    split <;> omega
   have := k5 r (Nat.le_refl _) hr
   simp only [p, Bool.not_eq_false', decide_eq_true_eq] at this
   rw [show mid + M - 1 - r = mid + M - r - 1 by omega] at this
   omega
  have hUV : ∀ x ∈ U1, ∀ y ∈ V2, ky x ≤ ky y := fun x hx y hy => by
   obtain ⟨x1, x2⟩ := iU1 x hx
   obtain ⟨y1, y2⟩ := iV2 y hy
   have hr : lo ≤ r - 1 := by
    rw [hlo]
    split <;> omega
   have := k4 (r - 1) hr (by omega)
   simp only [p, Bool.not_eq_true', decide_eq_false_iff_not] at this
   rw [show mid + M - 1 - (r - 1) = mid + M - r by omega] at this
   omega
  have sUY : U1 = [] ∨ Y = [] → Srt ky (U1 ++ Y) := fun h => by
   rcases h with rfl | rfl
   ·exact hv.1
   ·rw [List.append_nil]; exact hu.1
  have sXV : X = [] ∨ V2 = [] → Srt ky (X ++ V2) := fun h => by
   rcases h with rfl | rfl
   ·exact hv.2.1
   ·rw [List.append_nil]; exact hu.2.1
  have fin : aG ky (U1 ++ Y) ++ aG ky (X ++ V2) = aG ky ((U1 ++ X) ++ (Y ++ V2)) := by
   refine fE (Srt.app (bW _) (bW _) (fun x hx y hy =>?_)) ?_
   ·rw [aFb, List.mem_append] at hx hy
    rcases hx with hx | hx <;> rcases hy with hy | hy
    ·exact hu.2.2 x hx y hy
    ·exact hUV x hx y hy
    ·exact Int.le_of_lt (hYX y hy x hx)
    ·exact hv.2.2 x hx y hy
   ·refine (SE.append (bZ _) (bZ _)).trans ?_
    have := SE.append (key := ky) (SE.append (SE.refl U1) (SE.swap (X := Y) (Y := X) (fun y hy x hx => by have := hYX x hx y hy; omega))) (SE.refl V2)
    simpa using this
  have l1 : (aG ky (U1 ++ Y)).length = U1.length + Y.length := by rw [aL]; simp
  have := sym_gen (rec := qI k) (a := (A : Int)) (m := (M : Int)) (b := (B : Int)) (mid := (mid : Int)) (e := ((mid + M - r : Nat) : Int)) (s := 0) (x0 := (r : Int)) (d := d) (d1 := P ++ U1 ++ Y ++ X ++ V2 ++ Q) (d2 := P ++ aG ky (U1 ++ Y) ++ X ++ V2 ++ Q) (d3 := P ++ aG ky (U1 ++ Y) ++ aG ky (X ++ V2) ++ Q) c1 c2 emid (by rw [en, ee]) hl ?_ ?_ ?_
  ·rw [this, ← fin]
   simp
  ·by_cases c : (r : Int) < (M : Int) ∧ (M : Int) < ((mid + M - r : Nat) : Int)
   ·rw [if_pos c]
    have := rot_val (a := (r : Int)) (m := (M : Int)) (b := ((mid + M - r : Nat) : Int)) (P ++ U1) X Y (V2 ++ Q) (by omega) (by omega) (by simp; omega) (by simp; omega) (by simp; omega) (by simp; omega)
    rw [← hd]
    simpa using this
   ·rw [if_neg c, ← hd]
    have : X = [] ∨ Y = [] := by
     rcases Nat.eq_zero_or_pos X.length with h | h
     ·exact .inl (by simpa using h)
     ·refine .inr (by rw [← List.length_eq_zero_iff]; omega)
    rcases this with rfl | rfl <;> simp
  ·by_cases c : (A : Int) < (r : Int) ∧ (r : Int) < (mid : Int)
   ·rw [if_pos c]
    have := sym_val k P U1 Y (X ++ V2 ++ Q) (A : Int) (r : Int) (mid : Int) (by omega) (by omega) (by omega) hu.1 hv.1 (by omega) (by omega) (by omega) (by simp; omega)
    simpa using this
   ·rw [if_neg c]
    have : U1 = [] ∨ Y = [] := by
     rcases Nat.eq_zero_or_pos U1.length with h | h
     ·exact .inl (by simpa using h)
     ·refine .inr (by rw [← List.length_eq_zero_iff]; omega)
    rw [eQ (sUY this)]
    simp
  ·by_cases c : (mid : Int) < ((mid + M - r : Nat) : Int) ∧ ((mid + M - r : Nat) : Int) < (B : Int)
   ·rw [if_pos c]
    have := sym_val k (P ++ aG ky (U1 ++ Y)) X V2 Q (mid : Int) ((mid + M - r : Nat) : Int) (B : Int) (by omega) (by omega) (by omega) hu.2.1 hv.2.1 (by simp [l1]; omega) (by simp [l1]; omega) (by simp [l1]; omega) (by simp [l1]; omega)
    simpa using this
   ·rw [if_neg c]
    have : X = [] ∨ V2 = [] := by
     rcases Nat.eq_zero_or_pos X.length with h | h
     ·exact .inl (by simpa using h)
     ·refine .inr (by rw [← List.length_eq_zero_iff]; omega)
    rw [eQ (sXV this)]
    simp
theorem sortM_val {P U V Q : List En} {a m b : Int} (hu0 : 0 < U.length) (hv0 : 0 < V.length) (hU : Srt ky U) (hV : Srt ky V) (ha : a = P.length) (hm : m = P.length + U.length) (hb : b = P.length + U.length + V.length) (hs : (P ++ U ++ V ++ Q).length ≤ 1000000) :
  (aAi (P ++ U ++ V ++ Q) a m b).val = some (P ++ aG ky (U ++ V) ++ Q) :=
 sym_val FU P U V Q a m b (by simp only [List.length_append] at hs; unfold FU; omega) hu0 hv0 hU hV ha hm hb hs
end SEn
namespace SEn
inductive Blk (s : Nat) : List En → Prop
 | last (l : List En) : l.length ≤ s → Srt ky l → Blk s l
 | cons (c l : List En) : c.length = s → Srt ky c → Blk s l → Blk s (c ++ l)
theorem Blk.srt {s : Nat} {l : List En} (h : Blk s l) (hl : l.length ≤ s) : Srt ky l := by
 cases h with
 | last _ h1 h2 => exact h2
 | cons c l' h1 h2 h3 =>
  have : l' = [] := by
   rw [← List.length_eq_zero_iff]
   simp at hl
   omega
  subst this
  rw [List.append_nil]
  exact h2
theorem Blk.two {s : Nat} {l : List En} (h : Blk s l) (hl : s < l.length) : ∃ c R, l = c ++ R ∧ c.length = s ∧ Srt ky c ∧ Blk s R := by
 cases h with
 | last _ h1 h2 => omega
 | cons c l' h1 h2 h3 => exact ⟨c, l', rfl, h1, h2, h3⟩
theorem first_loop {n : Int} : ∀ (k : Nat) (R D : List En), n = D.length + R.length → (D ++ R).length ≤ 1000000 → R.length < k →
  ∃ F R2, (T.loop (cX n 20) k ((D.length : Int), (D.length : Int) + 20, D ++ R)).val = some (((D.length + F.length : Nat) : Int), D ++ F ++ R2) ∧ R2.length < 20 ∧ SE ky (F ++ R2) R ∧ (∀ X, Blk 20 X → Blk 20 (F ++ X))
 | 0, R, D, hn, hs, hk => by omega
 | k + 1, R, D, hn, hs, hk => by
  simp only [List.length_append] at hs
  by_cases c : R.length < 20
  ·refine ⟨[], R, bA ?_, c, SE.refl _, fun X h => h⟩
   have c1 : ¬ ((D.length : Int) + 20 ≤ n) := by omega
   simp [cX, c1, T.val_ret]
  ·obtain ⟨C, R, rfl, hC⟩ : ∃ C R', R = C ++ R' ∧ C.length = 20 := ⟨R.take 20, R.drop 20, by simp, by simp; omega⟩
   simp only [List.length_append] at hs hn hk
   have c1 : (D.length : Int) + 20 ≤ n := by omega
   have hv := ins_val (a := (D.length : Int)) (b := (D.length : Int) + 20) D C R rfl (by omega) (by simp; omega)
   have lI : (aG ky C).length = 20 := by rw [aL, hC]
   obtain ⟨F, R2, k1, k2, k3, k4⟩ := first_loop (n := n) k R (D ++ aG ky C) (by simp [lI]; omega) (by simp [lI]; omega) (by omega)
   have e1 : w64 ((D.length : Int) + 20 + 20) = ((D ++ aG ky C).length : Int) + 20 := by rw [aD] <;> (try simp [lI]) <;> omega
   have e2 : ((D ++ aG ky C).length : Int) = (D.length : Int) + 20 := by simp [lI]
   refine ⟨aG ky C ++ F, R2, aW (s' := (((D ++ aG ky C).length : Int), ((D ++ aG ky C).length : Int) + 20, D ++ aG ky C ++ R)) ?_ (k1.trans ?_), k2, ?_, fun X h =>?_⟩
   ·simp only [cX, c1, decide_true, cond_true, T.val_bind]
    rw [show D ++ (C ++ R) = D ++ C ++ R by simp, hv]
    simp only [Option.bind_some, T.val_ret, e1]
    rw [e2]
   ·simp
    omega
   ·rw [List.append_assoc]
    exact SE.append (bZ C) k3
   ·rw [List.append_assoc]
    exact .cons _ _ lI (bW C) (k4 X h)
theorem pass_loop {n : Int} {s : Nat} (h0 : 0 < s) (hs1 : s ≤ 1000000) : ∀ (k : Nat) (R D : List En), Blk s R → n = D.length + R.length → (D ++ R).length ≤ 1000000 → R.length < k →
  ∃ F R2, (T.loop (cF n (s : Int)) k ((D.length : Int), (D.length : Int) + 2 * s, D ++ R)).val = some (((D.length + F.length : Nat) : Int), D ++ F ++ R2) ∧ R2.length < 2 * s ∧ Blk s R2 ∧ SE ky (F ++ R2) R ∧ (∀ X, Blk (2 * s) X → Blk (2 * s) (F ++ X))
 | 0, R, D, hR, hn, hs, hk => by omega
 | k + 1, R, D, hR, hn, hs, hk => by
  simp only [List.length_append] at hs
  by_cases c : R.length < 2 * s
  ·refine ⟨[], R, bA ?_, c, hR, SE.refl _, fun X h => h⟩
   have c1 : ¬ ((D.length : Int) + 2 * s ≤ n) := by omega
   simp [cF, c1, T.val_ret]
  ·obtain ⟨C1, R1, rfl, hC1, sC1, hR1⟩ := hR.two (by omega)
   simp only [List.length_append] at hs hn hk c
   obtain ⟨C2, R, rfl, hC2, sC2, hR⟩ : ∃ C2 R', R1 = C2 ++ R' ∧ C2.length = s ∧ Srt ky C2 ∧ Blk s R' := by
    by_cases c2 : R1.length ≤ s
    ·exact ⟨R1, [], by simp, by omega, hR1.srt c2, .last [] (by simp) (by simp [Srt])⟩
    ·exact hR1.two (by omega)
   simp only [List.length_append] at hs hn hk c
   have c1 : (D.length : Int) + 2 * s ≤ n := by omega
   have e0 : w64 ((D.length : Int) + (s : Int)) = (D.length : Int) + (s : Int) := by rw [aD] <;> omega
   have hv := sortM_val (P := D) (U := C1) (V := C2) (Q := R) (a := (D.length : Int)) (m := w64 ((D.length : Int) + (s : Int))) (b := (D.length : Int) + 2 * s) (by omega) (by omega) sC1 sC2 rfl (by rw [e0]; omega) (by omega) (by simp; omega)
   have lI : (aG ky (C1 ++ C2)).length = 2 * s := by rw [aL]; simp; omega
   obtain ⟨F, R2, k1, k2, k2', k3, k4⟩ := pass_loop (n := n) h0 hs1 k R (D ++ aG ky (C1 ++ C2)) hR (by simp [lI]; omega) (by simp [lI]; omega) (by omega)
   have e3 : w64 (2 * (s : Int)) = 2 * s := by rw [aD] <;> omega
   have e1 : w64 ((D.length : Int) + 2 * s + w64 (2 * (s : Int))) = ((D ++ aG ky (C1 ++ C2)).length : Int) + 2 * s := by rw [e3, aD] <;> (try simp [lI]) <;> omega
   have e2 : ((D ++ aG ky (C1 ++ C2)).length : Int) = (D.length : Int) + 2 * s := by simp [lI]
   refine ⟨aG ky (C1 ++ C2) ++ F, R2, aW (s' := (((D ++ aG ky (C1 ++ C2)).length : Int), ((D ++ aG ky (C1 ++ C2)).length : Int) + 2 * s, D ++ aG ky (C1 ++ C2) ++ R)) ?_ (k1.trans ?_), k2, k2', ?_, fun X h =>?_⟩
   ·simp only [cF, c1, decide_true, cond_true, T.val_bind]
    rw [show D ++ (C1 ++ (C2 ++ R)) = D ++ C1 ++ C2 ++ R by simp, hv]
    simp only [Option.bind_some, T.val_ret, e1]
    rw [e2]
   ·simp
    omega
   ·rw [List.append_assoc, show C1 ++ (C2 ++ R) = (C1 ++ C2) ++ R by simp]
    exact SE.append (bZ _) k3
   ·rw [List.append_assoc]
    exact .cons _ _ lI (bW _) (k4 X h)
theorem outer_loop {n : Int} : ∀ (k : Nat) (s : Nat) (d : List En), 0 < s → s ≤ 2000000 → Blk s d → n = d.length → d.length ≤ 1000000 → d.length < s + k →
  ∃ d', (T.loop (bN n) (k + 1) ((s : Int), d)).val = some d' ∧ Srt ky d' ∧ SE ky d' d
 | 0, s, d, h0, hs1, hd, hn, hs, hk => by
  refine ⟨d, bA ?_, hd.srt (by omega), SE.refl _⟩
  have c1 : ¬ ((s : Int) < n) := by omega
  simp [bN, c1, T.val_ret]
 | k + 1, s, d, h0, hs1, hd, hn, hs, hk => by
  by_cases c : (s : Int) < n
  ·obtain ⟨F, R2, k1, k2, k2', k3, k4⟩ := pass_loop (n := n) (s := s) h0 (by omega) 4611686018427387904 d [] hd (by simpa using hn) (by simpa using hs) (by omega)
   have hlen : F.length + R2.length = d.length := by
    have h1 := aL (key := ky) (F ++ R2)
    rw [gK k3, aL] at h1
    simp at h1
    omega
   have e3 : w64 (2 * (s : Int)) = 2 * s := by rw [aD] <;> omega
   have e4 : w64 ((s : Int) * 2) = ((2 * s : Nat) : Int) := by rw [aD] <;> omega
   simp only [List.length_nil, Int.ofNat_zero, Nat.zero_add, List.nil_append, Int.zero_add] at k1
   have k1' : (T.loop (cF n (s : Int)) 4611686018427387904 (0, w64 (2 * (s : Int)), d)).val = some ((F.length : Int), F ++ R2) := by rw [e3]; exact k1
   have e5 : w64 ((F.length : Int) + (s : Int)) = (F.length : Int) + (s : Int) := by rw [aD] <;> omega
   by_cases c2 : (F.length : Int) + (s : Int) < n
   ·obtain ⟨C1, R, rfl, hC1, sC1, hR⟩ := k2'.two (by omega)
    simp only [List.length_append] at hlen k2
    have sR := hR.srt (by omega)
    have hv := sortM_val (P := F) (U := C1) (V := R) (Q := []) (a := (F.length : Int)) (m := (F.length : Int) + (s : Int)) (b := n) (by omega) (by omega) sC1 sR rfl (by omega) (by omega) (by simp; omega)
    obtain ⟨d', j1, j2, j3⟩ := outer_loop (n := n) k (2 * s) (F ++ aG ky (C1 ++ R)) (by omega) (by omega) (k4 _ (.last _ (by rw [aL]; simp; omega) (bW _))) (by simp [aL]; omega) (by simp [aL]; omega) (by simp [aL]; omega)
    refine ⟨d', aW (s' := (((2 * s : Nat) : Int), F ++ aG ky (C1 ++ R))) ?_ j1, j2, j3.trans ((SE.append (SE.refl F) (bZ _)).trans k3)⟩
    simp only [bN, c, decide_true, cond_true, T.val_bind, k1', Option.bind_some, e5, c2]
    rw [show F ++ (C1 ++ R) = F ++ C1 ++ R ++ [] by simp, hv]
    simp only [Option.bind_some, T.val_ret, e4]
    simp
   ·have sR := k2'.srt (by omega)
    obtain ⟨d', j1, j2, j3⟩ := outer_loop (n := n) k (2 * s) (F ++ R2) (by omega) (by omega) (k4 _ (.last _ (by omega) sR)) (by simp; omega) (by simp; omega) (by simp; omega)
    refine ⟨d', aW (s' := (((2 * s : Nat) : Int), F ++ R2)) ?_ j1, j2, j3.trans k3⟩
    simp only [bN, c, decide_true, cond_true, T.val_bind, k1', Option.bind_some, e5, c2, decide_false, cond_false, T.val_ret, e4]
  ·refine ⟨d, bA ?_, hd.srt (by omega), SE.refl _⟩
   simp [bN, c, T.val_ret]
theorem stab_val (d : List En) (hs : d.length ≤ 1000000) : (jV d).val = some (aG ky d) := by
 have key : (jU (Int.ofNat d.length) d).val = some (aG ky d) := by
  obtain ⟨F, R2, k1, k2, k3, k4⟩ := first_loop (n := Int.ofNat d.length) 4611686018427387904 d [] (by simp) (by simpa using hs) (by omega)
  have hlen : F.length + R2.length = d.length := by
   have h1 := aL (key := ky) (F ++ R2)
   rw [gK k3, aL] at h1
   simp at h1
   omega
  simp only [List.length_nil, Int.ofNat_zero, Nat.zero_add, List.nil_append, Int.zero_add] at k1
  have hv := ins_val (a := (F.length : Int)) (b := Int.ofNat d.length) F R2 [] rfl (by simp; omega) (by simp; omega)
  simp only [List.append_nil] at hv
  have hl2 : (F ++ aG ky R2).length = d.length := by simp [aL]; omega
  obtain ⟨d', j1, j2, j3⟩ := outer_loop (n := Int.ofNat d.length) 4611686018427387903 20 (F ++ aG ky R2) (by omega) (by omega) (k4 _ (.last _ (by rw [aL]; omega) (bW _))) (by rw [hl2]; rfl) (by omega) (by omega)
  have hd' : d' = aG ky d := fE j2 (j3.trans ((SE.append (SE.refl F) (bZ _)).trans k3))
  unfold jU
  rw [T.val_bind, k1, Option.bind_some]
  simp only [T.val_bind, hv, Option.bind_some]
  have j1' : (T.loop (bN (Int.ofNat d.length)) 4611686018427387904 (20, F ++ aG ky R2)).val = some d' := j1
  rw [j1', hd']
  rfl
 unfold jV
 rw [T.val_bind, key]
 rfl
end SEn
open Go.Proofs
@[reducible] def fixC (C : Con) : Con := { C with fix := [0] }
def aCv (l : List Pr) : List Pr := aG SPr.ky l
def oW (l : List En) : List En := aG SEn.ky l
def pI (n : Nat) : Bool := decide (n ≤ 1000000)
theorem aVd {f : Nat} {vs os rs os'} {sp sp' : VhL (.s (.own 0) :: vs) × OShL os → Option (VhL rs × OShL os')} (h : aK Tryz.prog gl f (Con.fx vs os rs os' sp)) (hs : ∀ x y, sp' x = some y → sp x = some y) : aK Tryz.prog gl f (Con.fx vs os rs os' sp') :=
 fun a b c d e g => h a b c d e (hs _ _ g)
@[reducible] def bIj : Ifc (VhL [.s (.own 0), .clo 258 []] × OShL [.arr (.st .pr)]) (VhL [] × OShL [.arr (.st .pr)]) where
 α := List Pr
 tr x := T.gret (pI x.2.1.length) (aCv x.2.1)
 got _ := []
 did _ := []
 enc _ a _ := ((), (a, ()))
 stop _ _ := ((), ([], ()))
abbrev bEa : Type := VhL [.s (.own 0), .clo 258 []] × OShL [.arr (.st .pr)] → Option (VhL [] × OShL [.arr (.st .pr)])
noncomputable abbrev bEb (sp : bEa) : Con := fixC (Con.of [.s (.own 0), .clo 258 []] [.arr (.st .pr)] [] [.arr (.st .pr)] sp)
theorem bEc : Callable Tryz.prog 257 := ⟨Tryz.f257, body Tryz.f257, by kernel_rfl, by kernel_rfl, by kernel_rfl⟩
theorem aZh : aK Tryz.prog gl 257 (bEb (Ifc.spec bIj)) := aVd aRh (by
 rintro ⟨⟨⟨⟩, ⟨⟩, ⟨⟩⟩, ⟨l, ⟨⟩⟩⟩ y hy
 unfold Ifc.spec at hy
 dsimp only at hy
 by_cases c : l.length ≤ 1000000
 ·rw [show pI l.length = true from decide_eq_true c] at hy
  cases hy
  show ((jF l).val).map _ = _
  rw [SPr.stab_val l c]
  rfl
 ·rw [show pI l.length = false from decide_eq_false c] at hy
  cases hy)
@[reducible] def bIk : Ifc (VhL [.s (.own 0), .clo 263 []] × OShL [.arr (.st .en)]) (VhL [] × OShL [.arr (.st .en)]) where
 α := List En
 tr x := T.gret (pI x.2.1.length) (oW x.2.1)
 got _ := []
 did _ := []
 enc _ a _ := ((), (a, ()))
 stop _ _ := ((), ([], ()))
abbrev bEd : Type := VhL [.s (.own 0), .clo 263 []] × OShL [.arr (.st .en)] → Option (VhL [] × OShL [.arr (.st .en)])
noncomputable abbrev bEe (sp : bEd) : Con := fixC (Con.of [.s (.own 0), .clo 263 []] [.arr (.st .en)] [] [.arr (.st .en)] sp)
theorem bEf : Callable Tryz.prog 262 := ⟨Tryz.f262, body Tryz.f262, by kernel_rfl, by kernel_rfl, by kernel_rfl⟩
theorem aZi : aK Tryz.prog gl 262 (bEe (Ifc.spec bIk)) := aVd aRr (by
 rintro ⟨⟨⟨⟩, ⟨⟩, ⟨⟩⟩, ⟨l, ⟨⟩⟩⟩ y hy
 unfold Ifc.spec at hy
 dsimp only at hy
 by_cases c : l.length ≤ 1000000
 ·rw [show pI l.length = true from decide_eq_true c] at hy
  cases hy
  show ((jV l).val).map _ = _
  rw [SEn.stab_val l c]
  rfl
 ·rw [show pI l.length = false from decide_eq_false c] at hy
  cases hy)
noncomputable abbrev freeE : Ge := ⟨141, Tryz.f141, [pm], mach, [], mach, machP, Unit, fun x a d => ((), (x.2.1.1, x.2.1.2.1, (), [], ()), d, ()), mP, fun o => o.1.2.1, fun o => o.2.1⟩
def freeF (c : Cfg) (got held : List Int) : F Unit := .tr (oL held)
theorem freeF_ok : freeE.Ok freeF := ⟨bLn, bHy⟩
theorem aVe {α Y : Type} {g : Bool} {v : α} {f : α → List Acc → Y} {st : List Acc → Y} {d : List Acc} {got : List Int} {y : Y} (h : (bif g then some (f v d) else none) = some y) : pT f st ((T.gret g v).exec got d) = some y := by
 cases g
 ·cases h
 ·exact h
noncomputable abbrev ordSetE : Gu := ⟨287, [.s (.lent .int)], [], [.s (.sln .int)], [], [], fun x => mH x.1.1, fun x => ((aJ x.1.1, ()), ())⟩
theorem ordSetU_ok : ordSetE.Ok := ⟨bDh, fun a h x y e1 e2 => aYn a h x y e1 (aVe e2)⟩
noncomputable abbrev ordWithinE : Gu := ⟨248, [.s (.lent .int), .s (.lent .int)], [], [vb], [], [], fun x => mH x.1.1 && mH x.1.2.1, fun x => ((xK x.1.1 x.1.2.1, ()), ())⟩
theorem ordWithinU_ok : ordWithinE.Ok := ⟨aKq, fun a h x y e1 e2 => aHf a h x y e1 (aVe e2)⟩
noncomputable abbrev stabPrE : Gu := ⟨257, [.s (.own 0), .clo 258 []], [.arr (.st .pr)], [], [.arr (.st .pr)], [0], fun x => pI x.2.1.length, fun x => ((), (aCv x.2.1, ()))⟩
theorem stabPrU_ok : stabPrE.Ok := ⟨bEc, fun a h x y e1 e2 => aZh a h x y e1 (aVe e2)⟩
noncomputable abbrev stabEnE : Gu := ⟨262, [.s (.own 0), .clo 263 []], [.arr (.st .en)], [], [.arr (.st .en)], [0], fun x => pI x.2.1.length, fun x => ((), (oW x.2.1, ()))⟩
theorem stabEnU_ok : stabEnE.Ok := ⟨bEf, fun a h x y e1 e2 => aZi a h x y e1 (aVe e2)⟩
end Go.Ax.Cd
