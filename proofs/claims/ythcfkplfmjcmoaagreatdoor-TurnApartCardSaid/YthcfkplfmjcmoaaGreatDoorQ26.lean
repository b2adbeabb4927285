/- Merged. -/
import Derived.Test.YthcfkplfmjcmoaaGreatDoorQ15
import Derived.Test.YthcfkplfmjcmoaaGreatDoorQ25
namespace Go.Ax.Cd
set_option linter.unusedVariables false
section
variable {α : Type} (key : α → Int)
def SE (l l' : List α) : Prop := ∀ k, l.filter (fun x => key x == k) = l'.filter (fun x => key x == k)
def Srt (l : List α) : Prop := l.Pairwise (fun x y => key x ≤ key y)
def ins (x : α) : List α → List α
 | [] => [x]
 | y :: t => if key x ≤ key y then x :: y :: t else y :: ins x t
def aG (l : List α) : List α := l.foldr (ins key) []
variable {key}
theorem SE.refl (l : List α) : SE key l l := fun _ => rfl
theorem SE.symm {l l' : List α} (h : SE key l l') : SE key l' l := fun k => (h k).symm
theorem SE.trans {l l' l'' : List α} (h : SE key l l') (h' : SE key l' l'') : SE key l l'' := fun k => (h k).trans (h' k)
theorem SE.append {a a' b b' : List α} (h : SE key a a') (h' : SE key b b') : SE key (a ++ b) (a' ++ b') := fun k => by
 rw [List.filter_append, List.filter_append, h k, h' k]
theorem SE.swap {X Y : List α} (h : ∀ x ∈ X, ∀ y ∈ Y, key x ≠ key y) : SE key (X ++ Y) (Y ++ X) := fun k => by
 rw [List.filter_append, List.filter_append]
 cases hx : X.filter (fun x => key x == k) with
 | nil => simp
 | cons x t =>
  have hx1 : x ∈ X.filter (fun x => key x == k) := by rw [hx]; exact List.mem_cons_self
  obtain ⟨hx2, hx3⟩ := List.mem_filter.1 hx1
  have : Y.filter (fun x => key x == k) = [] := by
   rw [List.filter_eq_nil_iff]
   intro y hy hyk
   have e1 : key x = k := by simpa using hx3
   have e2 : key y = k := by simpa using hyk
   exact h x hx2 y hy (e1.trans e2.symm)
  rw [this]
  simp
theorem SE.mem {l l' : List α} (h : SE key l l') {x : α} (hx : x ∈ l) : x ∈ l' := by
 have : x ∈ l.filter (fun y => key y == key x) := List.mem_filter.2 ⟨hx, by simp⟩
 rw [h] at this
 exact (List.mem_filter.1 this).1
theorem SE.uniq : ∀ {l l' : List α}, Srt key l → Srt key l' → SE key l l' → l = l'
 | [], l', _, _, h => by
  cases l' with
  | nil => rfl
  | cons y t => have := h.symm.mem (x := y) List.mem_cons_self; simp at this
 | x :: t, [], _, _, h => by have := h.mem (x := x) List.mem_cons_self; simp at this
 | x :: t, y :: t', h1, h2, h => by
  obtain ⟨a1, a2⟩ := List.pairwise_cons.1 h1
  obtain ⟨b1, b2⟩ := List.pairwise_cons.1 h2
  have e : key x = key y := by
   have hx := h.mem (x := x) List.mem_cons_self
   have hy := h.symm.mem (x := y) List.mem_cons_self
   have l1 : key y ≤ key x := by
    rcases List.mem_cons.1 hx with rfl | hx
    ·exact Int.le_refl _
    ·exact b1 x hx
   have l2 : key x ≤ key y := by
    rcases List.mem_cons.1 hy with rfl | hy
    ·exact Int.le_refl _
    ·exact a1 y hy
   omega
  have hh := h (key x)
  rw [List.filter_cons_of_pos (by simp), List.filter_cons_of_pos (by simp [e])] at hh
  obtain ⟨rfl, hh2⟩ := List.cons.inj hh
  congr 1
  refine SE.uniq a2 b2 (fun k =>?_)
  have := h k
  by_cases c : (key x == k) = true
  ·rw [List.filter_cons_of_pos (by simpa using c), List.filter_cons_of_pos (by simpa using c)] at this
   exact (List.cons.inj this).2
  ·rw [List.filter_cons_of_neg (by simpa using c), List.filter_cons_of_neg (by simpa using c)] at this
   exact this
theorem aUz {x : α} : ∀ {l : List α} {y : α}, y ∈ ins key x l → y = x ∨ y ∈ l
 | [], y, h => by simp [ins] at h; exact .inl h
 | z :: t, y, h => by
  simp only [ins] at h
  split at h
  ·rcases List.mem_cons.1 h with h | h
   ·exact .inl h
   ·exact .inr h
  ·rcases List.mem_cons.1 h with rfl | h
   ·exact .inr List.mem_cons_self
   ·exact (aUz h).imp id (List.mem_cons_of_mem _)
theorem aVa {x : α} : ∀ {l : List α}, Srt key l → Srt key (ins key x l)
 | [], _ => by simp [ins, Srt]
 | z :: t, h => by
  obtain ⟨h1, h2⟩ := List.pairwise_cons.1 h
  simp only [ins]
  split
  ·rename_i c
   refine List.pairwise_cons.2 ⟨fun y hy =>?_, h⟩
   rcases List.mem_cons.1 hy with rfl | hy
   ·exact c
   ·have := h1 y hy; omega
  ·rename_i c
   refine List.pairwise_cons.2 ⟨fun y hy =>?_, aVa h2⟩
   rcases aUz hy with rfl | hy
   ·omega
   ·exact h1 y hy
theorem ins_SE {x : α} : ∀ {l : List α}, SE key (ins key x l) (x :: l)
 | [] => SE.refl _
 | z :: t => by
  simp only [ins]
  split
  ·exact SE.refl _
  ·rename_i c
   refine (SE.append (a := [z]) (SE.refl _) (ins_SE (l := t))).trans ?_
   exact SE.append (b := t) (SE.swap (X := [z]) (Y := [x]) (by simp; omega)) (SE.refl _)
theorem aVb {x : α} : ∀ {l : List α}, (ins key x l).length = l.length + 1
 | [] => rfl
 | z :: t => by
  simp only [ins]
  split
  ·rfl
  ·simp [aVb (l := t)]
theorem bW : ∀ (l : List α), Srt key (aG key l)
 | [] => by simp [aG, Srt]
 | x :: t => aVa (bW t)
theorem bZ : ∀ (l : List α), SE key (aG key l) l
 | [] => SE.refl _
 | x :: t => ins_SE.trans (SE.append (a := [x]) (SE.refl _) (bZ t))
theorem aL : ∀ (l : List α), (aG key l).length = l.length
 | [] => rfl
 | x :: t => by
  have := aL t
  simp only [aG, List.foldr_cons, aVb, List.length_cons] at this ⊢
  omega
theorem fE {l l' : List α} (h : Srt key l') (h2 : SE key l' l) : l' = aG key l := SE.uniq h (bW l) (h2.trans (bZ l).symm)
theorem eQ {l : List α} (h : Srt key l) : aG key l = l := (fE h (SE.refl l)).symm
theorem aFb {l : List α} {x : α} : x ∈ aG key l ↔ x ∈ l := ⟨(bZ l).mem, (bZ l).symm.mem⟩
theorem gK {l l' : List α} (h : SE key l l') : aG key l = aG key l' := fE (bW l) ((bZ l).trans h)
theorem Srt.app {l l' : List α} (h : Srt key l) (h' : Srt key l') (hx : ∀ x ∈ l, ∀ y ∈ l', key x ≤ key y) : Srt key (l ++ l') := List.pairwise_append.2 ⟨h, h', hx⟩
theorem Srt.idx {l : List α} (h : Srt key l) {i j : Nat} (hj : j < l.length) (hij : i ≤ j) : key (l[i]'(by omega)) ≤ key l[j] := by
 rcases Nat.lt_or_ge i j with c | c
 ·exact List.pairwise_iff_getElem.1 h i j (by omega) hj c
 ·have : i = j := by omega
  subst this
  exact Int.le_refl _
end
theorem rd_at {e : EK} {l A R : List e.T} {x : e.T} {i : Int} (h : l = A ++ x :: R) (hi : i = (A.length : Int)) : rd (e := e) l i = x := by
 subst h
 subst hi
 simp [rd, List.getD_eq_getElem?_getD]
theorem kX {e : EK} {l A R : List e.T} {x y : e.T} {i : Int} (h : l = A ++ x :: R) (hi : i = (A.length : Int)) : wr (e := e) l i y = A ++ y :: R := by
 subst h
 subst hi
 simp [wr]
theorem bT {e : EK} {l A R : List e.T} {x : e.T} {i : Int} (h : l = A ++ x :: R) (hi : i = (A.length : Int)) : inR i l.length = true := by
 subst h
 subst hi
 simp [inR]
 omega
theorem bKd {e : EK} {l : List e.T} {i : Nat} (h : i < l.length) : rd (e := e) l (i : Int) = l[i] := by
 simp [rd, List.getD_eq_getElem?_getD, List.getElem?_eq_getElem h]
theorem qF {n i : Nat} (h : i < n) : inR (i : Int) n = true := by simp [inR]; omega
theorem aLe {σ β : Type} (body : σ → T (σ ⊕ β)) (k : Nat) (s : σ) : (T.loop body (k + 1) s).val = (body s).val.bind fun | .inl s' => (T.loop body k s').val | .inr b => some b := by
 show ((body s).bind _).val = _
 rw [T.val_bind]
 cases (body s).val with
 | none => rfl
 | some r => cases r <;> rfl
theorem aW {σ β : Type} {body : σ → T (σ ⊕ β)} {k : Nat} {s s' : σ} {r : Option β} (h : (body s).val = some (.inl s')) (h' : (T.loop body k s').val = r) : (T.loop body (k + 1) s).val = r := by rw [aLe, h]; exact h'
theorem bA {σ β : Type} {body : σ → T (σ ⊕ β)} {k : Nat} {s : σ} {b : β} (h : (body s).val = some (.inr b)) : (T.loop body (k + 1) s).val = some b := by rw [aLe, h]; rfl
theorem half {s : Int} (h0 : 0 ≤ s) (h1 : s < 4611686018427387904) : w64 (aB (aC (w64 s)) 1) = s / 2 := by
 have e1 : w64 s = s := aD h0 (by omega)
 have e2 : aC s = s := by
  have h2 : (2 : Int) ^ IntKind.u64.bits = 18446744073709551616 := by decide
  have h3 : s % 18446744073709551616 = s := Int.emod_eq_of_lt h0 (by omega)
  simp [aC, IntKind.wrap, h2, h3, IntKind.signed]
 have e3 : aB s 1 = s / 2 := by
  unfold aB
  have : (2 : Int) ^ (min (1 : Int).toNat 64) = 2 := by decide
  rw [this, Int.fdiv_eq_ediv_of_nonneg _ (by decide)]
 rw [e1, e2, e3, aD (by omega) (by omega)]
theorem qG {body : Int × Int → T ((Int × Int) ⊕ Int)} {p : Nat → Bool} {lo hi : Nat} (hb : ∀ i j : Nat, lo ≤ i → i ≤ j → j ≤ hi → (body ((i : Int), (j : Int))).val = some (if i < j then (if p ((i + j) / 2) then .inl ((((i + j) / 2 + 1 : Nat) : Int), (j : Int)) else .inl ((i : Int), (((i + j) / 2 : Nat) : Int))) else .inr (i : Int)))
  (hp : ∀ s t, lo ≤ s → s ≤ t → t < hi → p t = true → p s = true) : ∀ (k i j : Nat), j - i < k → lo ≤ i → i ≤ j → j ≤ hi → (∀ t, lo ≤ t → t < i → p t = true) → (∀ t, j ≤ t → t < hi → p t = false) →
  ∃ r : Nat, (T.loop body k ((i : Int), (j : Int))).val = some (r : Int) ∧ lo ≤ r ∧ r ≤ hi ∧ (∀ t, lo ≤ t → t < r → p t = true) ∧ (∀ t, r ≤ t → t < hi → p t = false)
 | 0, i, j, h, _, _, _, _, _ => by omega
 | k + 1, i, j, h, h1, h2, h3, h4, h5 => by
  have hv := hb i j h1 h2 h3
  by_cases c : i < j
  ·rw [if_pos c] at hv
   cases hc : p ((i + j) / 2) with
   | true =>
    rw [hc] at hv
    obtain ⟨r, k1, k2⟩ := qG hb hp k ((i + j) / 2 + 1) j (by omega) (by omega) (by omega) h3 (fun t t1 t2 => hp t ((i + j) / 2) t1 (by omega) (by omega) hc) h5
    exact ⟨r, aW hv k1, k2⟩
   | false =>
    rw [hc] at hv
    obtain ⟨r, k1, k2⟩ := qG hb hp k i ((i + j) / 2) (by omega) h1 (by omega) (by omega) h4 (fun t t1 t2 => by
     cases ht : p t with
     | false => rfl
     | true => rw [hp ((i + j) / 2) t (by omega) t1 t2 ht] at hc; cases hc)
    exact ⟨r, aW hv k1, k2⟩
  ·rw [if_neg c] at hv
   have : i = j := by omega
   subst this
   exact ⟨i, bA hv, h1, h3, h4, h5⟩
set_option maxRecDepth 100000
namespace SPr
abbrev E : EK := .st .pr
abbrev ky (x : Pr) : Int := x.k
theorem cmp_val (x y : Pr) : ∃ c, (lE x y).val = some c ∧ decide (c < 0) = decide (ky x < ky y) := by
 unfold lE sF
 by_cases h1 : x.k < y.k
 ·exact ⟨-1, by simp [T.val_bind, T.val_ret, h1], by simp [ky, h1]⟩
 ·by_cases h2 : y.k < x.k
  ·exact ⟨1, by simp [T.val_bind, T.val_ret, h1, h2], by simp [ky, h1]⟩
  ·exact ⟨0, by simp [T.val_bind, T.val_ret, h1, h2], by simp [ky, h1]⟩
theorem swap_loop {a b n : Int} : ∀ (X Y A B C : List Pr) (i : Int) (k : Nat), X.length = Y.length → 0 ≤ i → i + X.length = n → a + i = A.length → b + i = A.length + X.length + B.length → 0 ≤ a → 0 ≤ b → (A ++ X ++ B ++ Y ++ C).length ≤ 1000000 → X.length < k →
  (T.loop (dN a b n) k (i, A ++ X ++ B ++ Y ++ C)).val = some (A ++ Y ++ B ++ X ++ C)
 | [], Y, A, B, C, i, k, hl, hi, hn, ha, hb, ha0, hb0, hs, hk => by
  obtain ⟨k, rfl⟩ : ∃ k', k = k' + 1 := ⟨k - 1, by simp at hk; omega⟩
  have : Y = [] := by simpa using hl.symm
  subst this
  refine bA ?_
  have : ¬ i < n := by simp at hn; omega
  simp [dN, this, T.val_ret]
 | x :: X, [], A, B, C, i, k, hl, _, _, _, _, _, _, _, _ => by simp at hl
 | x :: X, y :: Y, A, B, C, i, k, hl, hi, hn, ha, hb, ha0, hb0, hs, hk => by
  obtain ⟨k, rfl⟩ : ∃ k', k = k' + 1 := ⟨k - 1, by simp at hk; omega⟩
  simp only [List.length_append, List.length_cons] at hs hl hn hb hk
  have e1 : w64 (a + i) = (A.length : Int) := by rw [aD] <;> omega
  have e2 : w64 (b + i) = ((A ++ x :: X ++ B).length : Int) := by rw [aD] <;> (try simp) <;> omega
  have e2' : w64 (b + i) = ((A ++ y :: X ++ B).length : Int) := by rw [e2]; simp
  have e3 : w64 (i + 1) = i + 1 := by rw [aD] <;> omega
  have d1 : A ++ x :: X ++ B ++ y :: Y ++ C = A ++ x :: (X ++ B ++ y :: Y ++ C) := by simp
  have d2 : A ++ x :: X ++ B ++ y :: Y ++ C = (A ++ x :: X ++ B) ++ y :: (Y ++ C) := by simp
  have r1 : rd (e := E) (A ++ x :: X ++ B ++ y :: Y ++ C) (w64 (a + i)) = x := rd_at d1 e1
  have r2 : rd (e := E) (A ++ x :: X ++ B ++ y :: Y ++ C) (w64 (b + i)) = y := rd_at d2 e2
  have w1 : wr (e := E) (A ++ x :: X ++ B ++ y :: Y ++ C) (w64 (a + i)) y = A ++ y :: (X ++ B ++ y :: Y ++ C) := kX d1 e1
  have d3 : A ++ y :: (X ++ B ++ y :: Y ++ C) = (A ++ y :: X ++ B) ++ y :: (Y ++ C) := by simp
  have w2 : wr (e := E) (A ++ y :: (X ++ B ++ y :: Y ++ C)) (w64 (b + i)) x = (A ++ y :: X ++ B) ++ x :: (Y ++ C) := kX d3 e2'
  have i1 := bT (e := E) d1 e1
  have i2 := bT (e := E) d2 e2
  have i3 := bT (e := E) d3 e2'
  have ih := swap_loop (a := a) (b := b) (n := n) X Y (A ++ [y]) (B ++ [x]) C (i + 1) k (by omega) (by omega) (by omega) (by simp; omega) (by simp; omega) ha0 hb0 (by simp; omega) (by omega)
  refine aW (s' := (i + 1, A ++ [y] ++ X ++ (B ++ [x]) ++ Y ++ C)) ?_ (ih.trans (by simp))
  have c : i < n := by omega
  simp only [dN, rdE, wrE, c, decide_true, cond_true, i1, i2, r1, r2, w1, w2, i3, e3, T.val_ret]
  simp
theorem swap_val {a b n : Int} (X Y A B C : List Pr) (hl : X.length = Y.length) (hn : n = X.length) (ha : a = A.length) (hb : b = A.length + X.length + B.length) (hs : (A ++ X ++ B ++ Y ++ C).length ≤ 1000000) :
  (gU a b n (A ++ X ++ B ++ Y ++ C)).val = some (A ++ Y ++ B ++ X ++ C) := by
 unfold gU
 have hs' := hs
 simp only [List.length_append] at hs'
 rw [T.val_bind, swap_loop X Y A B C 0 _ hl (Int.le_refl _) (by omega) (by omega) (by omega) (by omega) (by omega) hs (by omega)]
 rfl
theorem rot_loop {m : Int} : ∀ (s : Nat) (P X Y Q : List Pr) (k : Nat), X.length + Y.length ≤ s → 0 < X.length → 0 < Y.length → m = P.length + X.length → (P ++ X ++ Y ++ Q).length ≤ 1000000 → s < k →
  ∃ P' X' Y' Q' : List Pr, (T.loop (dD m) k ((X.length : Int), (Y.length : Int), P ++ X ++ Y ++ Q)).val = some ((X'.length : Int), P' ++ X' ++ Y' ++ Q') ∧ X'.length = Y'.length ∧ m = P'.length + X'.length ∧ (P' ++ X' ++ Y' ++ Q').length ≤ 1000000 ∧ P' ++ Y' ++ X' ++ Q' = P ++ Y ++ X ++ Q
 | 0, P, X, Y, Q, k, h, hx, _, _, _, _ => by omega
 | s + 1, P, X, Y, Q, k, h, hx, hy, hm, hs, hk => by
  obtain ⟨k, rfl⟩ : ∃ k', k = k' + 1 := ⟨k - 1, by omega⟩
  have hs' := hs
  simp only [List.length_append] at hs'
  by_cases c : X.length = Y.length
  ·refine ⟨P, X, Y, Q, bA ?_, c, hm, hs, rfl⟩
   simp [dD, c, T.val_ret]
  ·have c1 : ((X.length : Int) != (Y.length : Int)) = true := by simp; omega
   by_cases c2 : X.length > Y.length
   ·-- the first part of X for Y
    obtain ⟨X1, X2, rfl, hX1⟩ : ∃ X1 X2, X = X1 ++ X2 ∧ X1.length = Y.length := ⟨X.take Y.length, X.drop Y.length, by simp, by simp; omega⟩
    simp only [List.length_append] at h hm c c2 hs' hx
    have e1 : w64 (m - ((X1 ++ X2).length : Int)) = (P.length : Int) := by rw [aD] <;> (try simp) <;> omega
    have e2 : w64 (((X1 ++ X2).length : Int) - (Y.length : Int)) = (X2.length : Int) := by rw [aD] <;> (try simp) <;> omega
    have hv := swap_val (a := P.length) (b := m) (n := Y.length) X1 Y P X2 Q hX1 (by omega) rfl (by omega) (by simp; omega)
    obtain ⟨P', X', Y', Q', k1, k2, k3, k4, k5⟩ := rot_loop (m := m) s (P ++ Y) X2 X1 Q k (by omega) (by omega) (by omega) (by simp; omega) (by simp; omega) (by omega)
    refine ⟨P', X', Y', Q', aW (s' := ((X2.length : Int), (Y.length : Int), P ++ Y ++ X2 ++ X1 ++ Q)) ?_ (by rw [← hX1]; exact k1), k2, k3, k4, by rw [k5]; simp⟩
    have c3 : ((X1 ++ X2).length : Int) > (Y.length : Int) := by simp; omega
    have d : P ++ (X1 ++ X2) ++ Y ++ Q = P ++ X1 ++ X2 ++ Y ++ Q := by simp
    simp only [dD, c1, c3, decide_true, cond_true, e1, e2, T.val_bind, d, hv, Option.bind_some, T.val_ret]
   ·obtain ⟨Y1, Y2, rfl, hY2⟩ : ∃ Y1 Y2, Y = Y1 ++ Y2 ∧ Y2.length = X.length := ⟨Y.take (Y.length - X.length), Y.drop (Y.length - X.length), by simp, by simp; omega⟩
    simp only [List.length_append] at h hm c c2 hs' hy
    have e1 : w64 (m - (X.length : Int)) = (P.length : Int) := by rw [aD] <;> omega
    have e2 : w64 (((Y1 ++ Y2).length : Int) - (X.length : Int)) = (Y1.length : Int) := by rw [aD] <;> (try simp) <;> omega
    have e4 : w64 (m + ((Y1 ++ Y2).length : Int)) = m + ((Y1 ++ Y2).length : Int) := by rw [aD] <;> (try simp) <;> omega
    have e3 : w64 (w64 (m + ((Y1 ++ Y2).length : Int)) - (X.length : Int)) = (P.length : Int) + X.length + Y1.length := by rw [e4, aD] <;> (try simp) <;> omega
    have hv := swap_val (a := P.length) (b := (P.length : Int) + X.length + Y1.length) (n := X.length) X Y2 P Y1 Q hY2.symm rfl rfl rfl (by simp; omega)
    obtain ⟨P', X', Y', Q', k1, k2, k3, k4, k5⟩ := rot_loop (m := m) s P Y2 Y1 (X ++ Q) k (by omega) (by omega) (by omega) (by omega) (by simp; omega) (by omega)
    refine ⟨P', X', Y', Q', aW (s' := ((X.length : Int), (Y1.length : Int), P ++ Y2 ++ Y1 ++ (X ++ Q))) ?_ (by rw [← hY2]; exact k1), k2, k3, k4, by rw [k5]; simp⟩
    have c3 : ¬ ((X.length : Int) > ((Y1 ++ Y2).length : Int)) := by simp; omega
    have d : P ++ X ++ (Y1 ++ Y2) ++ Q = P ++ X ++ Y1 ++ Y2 ++ Q := by simp
    simp only [dD, c1, c3, decide_false, cond_true, cond_false, e1, e2, e3, T.val_bind, d, hv, Option.bind_some, T.val_ret]
    simp
theorem rot_val {a m b : Int} (P X Y Q : List Pr) (hx : 0 < X.length) (hy : 0 < Y.length) (ha : a = P.length) (hm : m = P.length + X.length) (hb : b = P.length + X.length + Y.length) (hs : (P ++ X ++ Y ++ Q).length ≤ 1000000) :
  (lF a m b (P ++ X ++ Y ++ Q)).val = some (P ++ Y ++ X ++ Q) := by
 unfold lF
 have hs' := hs
 simp only [List.length_append] at hs'
 have e1 : w64 (m - a) = (X.length : Int) := by rw [aD] <;> omega
 have e2 : w64 (b - m) = (Y.length : Int) := by rw [aD] <;> omega
 obtain ⟨P', X', Y', Q', k1, k2, k3, k4, k5⟩ := rot_loop (m := m) (X.length + Y.length) P X Y Q 4611686018427387904 (Nat.le_refl _) hx hy hm hs (by omega)
 have k4' := k4
 simp only [List.length_append] at k4'
 have e3 : w64 (m - (X'.length : Int)) = (P'.length : Int) := by rw [aD] <;> omega
 have hv := swap_val (a := P'.length) (b := m) (n := X'.length) X' Y' P' [] Q' k2 rfl rfl (by simp; omega) (by simpa using k4)
 rw [e1, e2, T.val_bind, k1, Option.bind_some]
 simp only [e3, T.val_bind]
 rw [show P' ++ X' ++ Y' ++ Q' = P' ++ X' ++ [] ++ Y' ++ Q' by simp, hv]
 simp only [Option.bind_some, T.val_ret]
 rw [← k5]
 simp
end SPr
namespace SPr
theorem ins_loop {a b i : Int} : ∀ (n : Nat) (S P : List Pr) (x : Pr) (R : List Pr) (k : Nat), S.length = n → a = P.length → (P ++ S ++ x :: R).length ≤ 1000000 → n < k →
  ∃ S1 S2, S = S1 ++ S2 ∧ (∀ s ∈ S2, ky x < ky s) ∧ (∀ s, S1.getLast? = some s → ky s ≤ ky x) ∧ (T.loop (dE a b i) k (((P.length + S.length : Nat) : Int), P ++ S ++ x :: R)).val = some (P ++ S1 ++ x :: S2 ++ R)
 | 0, S, P, x, R, k, hn, ha, hs, hk => by
  obtain ⟨k, rfl⟩ : ∃ k', k = k' + 1 := ⟨k - 1, by omega⟩
  have : S = [] := by simpa using hn
  subst this
  refine ⟨[], [], rfl, by simp, by simp, bA ?_⟩
  have c : ¬ ((P.length : Int) > a) := by omega
  simp [dE, c, T.val_ret]
 | n + 1, S, P, x, R, k, hn, ha, hs, hk => by
  obtain ⟨k, rfl⟩ : ∃ k', k = k' + 1 := ⟨k - 1, by omega⟩
  obtain ⟨S, y, rfl⟩ : ∃ S' y, S = S' ++ [y] := ⟨S.dropLast, S.getLast (by intro h; simp [h] at hn), (List.dropLast_concat_getLast _).symm⟩
  simp only [List.length_append, List.length_cons, List.length_nil] at hn hs
  have e1 : w64 ((P.length + (S ++ [y]).length : Nat) - 1 : Int) = ((P ++ S).length : Int) := by rw [aD] <;> (try simp) <;> omega
  have c : ((P.length + (S ++ [y]).length : Nat) : Int) > a := by simp; omega
  have d1 : P ++ (S ++ [y]) ++ x :: R = (P ++ (S ++ [y])) ++ x :: R := rfl
  have d2 : P ++ (S ++ [y]) ++ x :: R = (P ++ S) ++ y :: (x :: R) := by simp
  have l1 : ((P.length + (S ++ [y]).length : Nat) : Int) = ((P ++ (S ++ [y])).length : Int) := by simp
  have r1 : rd (e := E) (P ++ (S ++ [y]) ++ x :: R) ((P.length + (S ++ [y]).length : Nat) : Int) = x := rd_at d1 l1
  have r2 : rd (e := E) (P ++ (S ++ [y]) ++ x :: R) (w64 ((P.length + (S ++ [y]).length : Nat) - 1 : Int)) = y := rd_at d2 e1
  have i1 := bT (e := E) d1 l1
  have i2 := bT (e := E) d2 e1
  obtain ⟨cv, hc1, hc2⟩ := cmp_val x y
  by_cases hxy : ky x < ky y
  ·have w1 : wr (e := E) (P ++ (S ++ [y]) ++ x :: R) ((P.length + (S ++ [y]).length : Nat) : Int) y = (P ++ (S ++ [y])) ++ y :: R := kX d1 l1
   have d3 : (P ++ (S ++ [y])) ++ y :: R = (P ++ S) ++ y :: (y :: R) := by simp
   have w2 : wr (e := E) ((P ++ (S ++ [y])) ++ y :: R) (w64 ((P.length + (S ++ [y]).length : Nat) - 1 : Int)) x = (P ++ S) ++ x :: (y :: R) := kX d3 e1
   have i3 := bT (e := E) d3 e1
   obtain ⟨S1, S2, k1, k2, k3, k4⟩ := ins_loop (a := a) (b := b) (i := i) n S P x (y :: R) k (by omega) ha (by simp; omega) (by omega)
   refine ⟨S1, S2 ++ [y], by rw [k1]; simp, fun s hs =>?_, k3, aW (s' := (((P.length + S.length : Nat) : Int), P ++ S ++ x :: (y :: R))) ?_ (k4.trans (by simp))⟩
   ·rcases List.mem_append.1 hs with hs | hs
    ·exact k2 s hs
    ·simp only [List.mem_singleton] at hs
     subst hs
     exact hxy
   ·have hc3 : decide (cv < 0) = true := by rw [hc2]; exact decide_eq_true hxy
    simp only [dE, rdE, wrE, c, decide_true, cond_true, i1, i2, r1, r2, T.val_bind, hc1, Option.bind_some, hc3, w1, w2, i3, T.val_ret]
    rw [e1]
    simp
  ·have hc3 : decide (cv < 0) = false := by rw [hc2]; exact decide_eq_false hxy
   refine ⟨S ++ [y], [], by simp, by simp, fun s hs =>?_, bA ?_⟩
   ·simp at hs
    subst hs
    omega
   ·simp only [dE, rdE, wrE, c, decide_true, cond_true, i1, i2, r1, r2, T.val_bind, hc1, Option.bind_some, hc3, cond_false, T.val_ret]
    simp
theorem last_le {S1 : List Pr} {x : Pr} (h : Srt ky S1) (hl : ∀ s, S1.getLast? = some s → ky s ≤ ky x) : ∀ s ∈ S1, ky s ≤ ky x := fun s hs => by
 cases hg : S1.getLast? with
 | none => rw [List.getLast?_eq_none_iff] at hg; subst hg; simp at hs
 | some z =>
  obtain ⟨ys, rfl⟩ := List.getLast?_eq_some_iff.1 hg
  have hz := hl z hg
  rcases List.mem_append.1 hs with h1 | h1
  ·have := (List.pairwise_append.1 h).2.2 s h1 z (by simp)
   omega
  ·simp only [List.mem_singleton] at h1
   subst h1
   exact hz
theorem ins_outer {a b : Int} : ∀ (R S P Q : List Pr) (k : Nat), Srt ky S → a = P.length → b = P.length + S.length + R.length → (P ++ S ++ R ++ Q).length ≤ 1000000 → R.length < k →
  (T.loop (cP a b) k (((P.length + S.length : Nat) : Int), P ++ S ++ R ++ Q)).val = some (P ++ aG ky (S ++ R) ++ Q)
 | [], S, P, Q, k, hS, ha, hb, hs, hk => by
  obtain ⟨k, rfl⟩ : ∃ k', k = k' + 1 := ⟨k - 1, by simp at hk; omega⟩
  refine bA ?_
  have c : ¬ (((P.length + S.length : Nat) : Int) < b) := by simp at hb; omega
  simp only [cP, c, decide_false, cond_false, T.val_ret]
  simp [eQ hS]
 | x :: R, S, P, Q, k, hS, ha, hb, hs, hk => by
  obtain ⟨k, rfl⟩ : ∃ k', k = k' + 1 := ⟨k - 1, by simp at hk; omega⟩
  simp only [List.length_append, List.length_cons] at hs hb hk
  obtain ⟨S1, S2, rfl, k2, k3, k4⟩ := ins_loop (a := a) (b := b) (i := ((P.length + S.length : Nat) : Int)) S.length S P x (R ++ Q) 4611686018427387904 rfl ha (by simp; omega) (by omega)
  have hS' := List.pairwise_append.1 hS
  have hle := last_le (S1 := S1) hS'.1 k3
  have hN : Srt ky (S1 ++ x :: S2) := Srt.app hS'.1 (List.pairwise_cons.2 ⟨fun s hs => by have := k2 s hs; omega, hS'.2.1⟩) (fun u hu v hv => by
   rcases List.mem_cons.1 hv with rfl | hv
   ·exact hle u hu
   ·exact hS'.2.2 u hu v hv)
  have hSE : SE ky (S1 ++ x :: S2) ((S1 ++ S2) ++ [x]) := by
   rw [List.append_assoc]
   exact SE.append (SE.refl _) (SE.swap (X := [x]) (Y := S2) (fun u hu v hv => by simp only [List.mem_singleton] at hu; subst hu; have := k2 v hv; omega))
  have ih := ins_outer (a := a) (b := b) R (S1 ++ x :: S2) P Q k hN ha (by simp only [List.length_append, List.length_cons] at hb ⊢; omega) (by simp only [List.length_append, List.length_cons] at hs ⊢; omega) (by omega)
  have hI : aG ky ((S1 ++ x :: S2) ++ R) = aG ky ((S1 ++ S2) ++ x :: R) := by
   refine gK ((SE.append hSE (SE.refl R)).trans ?_)
   simp only [List.append_assoc, List.cons_append, List.nil_append]
   exact SE.refl _
  rw [hI] at ih
  refine aW (s' := (((P.length + (S1 ++ x :: S2).length : Nat) : Int), P ++ (S1 ++ x :: S2) ++ R ++ Q)) ?_ ih
  have c : ((P.length + (S1 ++ S2).length : Nat) : Int) < b := by simp only [List.length_append] at hb ⊢; omega
  have d : P ++ (S1 ++ S2) ++ x :: R ++ Q = P ++ (S1 ++ S2) ++ x :: (R ++ Q) := by simp
  have e1 : w64 (((P.length + (S1 ++ S2).length : Nat) : Int) + 1) = ((P.length + (S1 ++ x :: S2).length : Nat) : Int) := by
   simp only [List.length_append, List.length_cons] at hs ⊢
   rw [aD] <;> omega
  simp only [cP, c, decide_true, cond_true, T.val_bind, d, k4, Option.bind_some, T.val_ret, e1]
  simp
theorem ins_val {a b : Int} (P U Q : List Pr) (ha : a = P.length) (hb : b = P.length + U.length) (hs : (P ++ U ++ Q).length ≤ 1000000) : (nH a b (P ++ U ++ Q)).val = some (P ++ aG ky U ++ Q) := by
 unfold nH
 simp only [List.length_append] at hs
 have e1 : w64 (a + 1) = ((P.length + 1 : Nat) : Int) := by rw [aD] <;> omega
 cases U with
 | nil =>
  have c : ¬ (((P.length + 1 : Nat) : Int) < b) := by simp at hb; omega
  have := bA (body := cP a b) (k := 4611686018427387903) (s := (((P.length + 1 : Nat) : Int), P ++ [] ++ Q)) (b := P ++ [] ++ Q) (by simp only [cP, c, decide_false, cond_false, T.val_ret])
  rw [T.val_bind, e1, this]
  rfl
 | cons x U =>
  simp only [List.length_cons] at hs hb
  have := ins_outer (a := a) (b := b) U [x] P Q 4611686018427387904 (by simp [Srt]) ha (by simp; omega) (by simp; omega) (by omega)
  rw [T.val_bind, e1, show P ++ x :: U ++ Q = P ++ [x] ++ U ++ Q by simp]
  rw [show ((P.length + [x].length : Nat) : Int) = ((P.length + 1 : Nat) : Int) by simp] at this
  rw [this]
  simp [T.val_ret]
theorem fwd_loop {r : Int} : ∀ (W P : List Pr) (x : Pr) (R : List Pr) (k : Nat), r = P.length + 1 + W.length → (P ++ x :: W ++ R).length ≤ 1000000 → W.length < k →
  (T.loop (dX r) k ((P.length : Int), P ++ x :: W ++ R)).val = some (P ++ W ++ x :: R)
 | [], P, x, R, k, hr, hs, hk => by
  obtain ⟨k, rfl⟩ : ∃ k', k = k' + 1 := ⟨k - 1, by simp at hk; omega⟩
  simp only [List.length_append, List.length_cons, List.length_nil] at hs hr
  refine bA ?_
  have c : ¬ ((P.length : Int) < w64 (r - 1)) := by rw [aD] <;> omega
  simp [dX, c, T.val_ret]
 | y :: W, P, x, R, k, hr, hs, hk => by
  obtain ⟨k, rfl⟩ : ∃ k', k = k' + 1 := ⟨k - 1, by simp at hk; omega⟩
  simp only [List.length_append, List.length_cons] at hs hr hk
  have c : (P.length : Int) < w64 (r - 1) := by rw [aD] <;> omega
  have e1 : w64 ((P.length : Int) + 1) = ((P ++ [x]).length : Int) := by rw [aD] <;> (try simp) <;> omega
  have e2 : w64 ((P.length : Int) + 1) = ((P ++ [y]).length : Int) := by rw [e1]; simp
  have d1 : P ++ x :: (y :: W) ++ R = P ++ x :: (y :: W ++ R) := by simp
  have d2 : P ++ x :: (y :: W) ++ R = (P ++ [x]) ++ y :: (W ++ R) := by simp
  have r1 : rd (e := E) (P ++ x :: (y :: W) ++ R) (P.length : Int) = x := rd_at d1 rfl
  have r2 : rd (e := E) (P ++ x :: (y :: W) ++ R) (w64 ((P.length : Int) + 1)) = y := rd_at d2 e1
  have w1 : wr (e := E) (P ++ x :: (y :: W) ++ R) (P.length : Int) y = P ++ y :: (y :: W ++ R) := kX d1 rfl
  have d3 : P ++ y :: (y :: W ++ R) = (P ++ [y]) ++ y :: (W ++ R) := by simp
  have w2 : wr (e := E) (P ++ y :: (y :: W ++ R)) (w64 ((P.length : Int) + 1)) x = (P ++ [y]) ++ x :: (W ++ R) := kX d3 e2
  have i1 := bT (e := E) d1 rfl
  have i2 := bT (e := E) d2 e1
  have i3 := bT (e := E) d3 e2
  have ih := fwd_loop (r := r) W (P ++ [y]) x R k (by simp; omega) (by simp; omega) (by omega)
  refine aW (s' := (((P ++ [y]).length : Int), P ++ [y] ++ x :: W ++ R)) ?_ (ih.trans (by simp))
  simp only [dX, rdE, wrE, c, decide_true, cond_true, i1, i2, r1, r2, w1, w2, i3, T.val_ret]
  rw [e2]
  simp
theorem bwd_loop {r : Int} : ∀ (n : Nat) (W P : List Pr) (x : Pr) (R : List Pr) (k : Nat), W.length = n → r = P.length → (P ++ W ++ x :: R).length ≤ 1000000 → n < k →
  (T.loop (dV r) k (((P.length + W.length : Nat) : Int), P ++ W ++ x :: R)).val = some (P ++ x :: W ++ R)
 | 0, W, P, x, R, k, hn, hr, hs, hk => by
  obtain ⟨k, rfl⟩ : ∃ k', k = k' + 1 := ⟨k - 1, by omega⟩
  have : W = [] := by simpa using hn
  subst this
  refine bA ?_
  have c : ¬ ((P.length : Int) > r) := by omega
  simp [dV, c, T.val_ret]
 | n + 1, W, P, x, R, k, hn, hr, hs, hk => by
  obtain ⟨k, rfl⟩ : ∃ k', k = k' + 1 := ⟨k - 1, by omega⟩
  obtain ⟨W, y, rfl⟩ : ∃ S' y, W = S' ++ [y] := ⟨W.dropLast, W.getLast (by intro h; simp [h] at hn), (List.dropLast_concat_getLast _).symm⟩
  simp only [List.length_append, List.length_cons, List.length_nil] at hn hs
  have e1 : w64 ((P.length + (W ++ [y]).length : Nat) - 1 : Int) = ((P ++ W).length : Int) := by rw [aD] <;> (try simp) <;> omega
  have c : ((P.length + (W ++ [y]).length : Nat) : Int) > r := by simp; omega
  have d2 : P ++ (W ++ [y]) ++ x :: R = (P ++ W) ++ y :: (x :: R) := by simp
  have l1 : ((P.length + (W ++ [y]).length : Nat) : Int) = ((P ++ (W ++ [y])).length : Int) := by simp
  have r1 : rd (e := E) (P ++ (W ++ [y]) ++ x :: R) ((P.length + (W ++ [y]).length : Nat) : Int) = x := rd_at rfl l1
  have r2 : rd (e := E) (P ++ (W ++ [y]) ++ x :: R) (w64 ((P.length + (W ++ [y]).length : Nat) - 1 : Int)) = y := rd_at d2 e1
  have i1 := bT (e := E) (l := P ++ (W ++ [y]) ++ x :: R) rfl l1
  have i2 := bT (e := E) d2 e1
  have w1 : wr (e := E) (P ++ (W ++ [y]) ++ x :: R) ((P.length + (W ++ [y]).length : Nat) : Int) y = (P ++ (W ++ [y])) ++ y :: R := kX rfl l1
  have d3 : (P ++ (W ++ [y])) ++ y :: R = (P ++ W) ++ y :: (y :: R) := by simp
  have w2 : wr (e := E) ((P ++ (W ++ [y])) ++ y :: R) (w64 ((P.length + (W ++ [y]).length : Nat) - 1 : Int)) x = (P ++ W) ++ x :: (y :: R) := kX d3 e1
  have i3 := bT (e := E) d3 e1
  have ih := bwd_loop (r := r) n W P x (y :: R) k (by omega) hr (by simp; omega) (by omega)
  refine aW (s' := (((P.length + W.length : Nat) : Int), P ++ W ++ x :: (y :: R))) ?_ (ih.trans (by simp))
  simp only [dV, rdE, wrE, c, decide_true, cond_true, i1, i2, r1, r2, w1, w2, i3, T.val_ret]
  rw [e1]
  simp
end SPr
namespace SPr
set_option linter.unusedSimpArgs false
theorem rd_in {d L W R : List Pr} (h : d = L ++ W ++ R) {t : Nat} (ht : t < W.length) : rd (e := E) d ((L.length + t : Nat) : Int) = W[t] := by
 subst h
 rw [bKd (e := E) (by simp; omega)]
 rw [List.getElem_append_left (by simp; omega), List.getElem_append_right (by omega)]
 simp
theorem of_mem {l : List Pr} {x : Pr} (h : x ∈ l) : ∃ (i : Nat) (hi : i < l.length), l[i] = x := List.mem_iff_getElem.1 h
theorem sym1 {rec : List Pr → Int → Int → Int → T (List Pr)} {a m b : Int} (P : List Pr) (x : Pr) (V Q : List Pr) (hV : Srt ky V) (ha : a = P.length) (hm : m = P.length + 1) (hb : b = P.length + 1 + V.length) (hs : (P ++ x :: V ++ Q).length ≤ 1000000) :
  (fJ rec a m b (P ++ x :: V ++ Q)).val = some (P ++ aG ky (x :: V) ++ Q) := by
 simp only [List.length_append, List.length_cons] at hs
 have c1 : (w64 (m - a) == 1) = true := by rw [aD] <;> (try simp) <;> omega
 let p : Nat → Bool := fun t => decide (ky (rd (e := E) (P ++ x :: V ++ Q) (t : Int)) < ky x)
 have hV' : ∀ t, t < V.length → ∀ (ht : t < V.length), rd (e := E) (P ++ x :: V ++ Q) ((P.length + 1 + t : Nat) : Int) = V[t] := fun t _ ht => by
  have := rd_in (d := P ++ x :: V ++ Q) (L := P ++ [x]) (W := V) (R := Q) (by simp) ht
  simpa using this
 obtain ⟨r, k1, k2, k3, k4, k5⟩ := qG (body := dY a (P ++ x :: V ++ Q)) (p := p) (lo := P.length + 1) (hi := P.length + 1 + V.length) (fun i j h1 h2 h3 => by
  have hx : rd (e := E) (P ++ x :: V ++ Q) a = x := rd_at (e := E) (A := P) (R := V ++ Q) (by simp) ha
  have ix := bT (e := E) (l := P ++ x :: V ++ Q) (A := P) (x := x) (R := V ++ Q) (by simp) ha
  by_cases c : i < j
  ·rw [if_pos c]
   have e1 : w64 (aB (aC (w64 ((i : Int) + (j : Int)))) 1) = (((i + j) / 2 : Nat) : Int) := by rw [half] <;> omega
   have e2 : w64 ((((i + j) / 2 : Nat) : Int) + 1) = (((i + j) / 2 + 1 : Nat) : Int) := by rw [aD] <;> omega
   have ih := qF (n := (P ++ x :: V ++ Q).length) (i := (i + j) / 2) (by simp; omega)
   obtain ⟨cv, q1, q2⟩ := cmp_val (rd (e := E) (P ++ x :: V ++ Q) (((i + j) / 2 : Nat) : Int)) x
   have cc : ((i : Int) < (j : Int)) := by omega
   have q3 : decide (cv < 0) = p ((i + j) / 2) := q2
   simp only [dY, cc, decide_true, cond_true, e1, ih, ix, rdE, hx, T.val_bind, q1, Option.bind_some, q3, e2]
   cases p ((i + j) / 2) <;> rfl
  ·rw [if_neg c]
   have cc : ¬ ((i : Int) < (j : Int)) := by omega
   simp only [dY, cc, decide_false, cond_false, T.val_ret]) (fun s t h1 h2 h3 ht => by
  have ht' := of_decide_eq_true ht
  obtain ⟨s, rfl⟩ : ∃ s', s = P.length + 1 + s' := ⟨s - (P.length + 1), by omega⟩
  obtain ⟨t, rfl⟩ : ∃ t', t = P.length + 1 + t' := ⟨t - (P.length + 1), by omega⟩
  refine decide_eq_true ?_
  rw [hV' t (by omega) (by omega)] at ht'
  rw [hV' s (by omega) (by omega)]
  have := hV.idx (i := s) (j := t) (by omega) (by omega)
  omega) 4611686018427387904 (P.length + 1) (P.length + 1 + V.length) (by omega) (by omega) (by omega) (Nat.le_refl _) (fun t h1 h2 => by omega) (fun t h1 h2 => by omega)
 have hm1 : m = ((P.length + 1 : Nat) : Int) := by omega
 have hb1 : b = ((P.length + 1 + V.length : Nat) : Int) := by omega
 obtain ⟨V1, V2, rfl, hV1⟩ : ∃ V1 V2, V = V1 ++ V2 ∧ V1.length = r - (P.length + 1) := ⟨V.take (r - (P.length + 1)), V.drop (r - (P.length + 1)), by simp, by simp; omega⟩
 have lo1 : ∀ v ∈ V1, ky v < ky x := fun v hv => by
  obtain ⟨i, hi, rfl⟩ := of_mem hv
  have := of_decide_eq_true (k4 (P.length + 1 + i) (by omega) (by omega))
  rw [hV' i (by simp; omega) (by simp; omega), List.getElem_append_left hi] at this
  exact this
 have hi1 : ∀ v ∈ V2, ky x ≤ ky v := fun v hv => by
  obtain ⟨i, hi, rfl⟩ := of_mem hv
  have hl : (V1 ++ V2).length = V1.length + V2.length := by simp
  have := of_decide_eq_false (k5 (P.length + 1 + (V1.length + i)) (by omega) (by omega))
  rw [hV' (V1.length + i) (by omega) (by omega), List.getElem_append_right (by omega)] at this
  simp at this
  exact this
 have hv2 := List.pairwise_append.1 hV
 have hI : V1 ++ x :: V2 = aG ky (x :: (V1 ++ V2)) := fE (Srt.app hv2.1 (List.pairwise_cons.2 ⟨hi1, hv2.2.1⟩) (fun u hu v hv => by
   rcases List.mem_cons.1 hv with rfl | hv
   ·have := lo1 u hu; omega
   ·exact hv2.2.2 u hu v hv)) (by
  have := SE.append (key := ky) (SE.swap (X := V1) (Y := [x]) (fun u hu v hv => by simp only [List.mem_singleton] at hv; subst hv; have := lo1 u hu; omega)) (SE.refl V2)
  simpa using this)
 have hf := fwd_loop (r := (r : Int)) V1 P x (V2 ++ Q) 4611686018427387904 (by omega) (by simp at hs ⊢; omega) (by omega)
 unfold fJ
 rw [c1, cond_true, T.val_bind, hm1, hb1, k1, Option.bind_some, T.val_bind]
 rw [show P ++ x :: (V1 ++ V2) ++ Q = P ++ x :: V1 ++ (V2 ++ Q) by simp, ha, hf, ← hI]
 simp [T.val_ret]
theorem sym2 {rec : List Pr → Int → Int → Int → T (List Pr)} {a m b : Int} (P U : List Pr) (y : Pr) (Q : List Pr) (hU : Srt ky U) (hl : 1 < U.length) (ha : a = P.length) (hm : m = P.length + U.length) (hb : b = P.length + U.length + 1) (hs : (P ++ U ++ y :: Q).length ≤ 1000000) :
  (fJ rec a m b (P ++ U ++ y :: Q)).val = some (P ++ aG ky (U ++ [y]) ++ Q) := by
 simp only [List.length_append, List.length_cons] at hs
 have c1 : (w64 (m - a) == 1) = false := by rw [aD] <;> (try simp) <;> omega
 have c2 : (w64 (b - m) == 1) = true := by rw [aD] <;> (try simp) <;> omega
 let p : Nat → Bool := fun t => !decide (ky y < ky (rd (e := E) (P ++ U ++ y :: Q) (t : Int)))
 have hU' : ∀ t, t < U.length → ∀ (ht : t < U.length), rd (e := E) (P ++ U ++ y :: Q) ((P.length + t : Nat) : Int) = U[t] := fun t _ ht => rd_in rfl ht
 obtain ⟨r, k1, k2, k3, k4, k5⟩ := qG (body := dW m (P ++ U ++ y :: Q)) (p := p) (lo := P.length) (hi := P.length + U.length) (fun i j h1 h2 h3 => by
  have hx : rd (e := E) (P ++ U ++ y :: Q) m = y := rd_at (e := E) (A := P ++ U) (R := Q) rfl (by simp; omega)
  have ix := bT (e := E) (l := P ++ U ++ y :: Q) (A := P ++ U) (x := y) (R := Q) (i := m) rfl (by simp; omega)
  by_cases c : i < j
  ·rw [if_pos c]
   have e1 : w64 (aB (aC (w64 ((i : Int) + (j : Int)))) 1) = (((i + j) / 2 : Nat) : Int) := by rw [half] <;> omega
   have e2 : w64 ((((i + j) / 2 : Nat) : Int) + 1) = (((i + j) / 2 + 1 : Nat) : Int) := by rw [aD] <;> omega
   have ih := qF (n := (P ++ U ++ y :: Q).length) (i := (i + j) / 2) (by simp; omega)
   obtain ⟨cv, q1, q2⟩ := cmp_val y (rd (e := E) (P ++ U ++ y :: Q) (((i + j) / 2 : Nat) : Int))
   have cc : ((i : Int) < (j : Int)) := by omega
   have q3 : (!decide (cv < 0)) = p ((i + j) / 2) := by rw [q2]
   simp only [dW, cc, decide_true, cond_true, e1, ih, ix, rdE, hx, T.val_bind, q1, Option.bind_some, q3, e2]
   cases p ((i + j) / 2) <;> rfl
  ·rw [if_neg c]
   have cc : ¬ ((i : Int) < (j : Int)) := by omega
   simp only [dW, cc, decide_false, cond_false, T.val_ret]) (fun s t h1 h2 h3 ht => by
  obtain ⟨s, rfl⟩ : ∃ s', s = P.length + s' := ⟨s - P.length, by omega⟩
  obtain ⟨t, rfl⟩ : ∃ t', t = P.length + t' := ⟨t - P.length, by omega⟩
  simp only [p, Bool.not_eq_true', decide_eq_false_iff_not] at ht ⊢
  rw [hU' t (by omega) (by omega)] at ht
  rw [hU' s (by omega) (by omega)]
  have := hU.idx (i := s) (j := t) (by omega) (by omega)
  omega) 4611686018427387904 P.length (P.length + U.length) (by omega) (by omega) (by omega) (Nat.le_refl _) (fun t h1 h2 => by omega) (fun t h1 h2 => by omega)
 have hm1 : m = ((P.length + U.length : Nat) : Int) := by omega
 obtain ⟨U1, U2, rfl, hU1⟩ : ∃ U1 U2, U = U1 ++ U2 ∧ U1.length = r - P.length := ⟨U.take (r - P.length), U.drop (r - P.length), by simp, by simp; omega⟩
 have hl2 : (U1 ++ U2).length = U1.length + U2.length := by simp
 have lo1 : ∀ v ∈ U1, ky v ≤ ky y := fun v hv => by
  obtain ⟨i, hi, rfl⟩ := of_mem hv
  have := k4 (P.length + i) (by omega) (by omega)
  simp only [p, Bool.not_eq_true', decide_eq_false_iff_not] at this
  rw [hU' i (by omega) (by omega), List.getElem_append_left hi] at this
  omega
 have hi1 : ∀ v ∈ U2, ky y < ky v := fun v hv => by
  obtain ⟨i, hi, rfl⟩ := of_mem hv
  have := k5 (P.length + (U1.length + i)) (by omega) (by omega)
  simp only [p, Bool.not_eq_false', decide_eq_true_eq] at this
  rw [hU' (U1.length + i) (by omega) (by omega), List.getElem_append_right (by omega)] at this
  simp at this
  exact this
 have hu2 := List.pairwise_append.1 hU
 have hI : U1 ++ y :: U2 = aG ky ((U1 ++ U2) ++ [y]) := fE (Srt.app hu2.1 (List.pairwise_cons.2 ⟨fun v hv => by have := hi1 v hv; omega, hu2.2.1⟩) (fun u hu v hv => by
   rcases List.mem_cons.1 hv with rfl | hv
   ·exact lo1 u hu
   ·exact hu2.2.2 u hu v hv)) (by
  have := SE.append (key := ky) (SE.refl U1) (SE.swap (X := [y]) (Y := U2) (fun u hu v hv => by simp only [List.mem_singleton] at hu; subst hu; have := hi1 v hv; omega))
  simpa using this)
 have hf := bwd_loop (r := (r : Int)) U2.length U2 (P ++ U1) y Q 4611686018427387904 rfl (by simp; omega) (by simp at hs ⊢; omega) (by omega)
 unfold fJ
 rw [hm1] at k1
 rw [c1, cond_false, c2, cond_true, T.val_bind, ha, hm1, k1, Option.bind_some, T.val_bind]
 rw [show ((P.length + (U1 ++ U2).length : Nat) : Int) = (((P ++ U1).length + U2.length : Nat) : Int) by simp; omega, show P ++ (U1 ++ U2) ++ y :: Q = P ++ U1 ++ U2 ++ y :: Q by simp, hf, ← hI]
 simp [T.val_ret]
theorem sym_gen {rec : List Pr → Int → Int → Int → T (List Pr)} {a m b mid e s x0 : Int} {d d1 d2 d3 : List Pr} (c1 : (w64 (m - a) == 1) = false) (c2 : (w64 (b - m) == 1) = false) (hmid : w64 (aB (aC (w64 (a + b))) 1) = mid)
  (he : w64 (w64 (mid + m) - x0) = e)
  (hl : (if m > mid then (T.loop (bR a m b mid (w64 (mid + m)) (w64 (w64 (mid + m) - 1)) d) 4611686018427387904 (w64 (w64 (mid + m) - b), mid)).val else (T.loop (bR a m b mid (w64 (mid + m)) (w64 (w64 (mid + m) - 1)) d) 4611686018427387904 (a, m)).val) = some x0)
  (s1 : if x0 < m ∧ m < e then (lF x0 m e d).val = some d1 else d1 = d)
  (s2 : if a < x0 ∧ x0 < mid then (rec d1 a x0 mid).val = some d2 else d2 = d1)
  (s3 : if mid < e ∧ e < b then (rec d2 mid e b).val = some d3 else d3 = d2) : (fJ rec a m b d).val = some d3 := by
 unfold fJ
 simp only [c1, c2, cond_false, hmid]
 have key : ∀ (t : T Int) (K : Int → T (List Pr)), t.val = some x0 → (K x0).val = some d3 → (t.bind K).val = some d3 := fun t K h1 h2 => by rw [T.val_bind, h1]; exact h2
 by_cases c : m > mid
 ·rw [if_pos c] at hl
  simp only [c, decide_true, cond_true]
  refine key _ _ hl ?_
  simp only [he]
  clear hl c1 c2 hmid he key
  by_cases h1 : x0 < m <;> by_cases h2 : m < e <;> by_cases h3 : a < x0 <;> by_cases h4 : x0 < mid <;> by_cases h5 : mid < e <;> by_cases h6 : e < b <;>
   simp_all only [and_self, and_false, false_and, if_true, if_false, decide_true, decide_false, cond_true, cond_false, T.val_bind, Option.bind_some, T.val_ret, and_true, true_and]
 ·rw [if_neg c] at hl
  simp only [c, decide_false, cond_false]
  refine key _ _ hl ?_
  simp only [he]
  clear hl c1 c2 hmid he key
  by_cases h1 : x0 < m <;> by_cases h2 : m < e <;> by_cases h3 : a < x0 <;> by_cases h4 : x0 < mid <;> by_cases h5 : mid < e <;> by_cases h6 : e < b <;>
   simp_all only [and_self, and_false, false_and, if_true, if_false, decide_true, decide_false, cond_true, cond_false, T.val_bind, Option.bind_some, T.val_ret, and_true, true_and]
end SPr
namespace SPr
set_option maxHeartbeats 4000000 in
theorem sym_val : ∀ (k : Nat) (P U V Q : List Pr) (a m b : Int), U.length + V.length ≤ k → 0 < U.length → 0 < V.length → Srt ky U → Srt ky V → a = P.length → m = P.length + U.length → b = P.length + U.length + V.length → (P ++ U ++ V ++ Q).length ≤ 1000000 →
  (qE k (P ++ U ++ V ++ Q) a m b).val = some (P ++ aG ky (U ++ V) ++ Q)
 | 0, P, U, V, Q, a, m, b, hk, hu0, hv0, hU, hV, ha, hm, hb, hs => by omega
 | k + 1, P, U, V, Q, a, m, b, hk, hu0, hv0, hU, hV, ha, hm, hb, hs => by
  show (fJ (qE k) a m b (P ++ U ++ V ++ Q)).val = _
  by_cases hu1 : U.length = 1
  ·obtain ⟨x, rfl⟩ := List.length_eq_one_iff.1 hu1
   have := sym1 (rec := qE k) P x V Q hV ha (by simpa using hm) (by simpa using hb) (by simpa using hs)
   simpa using this
  by_cases hv1 : V.length = 1
  ·obtain ⟨y, rfl⟩ := List.length_eq_one_iff.1 hv1
   have := sym2 (rec := qE k) P U y Q hU (by omega) ha hm (by simpa using hb) (by simpa using hs)
   simpa using this
  simp only [List.length_append] at hs
  generalize hd : P ++ U ++ V ++ Q = d
  have hdl : d.length = P.length + U.length + V.length + Q.length := by rw [← hd]; simp [Nat.add_assoc]
  have rU : ∀ t (ht : t < U.length), rd (e := E) d ((P.length + t : Nat) : Int) = U[t] := fun t ht => rd_in (R := V ++ Q) (by rw [← hd]; simp) ht
  have rV : ∀ t (ht : t < V.length), rd (e := E) d ((P.length + U.length + t : Nat) : Int) = V[t] := fun t ht => by
   have := rd_in (d := d) (L := P ++ U) (W := V) (R := Q) hd.symm ht
   simpa using this
  have mU : ∀ s t, P.length ≤ s → s ≤ t → t < P.length + U.length → ky (rd (e := E) d ((s : Nat) : Int)) ≤ ky (rd (e := E) d ((t : Nat) : Int)) := fun s t h1 h2 h3 => by
   obtain ⟨s, rfl⟩ : ∃ s', s = P.length + s' := ⟨s - P.length, by omega⟩
   obtain ⟨t, rfl⟩ : ∃ t', t = P.length + t' := ⟨t - P.length, by omega⟩
   rw [rU s (by omega), rU t (by omega)]
   exact hU.idx (by omega) (by omega)
  have mV : ∀ s t, P.length + U.length ≤ s → s ≤ t → t < P.length + U.length + V.length → ky (rd (e := E) d ((s : Nat) : Int)) ≤ ky (rd (e := E) d ((t : Nat) : Int)) := fun s t h1 h2 h3 => by
   obtain ⟨s, rfl⟩ : ∃ s', s = P.length + U.length + s' := ⟨s - (P.length + U.length), by omega⟩
   obtain ⟨t, rfl⟩ : ∃ t', t = P.length + U.length + t' := ⟨t - (P.length + U.length), by omega⟩
   rw [rV s (by omega), rV t (by omega)]
   exact hV.idx (by omega) (by omega)
  obtain ⟨A, hA⟩ : ∃ A, A = P.length := ⟨_, rfl⟩
  obtain ⟨M, hM⟩ : ∃ M, M = P.length + U.length := ⟨_, rfl⟩
  obtain ⟨B, hB⟩ : ∃ B, B = P.length + U.length + V.length := ⟨_, rfl⟩
  rw [← hM, ← hA] at mU
  rw [← hB, ← hM] at mV
  obtain ⟨mid, hmid⟩ : ∃ mid, mid = (A + B) / 2 := ⟨_, rfl⟩
  have ha' : a = (A : Int) := by omega
  have hm' : m = (M : Int) := by omega
  have hb' : b = (B : Int) := by omega
  subst ha' hm' hb'
  have c1 : (w64 ((M : Int) - (A : Int)) == 1) = false := by rw [aD] <;> (try simp) <;> omega
  have c2 : (w64 ((B : Int) - (M : Int)) == 1) = false := by rw [aD] <;> (try simp) <;> omega
  have emid : w64 (aB (aC (w64 ((A : Int) + (B : Int)))) 1) = (mid : Int) := by rw [half] <;> omega
  have en : w64 ((mid : Int) + (M : Int)) = ((mid + M : Nat) : Int) := by rw [aD] <;> omega
  have en1 : w64 (((mid + M : Nat) : Int) - 1) = ((mid + M - 1 : Nat) : Int) := by rw [aD] <;> omega
  have enb : M > mid → w64 (((mid + M : Nat) : Int) - (B : Int)) = ((mid + M - B : Nat) : Int) := fun h => by rw [aD] <;> omega
  obtain ⟨lo, hlo⟩ : ∃ lo, lo = if M > mid then mid + M - B else A := ⟨_, rfl⟩
  obtain ⟨hi, hhi⟩ : ∃ hi, hi = if M > mid then mid else M := ⟨_, rfl⟩
  have b0 : A ≤ lo ∧ lo ≤ hi ∧ hi ≤ M ∧ hi ≤ mid ∧ mid + M ≤ lo + B := by
   rw [hlo, hhi]
   split <;> omega
  obtain ⟨b1, b2, b3, b4, b5⟩ := b0
  let p : Nat → Bool := fun t => !decide (ky (rd (e := E) d ((mid + M - 1 - t : Nat) : Int)) < ky (rd (e := E) d (t : Int)))
  obtain ⟨r, k1, k2, k3, k4, k5⟩ := qG (body := bR (A : Int) (M : Int) (B : Int) (mid : Int) ((mid + M : Nat) : Int) ((mid + M - 1 : Nat) : Int) d) (p := p) (lo := lo) (hi := hi) (fun i j h1 h2 h3 => by
   by_cases c : i < j
   ·rw [if_pos c]
    have e1 : w64 (aB (aC (w64 ((i : Int) + (j : Int)))) 1) = (((i + j) / 2 : Nat) : Int) := by rw [half] <;> omega
    have e2 : w64 ((((i + j) / 2 : Nat) : Int) + 1) = (((i + j) / 2 + 1 : Nat) : Int) := by rw [aD] <;> omega
    have e3 : w64 (((mid + M - 1 : Nat) : Int) - (((i + j) / 2 : Nat) : Int)) = ((mid + M - 1 - (i + j) / 2 : Nat) : Int) := by rw [aD] <;> omega
    have i1 := qF (n := d.length) (i := (i + j) / 2) (by omega)
    have i2 := qF (n := d.length) (i := mid + M - 1 - (i + j) / 2) (by omega)
    obtain ⟨cv, q1, q2⟩ := cmp_val (rd (e := E) d ((mid + M - 1 - (i + j) / 2 : Nat) : Int)) (rd (e := E) d (((i + j) / 2 : Nat) : Int))
    have cc : ((i : Int) < (j : Int)) := by omega
    have q3 : (!decide (cv < 0)) = p ((i + j) / 2) := by rw [q2]
    simp only [bR, cc, decide_true, cond_true, e1, e3, i1, i2, rdE, T.val_bind, q1, Option.bind_some, q3, e2]
    cases p ((i + j) / 2) <;> rfl
   ·rw [if_neg c]
    have cc : ¬ ((i : Int) < (j : Int)) := by omega
    simp only [bR, cc, decide_false, cond_false, T.val_ret]) (fun s t h1 h2 h3 ht => by
   simp only [p, Bool.not_eq_true', decide_eq_false_iff_not] at ht ⊢
   have := mU s t (by omega) h2 (by omega)
   have := mV (mid + M - 1 - t) (mid + M - 1 - s) (by omega) (by omega) (by omega)
   omega) 4611686018427387904 lo hi (by omega) (Nat.le_refl _) b2 (Nat.le_refl _) (fun t h1 h2 => by omega) (fun t h1 h2 => by omega)
  have ee : w64 (((mid + M : Nat) : Int) - (r : Int)) = ((mid + M - r : Nat) : Int) := by rw [aD] <;> omega
  have hl : (if (M : Int) > (mid : Int) then (T.loop (bR (A : Int) (M : Int) (B : Int) (mid : Int) (w64 ((mid : Int) + (M : Int))) (w64 (w64 ((mid : Int) + (M : Int)) - 1)) d) 4611686018427387904 (w64 (w64 ((mid : Int) + (M : Int)) - (B : Int)), (mid : Int))).val
    else (T.loop (bR (A : Int) (M : Int) (B : Int) (mid : Int) (w64 ((mid : Int) + (M : Int))) (w64 (w64 ((mid : Int) + (M : Int)) - 1)) d) 4611686018427387904 ((A : Int), (M : Int))).val) = some (r : Int) := by
   rw [en, en1]
   by_cases c : M > mid
   ·rw [if_pos (by omega), enb c]
    rw [if_pos c] at hlo hhi
    rw [hlo, hhi] at k1
    exact k1
   ·rw [if_neg (by omega)]
    rw [if_neg c] at hlo hhi
    rw [hlo, hhi] at k1
    exact k1
  obtain ⟨U1, X, rfl, hU1⟩ : ∃ U1 X, U = U1 ++ X ∧ U1.length = r - A := ⟨U.take (r - A), U.drop (r - A), by simp, by simp; omega⟩
  obtain ⟨Y, V2, rfl, hY⟩ : ∃ Y V2, V = Y ++ V2 ∧ Y.length = mid - r := ⟨V.take (mid - r), V.drop (mid - r), by simp, by simp; omega⟩
  simp only [List.length_append] at hs hM hB hk hdl
  have hu := List.pairwise_append.1 hU
  have hv := List.pairwise_append.1 hV
  -- what lies where
  have iX : ∀ x ∈ X, r < M ∧ ky (rd (e := E) d (r : Int)) ≤ ky x := fun x hx => by
   obtain ⟨i, hi', rfl⟩ := of_mem hx
   have := rU (U1.length + i) (by simp; omega)
   rw [List.getElem_append_right (by omega)] at this
   simp only [Nat.add_sub_cancel_left] at this
   rw [← this]
   exact ⟨by omega, mU r (P.length + (U1.length + i)) (by omega) (by omega) (by omega)⟩
  have iU1 : ∀ x ∈ U1, A < r ∧ ky x ≤ ky (rd (e := E) d ((r - 1 : Nat) : Int)) := fun x hx => by
   obtain ⟨i, hi', rfl⟩ := of_mem hx
   have := rU i (by simp; omega)
   rw [List.getElem_append_left hi'] at this
   rw [← this]
   exact ⟨by omega, mU (P.length + i) (r - 1) (by omega) (by omega) (by omega)⟩
  have iY : ∀ y ∈ Y, r < mid ∧ ky y ≤ ky (rd (e := E) d ((mid + M - r - 1 : Nat) : Int)) := fun y hy => by
   obtain ⟨i, hi', rfl⟩ := of_mem hy
   have := rV i (by simp; omega)
   rw [List.getElem_append_left hi'] at this
   rw [← this]
   exact ⟨by omega, mV (P.length + (U1 ++ X).length + i) (mid + M - r - 1) (by simp; omega) (by simp; omega) (by omega)⟩
  have iV2 : ∀ y ∈ V2, mid + M - r < B ∧ ky (rd (e := E) d ((mid + M - r : Nat) : Int)) ≤ ky y := fun y hy => by
   obtain ⟨i, hi', rfl⟩ := of_mem hy
   have := rV (Y.length + i) (by simp; omega)
   rw [List.getElem_append_right (by omega)] at this
   simp only [Nat.add_sub_cancel_left] at this
   rw [← this]
   exact ⟨by omega, mV (mid + M - r) (P.length + (U1 ++ X).length + (Y.length + i)) (by omega) (by simp; omega) (by simp; omega)⟩
  have hYX : ∀ x ∈ X, ∀ y ∈ Y, ky y < ky x := fun x hx y hy => by
   obtain ⟨x1, x2⟩ := iX x hx
   obtain ⟨y1, y2⟩ := iY y hy
   have hr : r < hi := by
    rw [hhi]
    split <;> omega
   have := k5 r (Nat.le_refl _) hr
   simp only [p, Bool.not_eq_false', decide_eq_true_eq] at this
   rw [show mid + M - 1 - r = mid + M - r - 1 by omega] at this
   omega
  have hUV : ∀ x ∈ U1, ∀ y ∈ V2, ky x ≤ ky y := fun x hx y hy => by
   obtain ⟨x1, x2⟩ := iU1 x hx
   obtain ⟨y1, y2⟩ := iV2 y hy
   have hr : lo ≤ r - 1 := by
    rw [hlo]
    split <;> omega
   have := k4 (r - 1) hr (by omega)
   simp only [p, Bool.not_eq_true', decide_eq_false_iff_not] at this
   rw [show mid + M - 1 - (r - 1) = mid + M - r by omega] at this
   omega
  have sUY : U1 = [] ∨ Y = [] → Srt ky (U1 ++ Y) := fun h => by
   rcases h with rfl | rfl
   ·exact hv.1
   ·rw [List.append_nil]; exact hu.1
  have sXV : X = [] ∨ V2 = [] → Srt ky (X ++ V2) := fun h => by
   rcases h with rfl | rfl
   ·exact hv.2.1
   ·rw [List.append_nil]; exact hu.2.1
  have fin : aG ky (U1 ++ Y) ++ aG ky (X ++ V2) = aG ky ((U1 ++ X) ++ (Y ++ V2)) := by
   refine fE (Srt.app (bW _) (bW _) (fun x hx y hy =>?_)) ?_
   ·rw [aFb, List.mem_append] at hx hy
    rcases hx with hx | hx <;> rcases hy with hy | hy
    ·exact hu.2.2 x hx y hy
    ·exact hUV x hx y hy
    ·exact Int.le_of_lt (hYX y hy x hx)
    ·exact hv.2.2 x hx y hy
   ·refine (SE.append (bZ _) (bZ _)).trans ?_
    have := SE.append (key := ky) (SE.append (SE.refl U1) (SE.swap (X := Y) (Y := X) (fun y hy x hx => by have := hYX x hx y hy; omega))) (SE.refl V2)
    simpa using this
  have l1 : (aG ky (U1 ++ Y)).length = U1.length + Y.length := by rw [aL]; simp
  have := sym_gen (rec := qE k) (a := (A : Int)) (m := (M : Int)) (b := (B : Int)) (mid := (mid : Int)) (e := ((mid + M - r : Nat) : Int)) (s := 0) (x0 := (r : Int)) (d := d) (d1 := P ++ U1 ++ Y ++ X ++ V2 ++ Q) (d2 := P ++ aG ky (U1 ++ Y) ++ X ++ V2 ++ Q) (d3 := P ++ aG ky (U1 ++ Y) ++ aG ky (X ++ V2) ++ Q) c1 c2 emid (by rw [en, ee]) hl ?_ ?_ ?_
  ·rw [this, ← fin]
   simp
  ·by_cases c : (r : Int) < (M : Int) ∧ (M : Int) < ((mid + M - r : Nat) : Int)
   ·rw [if_pos c]
    have := rot_val (a := (r : Int)) (m := (M : Int)) (b := ((mid + M - r : Nat) : Int)) (P ++ U1) X Y (V2 ++ Q) (by omega) (by omega) (by simp; omega) (by simp; omega) (by simp; omega) (by simp; omega)
    rw [← hd]
    simpa using this
   ·rw [if_neg c, ← hd]
    have : X = [] ∨ Y = [] := by
     rcases Nat.eq_zero_or_pos X.length with h | h
     ·exact .inl (by simpa using h)
     ·refine .inr (by rw [← List.length_eq_zero_iff]; omega)
    rcases this with rfl | rfl <;> simp
  ·by_cases c : (A : Int) < (r : Int) ∧ (r : Int) < (mid : Int)
   ·rw [if_pos c]
    have := sym_val k P U1 Y (X ++ V2 ++ Q) (A : Int) (r : Int) (mid : Int) (by omega) (by omega) (by omega) hu.1 hv.1 (by omega) (by omega) (by omega) (by simp; omega)
    simpa using this
   ·rw [if_neg c]
    have : U1 = [] ∨ Y = [] := by
     rcases Nat.eq_zero_or_pos U1.length with h | h
     ·exact .inl (by simpa using h)
     ·refine .inr (by rw [← List.length_eq_zero_iff]; omega)
    rw [eQ (sUY this)]
    simp
  ·by_cases c : (mid : Int) < ((mid + M - r : Nat) : Int) ∧ ((mid + M - r : Nat) : Int) < (B : Int)
   ·rw [if_pos c]
    have := sym_val k (P ++ aG ky (U1 ++ Y)) X V2 Q (mid : Int) ((mid + M - r : Nat) : Int) (B : Int) (by omega) (by omega) (by omega) hu.2.1 hv.2.1 (by simp [l1]; omega) (by simp [l1]; omega) (by simp [l1]; omega) (by simp [l1]; omega)
    simpa using this
   ·rw [if_neg c]
    have : X = [] ∨ V2 = [] := by
     rcases Nat.eq_zero_or_pos X.length with h | h
     ·exact .inl (by simpa using h)
     ·refine .inr (by rw [← List.length_eq_zero_iff]; omega)
    rw [eQ (sXV this)]
    simp
theorem sortM_val {P U V Q : List Pr} {a m b : Int} (hu0 : 0 < U.length) (hv0 : 0 < V.length) (hU : Srt ky U) (hV : Srt ky V) (ha : a = P.length) (hm : m = P.length + U.length) (hb : b = P.length + U.length + V.length) (hs : (P ++ U ++ V ++ Q).length ≤ 1000000) :
  (aAe (P ++ U ++ V ++ Q) a m b).val = some (P ++ aG ky (U ++ V) ++ Q) :=
 sym_val FU P U V Q a m b (by simp only [List.length_append] at hs; unfold FU; omega) hu0 hv0 hU hV ha hm hb hs
end SPr
end Go.Ax.Cd
