/- Merged. -/
import Derived.Test.YthcfkplfmjcmoaaGreatDoorQ18
namespace Go.Ax.Cd
set_option linter.unusedVariables false
theorem lD {l : List Int} (h : l.length ≤ 1000000000) : clnIN ((l, ()), ()) = some (((), ()), (l, ())) := by
 show (bif decide (l.length ≤ 1000000000) then some (((), ()), (l, ())) else none) = _
 rw [decide_eq_true h]
 rfl
theorem aUu {n : Nat} {f : Func} {k : EK} {l : List k.T} (h : l.length ≤ 1000000000) : clnN n f k ((l, ()), ()) = some (((), ()), (l, ())) := by
 show (bif decide (l.length ≤ 1000000000) then some (((), ()), (l, ())) else none) = _
 rw [decide_eq_true h]
 rfl
theorem aKh (m : List Int) (i : Int) : memInN ((m, i, ()), ()) = some ((inR i m.length, ()), ()) := by
 show aGl m i = _
 unfold aGl inR
 by_cases h : i ≥ 0
 ·rw [decide_eq_true h]
  rfl
 ·rw [decide_eq_false h]
  rfl
def nG (m : List Int) (i : Int) : Int × Int := bif inR i m.length then (rdE EK.int m i, 0) else (0, 1)
theorem aCi (m : List Int) (i : Int) : memLoadN ((m, i, ()), ()) = some (((nG m i).1, (nG m i).2, ()), ()) := by
 show sZ memInN m i = _
 unfold sZ nG
 rw [aKh]
 cases h : inR i m.length
 ·rfl
 ·simp
def gR (m : List Int) (i v : Int) : List Int × Int := bif inR i m.length then (m.set i.toNat v, 0) else ([], 1)
theorem xI {m : List Int} (hm : m.length ≤ 1000000000) (i v : Int) : memStoreN ((m, i, v, ()), ()) = some (((gR m i v).1, (gR m i v).2, ()), ()) := by
 show qN clnIN memInN m i v = _
 unfold qN gR
 rw [aKh, lD hm]
 cases h : inR i m.length
 ·rfl
 ·simp [h, wrE, wr]
theorem nR {α : Type} (p : α → Bool) : ∀ (l : List α) (i : Nat), (l.any p = false ∧ dA (fun (_ : Unit) (i : Nat) a => bif p a then Sum.inr (i : Int) else Sum.inl ()) i l () = .inl ()) ∨ (l.any p = true ∧ ∃ k : Nat, dA (fun (_ : Unit) (i : Nat) a => bif p a then Sum.inr (i : Int) else Sum.inl ()) i l () = .inr (k : Int))
 | [], i => .inl ⟨rfl, rfl⟩
 | a :: l, i => by
  cases h : p a with
  | true => exact .inr ⟨by simp [h], i, by simp [dA, h]⟩
  | false =>
   rcases nR p l (i + 1) with ⟨h1, h2⟩ | ⟨h1, k, h2⟩
   ·exact .inl ⟨by simp [h, h1], by simp only [dA, h, cond_false]; exact h2⟩
   ·exact .inr ⟨by simp [h, h1], k, by simp only [dA, h, cond_false]; exact h2⟩
theorem bHv {l : List Bool} (hl : l.length ≤ 1000000000) : hasBN ((l, true, ()), ()) = some ((l.any id, ()), ()) := by
 show aUt idxBN l true = _
 unfold aUt
 have e : idxBN ((l, true, ()), ()) = (cZ (idxBL0E.un nF) FU ((l, true, Int.ofNat l.length, (0 : Nat), ()), ())).bind fun z => aH z (fun z => some ((-1, ()), ())) fun z => some ((z.1.1, ()), ()) := rfl
 rw [e, lpL (B := idxBL0E.un nF) (fun (_ : Unit) (i : Nat) a => bif id a then Sum.inr (i : Int) else Sum.inl ()) (l := l) (fun i _ => ((l, true, Int.ofNat l.length, (i : Int), ()), ())) (yl := fun _ => .inl ((), ())) (yr := fun k => .inr ((k, ()), ())) (fun _ _ => True) (by omega) trivial (fun _ _ _ _ _ _ => trivial) (fun i s hi _ =>?_) (fun s _ =>?_)]
 ·rcases nR id l 0 with ⟨h1, h2⟩ | ⟨h1, k, h2⟩
  ·rw [h2, h1]; rfl
  ·rw [h2, h1]
   simp [aH]
 ·show nF l true (Int.ofNat l.length) (i : Int) = _
  unfold nF
  rw [decide_eq_true (by simp; omega), aU hi, cV (e := .bool) l i hi, gH hi (by omega)]
  cases l[i] <;> rfl
 ·show nF l true (Int.ofNat l.length) (l.length : Int) = _
  unfold nF
  rw [decide_eq_false (by simp)]
  rfl
def gD (l : List Int) (k : Nat) : Int := l.getD k 0
@[simp] theorem gD_0 (x : Int) (l : List Int) : gD (x :: l) 0 = x := rfl
@[simp] theorem gD_s (x : Int) (l : List Int) (k : Nat) : gD (x :: l) (k + 1) = gD l k := rfl
structure PoolOk (p : Pool) : Prop where
 n1 : 1 ≤ p.gens.length
 n2 : p.gens.length ≤ 64
 ls : p.states.length = p.gens.length
 lw : p.when_.length = p.gens.length
 el : ∀ i, i < p.gens.length → 0 ≤ gD p.gens i ∧ gD p.gens i ≤ 1099511627775 ∧ 0 ≤ gD p.states i ∧ gD p.states i ≤ 2 ∧ (gD p.states i ≠ 2 → gD p.when_ i = 0)
 nd : p.free.Nodup
 fr : ∀ x ∈ p.free, 0 ≤ x ∧ x < p.gens.length ∧ gD p.states x.toNat = 0
 al : ∀ i, i < p.gens.length → gD p.states i = 0 → (i : Int) ∈ p.free
theorem aEr : ∀ (n : Nat) (l : List Int), l.Nodup → (∀ x ∈ l, 0 ≤ x ∧ x < n) → l.length ≤ n
 | 0, l, _, h => by
  cases l with
  | nil => simp
  | cons a l => have := h a (by simp); omega
 | n + 1, l, hd, h => by
  have h1 := aEr n (l.erase n) (hd.erase _) (fun x hx => by
   have hx1 := List.mem_of_mem_erase hx
   have := h x hx1
   have hne : x ≠ n := fun e => by
    subst e
    exact (List.Nodup.not_mem_erase hd) hx
   omega)
  have h2 : l.length ≤ (l.erase n).length + 1 := by
   rw [List.length_erase]
   split <;> omega
  omega
theorem PoolOk.lf {p : Pool} (h : PoolOk p) : p.free.length ≤ 64 := Nat.le_trans (aEr p.gens.length p.free h.nd fun x hx => ⟨(h.fr x hx).1, (h.fr x hx).2.1⟩) h.n2
def xJ (p : Pool) (i : Nat) (s : Int) : Bool := decide (0 ≤ gD p.gens i ∧ gD p.gens i ≤ 1099511627775 ∧ 0 ≤ s ∧ s ≤ 2 ∧ (s ≠ 2 → gD p.when_ i = 0))
def rF (p : Pool) (v : List Bool) (i : Nat) (s : Int) : List Bool ⊕ Int := bif xJ p i s then .inl (v.set i (s == 0)) else .inr 1
def rG (n : Nat) (v : List Bool) (_ : Nat) (x : Int) : List Bool ⊕ Int := bif inR x n && v.getD x.toNat false then .inl (v.set x.toNat false) else .inr 1
theorem aEs {p : Pool} : ∀ (l : List Int) (i : Nat) (v : List Bool), i + l.length ≤ v.length →
  (∃ v', dA (rF p) i l v = .inl v' ∧ (∀ k, k < l.length → xJ p (i + k) (gD l k) = true) ∧ v'.length = v.length ∧ ∀ k, v'.getD k false = if i ≤ k ∧ k < i + l.length then (gD l (k - i) == 0) else v.getD k false) ∨
  (dA (rF p) i l v = .inr 1 ∧ ∃ k, k < l.length ∧ xJ p (i + k) (gD l k) = false)
 | [], i, v, h => .inl ⟨v, rfl, fun k hk => by simp at hk, rfl, fun k => by simp; omega⟩
 | s :: l, i, v, h => by
  simp only [List.length_cons] at h
  cases e : xJ p i s with
  | false => exact .inr ⟨by simp [dA, rF, e], 0, by simp, by simpa using e⟩
  | true =>
   have e1 : dA (rF p) i (s :: l) v = dA (rF p) (i + 1) l (v.set i (s == 0)) := by simp [dA, rF, e]
   rcases aEs (p := p) l (i + 1) (v.set i (s == 0)) (by simp; omega) with ⟨v', h1, h2, h3, h4⟩ | ⟨h1, k, h2, h3⟩
   ·refine .inl ⟨v', e1.trans h1, fun k hk =>?_, by simpa using h3, fun k =>?_⟩
    ·cases k with
     | zero => simpa using e
     | succ k =>
      have := h2 k (by simpa using hk)
      rw [show i + 1 + k = i + (k + 1) by omega] at this
      simpa using this
    ·rw [h4 k]
     by_cases hk : k = i
     ·subst hk
      rw [if_neg (by omega), if_pos (by simp)]
      simp [List.getD_eq_getElem?_getD, List.getElem?_set_self (show k < v.length by omega)]
     ·by_cases hk2 : i + 1 ≤ k ∧ k < i + 1 + l.length
      ·rw [if_pos hk2, if_pos (by simp; omega)]
       obtain ⟨q, hq⟩ : ∃ q, k - i = q + 1 := ⟨k - i - 1, by omega⟩
       rw [hq, show k - (i + 1) = q by omega]
       simp
      ·rw [if_neg hk2, if_neg (by simp; omega)]
       simp [List.getD_eq_getElem?_getD, List.getElem?_set_ne (Ne.symm hk)]
   ·refine .inr ⟨e1.trans h1, k + 1, by simpa using h2, ?_⟩
    rw [show i + 1 + k = i + (k + 1) by omega] at h3
    simpa using h3
theorem kB {x : Int} {n : Nat} : inR x n = true ↔ 0 ≤ x ∧ x < n := by simp [inR]
theorem aEt {n : Nat} : ∀ (l : List Int) (i : Nat) (v : List Bool), v.length = n →
  (∃ v', dA (rG n) i l v = .inl v' ∧ l.Nodup ∧ (∀ x ∈ l, 0 ≤ x ∧ x < n ∧ v.getD x.toNat false = true) ∧ v'.length = n ∧ ∀ k, v'.getD k false = (v.getD k false && !l.contains (k : Int))) ∨
  (dA (rG n) i l v = .inr 1 ∧ ¬ (l.Nodup ∧ ∀ x ∈ l, 0 ≤ x ∧ x < n ∧ v.getD x.toNat false = true))
 | [], i, v, h => .inl ⟨v, rfl, List.nodup_nil, fun x hx => by simp at hx, h, fun k => by simp⟩
 | x :: l, i, v, h => by
  cases e : (inR x n && v.getD x.toNat false) with
  | false =>
   refine .inr ⟨by simp only [dA, rG, e, cond_false], fun ⟨_, h2⟩ =>?_⟩
   obtain ⟨h3, h4, h5⟩ := h2 x (by simp)
   rw [kB.2 ⟨h3, h4⟩, h5] at e
   cases e
  | true =>
   simp only [Bool.and_eq_true, kB] at e
   have e1 : dA (rG n) i (x :: l) v = dA (rG n) (i + 1) l (v.set x.toNat false) := by simp only [dA, rG, kB.2 e.1, e.2, Bool.and_self, cond_true]
   have hg : ∀ k : Nat, (v.set x.toNat false).getD k false = (v.getD k false && !decide ((k : Int) = x)) := fun k => by
    by_cases hk : (k : Int) = x
    ·have : k = x.toNat := by omega
     subst this
     simp [List.getD_eq_getElem?_getD, List.getElem?_set, hk]
     split <;> simp
    ·have : x.toNat ≠ k := by omega
     simp [List.getD_eq_getElem?_getD, List.getElem?_set_ne this, hk]
   rcases aEt (n := n) l (i + 1) (v.set x.toNat false) (by simpa using h) with ⟨v', h1, h2, h3, h4, h5⟩ | ⟨h1, h2⟩
   ·refine .inl ⟨v', e1.trans h1, ?_, fun y hy =>?_, h4, fun k =>?_⟩
    ·refine List.nodup_cons.2 ⟨fun hx =>?_, h2⟩
     have := (h3 x hx).2.2
     rw [hg, Int.toNat_of_nonneg e.1.1] at this
     simp at this
    ·rcases List.mem_cons.1 hy with rfl | hy
     ·exact ⟨e.1.1, e.1.2, e.2⟩
     ·have h6 := h3 y hy
      rw [hg] at h6
      simp only [Bool.and_eq_true] at h6
      exact ⟨h6.1, h6.2.1, h6.2.2.1⟩
    ·rw [h5, hg]
     by_cases hk : (k : Int) = x
     ·simp [hk]
     ·simp [hk]
   ·refine .inr ⟨e1.trans h1, fun ⟨h3, h4⟩ => h2 ⟨(List.nodup_cons.1 h3).2, fun y hy =>?_⟩⟩
    obtain ⟨h6, h7, h8⟩ := h4 y (by simp [hy])
    refine ⟨h6, h7, ?_⟩
    rw [hg, h8, Int.toNat_of_nonneg h6]
    have : y ≠ x := fun e => (List.nodup_cons.1 h3).1 (e ▸ hy)
    simp [this]
open Classical in
noncomputable def mD (p : Pool) : Int := if PoolOk p then 0 else 1
theorem pW {p : Pool} (h : PoolOk p) : mD p = 0 := by
 unfold mD
 rw [if_pos h]
theorem kN {p : Pool} (h : ¬ PoolOk p) : mD p = 1 := by
 unfold mD
 rw [if_neg h]
def pX (p : Pool) : Prop := p.gens.length ≤ 1000000000 ∧ p.states.length ≤ 1000000000 ∧ p.when_.length ≤ 1000000000 ∧ p.free.length ≤ 1000000000
theorem fN {l : List Int} {i : Nat} (h : i < l.length) : l[i] = gD l i := by simp [gD, h]
theorem aKi {v : List Bool} : v.any id = true ↔ ∃ k, v.getD k false = true := by
 constructor
 ·intro h
  obtain ⟨x, h1, h2⟩ := List.any_eq_true.1 h
  obtain ⟨k, hk, rfl⟩ := List.mem_iff_getElem.1 h1
  exact ⟨k, by simpa [hk] using h2⟩
 ·rintro ⟨k, hk⟩
  refine List.any_eq_true.2 ?_
  by_cases hl : k < v.length
  ·exact ⟨v[k], List.getElem_mem hl, by simpa [hl] using hk⟩
  ·rw [List.getD_eq_getElem?_getD, List.getElem?_eq_none (by omega)] at hk
   cases hk
theorem lQ {p : Pool} (hs : pX p) : polChkN ((p, ()), ()) = some ((mD p, ()), ()) := by
 show yS hasBN polChkL0N polChkL1N p = _
 unfold yS
 by_cases h1 : p.gens.length < 1
 ·rw [decide_eq_true (by simp; omega), kN (fun h => by have := h.n1; omega)]; rfl
 by_cases h2 : p.gens.length > 64
 ·rw [decide_eq_false (by simp; omega), decide_eq_true (by simp; omega), kN (fun h => by have := h.n2; omega)]; rfl
 rw [decide_eq_false (by simp; omega), decide_eq_false (by simp; omega)]
 by_cases h3 : p.states.length = p.gens.length
 rotate_left
 ·rw [show (Int.ofNat p.states.length != Int.ofNat p.gens.length) = true by simp; omega, kN (fun h => h3 h.ls)]; rfl
 by_cases h4 : p.when_.length = p.gens.length
 rotate_left
 ·rw [show (Int.ofNat p.states.length != Int.ofNat p.gens.length) = false by simp; omega, show (Int.ofNat p.when_.length != Int.ofNat p.gens.length) = true by simp; omega, kN (fun h => h4 h.lw)]; rfl
 rw [show (Int.ofNat p.states.length != Int.ofNat p.gens.length) = false by simp; omega, show (Int.ofNat p.when_.length != Int.ofNat p.gens.length) = false by simp; omega,
  show (decide (0 ≤ Int.ofNat p.gens.length) && decide (Int.ofNat p.gens.length ≤ 1000000000)) = true by simp; omega]
 simp only [cond_false, cond_true]
 have hL0 : polChkL0N (((), Int.ofNat p.gens.length, (), p.states, Int.ofNat p.states.length, 0, ()), (p, ()), List.replicate (Int.ofNat p.gens.length).toNat false, ()) =
   some (aH (dA (rF p) 0 p.states (List.replicate p.gens.length false)) (fun v => .inl (((), Int.ofNat p.gens.length, (), ()), (p, ()), v, ())) fun e => .inr ((e, ()), ())) := by
  refine lpL (B := polChkL0E.un iI) (rF p) (l := p.states) (fun i v => (((), Int.ofNat p.gens.length, (), p.states, Int.ofNat p.states.length, (i : Int), ()), (p, ()), v, ())) (yl := fun v => .inl (((), Int.ofNat p.gens.length, (), ()), (p, ()), v, ())) (yr := fun e => .inr ((e, ()), ()))
   (fun _ v => v.length = p.gens.length) (by omega) List.length_replicate (fun i v v' hi hv h =>?_) (fun i v hi hv =>?_) (fun v hv =>?_)
  ·unfold rF at h
   cases e : xJ p i p.states[i] with
   | true => rw [e] at h; cases h; simpa using hv
   | false => rw [e] at h; cases h
  ·show iI (Int.ofNat p.gens.length) p.states (Int.ofNat p.states.length) (i : Int) p v = _
   unfold iI rF xJ
   have hi2 : i < p.gens.length := by omega
   rw [decide_eq_true (by simp; omega), aU hi, aU hi2, aU (show i < p.when_.length by omega), aU (show i < v.length by omega), cV (e := .int) p.states i hi, cV (e := .int) p.gens i hi2, cV (e := .int) p.when_ i (by omega), gH hi (by omega)]
   simp only [cond_true, fN]
   generalize gD p.gens i = g
   generalize gD p.states i = s
   generalize gD p.when_ i = w
   generalize hq : decide (0 ≤ g ∧ g ≤ 1099511627775 ∧ 0 ≤ s ∧ s ≤ 2 ∧ (s ≠ 2 → w = 0)) = q
   by_cases c1 : g < 0
   ·obtain rfl : q = false := hq.symm.trans (decide_eq_false (by omega))
    rw [decide_eq_true c1]; rfl
   by_cases c2 : g > 1099511627775
   ·obtain rfl : q = false := hq.symm.trans (decide_eq_false (by omega))
    rw [decide_eq_false c1, decide_eq_true c2]; rfl
   by_cases c3 : s < 0
   ·obtain rfl : q = false := hq.symm.trans (decide_eq_false (by omega))
    rw [decide_eq_false c1, decide_eq_false c2, decide_eq_true c3]; rfl
   by_cases c4 : s > 2
   ·obtain rfl : q = false := hq.symm.trans (decide_eq_false (by omega))
    rw [decide_eq_false c1, decide_eq_false c2, decide_eq_false c3, decide_eq_true c4]; rfl
   rw [decide_eq_false c1, decide_eq_false c2, decide_eq_false c3, decide_eq_false c4]
   simp only [cond_false]
   by_cases c5 : s = 2
   ·obtain rfl : q = true := hq.symm.trans (decide_eq_true ⟨by omega, by omega, by omega, by omega, fun h => absurd c5 h⟩)
    rw [show (s != 2) = false by simp [c5]]; rfl
   ·rw [show (s != 2) = true by simp [c5]]
    by_cases c6 : w = 0
    ·obtain rfl : q = true := hq.symm.trans (decide_eq_true ⟨by omega, by omega, by omega, by omega, fun h => c6⟩)
     rw [show (w != 0) = false by simp [c6]]; rfl
    ·obtain rfl : q = false := hq.symm.trans (decide_eq_false (fun h => c6 (h.2.2.2.2 c5)))
     rw [show (w != 0) = true by simp [c6]]; rfl
  ·show iI (Int.ofNat p.gens.length) p.states (Int.ofNat p.states.length) (p.states.length : Int) p v = _
   unfold iI
   rw [decide_eq_false (by simp)]
   rfl
 rw [hL0]
 have hb : ∀ i, i < p.gens.length → (xJ p i (gD p.states i) = true ↔ 0 ≤ gD p.gens i ∧ gD p.gens i ≤ 1099511627775 ∧ 0 ≤ gD p.states i ∧ gD p.states i ≤ 2 ∧ (gD p.states i ≠ 2 → gD p.when_ i = 0)) := fun i _ => by
  unfold xJ
  exact decide_eq_true_iff
 rcases aEs (p := p) p.states 0 (List.replicate p.gens.length false) (by simp; omega) with ⟨v, k1, k2, k3, k4⟩ | ⟨k1, k, k2, k3⟩
 rotate_left
 ·rw [k1]
  simp only [Option.bind_some, aH]
  rw [kN (fun h => by
   have := (hb k (by omega)).2 (h.el k (by omega))
   rw [Nat.zero_add, this] at k3
   cases k3)]
 rw [k1]
 simp only [Option.bind_some, aH]
 simp only [List.length_replicate] at k3
 have hL1 : polChkL1N ((Int.ofNat p.gens.length, (), p.free, Int.ofNat p.free.length, 0, ()), v, ()) =
   some (aH (dA (rG p.gens.length) 0 p.free v) (fun v => .inl (((), ()), v, ())) fun e => .inr ((e, ()), ())) := by
  show cZ (polChkL1E.un gG) FU ((Int.ofNat p.gens.length, (), p.free, Int.ofNat p.free.length, ((0 : Nat) : Int), ()), v, ()) = _
  refine lpL (B := polChkL1E.un gG) (rG p.gens.length) (l := p.free) (fun i v => ((Int.ofNat p.gens.length, (), p.free, Int.ofNat p.free.length, (i : Int), ()), v, ())) (yl := fun v => .inl (((), ()), v, ())) (yr := fun e => .inr ((e, ()), ()))
   (fun _ v => v.length = p.gens.length) (by have := hs.2.2.2; omega) k3 (fun i v v' hi hv h =>?_) (fun i v hi hv =>?_) (fun v hv =>?_)
  ·unfold rG at h
   cases e : (inR p.free[i] p.gens.length && v.getD p.free[i].toNat false) with
   | true => rw [e] at h; cases h; simpa using hv
   | false => rw [e] at h; cases h
  ·show gG (Int.ofNat p.gens.length) p.free (Int.ofNat p.free.length) (i : Int) v = _
   unfold gG rG
   have := hs.2.2.2
   rw [decide_eq_true (by simp; omega), aU hi, cV (e := .int) p.free i hi, gH hi (by omega)]
   simp only [cond_true]
   generalize p.free[i] = x
   by_cases c1 : x < 0
   ·rw [decide_eq_true c1, show inR x p.gens.length = false by simp [inR]; omega]; rfl
   by_cases c2 : x ≥ Int.ofNat p.gens.length
   ·rw [decide_eq_false c1, decide_eq_true c2, show inR x p.gens.length = false by simp [inR]; intro _; simpa using c2]; rfl
   have c3 : x < p.gens.length := by simpa using c2
   rw [decide_eq_false c1, decide_eq_false c2, show inR x p.gens.length = true by simp [inR]; omega, show inR x v.length = true by simp [inR]; omega]
   simp only [cond_false, cond_true, Bool.true_and]
   have e3 : rdE EK.bool v x = v.getD x.toNat false := rfl
   rw [e3]
   cases v.getD x.toNat false <;> rfl
  ·show gG (Int.ofNat p.gens.length) p.free (Int.ofNat p.free.length) (p.free.length : Int) v = _
   unfold gG
   rw [decide_eq_false (by simp)]
   rfl
 rw [hL1]
 have hv : ∀ k, k < p.gens.length → v.getD k false = (gD p.states k == 0) := fun k hk => by
  rw [k4 k, if_pos (by omega)]
  simp
 rcases aEt (n := p.gens.length) p.free 0 v k3 with ⟨v', j1, j2, j3, j4, j5⟩ | ⟨j1, j2⟩
 rotate_left
 ·rw [j1]
  simp only [Option.bind_some, aH]
  rw [kN (fun h => j2 ⟨h.nd, fun x hx => by
   obtain ⟨q1, q2, q3⟩ := h.fr x hx
   refine ⟨q1, q2, ?_⟩
   rw [hv _ (by omega), q3]
   rfl⟩)]
 rw [j1]
 simp only [Option.bind_some, aH]
 rw [bHv (by omega)]
 simp only [Option.bind_some]
 cases ea : v'.any id with
 | true =>
  obtain ⟨k, hk⟩ := aKi.1 ea
  rw [j5 k] at hk
  simp only [Bool.and_eq_true, Bool.not_eq_true'] at hk
  rw [kN (fun h =>?_)]
  ·rfl
  have hkl : k < p.gens.length := by
   by_cases hl : k < v.length
   ·omega
   ·have := hk.1
    rw [List.getD_eq_getElem?_getD, List.getElem?_eq_none (by omega)] at this
    cases this
  have h0 := hk.1
  rw [hv k hkl] at h0
  have := h.al k hkl (by simpa using h0)
  simp [this] at hk
 | false =>
  rw [pW ⟨by omega, by omega, h3, h4, fun i hi =>?_, j2, fun x hx =>?_, fun i hi h0 =>?_⟩]
  ·rfl
  ·have := k2 i (by omega)
   rw [Nat.zero_add] at this
   exact (hb i hi).1 this
  ·obtain ⟨q1, q2, q3⟩ := j3 x hx
   refine ⟨q1, q2, ?_⟩
   rw [hv _ (by omega)] at q3
   simpa using q3
  ·have h7 : v'.getD i false = false := by
    cases e : v'.getD i false with
    | false => rfl
    | true => rw [aKi.2 ⟨i, e⟩] at ea; cases ea
   rw [j5 i, hv i hi, h0] at h7
   simpa using h7
def zP : Pool := ⟨[], [], [], []⟩
theorem PoolOk.s {p : Pool} (h : PoolOk p) : pX p := by
 have := h.n2; have := h.ls; have := h.lw; have := h.lf
 exact ⟨by omega, by omega, by omega, by omega⟩
theorem wA {p : Pool} (h : pX p) : polOwnN ((p, ()), ()) = some ((((), (), (), (), ()), ()), (p.gens, p.states, p.when_, p.free, ())) := by
 show yT clnIN p = _
 unfold yT
 rw [lD h.1, lD h.2.1, lD h.2.2.1, lD h.2.2.2]
 rfl
def aHa (n : Int) : Pool × Int := if 1 ≤ n ∧ n ≤ 64 then (⟨List.replicate n.toNat 0, List.replicate n.toNat 0, List.replicate n.toNat 0, (List.range n.toNat).map Int.ofNat⟩, 0) else (zP, 1)
theorem aXr (n : Int) : polNewN ((n, ()), ()) = some (((aHa n).1, (aHa n).2, ()), ()) := by
 show yR polNewL0N n = _
 unfold yR aHa
 by_cases h1 : n < 1
 ·rw [if_neg (by omega), decide_eq_true h1]; rfl
 by_cases h2 : n > 64
 ·rw [if_neg (by omega), decide_eq_false h1, decide_eq_true h2]; rfl
 rw [if_pos (by omega), decide_eq_false h1, decide_eq_false h2, decide_eq_true (show 0 ≤ n by omega), decide_eq_true (show n ≤ 1000000000 by omega)]
 simp only [cond_false, cond_true, Bool.and_self]
 obtain ⟨k, rfl⟩ : ∃ k : Nat, n = k := ⟨n.toNat, by omega⟩
 rw [Int.toNat_natCast]
 generalize hz : List.replicate k (0 : Int) = z
 have hzl : z.length = k := by rw [← hz]; simp
 have hL : polNewL0N (((), (), Int.ofNat z.length, 0, ()), (Pool.mk [] [] [] [], ()), ((), (), (), (), ()), z, z, z, z, ()) = some (((), (), ()), (Pool.mk [] [] [] [], ()), ((), (), (), (), ()), z, z, z, (List.range k).map Int.ofNat, ()) := by
  have := vY (B := polNewL0E.un iH) (fun i => (((), (), Int.ofNat z.length, (i : Int), ()), (Pool.mk [] [] [] [], ()), ((), (), (), (), ()), z, z, z, (List.range i).map Int.ofNat ++ List.replicate (k - i) (0 : Int), ())) (k := k) (y := (((), (), ()), (Pool.mk [] [] [] [], ()), ((), (), (), (), ()), z, z, z, (List.range k).map Int.ofNat, ())) (by omega) (fun i hi =>?_) ?_
  ·simp only [List.range_zero, List.map_nil, List.nil_append, Nat.sub_zero, hz] at this
   exact this
  ·show iH (Int.ofNat z.length) (i : Int) (Pool.mk [] [] [] []) z z z _ = _
   unfold iH
   rw [decide_eq_true (by simp; omega), aU (by simp; omega), gH hi (by omega)]
   simp only [cond_true, wrE, wr, Int.toNat_natCast]
   congr 1
   congr 1
   have e : ((List.range i).map Int.ofNat ++ List.replicate (k - i) (0 : Int)).set i (i : Int) = (List.range (i + 1)).map Int.ofNat ++ List.replicate (k - (i + 1)) (0 : Int) := by
    rw [List.set_append_right _ _ (by simp), List.range_succ, List.map_append, List.append_assoc]
    congr 1
    obtain ⟨q, hq⟩ : ∃ q, k - i = q + 1 := ⟨k - i - 1, by omega⟩
    rw [hq, show k - (i + 1) = q by omega, List.replicate_succ]
    simp
   rw [e]
  ·show iH (Int.ofNat z.length) (k : Int) (Pool.mk [] [] [] []) z z z _ = _
   unfold iH
   rw [decide_eq_false (by simp; omega)]
   simp
 rw [hL]
 rfl
noncomputable def eR (p : Pool) : Pool × Int × Int := if mD p = 0 then (match p.free with
 | [] => (zP, 0, 3)
 | x :: l => (⟨p.gens, p.states.set x.toNat 1, p.when_, l⟩, (gD p.gens x.toNat) * 1024 + x + 1, 0)) else (zP, 0, mD p)
theorem kO (p : Pool) : (mD p = 0 ∧ PoolOk p) ∨ (mD p = 1 ∧ ¬ PoolOk p) := by
 by_cases h : PoolOk p
 ·exact .inl ⟨pW h, h⟩
 ·exact .inr ⟨kN h, h⟩
theorem aXs {p : Pool} (hs : pX p) : polTakN ((p, ()), ()) = some (((eR p).1, (eR p).2.1, (eR p).2.2, ()), ()) := by
 show yU tagPackN polChkN polOwnN p = _
 unfold yU eR
 rw [lQ hs, wA hs]
 rcases kO p with ⟨h0, h⟩ | ⟨h0, h⟩
 rotate_left
 ·rw [h0]; rfl
 rw [h0, if_pos rfl]
 simp only [Option.bind_some, bne_self_eq_false, cond_false]
 cases hf : p.free with
 | nil => rfl
 | cons x l =>
  obtain ⟨q1, q2, q3⟩ := h.fr x (by rw [hf]; simp)
  have hls := h.ls
  have hn2 := h.n2
  obtain ⟨k, rfl⟩ : ∃ k : Nat, x = k := ⟨x.toNat, by omega⟩
  have hk : k < p.gens.length := by omega
  have e1 : rdE EK.int ((k : Int) :: l) 0 = (k : Int) := rfl
  have e0 : (Int.ofNat ((k : Int) :: l).length == 0) = false := by simp; omega
  have hg := h.el k hk
  rw [e0]
  simp only [cond_false, e1]
  rw [show inR 0 ((k : Int) :: l).length = true by simp [inR], show (true && decide (1 ≤ Int.ofNat ((k : Int) :: l).length)) = true by simp; omega, aU (show k < p.states.length by omega), aU hk, cV (e := .int) p.gens k hk, fN, aQs]
  simp only [cond_true, Option.bind_some, wrE, wr, Int.toNat_natCast]
  unfold aAa
  rw [if_pos (by omega)]
  simp
noncomputable def iK (p : Pool) (ref now : Int) : Pool × Int :=
 if mD p ≠ 0 ∨ (aR ref).2.2 ≠ 0 ∨ p.gens.length ≤ (aR ref).1 then (zP, 1)
 else if gD p.states (aR ref).1.toNat ≠ 1 ∨ gD p.gens (aR ref).1.toNat ≠ (aR ref).2.1 then (zP, 2)
 else (⟨p.gens, p.states.set (aR ref).1.toNat 2, p.when_.set (aR ref).1.toNat now, p.free⟩, 0)
theorem aXt {p : Pool} (hs : pX p) (r n : Int) : polRetN ((p, r, n, ()), ()) = some (((iK p r n).1, (iK p r n).2, ()), ()) := by
 show yV tagUnpN polChkN polOwnN p r n = _
 unfold yV iK
 rw [qP, lQ hs, wA hs]
 simp only [Option.bind_some]
 rcases kO p with ⟨h0, h⟩ | ⟨h0, h⟩
 rotate_left
 ·rw [h0, if_pos (.inl (by decide))]; rfl
 rw [h0]
 by_cases h1 : (aR r).2.2 = 0
 rotate_left
 ·rw [if_pos (.inr (.inl h1)), show ((aR r).2.2 != 0) = true by simp [h1]]; rfl
 rw [show ((aR r).2.2 != 0) = false by simp [h1]]
 obtain ⟨u1, u2, u3⟩ := aCg h1
 generalize (aR r).1 = x at *
 generalize (aR r).2.1 = g at *
 simp only [bne_self_eq_false, cond_false]
 by_cases h2 : p.gens.length ≤ x
 ·rw [if_pos (.inr (.inr h2)), decide_eq_true (by simpa using h2)]; rfl
 rw [decide_eq_false (by simpa using h2), if_neg (by simp [h1]; omega)]
 obtain ⟨k, rfl⟩ : ∃ k : Nat, x = k := ⟨x.toNat, by omega⟩
 have hk : k < p.gens.length := by omega
 have hls := h.ls
 have hlw := h.lw
 rw [aU (show k < p.states.length by omega), aU hk, aU (show k < p.when_.length by omega), cV (e := .int) p.gens k hk, fN, cV (e := .int) p.states k (by omega), fN]
 simp only [cond_false, cond_true, Int.toNat_natCast]
 by_cases h3 : gD p.states k = 1
 rotate_left
 ·rw [if_pos (.inl h3), show (gD p.states k != 1) = true by simp [h3]]; rfl
 by_cases h4 : gD p.gens k = g
 rotate_left
 ·rw [if_pos (.inr h4), show (gD p.states k != 1) = false by simp [h3], show (gD p.gens k != g) = true by simp [h4]]; rfl
 rw [if_neg (by simp [h3, h4]), show (gD p.states k != 1) = false by simp [h3], show (gD p.gens k != g) = false by simp [h4]]
 simp [wrE, wr]
def fD (p : Pool) (upto : Int) (k : Nat) : Bool := decide (gD p.states k = 2 ∧ gD p.when_ k ≤ upto ∧ gD p.gens k ≠ 1099511627775)
def bY (p : Pool) (upto : Int) : Nat → Pool
 | 0 => p
 | i + 1 => bif fD p upto i then ⟨(bY p upto i).gens.set i (gD p.gens i + 1), (bY p upto i).states.set i 0, (bY p upto i).when_.set i 0, (bY p upto i).free ++ [(i : Int)]⟩ else bY p upto i
theorem rY (l : List Int) (i k : Nat) (v : Int) : gD (l.set i v) k = if k = i ∧ i < l.length then v else gD l k := by
 simp only [gD, List.getD_eq_getElem?_getD, List.getElem?_set]
 by_cases h : i = k
 ·subst h
  by_cases h2 : i < l.length
  ·simp [h2]
  ·simp [h2]
 ·rw [if_neg h, if_neg (fun h2 => h h2.1.symm)]
theorem mE (p : Pool) (u : Int) : ∀ i, (bY p u i).gens.length = p.gens.length ∧ (bY p u i).states.length = p.states.length ∧ (bY p u i).when_.length = p.when_.length
 | 0 => ⟨rfl, rfl, rfl⟩
 | i + 1 => by
  obtain ⟨h1, h2, h3⟩ := mE p u i
  unfold bY
  cases fD p u i
  ·exact ⟨h1, h2, h3⟩
  ·simp [h1, h2, h3]
theorem aHb (p : Pool) (u : Int) (hs : p.states.length = p.gens.length) (hw : p.when_.length = p.gens.length) (k : Nat) : ∀ i, i ≤ p.gens.length →
  gD (bY p u i).gens k = (if k < i ∧ fD p u k = true then gD p.gens k + 1 else gD p.gens k) ∧ gD (bY p u i).states k = (if k < i ∧ fD p u k = true then 0 else gD p.states k) ∧ gD (bY p u i).when_ k = (if k < i ∧ fD p u k = true then 0 else gD p.when_ k)
 | 0, _ => by simp [bY]
 | i + 1, hi => by
  obtain ⟨h1, h2, h3⟩ := aHb p u hs hw k i (by omega)
  obtain ⟨l1, l2, l3⟩ := mE p u i
  unfold bY
  cases e : fD p u i with
  | false =>
   have : (k < i + 1 ∧ fD p u k = true) ↔ (k < i ∧ fD p u k = true) := by
    constructor
    ·rintro ⟨a, b⟩
     refine ⟨?_, b⟩
     by_cases c : k = i
     ·subst c; rw [e] at b; cases b
     ·omega
    ·rintro ⟨a, b⟩; exact ⟨by omega, b⟩
   simp only [cond_false, this]
   exact ⟨h1, h2, h3⟩
  | true =>
   have key : ∀ (l : List Int) (V W : Nat → Int), i < l.length → gD l k = (if k < i ∧ fD p u k = true then V k else W k) → gD (l.set i (V i)) k = if k < i + 1 ∧ fD p u k = true then V k else W k := fun l V W hl hk => by
    rw [rY]
    by_cases c : k = i
    ·subst c
     rw [if_pos ⟨rfl, hl⟩, if_pos ⟨by omega, e⟩]
    ·rw [if_neg (fun h => c h.1), hk]
     by_cases c2 : k < i ∧ fD p u k = true
     ·rw [if_pos c2, if_pos ⟨by omega, c2.2⟩]
     ·rw [if_neg c2, if_neg (fun h => c2 ⟨by omega, h.2⟩)]
   simp only [cond_true]
   exact ⟨key _ (fun k => gD p.gens k + 1) (fun k => gD p.gens k) (by omega) h1, key _ (fun _ => 0) (fun k => gD p.states k) (by omega) h2, key _ (fun _ => 0) (fun k => gD p.when_ k) (by omega) h3⟩
theorem iL (p : Pool) (u : Int) : ∀ i, (bY p u i).free = p.free ++ ((List.range i).filter (fD p u)).map Int.ofNat
 | 0 => by simp [bY]
 | i + 1 => by
  unfold bY
  rw [List.range_succ, List.filter_append]
  cases e : fD p u i with
  | false => simp [iL p u i, e]
  | true => simp [iL p u i, e]
noncomputable def aHc (p : Pool) (u : Int) : Pool × Int := if mD p = 0 then (bY p u p.gens.length, Int.ofNat ((List.range p.gens.length).filter (fD p u)).length) else (zP, 0)
theorem wB {p : Pool} (hs : pX p) (u : Int) : polRecN ((p, u, ()), ()) = some (((aHc p u).1, (aHc p u).2, ()), ()) := by
 show yW polChkN polOwnN polRecL0N p u = _
 unfold yW aHc
 rw [lQ hs, wA hs]
 simp only [Option.bind_some]
 rcases kO p with ⟨h0, h⟩ | ⟨h0, h⟩
 rotate_left
 ·rw [h0]; rfl
 rw [h0, if_pos rfl]
 simp only [bne_self_eq_false, cond_false]
 have hls := h.ls
 have hlw := h.lw
 have hn2 := h.n2
 have hlf := h.lf
 have hL : polRecL0N ((u, (), (), Int.ofNat p.free.length, (), Int.ofNat p.states.length, 0, ()), ((), (), (), (), ()), (Pool.mk [] [] [] [], ()), p.states, p.gens, p.when_, p.free, ()) =
   some (((), (), Int.ofNat p.free.length, ()), ((), (), (), (), ()), (Pool.mk [] [] [] [], ()), (bY p u p.gens.length).gens, (bY p u p.gens.length).states, (bY p u p.gens.length).when_, (bY p u p.gens.length).free, ()) := by
  refine vY (B := polRecL0E.un iJ) (fun i => ((u, (), (), Int.ofNat p.free.length, (), Int.ofNat p.states.length, (i : Int), ()), ((), (), (), (), ()), (Pool.mk [] [] [] [], ()), (bY p u i).states, (bY p u i).gens, (bY p u i).when_, (bY p u i).free, ())) (k := p.gens.length) (by omega) (fun i hi =>?_) ?_
  ·show iJ u (Int.ofNat p.free.length) (Int.ofNat p.states.length) (i : Int) (Pool.mk [] [] [] []) (bY p u i).states (bY p u i).gens (bY p u i).when_ (bY p u i).free = _
   unfold iJ
   obtain ⟨l1, l2, l3⟩ := mE p u i
   obtain ⟨a1, a2, a3⟩ := aHb p u hls hlw i i (by omega)
   rw [if_neg (fun h => by omega)] at a1 a2 a3
   have hfl : (bY p u i).free.length ≤ 200 := by
    rw [iL]
    have := List.length_filter_le (fD p u) (List.range i)
    simp at this ⊢
    omega
   have hg := h.el i hi
   rw [decide_eq_true (by simp; omega), aU (show i < (bY p u i).states.length by omega), aU (show i < (bY p u i).gens.length by omega), aU (show i < (bY p u i).when_.length by omega), cV (e := .int) (bY p u i).states i (by omega), cV (e := .int) (bY p u i).gens i (by omega), cV (e := .int) (bY p u i).when_ i (by omega), gH hi (by omega)]
   simp only [cond_true, fN, a1, a2, a3]
   rw [show bY p u (i + 1) = (bif fD p u i then ⟨(bY p u i).gens.set i (gD p.gens i + 1), (bY p u i).states.set i 0, (bY p u i).when_.set i 0, (bY p u i).free ++ [(i : Int)]⟩ else bY p u i) from rfl]
   unfold fD
   generalize hq : decide (gD p.states i = 2 ∧ gD p.when_ i ≤ u ∧ gD p.gens i ≠ 1099511627775) = q
   by_cases c1 : gD p.states i = 2
   rotate_left
   ·obtain rfl : q = false := hq.symm.trans (decide_eq_false (fun h => c1 h.1))
    rw [show (gD p.states i == 2) = false by simp [c1]]; rfl
   by_cases c2 : gD p.when_ i ≤ u
   rotate_left
   ·obtain rfl : q = false := hq.symm.trans (decide_eq_false (fun h => c2 h.2.1))
    rw [show (gD p.states i == 2) = true by simp [c1], decide_eq_false c2]; rfl
   by_cases c3 : gD p.gens i = 1099511627775
   ·obtain rfl : q = false := hq.symm.trans (decide_eq_false (fun h => h.2.2 c3))
    rw [show (gD p.states i == 2) = true by simp [c1], decide_eq_true c2, show (gD p.gens i != 1099511627775) = false by simp [c3]]; rfl
   obtain rfl : q = true := hq.symm.trans (decide_eq_true ⟨c1, c2, c3⟩)
   rw [show (gD p.states i == 2) = true by simp [c1], decide_eq_true c2, show (gD p.gens i != 1099511627775) = true by simp [c3], decide_eq_true (show (bY p u i).free.length + [(i : Int)].length ≤ 1000000000 by simp; omega), bF (n := gD p.gens i + 1) (by omega) (by omega)]
   simp only [cond_true, wrE, wr, Int.toNat_natCast]
  ·show iJ u (Int.ofNat p.free.length) (Int.ofNat p.states.length) (p.gens.length : Int) (Pool.mk [] [] [] []) (bY p u p.gens.length).states (bY p u p.gens.length).gens (bY p u p.gens.length).when_ (bY p u p.gens.length).free = _
   unfold iJ
   rw [decide_eq_false (by simp; omega)]
   rfl
 rw [hL]
 simp only [Option.bind_some]
 have e1 : (Int.ofNat (bY p u p.gens.length).free.length - Int.ofNat p.free.length) = Int.ofNat ((List.range p.gens.length).filter (fD p u)).length := by
  rw [iL]
  simp
  omega
 have e2 := List.length_filter_le (fD p u) (List.range p.gens.length)
 rw [e1, bF (by simp) (by simp at e2 ⊢; omega)]
def zE : Era := ⟨0, []⟩
structure EraOk (e : Era) : Prop where
 n0 : 0 ≤ e.now
 n1 : e.now ≤ 1152921504606846976
 l1 : 1 ≤ e.pins.length
 l2 : e.pins.length ≤ 64
 pn : ∀ n ∈ e.pins, n = -1 ∨ (0 ≤ n ∧ n ≤ e.now ∧ e.now - 1 ≤ n)
open Classical in
noncomputable def nK (e : Era) : Int := if EraOk e then 0 else 1
theorem mF (e : Era) : (nK e = 0 ∧ EraOk e) ∨ (nK e = 1 ∧ ¬ EraOk e) := by
 unfold nK
 by_cases h : EraOk e
 ·exact .inl ⟨if_pos h, h⟩
 ·exact .inr ⟨if_neg h, h⟩
theorem pY {e : Era} (h : EraOk e) : nK e = 0 := if_pos h
theorem pZ {e : Era} (h : ¬ EraOk e) : nK e = 1 := if_neg h
def badP (e : Era) (n : Int) : Bool := n != -1 && (decide (n < 0) || decide (n > e.now) || decide (n < w64 (e.now - 1)))
theorem bCw (e : Era) (n : Int) : eraC1N ((n, (), ()), (e, ()), ()) = some ((badP e n, ()), (e, ()), ()) := by
 show aGs n e = _
 unfold aGs badP
 cases (n != -1) <;> cases decide (n < 0) <;> cases decide (n > e.now) <;> rfl
theorem bCx (e : Era) {l : List Int} (hl : l.length ≤ 1000000000) : hasC1N ((l, ((), ()), ()), (e, ()), ()) = some ((l.any (badP e), ()), (e, ()), ()) := by
 show aGt eraC1N idxC1N l e = _
 unfold aGt
 have ed : idxC1N ((l, ((), ()), ()), (e, ()), ()) = (cZ (idxC1L0E.un (kK eraC1N)) FU ((l, ((), ()), Int.ofNat l.length, (0 : Nat), ()), (e, ()), ())).bind fun z => aH z (fun z => some ((-1, ()), (z.2.1.1, ()), ())) fun z => some ((z.1.1, ()), (z.2.1.1, ()), ()) := rfl
 rw [ed, lpL (B := idxC1L0E.un (kK eraC1N)) (fun (_ : Unit) (i : Nat) a => bif badP e a then Sum.inr (i : Int) else Sum.inl ()) (l := l) (fun i _ => ((l, ((), ()), Int.ofNat l.length, (i : Int), ()), (e, ()), ())) (yl := fun _ => .inl ((), (e, ()), ())) (yr := fun k => .inr ((k, ()), (e, ()), ())) (fun _ _ => True) (by omega) trivial (fun _ _ _ _ _ _ => trivial) (fun i s hi _ =>?_) (fun s _ =>?_)]
 ·rcases nR (badP e) l 0 with ⟨h1, h2⟩ | ⟨h1, k, h2⟩
  ·rw [h2, h1]; rfl
  ·rw [h2, h1]
   simp [aH]
 ·show kK eraC1N l (Int.ofNat l.length) (i : Int) e = _
  unfold kK
  rw [decide_eq_true (by simp; omega), aU hi, cV (e := .int) l i hi, gH hi (by omega), bCw]
  simp only [cond_true, Option.bind_some]
  cases badP e l[i] <;> rfl
 ·show kK eraC1N l (Int.ofNat l.length) (l.length : Int) e = _
  unfold kK
  rw [decide_eq_false (by simp)]
  rfl
theorem qQ {e : Era} (hl : e.pins.length ≤ 1000000000) : eraChkN ((e, ()), ()) = some ((nK e, ()), ()) := by
 show yX hasC1N e = _
 unfold yX
 by_cases h1 : e.now < 0
 ·rw [decide_eq_true h1, pZ (fun h => by have := h.n0; omega)]; rfl
 by_cases h2 : e.now > 1152921504606846976
 ·rw [decide_eq_false h1, decide_eq_true h2, pZ (fun h => by have := h.n1; omega)]; rfl
 by_cases h3 : e.pins.length < 1
 ·rw [decide_eq_false h1, decide_eq_false h2, decide_eq_true (by simp; omega), pZ (fun h => by have := h.l1; omega)]; rfl
 by_cases h4 : e.pins.length > 64
 ·rw [decide_eq_false h1, decide_eq_false h2, decide_eq_false (by simp; omega), decide_eq_true (by simp; omega), pZ (fun h => by have := h.l2; omega)]; rfl
 rw [decide_eq_false h1, decide_eq_false h2, decide_eq_false (by simp; omega), decide_eq_false (by simp; omega), bCx e hl]
 simp only [cond_false, Option.bind_some]
 have hb : ∀ n, badP e n = false ↔ (n = -1 ∨ (0 ≤ n ∧ n ≤ e.now ∧ e.now - 1 ≤ n)) := fun n => by
  unfold badP
  rw [bF (n := e.now - 1) (by omega) (by omega)]
  simp
  omega
 cases ea : e.pins.any (badP e) with
 | true =>
  obtain ⟨n, q1, q2⟩ := List.any_eq_true.1 ea
  rw [pZ (fun h => by rw [(hb n).2 (h.pn n q1)] at q2; cases q2)]
  rfl
 | false =>
  rw [pY ⟨by omega, by omega, by omega, by omega, fun n hn => (hb n).1 (by simpa using List.any_eq_false.1 ea n hn)⟩]
  rfl
theorem aEu {e : Era} (hl : e.pins.length ≤ 1000000000) (t : Int) : eraPndN ((e, t, ()), ()) = some ((bif nK e == 0 && inR t e.pins.length then (rdE EK.int e.pins t, 0, ()) else (0, 1, ())), ()) := by
 show yY eraChkN e t = _
 unfold yY
 rw [qQ hl]
 simp only [Option.bind_some]
 rcases mF e with ⟨h0, h⟩ | ⟨h0, h⟩
 rotate_left
 ·rw [h0]; rfl
 rw [h0]
 by_cases h1 : t < 0
 ·rw [decide_eq_true h1, show inR t e.pins.length = false by simp [inR]; omega]; rfl
 by_cases h2 : t ≥ Int.ofNat e.pins.length
 ·rw [decide_eq_false h1, decide_eq_true h2, show inR t e.pins.length = false by simp [inR]; intro _; simpa using h2]; rfl
 have h3 : t < e.pins.length := by simpa using h2
 rw [decide_eq_false h1, decide_eq_false h2, show inR t e.pins.length = true by simp [inR]; omega]
 rfl
theorem aEv {e : Era} (hl : e.pins.length ≤ 1000000000) {t : Int} (ht : inR t e.pins.length = true) (n : Int) : eraWthN ((e, t, n, ()), ()) = some ((⟨e.now, e.pins.set t.toNat n⟩, ()), ()) := by
 show yZ clnIN e t n = _
 unfold yZ
 rw [lD hl]
 simp only [Option.bind_some, ht, cond_true, wrE, wr]
noncomputable def iM (e : Era) (t : Int) : Era × Int := if nK e = 0 ∧ inR t e.pins.length = true ∧ rdE EK.int e.pins t = -1 then (⟨e.now, e.pins.set t.toNat e.now⟩, 0) else (zE, 1)
theorem aXu {e : Era} (hl : e.pins.length ≤ 1000000000) (t : Int) : eraPinN ((e, t, ()), ()) = some (((iM e t).1, (iM e t).2, ()), ()) := by
 show zB eraPndN eraWthN e t = _
 unfold zB iM
 rw [aEu hl]
 simp only [Option.bind_some]
 rcases mF e with ⟨h0, h⟩ | ⟨h0, h⟩
 rotate_left
 ·rw [h0]; rfl
 rw [h0]
 cases h1 : inR t e.pins.length with
 | false => simp; rfl
 | true =>
  by_cases h2 : rdE EK.int e.pins t = -1
  ·simp [h2, aEv hl h1]
  ·have h3 : (rdE EK.int e.pins t != -1) = true := by simpa using h2
   simp [h2, h3]; rfl
noncomputable def eT (e : Era) (t : Int) : Era × Int := if nK e = 0 ∧ inR t e.pins.length = true then (if rdE EK.int e.pins t = -1 then (zE, 2) else (⟨e.now, e.pins.set t.toNat (-1)⟩, 0)) else (zE, 1)
theorem aXv {e : Era} (hl : e.pins.length ≤ 1000000000) (t : Int) : eraUnpN ((e, t, ()), ()) = some (((eT e t).1, (eT e t).2, ()), ()) := by
 show zC eraPndN eraWthN e t = _
 unfold zC eT
 rw [aEu hl]
 simp only [Option.bind_some]
 rcases mF e with ⟨h0, h⟩ | ⟨h0, h⟩
 rotate_left
 ·rw [h0]; rfl
 rw [h0]
 cases h1 : inR t e.pins.length with
 | false => simp; rfl
 | true =>
  by_cases h2 : rdE EK.int e.pins t = -1
  ·simp [h2]; rfl
  ·have h3 : (rdE EK.int e.pins t == -1) = false := by simpa using h2
   simp [h2, h3, aEv hl h1]
def rH (e : Era) (n : Int) : Bool := n != -1 && n != e.now
theorem bCy (e : Era) (n : Int) : eraT1N ((n, (), ()), (e, ()), ()) = some ((rH e n, ()), (e, ()), ()) := by
 show aGu n e = _
 unfold aGu rH
 cases (n != -1) <;> rfl
theorem bCz (e : Era) {l : List Int} (hl : l.length ≤ 1000000000) : hasC2N ((l, ((), ()), ()), (e, ()), ()) = some ((l.any (rH e), ()), (e, ()), ()) := by
 show aGv eraT1N idxC2N l e = _
 unfold aGv
 have ed : idxC2N ((l, ((), ()), ()), (e, ()), ()) = (cZ (idxC2L0E.un (kL eraT1N)) FU ((l, ((), ()), Int.ofNat l.length, (0 : Nat), ()), (e, ()), ())).bind fun z => aH z (fun z => some ((-1, ()), (z.2.1.1, ()), ())) fun z => some ((z.1.1, ()), (z.2.1.1, ()), ()) := rfl
 rw [ed, lpL (B := idxC2L0E.un (kL eraT1N)) (fun (_ : Unit) (i : Nat) a => bif rH e a then Sum.inr (i : Int) else Sum.inl ()) (l := l) (fun i _ => ((l, ((), ()), Int.ofNat l.length, (i : Int), ()), (e, ()), ())) (yl := fun _ => .inl ((), (e, ()), ())) (yr := fun k => .inr ((k, ()), (e, ()), ())) (fun _ _ => True) (by omega) trivial (fun _ _ _ _ _ _ => trivial) (fun i s hi _ =>?_) (fun s _ =>?_)]
 ·rcases nR (rH e) l 0 with ⟨h1, h2⟩ | ⟨h1, k, h2⟩
  ·rw [h2, h1]; rfl
  ·rw [h2, h1]
   simp [aH]
 ·show kL eraT1N l (Int.ofNat l.length) (i : Int) e = _
  unfold kL
  rw [decide_eq_true (by simp; omega), aU hi, cV (e := .int) l i hi, gH hi (by omega), bCy]
  simp only [cond_true, Option.bind_some]
  cases rH e l[i] <;> rfl
 ·show kL eraT1N l (Int.ofNat l.length) (l.length : Int) e = _
  unfold kL
  rw [decide_eq_false (by simp)]
  rfl
noncomputable def dM (e : Era) : Era × Bool := if nK e = 0 then (if e.now = 1152921504606846976 ∨ e.pins.any (rH e) = true then (e, false) else (⟨e.now + 1, e.pins⟩, true)) else (zE, false)
theorem aXw {e : Era} (hl : e.pins.length ≤ 1000000000) : eraTrnN ((e, ()), ()) = some (((dM e).1, (dM e).2, ()), ()) := by
 show zD clnIN hasC1N eraChkN hasC2N e = _
 unfold zD dM
 rw [qQ hl]
 simp only [Option.bind_some]
 rcases mF e with ⟨h0, h⟩ | ⟨h0, h⟩
 rotate_left
 ·rw [h0]; rfl
 rw [h0, if_pos rfl, lD hl, bCz e hl]
 simp only [bne_self_eq_false, cond_false, Option.bind_some]
 have := h.n1
 have := h.n0
 by_cases h1 : e.now = 1152921504606846976
 ·rw [if_pos (.inl h1), show (e.now == 1152921504606846976) = true by simp [h1]]; rfl
 rw [show (e.now == 1152921504606846976) = false by simp [h1]]
 cases h2 : e.pins.any (rH e) with
 | true => rw [if_pos (.inr rfl)]; rfl
 | false =>
  rw [if_neg (by simp [h1]), bF (n := e.now + 1) (by omega) (by omega)]
  rfl
theorem aXx {e : Era} (h : EraOk e) : eraSafN ((e, ()), ()) = some ((e.now - 2, ()), ()) := by
 show zF eraChkN e = _
 unfold zF
 have := h.n1
 have := h.n0
 rw [qQ (by have := h.l2; omega), pY h]
 simp only [Option.bind_some, bne_self_eq_false, cond_false]
 rw [bF (n := e.now - 2) (by omega) (by omega)]
theorem aCj {e x : Era} (h : EraOk e) (ht : dM e = (x, true)) : EraOk x ∧ x = ⟨e.now + 1, e.pins⟩ ∧ ∀ n ∈ e.pins, n = -1 ∨ n = e.now := by
 unfold dM at ht
 rw [pY h, if_pos rfl] at ht
 split at ht
 ·cases ht
 ·rename_i hc
  cases ht
  have hp : ∀ n ∈ e.pins, n = -1 ∨ n = e.now := fun n hn => by
   by_cases hl : rH e n = true
   ·exact absurd (.inr (List.any_eq_true.2 ⟨n, hn, hl⟩)) hc
   ·unfold rH at hl
    simp at hl
    by_cases c : n = -1
    ·exact .inl c
    ·exact .inr (hl c)
  have := h.n1
  have := h.n0
  exact ⟨⟨by show 0 ≤ e.now + 1; omega, by show e.now + 1 ≤ _; have : e.now ≠ 1152921504606846976 := fun h => hc (.inl h); omega, h.l1, h.l2, fun n hn => by
   show n = -1 ∨ (0 ≤ n ∧ n ≤ e.now + 1 ∧ e.now + 1 - 1 ≤ n)
   rcases hp n hn with h | h <;> omega⟩, rfl, hp⟩
def zS : Shr := ⟨[], [], zP, zP, zP, zE⟩
structure ArnOk (s : Shr) : Prop where
 p0 : PoolOk s.p0
 p1 : PoolOk s.p1
 p2 : PoolOk s.p2
 era : EraOk s.era
structure ShS (s : Shr) : Prop where
 p0 : pX s.p0
 p1 : pX s.p1
 p2 : pX s.p2
 era : s.era.pins.length ≤ 1000000000
 mem : s.mem.length ≤ 1000000000
 lat : s.latches.length ≤ 1000000000
noncomputable instance (s : Shr) : Decidable (ArnOk s) := Classical.propDecidable _
noncomputable def rZ (s : Shr) : Int := if ArnOk s then 0 else 1
theorem aCk (s : Shr) : (rZ s = 0 ∧ ArnOk s) ∨ (rZ s = 1 ∧ ¬ ArnOk s) := by
 unfold rZ
 by_cases h : ArnOk s
 ·exact .inl ⟨if_pos h, h⟩
 ·exact .inr ⟨if_neg h, h⟩
theorem aKj {s : Shr} (h : ArnOk s) : rZ s = 0 := if_pos h
theorem tD {s : Shr} (h : ¬ ArnOk s) : rZ s = 1 := if_neg h
theorem aEw {s : Shr} (h : ShS s) : arnChkN ((s, ()), ()) = some ((rZ s, ()), ()) := by
 show zG eraChkN polChkN s = _
 unfold zG
 rw [lQ h.p0, lQ h.p1, lQ h.p2, qQ h.era]
 simp only [Option.bind_some]
 rcases kO s.p0 with ⟨a0, a1⟩ | ⟨a0, a1⟩
 rotate_left
 ·rw [a0, tD (fun h => a1 h.p0)]; rfl
 rcases kO s.p1 with ⟨b0, b1⟩ | ⟨b0, b1⟩
 rotate_left
 ·rw [a0, b0, tD (fun h => b1 h.p1)]; rfl
 rcases kO s.p2 with ⟨c0, c1⟩ | ⟨c0, c1⟩
 rotate_left
 ·rw [a0, b0, c0, tD (fun h => c1 h.p2)]; rfl
 rcases mF s.era with ⟨d0, d1⟩ | ⟨d0, d1⟩
 rotate_left
 ·rw [a0, b0, c0, d0, tD (fun h => d1 h.era)]; rfl
 rw [a0, b0, c0, d0, aKj ⟨a1, b1, c1, d1⟩]; rfl
def iN (s : Shr) (w : Int) : Prop := 1 ≤ w ∧ w ≤ 3 ∧ ArnOk s
noncomputable instance (s : Shr) (w : Int) : Decidable (iN s w) := Classical.propDecidable _
theorem lR {s : Shr} (h : ShS s) (w : Int) : arnMayN ((s, w, ()), ()) = some ((decide (iN s w), ()), ()) := by
 show zH arnChkN s w = _
 unfold zH
 rw [aEw h]
 by_cases h1 : w ≥ 1
 rotate_left
 ·rw [decide_eq_false h1, show decide (iN s w) = false from decide_eq_false (fun h => h1 h.1)]; rfl
 by_cases h2 : w ≤ 3
 rotate_left
 ·rw [decide_eq_true h1, decide_eq_false h2, show decide (iN s w) = false from decide_eq_false (fun h => h2 h.2.1)]; rfl
 rw [decide_eq_true h1, decide_eq_true h2]
 simp only [cond_true, Option.bind_some]
 rcases aCk s with ⟨a0, a1⟩ | ⟨a0, a1⟩
 ·rw [a0, show decide (iN s w) = true from decide_eq_true ⟨h1, h2, a1⟩]; rfl
 ·rw [a0, show decide (iN s w) = false from decide_eq_false (fun h => a1 h.2.2)]; rfl
def dU (s : Shr) (w : Int) : Pool := if w = 1 then s.p0 else if w = 2 then s.p1 else s.p2
def setP (s : Shr) (w : Int) (p : Pool) : Shr := if w = 1 then { s with p0 := p } else if w = 2 then { s with p1 := p } else { s with p2 := p }
theorem bDa {s : Shr} (h : ShS s) (w : Int) : pX (dU s w) := by
 unfold dU
 split
 ·exact h.p0
 split
 ·exact h.p1
 ·exact h.p2
theorem bHw {s : Shr} (h : ArnOk s) (w : Int) : PoolOk (dU s w) := by
 unfold dU
 split
 ·exact h.p0
 split
 ·exact h.p1
 ·exact h.p2
theorem w_3 {w : Int} (h1 : 1 ≤ w) (h2 : w ≤ 3) : w = 1 ∨ w = 2 ∨ w = 3 := by omega
theorem bJy : w64 (1 - 1) = 0 := by rw [bF] <;> decide
theorem bJz : w64 (2 - 1) = 1 := by rw [bF] <;> decide
theorem bKa : w64 (3 - 1) = 2 := by rw [bF] <;> decide
theorem aCl (s : Shr) {w : Int} (h1 : 1 ≤ w) (h2 : w ≤ 3) : Pool.mk (rdE EK.int.sl [s.p0.gens, s.p1.gens, s.p2.gens] (w64 (w - 1))) (rdE EK.int.sl [s.p0.states, s.p1.states, s.p2.states] (w64 (w - 1))) (rdE EK.int.sl [s.p0.when_, s.p1.when_, s.p2.when_] (w64 (w - 1))) (rdE EK.int.sl [s.p0.free, s.p1.free, s.p2.free] (w64 (w - 1))) = dU s w := by
 rcases w_3 h1 h2 with rfl | rfl | rfl
 ·rw [bJy]; rfl
 ·rw [bJz]; rfl
 ·rw [bKa]; rfl
theorem aKk (s : Shr) (p : Pool) {w : Int} (h1 : 1 ≤ w) (h2 : w ≤ 3) : Shr.mk s.mem s.latches (Pool.mk (bif w64 (w - 1) == 0 then p.gens else s.p0.gens) (bif w64 (w - 1) == 0 then p.states else s.p0.states) (bif w64 (w - 1) == 0 then p.when_ else s.p0.when_) (bif w64 (w - 1) == 0 then p.free else s.p0.free)) (Pool.mk (bif w64 (w - 1) == 1 then p.gens else s.p1.gens) (bif w64 (w - 1) == 1 then p.states else s.p1.states) (bif w64 (w - 1) == 1 then p.when_ else s.p1.when_) (bif w64 (w - 1) == 1 then p.free else s.p1.free)) (Pool.mk (bif w64 (w - 1) == 2 then p.gens else s.p2.gens) (bif w64 (w - 1) == 2 then p.states else s.p2.states) (bif w64 (w - 1) == 2 then p.when_ else s.p2.when_) (bif w64 (w - 1) == 2 then p.free else s.p2.free)) s.era = setP s w p := by
 rcases w_3 h1 h2 with rfl | rfl | rfl
 ·rw [bJy]; rfl
 ·rw [bJz]; rfl
 ·rw [bKa]; rfl
theorem bDb {w : Int} (h1 : 1 ≤ w) (h2 : w ≤ 3) : inR (w64 (w - 1)) 3 = true := by
 rw [bF (by omega) (by omega)]
 simp [inR]; omega
noncomputable def qA (s : Shr) (w : Int) : Shr × Int × Int := if iN s w then (if (eR (dU s w)).2.2 = 0 then (setP s w (eR (dU s w)).1, (eR (dU s w)).2.1, 0) else (zS, 0, (eR (dU s w)).2.2)) else (zS, 0, 1)
theorem aXy {s : Shr} (h : ShS s) (w : Int) : arnTakN ((s, w, ()), ()) = some (((qA s w).1, (qA s w).2.1, (qA s w).2.2, ()), ()) := by
 show zI polTakN arnMayN s w = _
 unfold zI qA
 rw [lR h]
 simp only [Option.bind_some]
 by_cases hm : iN s w
 rotate_left
 ·rw [decide_eq_false hm, if_neg hm]; rfl
 have hm' := hm
 obtain ⟨h1, h2, h3⟩ := hm'
 rw [decide_eq_true hm, if_pos hm, bDb h1 h2, aCl s h1 h2, aXs (bDa h w)]
 simp only [Bool.not_true, cond_false, cond_true, Option.bind_some, aKk s _ h1 h2]
 by_cases he : (eR (dU s w)).2.2 = 0
 ·rw [if_pos he, show ((eR (dU s w)).2.2 != 0) = false by simp [he]]; rfl
 ·rw [if_neg he, show ((eR (dU s w)).2.2 != 0) = true by simp [he]]; rfl
noncomputable def wC (s : Shr) (w r : Int) : Shr × Int := if iN s w then (if (iK (dU s w) r s.era.now).2 = 0 then (setP s w (iK (dU s w) r s.era.now).1, 0) else (zS, (iK (dU s w) r s.era.now).2)) else (zS, 1)
theorem aXz {s : Shr} (h : ShS s) (w r : Int) : arnRetN ((s, w, r, ()), ()) = some (((wC s w r).1, (wC s w r).2, ()), ()) := by
 show zJ polRetN arnMayN s w r = _
 unfold zJ wC
 rw [lR h]
 simp only [Option.bind_some]
 by_cases hm : iN s w
 rotate_left
 ·rw [decide_eq_false hm, if_neg hm]; rfl
 have hm' := hm
 obtain ⟨h1, h2, h3⟩ := hm'
 rw [decide_eq_true hm, if_pos hm, bDb h1 h2, aCl s h1 h2, aXt (bDa h w)]
 simp only [Bool.not_true, cond_false, cond_true, Option.bind_some, aKk s _ h1 h2]
 by_cases he : (iK (dU s w) r s.era.now).2 = 0
 ·rw [if_pos he, show ((iK (dU s w) r s.era.now).2 != 0) = false by simp [he]]; rfl
 ·rw [if_neg he, show ((iK (dU s w) r s.era.now).2 != 0) = true by simp [he]]; rfl
noncomputable def wD (s : Shr) (w r : Int) : Int × Int × Int := if (aR r).2.2 = 0 ∧ iN s w ∧ (aR r).1 < (dU s w).gens.length then (gD (dU s w).gens (aR r).1.toNat, gD (dU s w).states (aR r).1.toNat, 0) else (0, 0, 1)
theorem aYa {s : Shr} (h : ShS s) (w r : Int) : arnGenN ((s, w, r, ()), ()) = some (((wD s w r).1, (wD s w r).2.1, (wD s w r).2.2, ()), ()) := by
 show zK tagUnpN arnMayN s w r = _
 unfold zK wD
 rw [lR h, qP]
 simp only [Option.bind_some]
 by_cases hu : (aR r).2.2 = 0
 rotate_left
 ·rw [if_neg (fun h => hu h.1), show ((aR r).2.2 != 0) = true by simp [hu]]; rfl
 obtain ⟨u1, u2, u3⟩ := aCg hu
 rw [show ((aR r).2.2 != 0) = false by simp [hu]]
 by_cases hm : iN s w
 rotate_left
 ·rw [decide_eq_false hm, if_neg (fun h => hm h.2.1)]; rfl
 have hm' := hm
 obtain ⟨h1, h2, h3⟩ := hm'
 have e := aCl s h1 h2
 have e1 := congrArg Pool.gens e
 have e2 := congrArg Pool.states e
 dsimp only at e1 e2
 rw [decide_eq_true hm, bDb h1 h2, e1, e2]
 simp only [Bool.not_true, cond_false, cond_true]
 have hp := bHw h3 w
 have hls := hp.ls
 generalize (aR r).1 = x at *
 by_cases hx : x < (dU s w).gens.length
 rotate_left
 ·rw [if_neg (fun h => hx h.2.2), show decide (x ≥ Int.ofNat (dU s w).gens.length) = true from decide_eq_true (by simp; omega)]; rfl
 obtain ⟨k, rfl⟩ : ∃ k : Nat, x = k := ⟨x.toNat, by omega⟩
 rw [if_pos ⟨hu, hm, hx⟩, show decide ((k : Int) ≥ Int.ofNat (dU s w).gens.length) = false from decide_eq_false (by simp; omega), aU (show k < (dU s w).gens.length by omega), aU (show k < (dU s w).states.length by omega), cV (e := .int) _ k (by omega), cV (e := .int) _ k (by omega), fN, fN]
 rfl
noncomputable def wE (s : Shr) (t : Int) : Shr × Int := if ArnOk s then (if (iM s.era t).2 = 0 then ({ s with era := (iM s.era t).1 }, 0) else (zS, (iM s.era t).2)) else (zS, 1)
theorem may1 {s : Shr} : iN s 1 ↔ ArnOk s := ⟨fun h => h.2.2, fun h => ⟨by decide, by decide, h⟩⟩
theorem aYb {s : Shr} (h : ShS s) (t : Int) : arnPinN ((s, t, ()), ()) = some (((wE s t).1, (wE s t).2, ()), ()) := by
 show zL eraPinN arnMayN s t = _
 unfold zL wE
 rw [lR h, aXu h.era]
 simp only [Option.bind_some, may1]
 by_cases hm : ArnOk s
 rotate_left
 ·rw [decide_eq_false hm, if_neg hm]; rfl
 rw [decide_eq_true hm, if_pos hm]
 simp only [Bool.not_true, cond_false]
 by_cases he : (iM s.era t).2 = 0
 ·rw [if_pos he, show ((iM s.era t).2 != 0) = false by simp [he]]; rfl
 ·rw [if_neg he, show ((iM s.era t).2 != 0) = true by simp [he]]; rfl
noncomputable def kR (s : Shr) : Shr × Bool := if ArnOk s then (if (dM s.era).2 = true then ({ s with p0 := bY s.p0 (s.era.now - 1) s.p0.gens.length, p1 := bY s.p1 (s.era.now - 1) s.p1.gens.length, p2 := bY s.p2 (s.era.now - 1) s.p2.gens.length, era := (dM s.era).1 }, true) else ({ s with era := (dM s.era).1 }, false)) else (zS, false)
theorem aYc {s : Shr} (h : ShS s) : arnTrnN ((s, ()), ()) = some (((kR s).1, (kR s).2, ()), ()) := by
 show zM polRecN eraTrnN eraSafN arnMayN s = _
 unfold zM kR
 rw [lR h, aXw h.era]
 simp only [Option.bind_some, may1]
 by_cases hm : ArnOk s
 rotate_left
 ·rw [decide_eq_false hm, if_neg hm]; rfl
 rw [decide_eq_true hm, if_pos hm]
 simp only [Bool.not_true, cond_false]
 cases ht : (dM s.era).2 with
 | false => rfl
 | true =>
  obtain ⟨o1, o2, o3⟩ := aCj hm.era (x := (dM s.era).1) (by rw [← ht])
  have en : (dM s.era).1.now - 2 = s.era.now - 1 := by rw [o2]; show s.era.now + 1 - 2 = _; omega
  simp only [cond_true, if_true]
  rw [aXx o1, en]
  simp only [Option.bind_some]
  rw [wB h.p0, wB h.p1, wB h.p2]
  simp only [Option.bind_some]
  unfold aHc
  rw [pW hm.p0, pW hm.p1, pW hm.p2]
  rfl
noncomputable def wF (s : Shr) (t : Int) : Shr × Int := if rZ s = 0 then (if (eT s.era t).2 = 0 then ((kR { s with era := (eT s.era t).1 }).1, 0) else (zS, (eT s.era t).2)) else (zS, 1)
theorem aCm {e : Era} {t : Int} (h : (eT e t).2 = 0) : (eT e t).1 = ⟨e.now, e.pins.set t.toNat (-1)⟩ ∧ EraOk e ∧ inR t e.pins.length = true ∧ rdE EK.int e.pins t ≠ -1 := by
 unfold eT at h ⊢
 split at h
 ·rename_i h1
  rw [if_pos h1]
  split at h
  ·cases h
  ·rename_i h2
   rw [if_neg h2]
   refine ⟨rfl, ?_, h1.2, h2⟩
   rcases mF e with h3 | h3
   ·exact h3.2
   ·rw [h3.1] at h1; exact absurd h1.1 (by decide)
 ·cases h
theorem aYd {s : Shr} (h : ShS s) (t : Int) : arnEndN ((s, t, ()), ()) = some (((wF s t).1, (wF s t).2, ()), ()) := by
 show zN eraUnpN arnMayN arnTrnN s t = _
 unfold zN wF
 rw [lR h, aXv h.era]
 simp only [Option.bind_some, may1]
 rcases aCk s with ⟨a0, hm⟩ | ⟨a0, hm⟩
 rotate_left
 ·rw [decide_eq_false hm, a0]; rfl
 rw [decide_eq_true hm, a0, if_pos rfl]
 simp only [Bool.not_true, cond_false]
 by_cases he : (eT s.era t).2 = 0
 ·rw [if_pos he, show ((eT s.era t).2 != 0) = false by simp [he]]
  have hs : ShS (Shr.mk s.mem s.latches s.p0 s.p1 s.p2 (eT s.era t).1) := ⟨h.p0, h.p1, h.p2, by show (eT s.era t).1.pins.length ≤ _; rw [(aCm he).1]; simpa using h.era, h.mem, h.lat⟩
  simp only [cond_false, aYc hs, Option.bind_some]
 ·rw [if_neg he, show ((eT s.era t).2 != 0) = true by simp [he]]; rfl
def hZ (c : Cfg) (m : List Int) (w r f : Int) : Int × Int := if (aR r).2.2 = 0 ∧ Int.ofNat m.length = cN c then aGz c w (aR r).1 f else (0, 1)
theorem aKl (c : Cfg) (m : List Int) (w r f : Int) : chnWhN ((c, m, w, r, f, ()), ()) = some (((hZ c m w r f).1, (hZ c m w r f).2, ()), ()) := by
 show aGn tagUnpN plcSizN plcFldN c m w r f = _
 unfold aGn hZ
 rw [qP, vZ]
 simp only [Option.bind_some]
 by_cases h1 : (aR r).2.2 = 0
 rotate_left
 ·rw [if_neg (fun h => h1 h.1), show ((aR r).2.2 != 0) = true by simp [h1]]; rfl
 by_cases h2 : Int.ofNat m.length = cN c
 rotate_left
 ·rw [if_neg (fun h => h2 h.2), show ((aR r).2.2 != 0) = false by simp [h1], show (Int.ofNat m.length != cN c) = true by simpa using h2]; rfl
 rw [if_pos ⟨h1, h2⟩, show ((aR r).2.2 != 0) = false by simp [h1], show (Int.ofNat m.length != cN c) = false by simpa using h2, aXq]
 rfl
def sA (c : Cfg) (m : List Int) (w r f : Int) : Int × Int := if (hZ c m w r f).2 = 0 then nG m (hZ c m w r f).1 else (0, (hZ c m w r f).2)
theorem aYe (c : Cfg) (m : List Int) (w r f : Int) : chnFldN ((c, m, w, r, f, ()), ()) = some (((sA c m w r f).1, (sA c m w r f).2, ()), ()) := by
 show yP memLoadN chnWhN c m w r f = _
 unfold yP sA
 rw [aKl]
 simp only [Option.bind_some]
 rw [aCi]
 by_cases h : (hZ c m w r f).2 = 0
 ·rw [if_pos h, show ((hZ c m w r f).2 != 0) = false by simp [h]]; rfl
 ·rw [if_neg h, show ((hZ c m w r f).2 != 0) = true by simp [h]]; rfl
def qB (c : Cfg) (m : List Int) (w r f v : Int) : List Int × Int := if (hZ c m w r f).2 = 0 then gR m (hZ c m w r f).1 v else ([], (hZ c m w r f).2)
theorem aYf (c : Cfg) {m : List Int} (hm : m.length ≤ 1000000000) (w r f v : Int) : chnPutN ((c, m, w, r, f, v, ()), ()) = some (((qB c m w r f v).1, (qB c m w r f v).2, ()), ()) := by
 show yQ memStoreN chnWhN c m w r f v = _
 unfold yQ qB
 rw [aKl]
 simp only [Option.bind_some]
 rw [xI hm]
 by_cases h : (hZ c m w r f).2 = 0
 ·rw [if_pos h, show ((hZ c m w r f).2 != 0) = false by simp [h]]; rfl
 ·rw [if_neg h, show ((hZ c m w r f).2 != 0) = true by simp [h]]; rfl
end Go.Ax.Cd
