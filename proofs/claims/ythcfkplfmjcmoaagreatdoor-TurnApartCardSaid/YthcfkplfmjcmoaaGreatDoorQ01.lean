/- Merged. -/
import Derived.Test.YthcfkplfmjcmoaaGreatDoorQ00
import Derived.ArgAppend
import Derived.Below
import Derived.Deep.MidRow
namespace Go.Ax
open Go.RowKit
set_option linter.unusedVariables false
def AVal.isLeaf : AVal → Bool
 | .agg _ | .tup _ | .clo _ _ | .ifc _ _ => false
 | _ => true
theorem AVal.ind {p : AVal → Prop} {q : List AVal → Prop} (leaf : ∀ v, v.isLeaf = true → p v) (agg : ∀ l, q l → p (.agg l)) (tup : ∀ l, q l → p (.tup l)) (clo : ∀ f l, q l → p (.clo f l)) (ifc : ∀ t v, p v → p (.ifc t v))
  (nil : q []) (cons : ∀ a l, p a → q l → q (a :: l)) : (∀ v, p v) ∧ (∀ l, q l) :=
 ⟨fun v => AVal.rec (motive_1 := p) (motive_2 := q) (fun _ => leaf _ rfl) (fun _ => leaf _ rfl) (fun _ _ => leaf _ rfl) (fun _ _ => leaf _ rfl) (fun _ _ => leaf _ rfl) agg tup (fun _ _ => leaf _ rfl) (fun _ _ _ _ => leaf _ rfl) (fun _ _ _ _ => leaf _ rfl)
   (fun _ _ _ _ _ _ => leaf _ rfl) (fun _ _ _ _ _ _ _ _ => leaf _ rfl) (fun _ => leaf _ rfl) (fun _ _ => leaf _ rfl) (fun _ _ _ _ => leaf _ rfl) (fun _ _ _ => leaf _ rfl) clo ifc (fun _ => leaf _ rfl) (fun _ => leaf _ rfl) (leaf _ rfl) (fun _ _ => leaf _ rfl) nil cons v,
  fun l => AVal.rec_1 (motive_1 := p) (motive_2 := q) (fun _ => leaf _ rfl) (fun _ => leaf _ rfl) (fun _ _ => leaf _ rfl) (fun _ _ => leaf _ rfl) (fun _ _ => leaf _ rfl) agg tup (fun _ _ => leaf _ rfl) (fun _ _ _ _ => leaf _ rfl) (fun _ _ _ _ => leaf _ rfl)
   (fun _ _ _ _ _ _ => leaf _ rfl) (fun _ _ _ _ _ _ _ _ => leaf _ rfl) (fun _ => leaf _ rfl) (fun _ _ => leaf _ rfl) (fun _ _ _ _ => leaf _ rfl) (fun _ _ _ => leaf _ rfl) clo ifc (fun _ => leaf _ rfl) (fun _ => leaf _ rfl) (leaf _ rfl) (fun _ _ => leaf _ rfl) nil cons l⟩
theorem AVal.mp_leaf {f : AVal → AVal} {v : AVal} (h : v.isLeaf = true) : v.mp f = f v := by cases v <;> first | rfl | simp [AVal.isLeaf] at h
theorem VR.mp {ρ ρ' : List Value} {w w' : World} {F B F' B' : Nat → Prop} {f : AVal → AVal} (h : ∀ v x, v.isLeaf = true → VR ρ w F B v x → VR ρ' w' F' B' (f v) x) :
  (∀ v x, VR ρ w F B v x → VR ρ' w' F' B' (v.mp f) x) ∧ (∀ l vs, VRs ρ w F B l vs → VRs ρ' w' F' B' (AVal.mpl f l) vs) := by
 have := AVal.ind (p := fun v => ∀ x, VR ρ w F B v x → VR ρ' w' F' B' (v.mp f) x) (q := fun l => ∀ vs, VRs ρ w F B l vs → VRs ρ' w' F' B' (AVal.mpl f l) vs)
  (fun v hv x hx => by rw [AVal.mp_leaf hv]; exact h v x hv hx)
  (fun l ih x hx => by simp only [VR] at hx; obtain ⟨cs, h1, h2⟩ := hx; simp only [AVal.mp, VR]; exact ⟨cs, h1, ih _ h2⟩)
  (fun l ih x hx => by simp only [VR] at hx; obtain ⟨cs, h1, h2⟩ := hx; simp only [AVal.mp, VR]; exact ⟨cs, h1, ih _ h2⟩)
  (fun g l ih x hx => by simp only [VR] at hx; obtain ⟨cs, h1, h2⟩ := hx; simp only [AVal.mp, VR]; exact ⟨cs, h1, ih _ h2⟩)
  (fun t v ih x hx => by simp only [VR] at hx; obtain ⟨u, h1, h2⟩ := hx; simp only [AVal.mp, VR]; exact ⟨u, h1, ih _ h2⟩)
  (fun vs hx => by cases vs <;> simp_all [VRs, AVal.mpl])
  (fun a l iha ihl vs hx => by cases vs <;> simp_all [VRs, AVal.mpl])
 exact ⟨this.1, this.2⟩

def blk : Value → Option Nat
 | .pointer (some a) => some a.block
 | .slice (some a) _ _ => some a.block
 | .map (some r) => some r
 | _ => none
def AObj.live : AObj → Bool
 | .dead => false
 | _ => true
abbrev Bx (F L : Nat → Prop) : Nat → Prop := fun b => F b ∨ L b
def OR (ρ : List Value) (w : World) (F B : Nat → Prop) (base : Value) : AObj → Prop
 | .box l => ∃ (b : Nat) (cs : Array Value) (ty : TypeId), base = .pointer (some ⟨b, 0, none⟩) ∧ w.heap[b]? = some (.cells cs ty (0, 0)) ∧ VRs ρ w F B l cs.toList
 | .arr e xs => (base = .slice none 0 0 ∧ xs = []) ∨ ∃ (b cap : Nat) (cs : Array Value) (ty : TypeId) (rows : Nat → List Value), base = .slice (some ⟨b, 0, none⟩) xs.length cap ∧ w.heap[b]? = some (.cells cs ty (0, 0)) ∧ xs.length ≤ cap ∧ cs.size = cap * e.sz ∧
   (∀ (i : Nat) (h : i < xs.length), Rd w F e xs[i] (rows i)) ∧ ∀ (i j : Nat) (v : Value), i < xs.length → (rows i)[j]? = some v → cs[i * e.sz + j]? = some v
 | .dead => True
def Own (ρ : List Value) (hp : List AObj) (b : Nat) : Prop := ∃ (n : Nat) (o : AObj) (v : Value), hp[n]? = some o ∧ o.live = true ∧ ρ[n]? = some v ∧ blk v = some b
structure RepH (ρ : List Value) (F L : Nat → Prop) (hp : List AObj) (w : World) : Prop where
 len : ρ.length = hp.length
 ob : ∀ (n : Nat) (o : AObj) (v : Value), hp[n]? = some o → ρ[n]? = some v → OR ρ w F (Bx F L) v o
 dist : ∀ (n m : Nat) (o o' : AObj) (v v' : Value) (b : Nat), hp[n]? = some o → hp[m]? = some o' → o.live = true → o'.live = true → ρ[n]? = some v → ρ[m]? = some v' → blk v = some b → blk v' = some b → n = m
 froz : ∀ b, Bx F L b → b < w.heap.size ∧ ¬ Own ρ hp b
structure Rep (ρ : List Value) (F L : Nat → Prop) (s : St) (a : Act) (w : World) : Prop where
 tm : VRs ρ w F (Bx F L) s.tm a.tmps.toList
 h : RepH ρ F L s.hp w
structure Ch (w w' : World) (S : Nat → Prop) : Prop where
 os : w'.os = w.os
 tape : w'.tape = w.tape
 output : w'.output = w.output
 size : w.heap.size ≤ w'.heap.size
 block : ∀ k, k < w.heap.size → ¬ S k → w'.heap[k]? = w.heap[k]?
theorem Ch.refl (w : World) (S : Nat → Prop) : Ch w w S := ⟨rfl, rfl, rfl, Nat.le_refl _, fun _ _ _ => rfl⟩
theorem Ch.trans {w w1 w2 : World} {S S' : Nat → Prop} (h : Ch w w1 S) (h' : Ch w1 w2 S') : Ch w w2 (fun k => S k ∨ S' k) :=
 ⟨h'.os.trans h.os, h'.tape.trans h.tape, h'.output.trans h.output, Nat.le_trans h.size h'.size, fun k hk hn => (h'.block k (Nat.lt_of_lt_of_le hk h.size) (fun x => hn (.inr x))).trans (h.block k hk (fun x => hn (.inl x)))⟩
theorem Ch.mono {w w1 : World} {S S' : Nat → Prop} (h : Ch w w1 S) (hs : ∀ k, S k → S' k) : Ch w w1 S' := ⟨h.os, h.tape, h.output, h.size, fun k hk hn => h.block k hk (fun x => hn (hs k x))⟩
theorem Ch.alloc (w : World) (o : Obj) (S : Nat → Prop) : Ch w (w.alloc o) S := ⟨rfl, rfl, rfl, by simp, fun k hk _ => Below.heap_alloc w o k hk⟩
theorem Ch.grown {w w' : World} {r : Option Nat} (h : w.grownBy w' r) : Ch w w' (fun k => r = some k) := ⟨h.os, h.tape, h.output, h.size, fun k hk hn => h.block k hk (fun e => hn e.symm)⟩
structure Stp (w0 : World) (O0 F0 : Nat → Prop) (w : World) (O F : Nat → Prop) : Prop where
 ch : Ch w0 w O0
 fF : ∀ b, F0 b → F b
 oO : ∀ b, O b → O0 b ∨ w0.heap.size ≤ b
 oF : ∀ b, F b → F0 b ∨ O0 b ∨ w0.heap.size ≤ b
theorem Stp.refl (w0 : World) (O0 F0 : Nat → Prop) : Stp w0 O0 F0 w0 O0 F0 := ⟨Ch.refl _ _, fun _ h => h, fun _ h => .inl h, fun _ h => .inl h⟩
theorem Stp.trans {w0 w1 w2 : World} {O0 F0 O1 F1 O2 F2 : Nat → Prop} (h : Stp w0 O0 F0 w1 O1 F1) (k : Stp w1 O1 F1 w2 O2 F2) : Stp w0 O0 F0 w2 O2 F2 := by
 refine ⟨⟨k.ch.os.trans h.ch.os, k.ch.tape.trans h.ch.tape, k.ch.output.trans h.ch.output, Nat.le_trans h.ch.size k.ch.size, fun b hb hn =>?_⟩, fun b hb => k.fF b (h.fF b hb), fun b hb =>?_, fun b hb =>?_⟩
 ·rw [k.ch.block b (Nat.lt_of_lt_of_le hb h.ch.size) (fun ho => (h.oO b ho).elim hn (fun hl => by omega)), h.ch.block b hb hn]
 ·rcases k.oO b hb with h1 | h1
  ·exact h.oO b h1
  ·exact .inr (Nat.le_trans h.ch.size h1)
 ·rcases k.oF b hb with h1 | h1 | h1
  ·exact h.oF b h1
  ·exact .inr (h.oO b h1)
  ·exact .inr (.inr (Nat.le_trans h.ch.size h1))

section
variable {ρ : List Value} {F L : Nat → Prop} {s : St} {a : Act} {w : World} {hp : List AObj}
theorem OR.mono {ρ' : List Value} {w' : World} {F' B B' : Nat → Prop} {v : Value} {o : AObj} (h : OR ρ w F B v o) (hρ : ∀ (n : Nat) (v : Value), ρ[n]? = some v → ρ'[n]? = some v) (hF : ∀ b, F b → w'.heap[b]? = w.heap[b]?) (hB : ∀ b, B b → w'.heap[b]? = w.heap[b]?) (hFF : ∀ b, F b → F' b) (hBB : ∀ b, B b → B' b)
  (hb : ∀ b, blk v = some b → w'.heap[b]? = w.heap[b]?) : OR ρ' w' F' B' v o := by
 cases o with
 | box l =>
  obtain ⟨b, cs, ty, rfl, h2, h3⟩ := h
  exact ⟨b, cs, ty, rfl, by rw [hb b rfl]; exact h2, (VR.mono hρ hF hB hFF hBB).2 _ _ h3⟩
 | arr e xs =>
  rcases h with h | ⟨b, cap, cs, ty, rows, rfl, h2, h3, h4, h5, h6⟩
  ·exact .inl h
  ·exact .inr ⟨b, cap, cs, ty, rows, rfl, by rw [hb b rfl]; exact h2, h3, h4, fun i hi => (h5 i hi).mono hF hFF, h6⟩
 | dead => trivial
theorem OR.blk_lt {B : Nat → Prop} {v : Value} {o : AObj} (h : OR ρ w F B v o) (hl : o.live = true) {b : Nat} (hb : blk v = some b) : b < w.heap.size := by
 have key : ∀ {c : Nat} {x : Obj}, w.heap[c]? = some x → c < w.heap.size := fun hx => (Array.getElem?_eq_some_iff.1 hx).1
 cases o with
 | box l =>
  obtain ⟨b', cs, ty, rfl, h2, h3⟩ := h
  simp only [blk, Option.some.injEq] at hb
  subst hb
  exact key h2
 | arr e xs =>
  rcases h with ⟨rfl, _⟩ | ⟨b', cap, cs, ty, rows, rfl, h2, h3, h4, h5, h6⟩
  ·simp [blk] at hb
  ·simp only [blk, Option.some.injEq] at hb
   subst hb
   exact key h2
 | dead => simp [AObj.live] at hl
theorem RepH.own_lt (h : RepH ρ F L hp w) {b : Nat} (ho : Own ρ hp b) : b < w.heap.size := by
 obtain ⟨n, o, v, h1, h2, h3, h4⟩ := ho
 exact (h.ob n o v h1 h3).blk_lt h2 h4
theorem RepH.at (h : RepH ρ F L hp w) {n : Nat} {o : AObj} (ho : hp[n]? = some o) : ∃ v, ρ[n]? = some v ∧ OR ρ w F (Bx F L) v o := by
 have : n < ρ.length := by rw [h.len]; exact (List.getElem?_eq_some_iff.1 ho).1
 exact ⟨ρ[n], List.getElem?_eq_getElem this, h.ob n o _ ho (List.getElem?_eq_getElem this)⟩
theorem RepH.still {w' : World} (h : RepH ρ F L hp w) (hc : Ch w w' (fun _ => False)) : RepH ρ F L hp w' := by
 have hB : ∀ b, Bx F L b → w'.heap[b]? = w.heap[b]? := fun b hb => hc.block b (h.froz b hb).1 (fun x => x)
 refine ⟨h.len, fun n o v h1 h2 =>?_, h.dist, fun b hb => ⟨Nat.lt_of_lt_of_le (h.froz b hb).1 hc.size, (h.froz b hb).2⟩⟩
 cases hl : o.live with
 | false => cases o <;> first | trivial | simp [AObj.live] at hl
 | true => exact (h.ob n o v h1 h2).mono (fun _ _ h => h) (fun b hb => hB b (.inl hb)) hB (fun _ h => h) (fun _ h => h) (fun b hb => hc.block b ((h.ob n o v h1 h2).blk_lt hl hb) (fun x => x))
theorem VRs.still {w' : World} {l : List AVal} {vs : List Value} (h : RepH ρ F L hp w) (hc : Ch w w' (fun k => Own ρ hp k)) (hv : VRs ρ w F (Bx F L) l vs) : VRs ρ w' F (Bx F L) l vs := by
 have hB : ∀ b, Bx F L b → w'.heap[b]? = w.heap[b]? := fun b hb => hc.block b (h.froz b hb).1 (h.froz b hb).2
 exact (VR.mono (fun _ _ h => h) (fun b hb => hB b (.inl hb)) hB (fun _ h => h) (fun _ h => h)).2 _ _ hv
theorem Rep.still {w' : World} (h : Rep ρ F L s a w) (hc : Ch w w' (fun _ => False)) : Rep ρ F L s a w' :=
 ⟨VRs.still h.h (hc.mono (fun _ h => h.elim)) h.tm, h.h.still hc⟩
theorem Rep.new {w' : World} {o : AObj} {v : Value} (h : Rep ρ F L s a w) (hc : Ch w w' (fun _ => False)) (ho : OR ρ w' F (Bx F L) v o) (hb : ∀ b, blk v = some b → w.heap.size ≤ b) :
  Rep (ρ ++ [v]) F L { s with hp := s.hp ++ [o] } a w' := by
 have h1 := h.still hc
 have hρ : ∀ (n : Nat) (u : Value), ρ[n]? = some u → (ρ ++ [v])[n]? = some u := fun n u hu => by rw [List.getElem?_append_left (List.getElem?_eq_some_iff.1 hu).1]; exact hu
 have key : ∀ (n : Nat) (o' : AObj) (u : Value), (s.hp ++ [o])[n]? = some o' → (ρ ++ [v])[n]? = some u → (s.hp[n]? = some o' ∧ ρ[n]? = some u) ∨ (n = s.hp.length ∧ o' = o ∧ u = v) := fun n o' u h2 h3 => by
  by_cases c : n < s.hp.length
  ·rw [List.getElem?_append_left c] at h2
   rw [List.getElem?_append_left (by rw [h.h.len]; exact c)] at h3
   exact .inl ⟨h2, h3⟩
  ·rw [List.getElem?_append_right (by omega)] at h2
   rw [List.getElem?_append_right (by rw [h.h.len]; omega)] at h3
   have hn : n - s.hp.length = 0 := by
    have := (List.getElem?_eq_some_iff.1 h2).1
    simp at this
    omega
   rw [hn] at h2
   rw [h.h.len, hn] at h3
   simp at h2 h3
   exact .inr ⟨by omega, h2.symm, h3.symm⟩
 have hown : ∀ b, Own (ρ ++ [v]) (s.hp ++ [o]) b → Own ρ s.hp b ∨ w.heap.size ≤ b := fun b ⟨n, o', u, h2, h3, h4, h5⟩ => by
  rcases key n o' u h2 h4 with ⟨k1, k2⟩ | ⟨_, _, k3⟩
  ·exact .inl ⟨n, o', u, k1, h3, k2, h5⟩
  ·exact .inr (hb b (k3 ▸ h5))
 have old : ∀ (n : Nat) (o' : AObj) (u : Value) (b : Nat), s.hp[n]? = some o' → o'.live = true → ρ[n]? = some u → blk u = some b → b < w.heap.size := fun n o' u b k1 k2 k3 k4 => (h.h.ob n o' u k1 k3).blk_lt k2 k4
 refine ⟨(VR.mono hρ (fun _ _ => rfl) (fun _ _ => rfl) (fun _ h => h) (fun _ h => h)).2 _ _ h1.tm, by simp [h.h.len], fun n o' u h2 h3 =>?_, fun n m o1 o2 v1 v2 b k1 k2 k3 k4 k5 k6 k7 k8 =>?_, fun b hbb =>?_⟩
 ·rcases key n o' u h2 h3 with ⟨k1, k2⟩ | ⟨_, rfl, rfl⟩
  ·exact (h1.h.ob n o' u k1 k2).mono hρ (fun _ _ => rfl) (fun _ _ => rfl) (fun _ h => h) (fun _ h => h) (fun _ _ => rfl)
  ·exact ho.mono hρ (fun _ _ => rfl) (fun _ _ => rfl) (fun _ h => h) (fun _ h => h) (fun _ _ => rfl)
 ·rcases key n o1 v1 k1 k5 with ⟨j1, j2⟩ | ⟨j1, rfl, rfl⟩ <;> rcases key m o2 v2 k2 k6 with ⟨i1, i2⟩ | ⟨i1, rfl, rfl⟩
  ·exact h.h.dist n m o1 o2 v1 v2 b j1 i1 k3 k4 j2 i2 k7 k8
  ·have := old n o1 v1 b j1 k3 j2 k7
   have := hb b k8
   omega
  ·have := old m o2 v2 b i1 k4 i2 k8
   have := hb b k7
   omega
  ·omega
 ·have := h.h.froz b hbb
  exact ⟨Nat.lt_of_lt_of_le this.1 hc.size, fun ho' => (hown b ho').elim this.2 (fun hl => by omega)⟩
theorem yE {o : AObj} {v : Value} (hlen : ρ.length = hp.length) (b : Nat) (h : Own (ρ ++ [v]) (hp ++ [o]) b) : Own ρ hp b ∨ blk v = some b := by
 obtain ⟨n, o', u, h2, h3, h4, h5⟩ := h
 by_cases c : n < hp.length
 ·rw [List.getElem?_append_left c] at h2
  rw [List.getElem?_append_left (by omega)] at h4
  exact .inl ⟨n, o', u, h2, h3, h4, h5⟩
 ·rw [List.getElem?_append_right (by omega)] at h2
  rw [List.getElem?_append_right (by omega)] at h4
  have hn : n - hp.length = 0 := by
   have := (List.getElem?_eq_some_iff.1 h2).1
   simp at this
   omega
  rw [hlen, hn] at h4
  simp at h4
  subst h4
  exact .inr h5
theorem Stp.new {w0 w' : World} {O0 F0 : Nat → Prop} {o : AObj} {v : Value} (h : Stp w0 O0 F0 w (Own ρ hp) F) (hlen : ρ.length = hp.length) (hc : Ch w w' (fun _ => False)) (hb : ∀ b, blk v = some b → w.heap.size ≤ b) :
  Stp w0 O0 F0 w' (Own (ρ ++ [v]) (hp ++ [o])) F :=
 h.trans ⟨hc.mono (fun _ h => h.elim), fun _ h => h, fun b hb' => (yE hlen b hb').imp id (hb b), fun _ h => .inl h⟩
theorem Stp.still {w0 w' : World} {O0 F0 O : Nat → Prop} (h : Stp w0 O0 F0 w O F) (hc : Ch w w' (fun _ => False)) : Stp w0 O0 F0 w' O F :=
 h.trans ⟨hc.mono (fun _ h => h.elim), fun _ h => h, fun _ h => .inl h, fun _ h => .inl h⟩
theorem Rep.set {w' : World} {n : Nat} {o o' : AObj} {v : Value} (h : Rep ρ F L s a w) (hn : s.hp[n]? = some o) (hv : ρ[n]? = some v) (hl : o.live = true) (hc : Ch w w' (fun k => blk v = some k)) (ho : OR ρ w' F (Bx F L) v o') :
  Rep ρ F L { s with hp := s.hp.set n o' } a w' := by
 have hc' : Ch w w' (fun k => Own ρ s.hp k) := hc.mono (fun k hk => ⟨n, o, v, hn, hl, hv, hk⟩)
 have hB : ∀ b, Bx F L b → w'.heap[b]? = w.heap[b]? := fun b hb => hc'.block b (h.h.froz b hb).1 (h.h.froz b hb).2
 have key : ∀ (m : Nat) (x : AObj), (s.hp.set n o')[m]? = some x → (m = n ∧ x = o') ∨ (m ≠ n ∧ s.hp[m]? = some x) := fun m x hx => by
  rw [List.getElem?_set] at hx
  by_cases c : n = m
  ·rw [if_pos c] at hx
   split at hx
   ·cases hx
    exact .inl ⟨c.symm, rfl⟩
   ·cases hx
  ·rw [if_neg c] at hx
   exact .inr ⟨fun e => c e.symm, hx⟩
 have lv : ∀ (m : Nat) (x : AObj), (s.hp.set n o')[m]? = some x → x.live = true → ∃ y, s.hp[m]? = some y ∧ y.live = true := fun m x hx hxl => by
  rcases key m x hx with ⟨rfl, rfl⟩ | ⟨_, k⟩
  ·exact ⟨o, hn, hl⟩
  ·exact ⟨x, k, hxl⟩
 refine ⟨VRs.still h.h hc' h.tm, by simp [h.h.len], fun m x u k1 k2 =>?_, fun m m' o1 o2 v1 v2 b k1 k2 k3 k4 k5 k6 k7 k8 =>?_, fun b hb => ⟨Nat.lt_of_lt_of_le (h.h.froz b hb).1 hc.size, fun ⟨m, x, u, j1, j2, j3, j4⟩ =>?_⟩⟩
 ·rcases key m x k1 with ⟨rfl, rfl⟩ | ⟨c, k⟩
  ·rw [hv] at k2
   cases k2
   exact ho
  ·cases hxl : x.live with
   | false => cases x <;> first | trivial | simp [AObj.live] at hxl
   | true =>
    refine (h.h.ob m x u k k2).mono (fun _ _ h => h) (fun b hb => hB b (.inl hb)) hB (fun _ h => h) (fun _ h => h) (fun b hb => hc.block b ((h.h.ob m x u k k2).blk_lt hxl hb) (fun e => c ?_))
    exact h.h.dist m n x o u v b k hn hxl hl k2 hv hb e
 ·obtain ⟨y1, z1, z2⟩ := lv m o1 k1 k3
  obtain ⟨y2, z3, z4⟩ := lv m' o2 k2 k4
  exact h.h.dist m m' y1 y2 v1 v2 b z1 z3 z2 z4 k5 k6 k7 k8
 ·obtain ⟨y, z1, z2⟩ := lv m x j1 j2
  exact (h.h.froz b hb).2 ⟨m, y, u, z1, z2, j3, j4⟩
theorem bHg {n : Nat} {o o' : AObj} (hn : hp[n]? = some o) (hl : o.live = true) (b : Nat) (h : Own ρ (hp.set n o') b) : Own ρ hp b := by
 obtain ⟨m, x, u, j1, j2, j3, j4⟩ := h
 rw [List.getElem?_set] at j1
 by_cases c : n = m
 ·subst c
  exact ⟨n, o, u, hn, hl, j3, j4⟩
 ·rw [if_neg c] at j1
  exact ⟨m, x, u, j1, j2, j3, j4⟩
theorem Stp.set {w0 w' : World} {O0 F0 : Nat → Prop} {n : Nat} {o o' : AObj} {v : Value} (h : Stp w0 O0 F0 w (Own ρ hp) F) (hn : hp[n]? = some o) (hv : ρ[n]? = some v) (hl : o.live = true) (hc : Ch w w' (fun k => blk v = some k)) :
  Stp w0 O0 F0 w' (Own ρ (hp.set n o')) F :=
 h.trans ⟨hc.mono (fun k hk => ⟨n, o, v, hn, hl, hv, hk⟩), fun _ h => h, fun b hb => .inl (bHg hn hl b hb), fun _ h => .inl h⟩
theorem Rep.put (h : Rep ρ F L s a w) (d : Option Tmp) {x : AVal} {v : Value} (hx : VR ρ w F (Bx F L) x v) : Rep ρ F L { s with tm := match d with | some t => s.tm.set t x | none => s.tm } (a.put d v) w := by
 cases d with
 | none => exact h
 | some t => exact ⟨by simp only [Act.put, Array.toList_setIfInBounds]; exact h.tm.set t hx, h.h⟩
end
end Go.Ax
