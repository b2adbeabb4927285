/- Merged. -/
import Derived.Test.YthcfkplfmjcmoaaGreatDoorQ07
namespace Go.Ax
open Go.RowKit
set_option linter.unusedVariables false
set_option linter.unusedSimpArgs false
section
variable {P : Program} {gl : Glb} {kd : TypeId → Option EK} {ρ : List Value} {F L B : Nat → Prop} {s : St} {a : Act} {w : World}
theorem qL (o : AObj) (f : AVal → AVal) : (o.mp f).live = o.live := by cases o <;> rfl
def pR (ρ : List Value) (ns : List Nat) : List Value := ns.map fun n => ρ.getD n undef
def vS (hp : List AObj) (ns : List Nat) : List AObj := ns.map fun n => (hp.getD n .dead).mp (sI (idxN ns))
theorem nC {ns : List Nat} (hl : ∀ n ∈ ns, n < ρ.length) {i : Nat} {v : Value} : (pR ρ ns)[i]? = some v ↔ ∃ n, ns[i]? = some n ∧ ρ[n]? = some v := by
 simp only [pR, List.getElem?_map, Option.map_eq_some_iff]
 constructor
 ·rintro ⟨n, h1, h2⟩
  have := hl n (List.mem_of_getElem? h1)
  rw [List.getD_eq_getElem?_getD, List.getElem?_eq_getElem this] at h2
  exact ⟨n, h1, by rw [List.getElem?_eq_getElem this]; simpa using h2⟩
 ·rintro ⟨n, h1, h2⟩
  exact ⟨n, h1, by rw [List.getD_eq_getElem?_getD, h2]; rfl⟩
theorem yG {hp : List AObj} {ns : List Nat} (hl : ∀ n ∈ ns, n < hp.length) {i : Nat} {o : AObj} (h : (vS hp ns)[i]? = some o) : ∃ n o0, ns[i]? = some n ∧ hp[n]? = some o0 ∧ o = o0.mp (sI (idxN ns)) := by
 simp only [vS, List.getElem?_map, Option.map_eq_some_iff] at h
 obtain ⟨n, h1, rfl⟩ := h
 have := hl n (List.mem_of_getElem? h1)
 exact ⟨n, hp[n], h1, List.getElem?_eq_getElem this, by rw [List.getD_eq_getElem?_getD, List.getElem?_eq_getElem this]; rfl⟩
theorem sS {hp : List AObj} {ns : List Nat} (h1 : ∀ n ∈ ns, n < ρ.length) (h2 : ∀ n ∈ ns, n < hp.length) {b : Nat} (h : Own (pR ρ ns) (vS hp ns) b) : ∃ (n : Nat) (o : AObj) (v : Value), n ∈ ns ∧ hp[n]? = some o ∧ o.live = true ∧ ρ[n]? = some v ∧ blk v = some b := by
 obtain ⟨i, o, v, k1, k2, k3, k4⟩ := h
 obtain ⟨n, o0, k5, k6, rfl⟩ := yG h2 k1
 obtain ⟨m, k7, k8⟩ := (nC h1).1 k3
 rw [k5] at k7
 cases k7
 exact ⟨n, o0, v, List.mem_of_getElem? k5, k6, by rwa [qL] at k2, k8, k4⟩
theorem aBx {ns : List Nat} (hl : ∀ n ∈ ns, n < ρ.length) {m i : Nat} {u : Value} (h : idxN ns m = some i) (hu : ρ[m]? = some u) : (pR ρ ns)[i]? = some u := (nC hl).2 ⟨m, aEl h, hu⟩
theorem aUj (hR : Rep ρ F L s a w) {ns : List Nat} (hl : ∀ n ∈ ns, n < s.hp.length) (hn : iD ns = true) {L' : Nat → Prop} (hL : ∀ b, L b → L' b)
  (hlent : ∀ b, L' b → L b ∨ ∃ (n : Nat) (o : AObj) (v : Value), n ∉ ns ∧ s.hp[n]? = some o ∧ o.live = true ∧ ρ[n]? = some v ∧ blk v = some b) : RepH (pR ρ ns) F L' (vS s.hp ns) w := by
 have hl' : ∀ n ∈ ns, n < ρ.length := fun n h => by rw [hR.h.len]; exact hl n h
 have hBB : ∀ b, Bx F L b → Bx F L' b := fun b hb => hb.imp id (hL b)
 refine ⟨by simp [pR, vS], fun i o v h1 h2 =>?_, fun i j o o' v v' b h1 h2 h3 h4 h5 h6 h7 h8 =>?_, fun b hb =>?_⟩
 ·obtain ⟨n, o0, k1, k2, rfl⟩ := yG hl h1
  obtain ⟨m, k3, k4⟩ := (nC hl').1 h2
  rw [k1] at k3
  cases k3
  exact (hR.h.ob n o0 v k2 k4).mp (fun x y hx hy => oD hx hy hBB (fun m m' u _ hg hu => aBx hl' hg hu)) (fun _ _ => rfl) (fun _ h => h) (fun _ _ => rfl)
 ·obtain ⟨n, o0, k1, k2, rfl⟩ := yG hl h1
  obtain ⟨m, o1, k3, k4, rfl⟩ := yG hl h2
  obtain ⟨n', j1, j2⟩ := (nC hl').1 h5
  obtain ⟨m', j3, j4⟩ := (nC hl').1 h6
  rw [k1] at j1
  rw [k3] at j3
  cases j1
  cases j3
  rw [qL] at h3 h4
  have := hR.h.dist n m o0 o1 v v' b k2 k4 h3 h4 j2 j4 h7 h8
  subst this
  exact vQ hn k1 k3
 ·have old : b < w.heap.size ∧ ¬ Own (pR ρ ns) (vS s.hp ns) b ∨ ∃ (n : Nat) (o : AObj) (v : Value), n ∉ ns ∧ s.hp[n]? = some o ∧ o.live = true ∧ ρ[n]? = some v ∧ blk v = some b := by
   have key : Bx F L b → b < w.heap.size ∧ ¬ Own (pR ρ ns) (vS s.hp ns) b := fun hb => ⟨(hR.h.froz b hb).1, fun ho => by
    obtain ⟨n, o, v, _, k2, k3, k4, k5⟩ := sS hl' hl ho
    exact (hR.h.froz b hb).2 ⟨n, o, v, k2, k3, k4, k5⟩⟩
   rcases hb with hb | hb
   ·exact .inl (key (.inl hb))
   ·exact (hlent b hb).imp (fun h => key (.inr h)) id
  rcases old with h | ⟨n, o, v, k1, k2, k3, k4, k5⟩
  ·exact h
  ·refine ⟨(hR.h.ob n o v k2 k4).blk_lt k3 k5, fun ho =>?_⟩
   obtain ⟨m, o', v', j1, j2, j3, j4, j5⟩ := sS hl' hl ho
   exact k1 (hR.h.dist n m o o' v v' b k2 j2 k3 j3 k4 j4 k5 j5 ▸ j1)

def fwV (k : Nat) (ns : List Nat) (v : AVal) : AVal := strV (sI (fwd k ns) v)
theorem bHj {k : Nat} {ns : List Nat} (hl : ∀ n ∈ ns, n < k) (hn : iD ns = true) {i j n : Nat} (hi : fwd k ns i = some n) (hj : fwd k ns j = some n) : i = j := by
 unfold fwd at hi hj
 split at hi <;> split at hj
 ·exact vQ hn hi hj
 ·have := hl n (List.mem_of_getElem? hi)
  simp only [Option.some.injEq] at hj
  omega
 ·have := hl n (List.mem_of_getElem? hj)
  simp only [Option.some.injEq] at hi
  omega
 ·simp only [Option.some.injEq] at hi hj
  omega
def lZ (ρ : List Value) (ns : List Nat) (ρ' : List Value) : List Value := lY ρ ns ρ' ++ ρ'.drop ns.length
theorem bBx {α : Type} {l : List α} {ns : List Nat} {xs : List α} (hl : ∀ n ∈ ns, n < l.length) (hn : iD ns = true) {i n : Nat} {x : α} (hi : fwd l.length ns i = some n) (hx : xs[i]? = some x) : (lY l ns xs ++ xs.drop ns.length)[n]? = some x := by
 unfold fwd at hi
 split at hi
 ·have := hl n (List.mem_of_getElem? hi)
  rw [List.getElem?_append_left (by rw [bL]; exact this)]
  exact vR hn hi hx this
 ·simp only [Option.some.injEq] at hi
  subst hi
  rw [List.getElem?_append_right (by rw [bL]; omega), bL, List.getElem?_drop]
  rw [show ns.length + (l.length + (i - ns.length) - l.length) = i by omega]
  exact hx
theorem aBy {α : Type} {l : List α} {ns : List Nat} {xs : List α} (hl : ∀ n ∈ ns, n < l.length) (hn : iD ns = true) (hlen : ns.length ≤ xs.length) {n : Nat} {x : α} (h : (lY l ns xs ++ xs.drop ns.length)[n]? = some x) :
  (n ∉ ns ∧ l[n]? = some x) ∨ ∃ i, fwd l.length ns i = some n ∧ xs[i]? = some x := by
 by_cases c : n < l.length
 ·rw [List.getElem?_append_left (by rw [bL]; exact c)] at h
  by_cases d : n ∈ ns
  ·obtain ⟨i, hi⟩ := List.mem_iff_getElem?.1 d
   have hi' : i < ns.length := (List.getElem?_eq_some_iff.1 hi).1
   have hx : xs[i]? = some xs[i] := List.getElem?_eq_getElem (by omega)
   rw [vR hn hi hx c] at h
   cases h
   exact .inr ⟨i, by unfold fwd; rw [if_pos hi']; exact hi, hx⟩
  ·rw [nP ns l xs d] at h
   exact .inl ⟨d, h⟩
 ·rw [List.getElem?_append_right (by rw [bL]; omega), bL, List.getElem?_drop] at h
  exact .inr ⟨ns.length + (n - l.length), by simp [fwd]; omega, h⟩
theorem aOq (hR : Rep ρ F L s a w) {ns : List Nat} (hl : ∀ n ∈ ns, n < s.hp.length) (hn : iD ns = true) {L' : Nat → Prop} (hL : ∀ b, L b → L' b) (hC : RepH (pR ρ ns) F L' (vS s.hp ns) w)
  {ρ' : List Value} {F' : Nat → Prop} {w' : World} {h' : List AObj} {fx : List Nat} (hfx : ∀ i ∈ fx, ρ'[i]? = (pR ρ ns)[i]?) (hlen : ns.length ≤ h'.length) (hR' : RepH ρ' F' L' h' w') (hS : Stp w (Own (pR ρ ns) (vS s.hp ns)) F w' (Own ρ' h') F') (hK : PK (pR ρ ns) ρ') :
  Rep (lZ ρ ns ρ') F' L (after s ns fx h') a w' ∧ Stp w (Own ρ s.hp) F w' (Own (lZ ρ ns ρ') (after s ns fx h').hp) F' ∧ PK ρ (lZ ρ ns ρ') ∧ Ch w w' (fun b => ∃ n ∈ ns, ∃ x, ρ[n]? = some x ∧ blk x = some b) ∧
   NK ρ (lZ ρ ns ρ') s.hp (after s ns fx h').hp w (fun n => n ∈ ns) ∧ ∀ v x, VR ρ' w' F' (Bx F' L') v x → VR (lZ ρ ns ρ') w' F' (Bx F' L) (v.mp (fwV s.hp.length ns)) x := by
 have hl' : ∀ n ∈ ns, n < ρ.length := fun n h => by rw [hR.h.len]; exact hl n h
 have hlen' : ns.length ≤ ρ'.length := by rw [hR'.len]; exact hlen
 have ownC : ∀ b, Own (pR ρ ns) (vS s.hp ns) b → ∃ (n : Nat) (o : AObj) (v : Value), n ∈ ns ∧ s.hp[n]? = some o ∧ o.live = true ∧ ρ[n]? = some v ∧ blk v = some b := fun b h => sS hl' hl h
 have ownO : ∀ b, Own (pR ρ ns) (vS s.hp ns) b → Own ρ s.hp b := fun b h => by
  obtain ⟨n, o, v, _, k2, k3, k4, k5⟩ := ownC b h
  exact ⟨n, o, v, k2, k3, k4, k5⟩
 have hch : Ch w w' (fun k => Own ρ s.hp k) := hS.ch.mono (fun k hk => ownO k hk)
 have hB : ∀ b, Bx F L b → w'.heap[b]? = w.heap[b]? := fun b hb => hch.block b (hR.h.froz b hb).1 (hR.h.froz b hb).2
 have hBB : ∀ b, Bx F L b → Bx F' L b := fun b hb => hb.imp (hS.fF b) id
 have hfw : ∀ {i n : Nat} {u : Value}, fwd s.hp.length ns i = some n → ρ'[i]? = some u → (lZ ρ ns ρ')[n]? = some u := fun h1 h2 => bBx hl' hn (by rw [hR.h.len]; exact h1) h2
 have hpk : PK ρ (lZ ρ ns ρ') := fun n x hx => by
  have hlt := (List.getElem?_eq_some_iff.1 hx).1
  by_cases d : n ∈ ns
  ·obtain ⟨i, hi⟩ := List.mem_iff_getElem?.1 d
   have hi' : i < ns.length := (List.getElem?_eq_some_iff.1 hi).1
   exact hfw (by unfold fwd; rw [if_pos hi']; exact hi) (hK i x ((nC hl').2 ⟨n, hi, hx⟩))
  ·unfold lZ
   rw [List.getElem?_append_left (by rw [bL]; exact hlt), nP ns ρ ρ' d]
   exact hx
 have hkil : ∀ v x, v.isLeaf = true → VR ρ w F (Bx F L) v x → VR (lZ ρ ns ρ') w' F' (Bx F' L) (aBv (kilN s ns fx) v) x := fun v x hv hx =>
  aJg hv hx (fun b hb => hB b (.inl hb)) hB hS.fF hBB (fun m u hm _ hu => by
   have hlt := (List.getElem?_eq_some_iff.1 hu).1
   by_cases d : m ∈ ns
   ·by_cases hfm : (fx.filterMap fun i => ns[i]?).contains m = true
    ·obtain ⟨i, hi, hi2⟩ := List.mem_filterMap.1 (List.contains_iff_mem.1 hfm)
     have hi' : i < ns.length := (List.getElem?_eq_some_iff.1 hi2).1
     refine hfw (i := i) (by unfold fwd; rw [if_pos hi']; exact hi2) ?_
     rw [hfx i hi]
     exact (nC hl').2 ⟨m, hi2, hu⟩
    have hbx : (s.hp.getD m .dead).isBox = true := by
     cases hb : (s.hp.getD m .dead).isBox with
     | true => rfl
     | false => exact absurd (List.mem_filter.2 ⟨d, by show (!(s.hp.getD m .dead).isBox && !(fx.filterMap fun i => ns[i]?).contains m) = true; rw [hb, Bool.eq_false_iff.2 hfm]; rfl⟩) hm
    have hml : m < s.hp.length := hl m d
    rw [List.getD_eq_getElem?_getD, List.getElem?_eq_getElem hml] at hbx
    have hob := hR.h.ob m _ u (List.getElem?_eq_getElem hml) hu
    simp only [Option.getD_some] at hbx
    cases ho : s.hp[m] with
    | box l =>
     rw [ho] at hob
     obtain ⟨b, cs, ty, rfl, _, _⟩ := hob
     exact hpk m _ hu
    | arr e xs => rw [ho] at hbx; simp [AObj.isBox] at hbx
    | dead => rw [ho] at hbx; simp [AObj.isBox] at hbx
   ·unfold lZ
    rw [List.getElem?_append_left (by rw [bL]; exact hlt), nP ns ρ ρ' d]
    exact hu)
 have hfv : ∀ v x, v.isLeaf = true → VR ρ' w' F' (Bx F' L') v x → VR (lZ ρ ns ρ') w' F' (Bx F' L) (fwV s.hp.length ns v) x := fun v x hv hx =>
  VR.noB (aWt hv) (oD (B' := Bx F' L') hv hx (fun _ h => h) (fun m m' u _ h1 h2 => hfw h1 h2))
 -- the objects
 have kobj : ∀ (n : Nat) (o : AObj) (v : Value), (after s ns fx h').hp[n]? = some o → (lZ ρ ns ρ')[n]? = some v →
   (n ∉ ns ∧ (∃ o0, s.hp[n]? = some o0 ∧ o = o0.mp (aBv (kilN s ns fx))) ∧ ρ[n]? = some v) ∨ ∃ i o1, fwd s.hp.length ns i = some n ∧ h'[i]? = some o1 ∧ o = o1.mp (fwV s.hp.length ns) ∧ ρ'[i]? = some v := fun n o v ho hv => by
  unfold after at ho
  simp only [← List.map_drop] at ho
  have hl2 : ∀ n ∈ ns, n < (s.mp (aBv (kilN s ns fx))).hp.length := fun n h => by simpa [St.mp] using hl n h
  rw [List.map_drop] at ho
  rcases aBy hl2 hn (by simpa using hlen) ho with ⟨k1, k2⟩ | ⟨i, k1, k2⟩ <;> rcases aBy hl' hn hlen' hv with ⟨j1, j2⟩ | ⟨j, j1, j2⟩
  ·left
   simp only [St.mp, List.getElem?_map, Option.map_eq_some_iff] at k2
   obtain ⟨o0, k2, rfl⟩ := k2
   exact ⟨k1, ⟨o0, k2, rfl⟩, j2⟩
  ·exfalso
   have h1 := (List.getElem?_eq_some_iff.1 k2).1
   simp [St.mp] at h1
   unfold fwd at j1
   split at j1
   ·exact k1 (List.mem_of_getElem? j1)
   ·simp only [Option.some.injEq] at j1
    have := hR.h.len
    omega
  ·exfalso
   have h1 := (List.getElem?_eq_some_iff.1 j2).1
   unfold fwd at k1
   split at k1
   ·exact j1 (List.mem_of_getElem? k1)
   ·simp [St.mp] at k1
    have := hR.h.len
    omega
  ·right
   have e1 : (s.mp (aBv (kilN s ns fx))).hp.length = s.hp.length := by simp [St.mp]
   rw [e1] at k1
   rw [hR.h.len] at j1
   have := bHj hl hn k1 j1
   subst this
   simp only [List.getElem?_map, Option.map_eq_some_iff] at k2
   obtain ⟨o1, k2, rfl⟩ := k2
   exact ⟨i, o1, k1, k2, rfl, j2⟩
 have own : ∀ b, Own (lZ ρ ns ρ') (after s ns fx h').hp b → (∃ (n : Nat) (o : AObj) (v : Value), n ∉ ns ∧ s.hp[n]? = some o ∧ o.live = true ∧ ρ[n]? = some v ∧ blk v = some b) ∨ Own ρ' h' b := fun b ⟨n, o, v, k1, k2, k3, k4⟩ => by
  rcases kobj n o v k1 k3 with ⟨i1, ⟨o0, i2, rfl⟩, i3⟩ | ⟨i, o1, i1, i2, rfl, i3⟩
  ·exact .inl ⟨n, o0, v, i1, i2, by rwa [qL] at k2, i3, k4⟩
  ·exact .inr ⟨i, o1, v, i2, by rwa [qL] at k2, i3, k4⟩
 have noC : ∀ {n : Nat} {o : AObj} {v : Value} {b : Nat}, n ∉ ns → s.hp[n]? = some o → o.live = true → ρ[n]? = some v → blk v = some b → ¬ Own (pR ρ ns) (vS s.hp ns) b := fun {n o v b} k1 k2 k3 k4 k5 hh => by
  obtain ⟨m, o', v', j1, j2, j3, j4, j5⟩ := ownC b hh
  exact k1 (hR.h.dist n m o o' v v' b k2 j2 k3 j3 k4 j4 k5 j5 ▸ j1)
 have noB : ∀ {n : Nat} {o : AObj} {v : Value} {b : Nat}, n ∉ ns → s.hp[n]? = some o → o.live = true → ρ[n]? = some v → blk v = some b → ¬ Own ρ' h' b := fun {n o v b} k1 k2 k3 k4 k5 hh => by
  have := (hR.h.ob n o v k2 k4).blk_lt k3 k5
  rcases hS.oO b hh with h1 | h1
  ·exact noC k1 k2 k3 k4 k5 h1
  ·omega
 refine ⟨⟨?_, ⟨?_, fun n o v h1 h2 =>?_, fun n m o o' v v' b h1 h2 h3 h4 h5 h6 h7 h8 =>?_, fun b hb =>?_⟩⟩, ⟨hch, hS.fF, fun b hb =>?_, fun b hb =>?_⟩, hpk, ?_, fun n x o b k1 k2 k3 k4 k5 =>?_, fun v x hx => (VR.mp hfv).1 v x hx⟩
 ·exact (VR.mp hkil).2 _ _ hR.tm
 ·simp [lZ, after, bL, St.mp, hR.h.len, hR'.len]
 ·rcases kobj n o v h1 h2 with ⟨i1, ⟨o0, i2, rfl⟩, i3⟩ | ⟨i, o1, i1, i2, rfl, i3⟩
  ·cases hlv : o0.live with
   | false => cases o0 <;> first | trivial | simp [AObj.live] at hlv
   | true =>
    refine (hR.h.ob n o0 v i2 i3).mp hkil (fun b hb => hB b (.inl hb)) hS.fF (fun b hb => hS.ch.block b ((hR.h.ob n o0 v i2 i3).blk_lt hlv hb) (noC i1 i2 hlv i3 hb))
  ·exact (hR'.ob i o1 v i2 i3).mp hfv (fun _ _ => rfl) (fun _ h => h) (fun _ _ => rfl)
 ·rcases kobj n o v h1 h5 with ⟨i1, ⟨o0, i2, rfl⟩, i3⟩ | ⟨i, o1, i1, i2, rfl, i3⟩ <;> rcases kobj m o' v' h2 h6 with ⟨j1, ⟨p0, j2, rfl⟩, j3⟩ | ⟨j, p1, j1, j2, rfl, j3⟩ <;> rw [qL] at h3 h4
  ·exact hR.h.dist n m o0 p0 v v' b i2 j2 h3 h4 i3 j3 h7 h8
  ·exact absurd ⟨j, p1, v', j2, h4, j3, h8⟩ (noB i1 i2 h3 i3 h7)
  ·exact absurd ⟨i, o1, v, i2, h3, i3, h7⟩ (noB j1 j2 h4 j3 h8)
  ·have := hR'.dist i j o1 p1 v v' b i2 j2 h3 h4 i3 j3 h7 h8
   subst this
   rw [i1] at j1
   cases j1
   rfl
 ·refine ⟨?_, fun ho =>?_⟩
  ·rcases hb with hb | hb
   ·exact (hR'.froz b (.inl hb)).1
   ·exact Nat.lt_of_lt_of_le (hR.h.froz b (.inr hb)).1 hS.ch.size
  ·rcases own b ho with ⟨n, o, v, k1, k2, k3, k4, k5⟩ | h1
   ·rcases hb with hb | hb
    ·rcases hS.oF b hb with h1 | h1 | h1
     ·exact (hR.h.froz b (.inl h1)).2 ⟨n, o, v, k2, k3, k4, k5⟩
     ·exact noC k1 k2 k3 k4 k5 h1
     ·have := (hR.h.ob n o v k2 k4).blk_lt k3 k5
      omega
    ·exact (hR.h.froz b (.inr hb)).2 ⟨n, o, v, k2, k3, k4, k5⟩
   ·exact (hR'.froz b (hb.imp id (hL b))).2 h1
 ·rcases own b hb with ⟨n, o, v, k1, k2, k3, k4, k5⟩ | h1
  ·exact .inl ⟨n, o, v, k2, k3, k4, k5⟩
  ·exact (hS.oO b h1).imp (ownO b) id
 ·exact (hS.oF b hb).imp id (fun h => h.imp (ownO b) id)
 ·exact hS.ch.mono (fun b hb => by
   obtain ⟨n, o, v, k1, k2, k3, k4, k5⟩ := ownC b hb
   exact ⟨n, k1, v, k4, k5⟩)
 ·rcases kobj n o x k2 k1 with ⟨i1, ⟨o0, i2, rfl⟩, i3⟩ | ⟨i, o1, i1, i2, rfl, i3⟩ <;> rw [qL] at k3
  ·exact ⟨n, x, o0, i3, i2, k3, k4, .inl rfl⟩
  ·rcases hS.oO b ⟨i, o1, x, i2, k3, i3, k4⟩ with h1 | h1
   ·obtain ⟨m, o', v', j1, j2, j3, j4, j5⟩ := ownC b h1
    exact ⟨m, v', o', j4, j2, j3, j5, .inr j1⟩
   ·omega

def AOut.mp (f : AVal → AVal) : AOut → AOut
 | .ret v => .ret (v.mp f)
 | .pan v => .pan (v.mp f)
theorem xC {W : (Ending → World → Prop) → Prop} (hW : ∀ R R' : Ending → World → Prop, W R → (∀ e w', R e w' → R' e w') → W R') {C : Con} {vs : Array Value} (hS : ∀ (as : List AVal) (h : List AObj) (x : C.X) (y : C.Y), C.dec as h = some x → C.spec x = some y → ∀ (ρ : List Value) (F L : Nat → Prop), RepH ρ F L h w → VRs ρ w F (Bx F L) as vs.toList → Glo gl w F →
  W fun e w' => ∃ ρ' F', yC (C.out y).1 e ρ' w' F' (Bx F' L) ∧ RepH ρ' F' L (C.out y).2 w' ∧ Stp w (Own ρ h) F w' (Own ρ' (C.out y).2) F' ∧ PK ρ ρ' ∧ ∀ i ∈ C.fix, ρ'[i]? = ρ[i]?) (hR : Rep ρ F L s a w) (hg : Glo gl w F) {as : List AVal} (hv : VRs ρ w F (Bx F L) as vs.toList) {p : St × List Nat × C.X} (hp : prep C as s = some p) {y : C.Y} (hy : C.spec p.2.2 = some y) (hlen : p.2.1.length ≤ (C.out y).2.length) :
  W fun e w' => ∃ ρ' F', yC ((C.out y).1.mp (fwV p.1.hp.length p.2.1)) e ρ' w' F' (Bx F' L) ∧ Rep ρ' F' L (after p.1 p.2.1 C.fix (C.out y).2) a w' ∧ Stp w (Own ρ s.hp) F w' (Own ρ' (after p.1 p.2.1 C.fix (C.out y).2).hp) F' ∧ PK ρ ρ' ∧
   Ch w w' (fun b => ∃ n ∈ p.2.1, ∃ x, ρ[n]? = some x ∧ blk x = some b) ∧ NK ρ ρ' s.hp (after p.1 p.2.1 C.fix (C.out y).2).hp w (fun n => n ∈ p.2.1) := by
 have hlv := yF (aBu C.modes as) (.tup as) s
 unfold prep at hp
 obtain ⟨F1, g1, g2, g3⟩ := iB (aBu C.modes as) hR (v := .tup as) (x := .tuple vs) (by simp only [VR]; exact ⟨vs, rfl, hv⟩)
 obtain ⟨as0, g4⟩ := sQ (aBu C.modes as) as s
 rw [g4] at g3
 simp only [VR, Value.tuple.injEq] at g3
 obtain ⟨cs, rfl, g5⟩ := g3
 dsimp only at hp
 rw [g4] at hp
 rw [show (AVal.tup as0).untup = as0 from rfl] at hp
 obtain ⟨as1, h1, hp⟩ := Option.bind_eq_some_iff.1 hp
 revert hp
 generalize hs2 : (pK (aBu C.modes as) (.tup as) s).2 = s2 at *
 generalize hns : aEh s2.hp 64 (AVal.nmsL as1) [] = ns
 intro hp
 cases hc : ((ns.all fun n => decide (n < s2.hp.length)) && iD ns && (kJ C.modes as0).all fun n => !ns.contains n) with
 | true =>
  rw [hc] at hp
  simp only [if_true] at hp
  simp only [Bool.and_eq_true, List.all_eq_true, decide_eq_true_eq, Bool.not_eq_true'] at hc
  obtain ⟨⟨c1, c2⟩, c3⟩ := hc
  obtain ⟨x, h2, rfl⟩ := Option.map_eq_some_iff.1 hp
  dsimp only at hy hlen ⊢
  have c3' : ∀ n ∈ kJ C.modes as0, n ∉ ns := fun n hn hm => by
   have := c3 n hn
   simp at this
   exact this hm
  let L' : Nat → Prop := fun b => L b ∨ ∃ (n : Nat) (v : Value), n ∈ kJ C.modes as0 ∧ ρ[n]? = some v ∧ blk v = some b
  obtain ⟨i1, i2⟩ := nB g1 (L' := L') (fun b h => .inl h) h1 g5 (fun n x b k1 k2 k3 => .inr ⟨n, x, k1, k2, k3⟩)
  have hl' : ∀ n ∈ ns, n < ρ.length := fun n h => by rw [g1.h.len]; exact c1 n h
  have hC := aUj g1 c1 c2 (L' := L') (fun b h => .inl h) (fun b hb => hb.imp id (fun ⟨n, v, k1, k2, k3⟩ => by
   obtain ⟨o, j1, j2⟩ := i2 n k1
   exact ⟨n, o, v, c3' n k1, j1, j2, k2, k3⟩))
  refine hW _ _ (hS _ _ x y h2 hy (pR ρ ns) F1 L' hC ((VR.mp (fun v z hv' hz => oD hv' hz (fun _ h => h) (fun m m' u _ k1 k2 => aBx hl' k1 k2))).2 _ _ i1) (hg.mono (fun _ _ => rfl) g2.fF)) ?_
  rintro e w' ⟨ρ', F', o1, o2, o3, o4, o5⟩
  obtain ⟨b1, b2, b3, b4, b6, b5⟩ := aOq g1 c1 c2 (fun b h => .inl h) hC o5 hlen o2 o3 o4
  refine ⟨lZ ρ ns ρ', F', ?_, b1, g2.trans b2, b3, b4, fun n x o b k1 k2 k3 k4 k5 =>?_⟩
  rotate_left
  ·obtain ⟨m, y, o', j1, j2, j3, j4, j5⟩ := b6 n x o b k1 k2 k3 k4 k5
   obtain ⟨o2, j6, j7⟩ := hlv m o' j2 j3
   exact ⟨m, y, o2, j1, j6, j7, j4, j5⟩
  generalize (C.out y).1 = out at o1 ⊢
  cases out with
  | ret v =>
   obtain ⟨z, rfl, hz⟩ := o1
   exact ⟨z, rfl, b5 _ _ hz⟩
  | pan v =>
   obtain ⟨z, rfl, hz⟩ := o1
   exact ⟨z, rfl, b5 _ _ hz⟩
 | false =>
  rw [hc] at hp
  simp at hp
theorem rO {f : FuncId} {C : Con} (hS : aK P gl f C) (hR : Rep ρ F L s a w) (hg : Glo gl w F) {as : List AVal} {vs : Array Value} (hv : VRs ρ w F (Bx F L) as vs.toList) {p : St × List Nat × C.X} (hp : prep C as s = some p) {y : C.Y} (hy : C.spec p.2.2 = some y) (hlen : p.2.1.length ≤ (C.out y).2.length) :
  Calls P f vs w fun e w' => ∃ ρ' F', yC ((C.out y).1.mp (fwV p.1.hp.length p.2.1)) e ρ' w' F' (Bx F' L) ∧ Rep ρ' F' L (after p.1 p.2.1 C.fix (C.out y).2) a w' ∧ Stp w (Own ρ s.hp) F w' (Own ρ' (after p.1 p.2.1 C.fix (C.out y).2).hp) F' ∧ PK ρ ρ' ∧
   Ch w w' (fun b => ∃ n ∈ p.2.1, ∃ x, ρ[n]? = some x ∧ blk x = some b) ∧ NK ρ ρ' s.hp (after p.1 p.2.1 C.fix (C.out y).2).hp w (fun n => n ∈ p.2.1) :=
 xC (W := fun R => Calls P f vs w R) (fun R R' h hr => Calls.mono h hr) (fun as h x y h1 h2 ρ F L h3 h4 h5 => hS as h x y h1 h2 ρ F L w vs h3 h4 h5) hR hg hv hp hy hlen
end
end Go.Ax
