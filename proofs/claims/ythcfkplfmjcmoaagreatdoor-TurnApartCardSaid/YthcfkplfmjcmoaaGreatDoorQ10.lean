/- Merged. -/
import Derived.Test.YthcfkplfmjcmoaaGreatDoorQ09
import Derived.OrdersHeld
namespace Go.Ax
open Go.RowKit
set_option linter.unusedVariables false
set_option linter.unusedSimpArgs false
section
variable {P : Program} {ops : Array Oper} {Q : Exit → Act → World → Prop} {md : Region.Mode} {S : World → Prop}
def wpJ (P : Program) (md : Region.Mode) (ops : Array Oper) (Q : Exit → Act → World → Prop) (T : Nat → World → World → Prop) : Nat → Array Bool → Act → World → Prop
 | 0, listed, a, w => Region.ready md ops listed = [] ∧ Q .normal a w
 | fuel + 1, listed, a, w =>
  (Region.ready md ops listed = [] → Q .normal a w) ∧
  ∀ i ∈ Region.ready md ops listed, wpOp P ops Q i (fun a' w' => T i w w' ∧ wpJ P md ops Q T fuel (listed.setIfInBounds i true) a' w') a w
theorem aBz {T : Nat → World → World → Prop} : ∀ (fuel : Nat) (listed : Array Bool) (a : Act) (w : World), wpJ P md ops Q T fuel listed a w → wpAny P md ops Q fuel listed a w
 | 0, _, _, _, h => h
 | fuel + 1, _, _, _, h => ⟨h.1, fun i hi => wpOp_mono (fun a' w' h' => aBz fuel _ a' w' h'.2) (h.2 i hi)⟩
theorem aJh {T : Nat → World → World → Prop} {listed : Array Bool} {a : Act} {w : World} (hr : Region.ready md ops listed = []) (h : Q .normal a w) : ∀ fuel, wpJ P md ops Q T fuel listed a w
 | 0 => ⟨hr, h⟩
 | _ + 1 => ⟨fun _ => h, by rw [hr]; simp⟩
theorem aWv {T T' : Nat → World → World → Prop} {Good : Array Bool → Prop} {i : Nat} {oi : Oper} {v : Value} (hi : ops[i]? = some oi) (hsel : ∀ (j : Nat) (o : Oper) cs b, ops[j]? = some o → o.op ≠ .select cs b)
  (hQ : ∀ c a w, Q (.panic c) (a.put oi.dst v) w → Q (.panic c) a w) (hTT : ∀ j w w', T' j w w' → T j w w') (hTi : ∀ w, T i w w)
  (hgood : ∀ l j, Good l → j ∈ Region.ready md ops l → Good (l.setIfInBounds j true))
  (hkeep : ∀ l j w w', Good l → l.getD i true = false → j ∈ Region.ready md ops l → T' j w w' → S w → S w') :
  ∀ (fuel : Nat) (listed : Array Bool) (a : Act) (w : World),
   (∀ j oj, ops[j]? = some oj → j ≠ i → listed.getD j true = false → (∀ e ∈ oj.after, Region.binds md e = true → e.on ≠ i) → oi.apart ops oj = true) →
   Good listed → i ∈ Region.ready md ops listed → YieldsIf P ops S oi v a → S w →
   wpJ P md ops Q T' fuel (listed.setIfInBounds i true) (a.put oi.dst v) w → wpJ P md ops Q T (fuel + 1) listed a w := by
 intro fuel
 have mono : ∀ (fuel : Nat) (l : Array Bool) (a : Act) (w : World), wpJ P md ops Q T' fuel l a w → wpJ P md ops Q T fuel l a w := by
  intro fuel
  induction fuel with
  | zero => intro l a w h; exact h
  | succ fuel ih => intro l a w h; exact ⟨h.1, fun i hi => wpOp_mono (fun a' w' h' => ⟨hTT _ _ _ h'.1, ih _ _ _ h'.2⟩) (h.2 i hi)⟩
 induction fuel with
 | zero =>
  intro listed a w _ hg hr hy hS H
  refine ⟨fun h => (by rw [h] at hr; cases hr), fun j hj =>?_⟩
  by_cases hji : j = i
  ·subst hji; exact hy.wpOp hi hS ⟨hTi w, H⟩
  ·have := ready_mono hj hji
   rw [H.1] at this
   cases this
 | succ fuel ih =>
  intro listed a w hfree hg hr hy hS H
  refine ⟨fun h => (by rw [h] at hr; cases hr), fun j hj =>?_⟩
  by_cases hji : j = i
  ·subst hji; exact hy.wpOp hi hS ⟨hTi w, mono _ _ _ _ H⟩
  ·have h1 := H.2 j (ready_mono hj hji)
   obtain ⟨hjun, oj, hoj, hall⟩ := mem_ready.1 hj
   have hnot : ∀ e ∈ oj.after, Region.binds md e = true → e.on ≠ i := fun e he hb heq => by
    have h1 := hall e he hb
    have h0 := (mem_ready.1 hr).1
    rw [heq] at h1
    rcases Nat.lt_or_ge i listed.size with h' | h'
    ·simp [h'] at h0 h1; rw [h0] at h1; cases h1
    ·simp [Array.getElem?_eq_none h'] at h1
   have h2 := wpOp_putIf hoj (hfree j oj hoj hji hjun hnot) (fun cs b => hsel i oi cs b hi) (fun cs b => hsel j oj cs b hoj) hQ hy h1
   have hfree' : ∀ k ok, ops[k]? = some ok → k ≠ i → (listed.setIfInBounds j true).getD k true = false →
     (∀ e ∈ ok.after, Region.binds md e = true → e.on ≠ i) → oi.apart ops ok = true := fun k ok hk hki hun hno => by
    refine hfree k ok hk hki ?_ hno
    by_cases hjk : j = k
    ·subst hjk; exact hjun
    ·rw [getD_set_ne true hjk] at hun; exact hun
   refine wpOp_mono (fun a' w' h3 => ⟨hTT _ _ _ h3.2.1, ih (listed.setIfInBounds j true) a' w' hfree' (hgood _ _ hg hj) (ready_mono hr (Ne.symm hji)) h3.1 (hkeep _ _ _ _ hg (mem_ready.1 hr).1 hj h3.2.1 hS) ?_⟩) h2
   rw [Array.setIfInBounds_comm _ _ hji]
   exact h3.2.2

theorem sT {j : Nat} {o : Oper} (h : ops[j]? = some o) : (bP ops).getD j [] = aEk o := by
 simp [bP, List.getD_eq_getElem?_getD, h]
theorem dT : (bP ops).length = ops.size := by simp [bP]
theorem vT {o : Oper} {x : Nat} : x ∈ aEk o ↔ ∃ e ∈ o.after, Region.binds .any e = true ∧ e.on = x := by
 simp [aEk, and_assoc]
theorem bO {N : List (List Nat)} {l : List Bool} {j : Nat} : j ∈ aQ N l ↔ j < N.length ∧ l.getD j true = false ∧ ∀ x ∈ N.getD j [], l.getD x false = true := by
 simp [aQ]
theorem dL {lc : Array Bool} {j : Nat} : j ∈ Region.ready .any ops lc ↔ lc.getD j true = false ∧ j < ops.size ∧ ∀ x ∈ (bP ops).getD j [], lc.getD x false = true := by
 rw [mem_ready]
 constructor
 ·rintro ⟨h1, o, h2, h3⟩
  refine ⟨h1, (Array.getElem?_eq_some_iff.1 h2).1, fun x hx =>?_⟩
  rw [sT h2] at hx
  obtain ⟨e, he, hb, rfl⟩ := vT.1 hx
  exact h3 e he hb
 ·rintro ⟨h1, h2, h3⟩
  have ho : ops[j]? = some ops[j] := Array.getElem?_eq_getElem h2
  exact ⟨h1, ops[j], ho, fun e he hb => h3 e.on (by rw [sT ho]; exact vT.2 ⟨e, he, hb, rfl⟩)⟩
def Good (ops : Array Oper) (lc : Array Bool) : Prop := lc.size = ops.size ∧ ∀ j, lc.getD j false = true → ∀ x ∈ (bP ops).getD j [], lc.getD x false = true
theorem Good.set {lc : Array Bool} {j : Nat} (h : Good ops lc) (hj : j ∈ Region.ready .any ops lc) : Good ops (lc.setIfInBounds j true) := by
 obtain ⟨h1, h2, h3⟩ := dL.1 hj
 refine ⟨by simpa using h.1, fun k hk x hx =>?_⟩
 by_cases c : j = k
 ·subst c
  exact getD_set_true (h3 x hx)
 ·rw [getD_set_ne false c] at hk
  exact getD_set_true (h.2 k hk x hx)
theorem aCa (acc : List Nat) (i : Nat) : ∀ (ns : List Nat) (m : Nat), (ns.foldl (fun m x => m ||| (1 <<< x) ||| acc.getD x 0) m).testBit i = true → m.testBit i = true ∨ ∃ x ∈ ns, x = i ∨ (acc.getD x 0).testBit i = true
 | [], m, h => .inl h
 | x :: ns, m, h => by
  rcases aCa acc i ns _ h with h | ⟨y, hy, h⟩
  ·rw [Nat.testBit_or, Nat.testBit_or] at h
   simp only [Bool.or_eq_true] at h
   rcases h with (h | h) | h
   ·exact .inl h
   ·right
    rw [Nat.one_shiftLeft, Nat.testBit_two_pow] at h
    exact ⟨x, List.mem_cons_self, .inl (by simpa using h)⟩
   ·exact .inr ⟨x, List.mem_cons_self, .inr h⟩
  ·exact .inr ⟨y, List.mem_cons_of_mem _ hy, h⟩
def Mk (N : List (List Nat)) (acc : List Nat) : Prop := ∀ j < acc.length, ∀ i, (acc.getD j 0).testBit i = true → ∃ x ∈ N.getD j [], x = i ∨ (x < j ∧ (acc.getD x 0).testBit i = true)
theorem aCb {N : List (List Nat)} : ∀ (r : List (List Nat)) (acc : List Nat), Mk N acc → (∀ k, (r[k]?).getD [] = N.getD (acc.length + k) []) → Mk N (aBw r acc)
 | [], acc, h, _ => h
 | ns :: r, acc, h, hr => by
  refine aCb r _ (fun j hj i hi =>?_) (fun k =>?_)
  ·simp only [List.length_append, List.length_cons, List.length_nil] at hj
   by_cases c : j < acc.length
   ·have e1 : ∀ x, x ≤ j → (acc ++ [ns.foldl (fun m x => m ||| (1 <<< x) ||| acc.getD x 0) 0]).getD x 0 = acc.getD x 0 := fun x hx => by
     rw [List.getD_eq_getElem?_getD, List.getD_eq_getElem?_getD, List.getElem?_append_left (by omega)]
    rw [e1 j (Nat.le_refl _)] at hi
    obtain ⟨x, hx, h1⟩ := h j c i hi
    exact ⟨x, hx, h1.imp id (fun h1 => ⟨h1.1, by rw [e1 x (by omega)]; exact h1.2⟩)⟩
   ·have ej : j = acc.length := by omega
    subst ej
    have e1 : (acc ++ [ns.foldl (fun m x => m ||| (1 <<< x) ||| acc.getD x 0) 0]).getD acc.length 0 = ns.foldl (fun m x => m ||| (1 <<< x) ||| acc.getD x 0) 0 := by
     rw [List.getD_eq_getElem?_getD, List.getElem?_append_right (Nat.le_refl _)]
     simp
    rw [e1] at hi
    have hns : N.getD acc.length [] = ns := by simpa using (hr 0).symm
    rcases aCa acc i ns 0 hi with h1 | ⟨x, hx, h1⟩
    ·simp at h1
    ·refine ⟨x, by rw [hns]; exact hx, h1.imp id (fun h1 =>?_)⟩
     have hlt : x < acc.length := by
      rcases Nat.lt_or_ge x acc.length with h2 | h2
      ·exact h2
      ·rw [List.getD_eq_getElem?_getD, List.getElem?_eq_none h2] at h1
       simp at h1
     exact ⟨hlt, by rw [List.getD_eq_getElem?_getD, List.getElem?_append_left hlt, ← List.getD_eq_getElem?_getD]; exact h1⟩
  ·have := hr (k + 1)
   simp only [List.getElem?_cons_succ] at this
   rw [this]
   simp only [List.length_append, List.length_cons, List.length_nil]
   rw [show acc.length + (0 + 1) + k = acc.length + (k + 1) by omega]
theorem aWw (N : List (List Nat)) : Mk N (aBw N []) := aCb N [] (fun j hj => by simp at hj) (fun k => by simp [List.getD_eq_getElem?_getD])
theorem aJi {lc : Array Bool} (hg : Good ops lc) : ∀ (j : Nat), (∀ x ∈ (bP ops).getD j [], lc.getD x false = true) → ∀ i, (xB (bP ops) j).contains i = true → lc.getD i false = true := by
 intro j
 induction j using Nat.strongRecOn with
 | _ j ih =>
  intro h i hi
  have hb : ((aBw (bP ops) []).getD j 0).testBit i = true := by
   simp only [xB, List.contains_iff_mem, List.mem_filter] at hi
   exact hi.2
  have hlt : j < (aBw (bP ops) []).length := by
   rcases Nat.lt_or_ge j (aBw (bP ops) []).length with h2 | h2
   ·exact h2
   ·rw [List.getD_eq_getElem?_getD, List.getElem?_eq_none h2] at hb
    simp at hb
  obtain ⟨x, hx, h1⟩ := aWw (bP ops) j hlt i hb
  rcases h1 with rfl | ⟨hxj, h1⟩
  ·exact h x hx
  ·refine ih x hxj (hg.2 x (h x hx)) i ?_
   simp only [xB, List.contains_iff_mem, List.mem_filter, List.mem_range]
   refine ⟨?_, h1⟩
   simp only [xB, List.contains_iff_mem, List.mem_filter, List.mem_range] at hi
   exact hi.1
theorem bHk {lc : Array Bool} {i : Nat} (h : lc.getD i true = false) : lc.getD i false = false := by
 rcases Nat.lt_or_ge i lc.size with h' | h'
 ·simpa [h'] using h
 ·simp [Array.getElem?_eq_none h'] at h
theorem rQ {N : List (List Nat)} {l : List Bool} {i : Nat} {oi : Oper} (hN : N = bP ops) (hi : ops[i]? = some oi) (h : sO ops N l i = true) (j : Nat) (oj : Oper) (hj : ops[j]? = some oj) (hne : j ≠ i) (hun : l.getD j true = false) (hno : i ∉ aEk oj) : oi.apart ops oj = true := by
 subst hN
 simp only [sO, hi, List.all_eq_true, List.mem_range] at h
 have h1 := h j (by rw [dT]; exact (Array.getElem?_eq_some_iff.1 hj).1)
 simp only [hj, Bool.or_eq_true, beq_iff_eq, hne, false_or, hun, Bool.false_eq_true, List.contains_iff_mem] at h1
 rw [sT hj] at h1
 exact h1.resolve_left hno
end
section
variable {P : Program} {gl : Glb} {kd : TypeId → Option EK} {ρ : List Value} {F L B : Nat → Prop} {s : St} {a : Act} {w : World}
def mkN (P : Program) (t : TypeId) : Obj → Nat
 | .cells cs _ _ => match P.underlying t with
  | some (.slice e) => cs.size / (szT P e).getD 1
  | _ => 0
 | _ => 0
def nJ (P : Program) : Go.Op → Obj → Nat → Value
 | .buildSlice _ n _, _, b => .slice (some ⟨b, 0, none⟩) n n
 | .makeSlice t _ _, obj, b => .slice (some ⟨b, 0, none⟩) (mkN P t obj) (mkN P t obj)
 | _, _, b => .pointer (some ⟨b, 0, none⟩)
theorem bBy (o : Go.Op) (obj : Obj) (b c : Nat) : blk (nJ P o obj b) = some c ↔ b = c := by cases o <;> simp [nJ, blk]
def FR (P : Program) (o : Oper) (a : Act) (obj : Obj) : Prop := ∀ w1, (execOp a.eval o).run P w1 = .ok (.value (nJ P o.op obj w1.heap.size)) (w1.alloc obj)
set_option maxHeartbeats 1600000 in
theorem aCc (hR : Rep ρ F L s a w) (hg : Glo gl w F) {o : Oper} (hf : bH o.op = true) {v : AVal} {s' : St} (h : aopE P gl kd o.op s = some (true, v, s')) :
  ∃ obj ob, FR P o a obj ∧ s' = { s with hp := s.hp ++ [ob] } ∧ (∀ b, w.heap[b]? = some obj → OR ρ w F (Bx F L) (nJ P o.op obj b) ob) ∧ (∀ (ρ' : List Value) (w' : World) (F' B' : Nat → Prop) (b : Nat), ρ'[s.hp.length]? = some (nJ P o.op obj b) → VR ρ' w' F' B' v (nJ P o.op obj b)) := by
 have E := fun x => kF hR hg x
 obtain ⟨dst, op, ty, pos, after, guard⟩ := o
 have ptr : ∀ (ρ' : List Value) (w' : World) (F' B' : Nat → Prop) (b : Nat), ρ'[s.hp.length]? = some (.pointer (some ⟨b, 0, none⟩)) → VR ρ' w' F' B' (.ptr s.hp.length 0) (.pointer (some ⟨b, 0, none⟩)) := fun ρ' w' F' B' b hb => by
  simp only [VR]
  exact ⟨b, hb, rfl⟩
 cases op <;> simp only [bH, Bool.false_eq_true] at hf <;> simp only [aopE] at h
 case alloc t =>
  obtain ⟨l, h1, h2⟩ := Option.map_eq_some_iff.1 h
  cases h2
  unfold bBq at h1
  obtain ⟨i, hi, h1⟩ := Option.bind_eq_some_iff.1 h1
  obtain ⟨z, hz, rfl⟩ := Option.map_eq_some_iff.1 h1
  exact ⟨.cells z.cells t, _, fun w1 => by simp [execOp, Instr.alloc, zeroValue, typeInfo, hi, hz, newVar, newRow, nJ], rfl, fun b hb => ⟨b, z.cells, t, rfl, hb, cB _⟩, ptr⟩
 case box t x =>
  have hx := E x
  split at h
  ·rename_i l e1
   cases h
   rw [e1] at hx
   simp only [VR] at hx
   obtain ⟨cs, h2, h3⟩ := hx
   exact ⟨.cells cs t, _, fun w1 => by simp [execOp, h2, Instr.box, newVar, newRow, Value.cells, nJ], rfl, fun b hb => ⟨b, cs, t, rfl, hb, h3⟩, ptr⟩
  ·split at h
   ·rename_i hna hone
    cases h
    have hc := lO (v := ev gl s x) hx (by cases hv : ev gl s x <;> simp_all [aV])
    have hc' : aV (ev gl s x) = [ev gl s x] := by cases hv : ev gl s x <;> first | rfl|exact absurd hv (hna _)
    rw [hc'] at hc
    exact ⟨.cells (a.eval x).cells t, _, fun w1 => by simp [execOp, Instr.box, newVar, newRow, nJ], rfl, fun b hb => ⟨b, (a.eval x).cells, t, rfl, hb, hc⟩, ptr⟩
   ·cases h
 case buildSlice t n ps =>
  split at h
  ·rename_i e hte
   split at h
   ·rename_i k ie hk hie
    split at h
    ·rename_i z hz
     split at h
     ·rename_i hn0
      split at h
      ·rename_i hc
       obtain ⟨c1, c2⟩ := hc
       cases h
       subst hn0
       have hp : ps = #[] := Array.eq_empty_of_size_eq_zero c2
       subst hp
       refine ⟨.cells #[] e, _, fun w1 =>?_, rfl, fun b hb => .inr ⟨b, 0, #[], e, fun i => [], rfl, hb, Nat.le_refl _, by simp, fun i hi => absurd hi (Nat.not_lt_zero _), fun i j u hi => absurd hi (Nat.not_lt_zero _)⟩, fun ρ' w' F' B' b hb =>?_⟩
       ·simp [execOp, Instr.buildSlice, run_underlying hte, sizeOf, typeInfo, hie, Instr.fill, newRow, nJ, Array.range_zero']
       ·simp only [VR]
        exact ⟨hb, _, _, _, rfl⟩
      ·cases h
     split at h
     ·rename_i hc
      obtain ⟨c1, c2, c3, c4⟩ := hc
      obtain ⟨l, h1, h⟩ := Option.bind_eq_some_iff.1 h
      obtain ⟨xs, h2, h3⟩ := Option.map_eq_some_iff.1 h
      cases h3
      have hv := cY hR hg (ps.toList.map (·.2))
      have hz0 : VRs ρ w F (Bx F L) ((List.range (n * k.sz)).map fun j => cv0 (z.cells[j % z.cells.size]!)) ((Array.range (n * k.sz)).map (z.cells[· % z.cells.size]!)).toList := by
       have := cB (ρ := ρ) (w := w) (F := F) (B := Bx F L) ((Array.range (n * k.sz)).map (z.cells[· % z.cells.size]!)).toList
       simpa [Function.comp_def] using this
      obtain ⟨cs', h4, h5⟩ := iA (pvs := (ps.map fun (i, x) => (i, a.eval x)).toList) hz0 (by simp [Function.comp_def]) (by simpa [Function.comp_def] using hv) h1
      obtain ⟨h6, h7⟩ := kG h5 h2
      have hrun := fun w1 => run_buildSlice (P := P) w1 t e n (ps.map fun (i, x) => (i, a.eval x)) cs' ie z hte hie hz (by rw [c1]; omega) (by rw [c1]; have := Nat.mul_pos c2 c3; omega) (by rw [c1]; exact h4)
      have hsz : cs'.size = n * k.sz := by
       have e1 := h5.length
       simp only [Array.length_toList] at e1
       have e2 : l.length = n * k.sz := by
        have : ∀ (parts : List (Nat × AVal)) (l0 l1 : List AVal), mX (fun i => some (i * k.sz, k.sz)) l0 parts = some l1 → l1.length = l0.length := by
         intro parts
         induction parts with
         | nil => intro l0 l1 hh; simp only [mX, Option.some.injEq] at hh; rw [hh]
         | cons p parts ih =>
          intro l0 l1 hh
          obtain ⟨i, x⟩ := p
          simp only [mX] at hh
          split at hh
          ·rename_i hcc
           rw [ih _ _ hh]
           simp [yA]
           omega
          ·cases hh
        rw [this _ _ _ h1]
        simp
       omega
      refine ⟨.cells cs' e, _, fun w1 =>?_, rfl, fun b hb =>?_, fun ρ' w' F' B' b hb =>?_⟩
      ·simp only [execOp, Sem.run_bind]
       rw [hrun w1]
       simp [nJ]
      ·refine .inr ⟨b, n, cs', e, fun i => (cs'.toList.drop (0 + i * k.sz)).take k.sz, by rw [h6]; rfl, hb, by omega, hsz, fun i hi => h7 i hi, fun i j u hi hj =>?_⟩
       rw [List.getElem?_take] at hj
       split at hj
       ·rw [List.getElem?_drop] at hj
        simpa using hj
       ·cases hj
      ·simp only [VR]
       exact ⟨hb, _, _, _, rfl⟩
     ·cases h
    ·cases h
   ·cases h
  ·cases h
 case makeSlice t l c =>
  split at h
  ·rename_i e hte
   split at h
   ·rename_i k ie n hk hie hl
    split at h
    ·rename_i z hz
     split at h
     ·rename_i hc
      obtain ⟨c1, c2, c3, c4, c5⟩ := hc
      obtain ⟨x, h1, h2⟩ := Option.map_eq_some_iff.1 h
      simp only [Prod.mk.injEq, Bool.and_eq_true, decide_eq_true_eq] at h2
      obtain ⟨⟨h3, h4⟩, rfl, rfl⟩ := h2
      have h5 := E l
      rw [hl] at h5
      simp only [VR] at h5
      have h6 : a.eval c = .int .i64 n := by rw [← aBt c5]; exact h5
      have hx := nL h1 (cB (ρ := ρ) (w := w) (F := F) (B := Bx F L) z.cells.toList)
      have hbn : (ie.bytes : Int) * n ≤ 1000 * 1000000000 := Int.mul_le_mul (by omega) h4 h3 (by omega)
      have hN : mkN P t (.cells (madeCells z.cells (n.toNat * ie.size)) e) = n.toNat := by
       have hs : szT P e = some ie.size := by simp [szT, hie]
       simp only [mkN, hte, hs, Option.getD_some, size_madeCells]
       exact Nat.mul_div_cancel _ (by omega)
      refine ⟨.cells (madeCells z.cells (n.toNat * ie.size)) e, _, fun w1 =>?_, rfl, fun b hb =>?_, fun ρ' w' F' B' b hb =>?_⟩
      ·have hrun := run_make (P := P) w1 t e ie z hte hie hz .i64 .i64 n n h3 (Int.le_refl _) (by omega) (by omega)
       simp only [execOp, h5, h6, Sem.run_bind, nJ, hN]
       rw [hrun]
       simp
      ·refine .inr ⟨b, n.toNat, _, e, fun i => z.cells.toList, by simp only [nJ, hN, List.length_replicate], hb, by simp, by rw [size_madeCells, c1], fun i hi =>?_, fun i j u hi hj =>?_⟩
       ·rw [List.getElem_replicate]
        exact hx
       ·have hj' : j < z.cells.size := by simpa using (List.getElem?_eq_some_iff.1 hj).1
        rw [List.length_replicate] at hi
        have hlt : i * k.sz + j < n.toNat * ie.size := by
         have : (i + 1) * k.sz ≤ n.toNat * k.sz := Nat.mul_le_mul_right _ hi
         rw [Nat.add_mul] at this
         rw [c1]
         omega
        have hm : (i * k.sz + j) % z.cells.size = j := by rw [c2, Nat.mul_comm, Nat.mul_add_mod, Nat.mod_eq_of_lt (by omega)]
        rw [madeCells, Array.getElem?_map, Array.getElem?_range, if_pos hlt]
        simp only [Option.map_some, hm]
        rw [getElem!_pos z.cells j hj', ← hj]
        simp [hj']
      ·simp only [VR]
       exact ⟨hb, _, _, _, rfl⟩
     ·cases h
    ·cases h
   ·cases h
  ·cases h
theorem Rep.adopt {o : AObj} {v : Value} (h : Rep ρ F L s a w) (ho : OR ρ w F (Bx F L) v o) (hb : ∀ b, blk v = some b → b < w.heap.size ∧ ¬ Own ρ s.hp b ∧ ¬ Bx F L b) : Rep (ρ ++ [v]) F L { s with hp := s.hp ++ [o] } a w := by
 have hρ : ∀ (n : Nat) (u : Value), ρ[n]? = some u → (ρ ++ [v])[n]? = some u := fun n u hu => by rw [List.getElem?_append_left (List.getElem?_eq_some_iff.1 hu).1]; exact hu
 have key : ∀ (n : Nat) (o' : AObj) (u : Value), (s.hp ++ [o])[n]? = some o' → (ρ ++ [v])[n]? = some u → (s.hp[n]? = some o' ∧ ρ[n]? = some u) ∨ (n = s.hp.length ∧ o' = o ∧ u = v) := fun n o' u h2 h3 => by
  by_cases c : n < s.hp.length
  ·rw [List.getElem?_append_left c] at h2
   rw [List.getElem?_append_left (by rw [h.h.len]; exact c)] at h3
   exact .inl ⟨h2, h3⟩
  ·rw [List.getElem?_append_right (by omega)] at h2
   rw [List.getElem?_append_right (by rw [h.h.len]; omega)] at h3
   have hn : n - s.hp.length = 0 := by
    have := (List.getElem?_eq_some_iff.1 h2).1
    simp at this
    omega
   rw [hn] at h2
   rw [h.h.len, hn] at h3
   simp at h2 h3
   exact .inr ⟨by omega, h2.symm, h3.symm⟩
 refine ⟨(VR.mono hρ (fun _ _ => rfl) (fun _ _ => rfl) (fun _ h => h) (fun _ h => h)).2 _ _ h.tm, by simp [h.h.len], fun n o' u h2 h3 =>?_, fun n m o1 o2 v1 v2 b k1 k2 k3 k4 k5 k6 k7 k8 =>?_, fun b hbb =>?_⟩
 ·rcases key n o' u h2 h3 with ⟨k1, k2⟩ | ⟨_, rfl, rfl⟩
  ·exact (h.h.ob n o' u k1 k2).mono hρ (fun _ _ => rfl) (fun _ _ => rfl) (fun _ h => h) (fun _ h => h) (fun _ _ => rfl)
  ·exact ho.mono hρ (fun _ _ => rfl) (fun _ _ => rfl) (fun _ h => h) (fun _ h => h) (fun _ _ => rfl)
 ·rcases key n o1 v1 k1 k5 with ⟨j1, j2⟩ | ⟨j1, rfl, rfl⟩ <;> rcases key m o2 v2 k2 k6 with ⟨i1, i2⟩ | ⟨i1, rfl, rfl⟩
  ·exact h.h.dist n m o1 o2 v1 v2 b j1 i1 k3 k4 j2 i2 k7 k8
  ·exact absurd ⟨n, o1, v1, j1, k3, j2, k7⟩ (hb b k8).2.1
  ·exact absurd ⟨m, o2, v2, i1, k4, i2, k8⟩ (hb b k7).2.1
  ·omega
 ·exact ⟨(h.h.froz b hbb).1, fun ho' => (yE h.h.len b ho').elim (h.h.froz b hbb).2 (fun e => (hb b e).2.2 hbb)⟩
end
section
variable {P : Program} {gl : Glb} {kd : TypeId → Option EK} {G : List (Nat × Con)} {E : Ent} {ops : Array Oper} {ρ : List Value} {F : Nat → Prop} {s : St} {a : Act} {w : World}
def vU (ops : Array Oper) : List Bool → List Stage → Prop
 | l, [] => aQ (bP ops) l = []
 | l, .pure i :: r => i ∈ aQ (bP ops) l ∧ sN ops i bH = false ∧ sO ops (bP ops) l i = true ∧ vU ops (l.set i true) r
 | l, .load i :: r => i ∈ aQ (bP ops) l ∧ sN ops i bH = false ∧ sO ops (bP ops) l i = true ∧ vU ops (l.set i true) r
 | l, .eff i dep frs :: r => i ∈ aQ (bP ops) l ∧ dep = xB (bP ops) i ∧ (∀ x ∈ aQ (bP ops) l, x = i ∨ x ∈ frs) ∧ (∀ x ∈ frs, x ∈ aQ (bP ops) l ∧ x ≠ i ∧ sN ops x bH = true ∧ ∀ y ∈ aQ (bP ops) l, sO ops (bP ops) l y = true) ∧
   (∀ A : List Nat, (∀ y ∈ A, y ∈ frs) → ∀ y ∈ aQ (bP ops) (vP l A), y = i ∨ y ∈ frs) ∧ vU ops (l.set i true) r
theorem iE (d : Bool) : ∀ (is : List Nat) (l : List Bool) (j : Nat), j < l.length → (vP l is).getD j d = (l.getD j d || is.contains j)
 | [], l, j, _ => by simp [vP]
 | i :: is, l, j, hj => by
  have := iE d is (l.set i true) j (by simpa using hj)
  simp only [vP, List.foldl_cons] at this ⊢
  rw [this]
  by_cases c : i = j
  ·subst c
   simp [List.getD_eq_getElem?_getD, hj]
  ·have c' : ¬ j = i := fun e => c e.symm
   simp [List.getD_eq_getElem?_getD, List.getElem?_set_ne c, c']
theorem aJj : ∀ (is : List Nat) (l : List Bool), (vP l is).length = l.length
 | [], l => rfl
 | i :: is, l => by simpa [vP] using aJj is (l.set i true)
theorem bLa {l : List Bool} {i : Nat} {frs : List Nat} (hl : l.length = ops.size) (h : (aQ (bP ops) (vP l frs)).all (· == i) = true) (hf : ∀ x ∈ frs, x ∈ aQ (bP ops) l) :
  ∀ A : List Nat, (∀ y ∈ A, y ∈ frs) → ∀ y ∈ aQ (bP ops) (vP l A), y = i ∨ y ∈ frs := fun A hA y hy => by
 by_cases c : y ∈ frs
 ·exact .inr c
 ·left
  have hN := dT (ops := ops)
  obtain ⟨h1, h2, h3⟩ := bO.1 hy
  have hyl : y < l.length := by rw [hl, ← hN]; exact h1
  have : y ∈ aQ (bP ops) (vP l frs) := by
   refine bO.2 ⟨h1, ?_, fun x hx =>?_⟩
   ·rw [iE true frs l y hyl]
    rw [iE true A l y hyl] at h2
    simp only [Bool.or_eq_false_iff] at h2 ⊢
    exact ⟨h2.1, by simpa using c⟩
   ·have hx' := h3 x hx
    have hxl : x < l.length := by
     rcases Nat.lt_or_ge x l.length with h' | h'
     ·exact h'
     ·rw [List.getD_eq_getElem?_getD, List.getElem?_eq_none (by rw [aJj]; exact h')] at hx'
      simp at hx'
    rw [iE false A l x hxl] at hx'
    rw [iE false frs l x hxl]
    simp only [Bool.or_eq_true, List.contains_iff_mem] at hx' ⊢
    exact hx'.imp id (hA x)
  simpa using List.all_eq_true.1 h y this
theorem aEn {i : Nat} {p : Go.Op → Bool} (hp : ∀ o, p o = true → bH o = false) (h : sN ops i p = true) : sN ops i bH = false := by
 unfold sN at *
 split <;> simp_all
theorem bHl (o : Go.Op) (h : vK o = true) : bH o = false := by cases o <;> first | rfl | simp [vK] at h
theorem bHm (o : Go.Op) (h : aOp o = true) : bH o = false := by cases o <;> first | rfl | simp [aOp] at h
theorem qM : ∀ (fuel : Nat) (l : List Bool) (st : List Stage), l.length = ops.size → rN ops (bP ops) fuel l = some st → vU ops l st
 | 0, l, st, hl, h => by
  simp only [rN] at h
  split at h
  ·rename_i he
   cases h
   simpa [vU] using he
  ·cases h
 | fuel + 1, l, st, hl, h => by
  simp only [rN] at h
  split at h
  ·rename_i i hi
   obtain ⟨r, h1, rfl⟩ := Option.map_eq_some_iff.1 h
   have hm := List.mem_of_find?_eq_some hi
   have hp := List.find?_some hi
   simp only [Bool.and_eq_true] at hp
   exact ⟨hm, aEn bHl hp.1, hp.2, qM fuel _ r (by simpa using hl) h1⟩
  ·split at h
   ·rename_i i hi
    obtain ⟨r, h1, rfl⟩ := Option.map_eq_some_iff.1 h
    have hm := List.mem_of_find?_eq_some hi
    have hp := List.find?_some hi
    simp only [Bool.and_eq_true] at hp
    exact ⟨hm, aEn bHm hp.1, hp.2, qM fuel _ r (by simpa using hl) h1⟩
   ·split at h
    ·rename_i he
     cases h
     simpa [vU] using he
    ·rename_i hne
     split at h
     ·rename_i hc
      obtain ⟨r, h1, rfl⟩ := Option.map_eq_some_iff.1 h
      have hm : sP ops (aQ (bP ops) l) ∈ aQ (bP ops) l := by
       unfold sP
       cases hf : (aQ (bP ops) l).find? fun i => !sN ops i bH with
       | some i => exact List.mem_of_find?_eq_some hf
       | none =>
        cases hr : aQ (bP ops) l with
        | nil => rw [hr] at hne; simp at hne
        | cons x xs => simp
      generalize sP ops (aQ (bP ops) l) = i at *
      unfold okE at hc
      simp only [Bool.and_eq_true] at hc
      obtain ⟨⟨c1, c2⟩, c3⟩ := hc
      have hfr : ∀ x ∈ (aQ (bP ops) l).filter (· != i), x ∈ aQ (bP ops) l ∧ x ≠ i := fun x hx => by
       obtain ⟨k1, k2⟩ := List.mem_filter.1 hx
       exact ⟨k1, by simpa using k2⟩
      refine ⟨hm, rfl, fun x hx =>?_, fun x hx => ⟨(hfr x hx).1, (hfr x hx).2, List.all_eq_true.1 c1 x hx, fun y hy =>?_⟩, bLa hl c3 (fun x hx => (hfr x hx).1), qM fuel _ r (by simpa using hl) h1⟩
      ·by_cases c : x = i
       ·exact .inl c
       ·exact .inr (List.mem_filter.2 ⟨hx, by simpa using c⟩)
      ·rw [Bool.or_eq_true] at c2
       rcases c2 with c2 | c2
       ·rw [List.isEmpty_iff] at c2
        rw [c2] at hx
        cases hx
       ·exact List.all_eq_true.1 c2 y hy
     ·cases h

def PinOk (ρ : List Value) (hp : List AObj) (w : World) (pins sp : List (Nat × Nat)) : Prop := ∀ p ∈ sp, p.2 < w.heap.size ∧ ∀ (n : Nat) (o : AObj) (x : Value), hp[n]? = some o → o.live = true → ρ[n]? = some x → blk x = some p.2 → (p.1, n) ∈ pins
def TT (ops : Array Oper) (sp : List (Nat × Nat)) (j : Nat) (w w' : World) : Prop := ∀ p ∈ sp, (xB (bP ops) j).contains p.1 = false → w'.heap[p.2]? = w.heap[p.2]?
def PRun (P : Program) (E : Ent) (ops : Array Oper) (ρ : List Value) (F : Nat → Prop) (hp : List AObj) (a : Act) (w : World) (sp : List (Nat × Nat)) (o : Oper) (u : Value) : Option Nat → Prop
 | none => Region.wanted o (yielded ops a.tmps) = false ∧ u = undef
 | some b => Region.wanted o (yielded ops a.tmps) = true ∧ (∃ obj, u = nJ P o.op obj b ∧ FR P o a obj ∧ w.heap[b]? = some obj) ∧ ¬ Own ρ hp b ∧ ¬ Bx F E.L b ∧ E.w.heap.size ≤ b ∧ ∀ q ∈ sp, q.2 ≠ b
structure POk (P : Program) (E : Ent) (ops : Array Oper) (l : List Bool) (ρ : List Value) (F : Nat → Prop) (hp : List AObj) (a : Act) (w : World) (sp : List (Nat × Nat)) (p : Nat × Option Nat) : Prop where
 ex : ∃ o u, ops[p.1]? = some o ∧ bH o.op = true ∧ a.put o.dst u = a ∧ PRun P E ops ρ F hp a w sp o u p.2
 rdy : p.1 ∈ aQ (bP ops) l
structure DInv (P : Program) (gl : Glb) (E : Ent) (ops : Array Oper) (l : List Bool) (lc : Array Bool) (pins sp : List (Nat × Nat)) (A : List (Nat × Option Nat)) (s : St) (a : Act) (w : World) (ρ : List Value) (F : Nat → Prop) : Prop where
 inv : Inv gl E s a w ρ F
 pin : PinOk ρ s.hp w pins sp
 ok : ∀ p ∈ A, POk P E ops l ρ F s.hp a w sp p
 inj : ∀ p ∈ A, ∀ q ∈ A, p.1 = q.1 → p = q
 binj : ∀ p ∈ A, ∀ q ∈ A, ∀ b, p.2 = some b → q.2 = some b → p = q
 ll : l.length = ops.size
 lcA : ∀ j, lc.getD j true = (l.getD j true || A.any (·.1 == j))
 good : Good ops lc
def cnt (lc : Array Bool) : Nat := lc.toList.countP (fun b => !b)
theorem aGi {lc : Array Bool} {j : Nat} (h : lc.getD j true = false) : cnt (lc.setIfInBounds j true) + 1 = cnt lc := by
 have hj : j < lc.size := by
  rcases Nat.lt_or_ge j lc.size with h' | h'
  ·exact h'
  ·simp [Array.getElem?_eq_none h'] at h
 have hv : lc.toList[j]'(by simpa using hj) = false := by simpa [hj] using h
 have hpos : 0 < lc.toList.countP (fun b => !b) := List.countP_pos_iff.2 ⟨false, by rw [← hv]; exact List.getElem_mem _, rfl⟩
 simp only [cnt, Array.toList_setIfInBounds]
 rw [List.countP_set (by simpa using hj)]
 simp only [hv, Bool.not_false, Bool.not_true, Bool.false_eq_true, if_true, if_false]
 omega
theorem DInv.sz {l : List Bool} {lc : Array Bool} {pins sp : List (Nat × Nat)} {A : List (Nat × Option Nat)} (h : DInv P gl E ops l lc pins sp A s a w ρ F) : lc.size = ops.size := h.good.1
theorem aCd {l : List Bool} {lc : Array Bool} {pins sp : List (Nat × Nat)} {A : List (Nat × Option Nat)} (h : DInv P gl E ops l lc pins sp A s a w ρ F) {j : Nat} : lc.getD j true = false ↔ l.getD j true = false ∧ ∀ p ∈ A, p.1 ≠ j := by
 rw [h.lcA j]
 simp [Bool.or_eq_false_iff]
theorem DInv.rdyC {l : List Bool} {lc : Array Bool} {pins sp : List (Nat × Nat)} {A : List (Nat × Option Nat)} (h : DInv P gl E ops l lc pins sp A s a w ρ F) {j : Nat} (hj : j ∈ Region.ready .any ops lc) : j ∈ aQ (bP ops) (vP l (A.map (·.1))) := by
 obtain ⟨h1, h2, h3⟩ := dL.1 hj
 have ex : ∀ x, x < ops.size → ∀ d, lc.getD x d = (l.getD x d || (A.map (·.1)).contains x) := fun x hx d => by
  have e1 := h.lcA x
  have hlc : x < lc.size := by rw [h.sz]; exact hx
  have hl : x < l.length := by rw [h.ll]; exact hx
  have e2 : lc.getD x d = lc.getD x true := by simp [hlc]
  have e3 : l.getD x d = l.getD x true := by simp [List.getD_eq_getElem?_getD, hl]
  rw [e2, e1, e3]
  congr 1
  rw [Bool.eq_iff_iff, List.any_eq_true]
  simp
 refine bO.2 ⟨by rw [dT]; exact h2, ?_, fun x hx =>?_⟩
 ·rw [iE true _ _ _ (by rw [h.ll]; exact h2), ← ex j h2 true]
  exact h1
 ·have hx' := h3 x hx
  have hxs : x < ops.size := by
   rcases Nat.lt_or_ge x lc.size with h' | h'
   ·rw [← h.sz]; exact h'
   ·simp [Array.getElem?_eq_none h'] at hx'
  rw [iE false _ _ _ (by rw [h.ll]; exact hxs), ← ex x hxs false]
  exact hx'
theorem DInv.rdyA {l : List Bool} {lc : Array Bool} {pins sp : List (Nat × Nat)} {A : List (Nat × Option Nat)} (h : DInv P gl E ops l lc pins sp A s a w ρ F) {j : Nat} (hj : j ∈ aQ (bP ops) l) (hA : ∀ p ∈ A, p.1 ≠ j) : j ∈ Region.ready .any ops lc := by
 obtain ⟨h1, h2, h3⟩ := bO.1 hj
 rw [dT] at h1
 refine dL.2 ⟨(aCd h).2 ⟨h2, hA⟩, h1, fun x hx =>?_⟩
 have hx' := h3 x hx
 have hxl : x < l.length := by
  rcases Nat.lt_or_ge x l.length with h' | h'
  ·exact h'
  ·rw [List.getD_eq_getElem?_getD, List.getElem?_eq_none h'] at hx'
   simp at hx'
 have hxc : x < lc.size := by rw [h.sz, ← h.ll]; exact hxl
 have e1 := h.lcA x
 have e2 : l.getD x true = true := by simpa [List.getD_eq_getElem?_getD, hxl] using hx'
 rw [e2, Bool.true_or] at e1
 simpa [hxc] using e1
theorem aUk {N : List (List Nat)} {l : List Bool} {i j : Nat} (h : j ∈ aQ N l) (hne : j ≠ i) : j ∈ aQ N (l.set i true) := by
 obtain ⟨h1, h2, h3⟩ := bO.1 h
 refine bO.2 ⟨h1, ?_, fun x hx =>?_⟩
 ·rw [List.getD_eq_getElem?_getD, List.getElem?_set_ne (fun e => hne e.symm), ← List.getD_eq_getElem?_getD]
  exact h2
 ·have := h3 x hx
  rw [List.getD_eq_getElem?_getD] at this ⊢
  rw [List.getElem?_set]
  split
  ·split
   ·rfl
   ·rename_i e hlt
    subst e
    rw [List.getElem?_eq_none (by omega)] at this
    simp at this
  ·exact this
theorem aJk (l : List Bool) (i j : Nat) (h : i < l.length) : (l.set i true).getD j true = (l.getD j true || j == i) := by
 by_cases c : i = j
 ·subst c
  simp [List.getD_eq_getElem?_getD, h]
 ·have c' : ¬ j = i := fun e => c e.symm
  simp [List.getD_eq_getElem?_getD, List.getElem?_set_ne c, c']
theorem aEo (l : Array Bool) (i j : Nat) (h : i < l.size) : (l.setIfInBounds i true).getD j true = (l.getD j true || j == i) := by
 by_cases c : i = j
 ·subst c
  simp [h]
 ·have c' : ¬ j = i := fun e => c e.symm
  rw [getD_set_ne true c]
  simp [c']
def Off (ops : Array Oper) (oi o : Oper) : Prop := (∀ d, oi.dst = some d → d ∉ o.looksAt ops) ∧ ∀ d, oi.dst = some d → o.dst ≠ some d
theorem Off.of {oi o : Oper} (h : oi.apart ops o = true) : Off ops oi o := ⟨(Oper.apart_spec h).1, (Oper.apart_spec h).2.1⟩
theorem Off.of' {oi o : Oper} (h : o.apart ops oi = true) : Off ops oi o := ⟨(Oper.apart_spec h).2.2, fun d h1 h2 => (Oper.apart_spec h).2.1 d h2 h1⟩
theorem PRun.step {ρ' : List Value} {F' : Nat → Prop} {hp hp' : List AObj} {w' : World} {sp sp' : List (Nat × Nat)} {o oi : Oper} {u v : Value} {ob : Option Nat} (hs : ∀ cs b, o.op ≠ .select cs b) (h : PRun P E ops ρ F hp a w sp o u ob) (hoff : Off ops oi o)
  (hw : ∀ b, b < w.heap.size → ¬ Own ρ hp b → ¬ Bx F E.L b → E.w.heap.size ≤ b → w'.heap[b]? = w.heap[b]? ∧ ¬ Own ρ' hp' b ∧ ¬ Bx F' E.L b) (hsp : ∀ b, ob = some b → ∀ q ∈ sp', q.2 ≠ b) : PRun P E ops ρ' F' hp' (a.put oi.dst v) w' sp' o u ob := by
 cases ob with
 | none => exact ⟨by rw [wanted_put o a oi.dst v hoff.1]; exact h.1, h.2⟩
 | some b =>
  obtain ⟨h1, ⟨obj, h2, h3, h4⟩, h5, h6, h7, h8⟩ := h
  have hlt : b < w.heap.size := (Array.getElem?_eq_some_iff.1 h4).1
  obtain ⟨k1, k2, k3⟩ := hw b hlt h5 h6 h7
  exact ⟨by rw [wanted_put o a oi.dst v hoff.1]; exact h1, ⟨obj, h2, fun w1 => by rw [execOp_put o hs a oi.dst v hoff.1]; exact h3 w1, by rw [k1]; exact h4⟩, k2, k3, h7, hsp b rfl⟩
theorem xD {o : Oper} (h : bH o.op = true) : ∀ cs b, o.op ≠ .select cs b := fun cs b e => by rw [e] at h; simp [bH] at h
theorem POk.step {l l' : List Bool} {ρ' : List Value} {F' : Nat → Prop} {hp hp' : List AObj} {w' : World} {sp sp' : List (Nat × Nat)} {oi : Oper} {v : Value} {p : Nat × Option Nat} (h : POk P E ops l ρ F hp a w sp p) (hl : p.1 ∈ aQ (bP ops) l') (hoff : ∀ o, ops[p.1]? = some o → Off ops oi o)
  (hw : ∀ b, b < w.heap.size → ¬ Own ρ hp b → ¬ Bx F E.L b → E.w.heap.size ≤ b → w'.heap[b]? = w.heap[b]? ∧ ¬ Own ρ' hp' b ∧ ¬ Bx F' E.L b) (hsp : ∀ b, p.2 = some b → ∀ q ∈ sp', q.2 ≠ b) : POk P E ops l' ρ' F' hp' (a.put oi.dst v) w' sp' p := by
 obtain ⟨⟨o, u, h1, h2, h3, h4⟩, h5⟩ := h
 refine ⟨⟨o, u, h1, h2, ?_, h4.step (xD h2) (hoff o h1) hw hsp⟩, hl⟩
 rw [Act.put_comm a v u (hoff o h1).2, h3]
theorem DInv.step {l : List Bool} {lc : Array Bool} {pins sp pins' sp' : List (Nat × Nat)} {A : List (Nat × Option Nat)} (h : DInv P gl E ops l lc pins sp A s a w ρ F) {i : Nat} {oi : Oper} {v : Value} {s' : St} {w' : World} {ρ' : List Value} {F' : Nat → Prop} (hi : i ∈ aQ (bP ops) l) (hA : ∀ p ∈ A, p.1 ≠ i)
  (hoff : ∀ p ∈ A, ∀ o, ops[p.1]? = some o → Off ops oi o) (hinv : Inv gl E s' (a.put oi.dst v) w' ρ' F') (hpin : PinOk ρ' s'.hp w' pins' sp')
  (hw : ∀ b, b < w.heap.size → ¬ Own ρ s.hp b → ¬ Bx F E.L b → E.w.heap.size ≤ b → w'.heap[b]? = w.heap[b]? ∧ ¬ Own ρ' s'.hp b ∧ ¬ Bx F' E.L b) (hsp : ∀ p ∈ A, ∀ b, p.2 = some b → ∀ q ∈ sp', q.2 ≠ b) :
  DInv P gl E ops (l.set i true) (lc.setIfInBounds i true) pins' sp' A s' (a.put oi.dst v) w' ρ' F' := by
 have hil : i < ops.size := by rw [← dT]; exact (bO.1 hi).1
 refine ⟨hinv, hpin, fun p hp => (h.ok p hp).step (aUk (h.ok p hp).rdy (hA p hp)) (hoff p hp) hw (hsp p hp), h.inj, h.binj, by simpa using h.ll, fun j =>?_, h.good.set (h.rdyA hi hA)⟩
 rw [aEo _ _ _ (by rw [h.sz]; exact hil), aJk _ _ _ (by rw [h.ll]; exact hil), h.lcA j, Bool.or_assoc, Bool.or_assoc]
 congr 1
 exact Bool.or_comm _ _
theorem DInv.pick {l : List Bool} {lc : Array Bool} {pins sp : List (Nat × Nat)} {A : List (Nat × Option Nat)} (h : DInv P gl E ops l lc pins sp A s a w ρ F) {x : Nat} {o : Oper} {u : Value} {w' : World} {ob : Option Nat} (hx : x ∈ aQ (bP ops) l) (hA : ∀ p ∈ A, p.1 ≠ x) (ho : ops[x]? = some o) (hf : bH o.op = true)
  (hoff : ∀ p ∈ A, ∀ o', ops[p.1]? = some o' → Off ops o o') (hinv : Inv gl E s (a.put o.dst u) w' ρ F) (hpin : PinOk ρ s.hp w' pins sp)
  (hw : ∀ b, b < w.heap.size → w'.heap[b]? = w.heap[b]?) (hb : ∀ b, ob = some b → w.heap.size ≤ b) (hrun : PRun P E ops ρ F s.hp (a.put o.dst u) w' sp o u ob) (huu : (a.put o.dst u).put o.dst u = a.put o.dst u) :
  DInv P gl E ops l (lc.setIfInBounds x true) pins sp ((x, ob) :: A) s (a.put o.dst u) w' ρ F := by
 have hxl : x < ops.size := by rw [← dT]; exact (bO.1 hx).1
 have hlt : ∀ p ∈ A, ∀ b, p.2 = some b → b < w.heap.size := fun p hp b hpb => by
  obtain ⟨o', u', _, _, _, k⟩ := (h.ok p hp).ex
  rw [hpb] at k
  obtain ⟨_, ⟨obj, _, _, k⟩, _⟩ := k
  exact (Array.getElem?_eq_some_iff.1 k).1
 have hsp : ∀ p ∈ A, ∀ b, p.2 = some b → ∀ q ∈ sp, q.2 ≠ b := fun p hp b hpb => by
  obtain ⟨o', u', _, _, _, k⟩ := (h.ok p hp).ex
  rw [hpb] at k
  obtain ⟨_, _, _, _, _, k⟩ := k
  exact k
 refine ⟨hinv, hpin, fun p hp =>?_, fun p hp q hq e =>?_, fun p hp q hq b e1 e2 =>?_, h.ll, fun j =>?_, h.good.set (h.rdyA hx hA)⟩
 ·rcases List.mem_cons.1 hp with rfl | hp
  ·exact ⟨⟨o, u, ho, hf, huu, hrun⟩, hx⟩
  ·exact (h.ok p hp).step (h.ok p hp).rdy (hoff p hp) (fun b k1 k2 k3 _ => ⟨hw b k1, k2, k3⟩) (hsp p hp)
 ·rcases List.mem_cons.1 hp with rfl | hp <;> rcases List.mem_cons.1 hq with rfl | hq
  ·rfl
  ·exact absurd e.symm (hA q hq)
  ·exact absurd e (hA p hp)
  ·exact h.inj p hp q hq e
 ·rcases List.mem_cons.1 hp with rfl | hp <;> rcases List.mem_cons.1 hq with rfl | hq
  ·rfl
  ·have := hlt q hq b e2
   have := hb b e1
   omega
  ·have := hlt p hp b e1
   have := hb b e2
   omega
  ·exact h.binj p hp q hq b e1 e2
 ·rw [aEo _ _ _ (by rw [h.sz]; exact hxl), h.lcA j, List.any_cons, Bool.or_assoc]
  congr 1
  rw [Bool.or_comm]
  congr 1
  rw [Bool.eq_iff_iff, beq_iff_eq, beq_iff_eq]
  exact eq_comm
theorem DInv.absorb {l : List Bool} {lc : Array Bool} {pins sp : List (Nat × Nat)} {A : List (Nat × Option Nat)} (h : DInv P gl E ops l lc pins sp A s a w ρ F) {p : Nat × Option Nat} {s' : St} {ρ' : List Value} (hp : p ∈ A) (hinv : Inv gl E s' a w ρ' F) (hpin : PinOk ρ' s'.hp w pins sp)
  (hown : ∀ b, Own ρ' s'.hp b → Own ρ s.hp b ∨ p.2 = some b) :
  DInv P gl E ops (l.set p.1 true) lc pins sp (A.filter (fun q => q.1 != p.1)) s' a w ρ' F := by
 have hil : p.1 < ops.size := by rw [← dT]; exact (bO.1 (h.ok p hp).rdy).1
 have hm : ∀ q ∈ A.filter (fun q => q.1 != p.1), q ∈ A ∧ q.1 ≠ p.1 := fun q hq => by
  obtain ⟨k1, k2⟩ := List.mem_filter.1 hq
  exact ⟨k1, by simpa using k2⟩
 refine ⟨hinv, hpin, fun q hq =>?_, fun q hq r hr e => h.inj q (hm q hq).1 r (hm r hr).1 e, fun q hq r hr b e1 e2 => h.binj q (hm q hq).1 r (hm r hr).1 b e1 e2, by simpa using h.ll, fun j =>?_, h.good⟩
 ·obtain ⟨k1, k2⟩ := hm q hq
  obtain ⟨⟨o, u, h1, h2, h3, h4⟩, h5⟩ := h.ok q k1
  refine ⟨⟨o, u, h1, h2, h3, ?_⟩, aUk h5 k2⟩
  generalize hqb : q.2 = ob at h4 ⊢
  cases ob with
  | none => exact h4
  | some b =>
   obtain ⟨g1, g3, g4, g5, g6, g7⟩ := h4
   exact ⟨g1, g3, fun ho => (hown b ho).elim g4 (fun e => k2 (congrArg Prod.fst (h.binj q k1 p hp b hqb e))), g5, g6, g7⟩
 ·rw [h.lcA j, aJk _ _ _ (by rw [h.ll]; exact hil), Bool.or_assoc]
  congr 1
  rw [Bool.eq_iff_iff, List.any_eq_true, Bool.or_eq_true, List.any_eq_true]
  constructor
  ·rintro ⟨q, k1, k2⟩
   by_cases c : q.1 = p.1
   ·left
    simp only [beq_iff_eq] at k2 ⊢
    omega
   ·exact .inr ⟨q, List.mem_filter.2 ⟨k1, by simpa using c⟩, k2⟩
  ·rintro (k | ⟨q, k1, k2⟩)
   ·exact ⟨p, hp, by simp only [beq_iff_eq] at k ⊢; omega⟩
   ·exact ⟨q, (hm q k1).1, k2⟩
theorem aUl (a : Act) (d : Option Tmp) (u : Value) : (a.put d u).put d u = a.put d u := by
 cases d with
 | none => rfl
 | some t => simp [Act.put]
end
end Go.Ax
