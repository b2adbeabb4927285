/- Merged. -/
import Derived.Test.YthcfkplfmjcmoaaGreatDoorQ01
import Derived.Great.BuildSlice
namespace Go.Ax
open Go.RowKit
set_option linter.unusedVariables false
set_option linter.unusedSimpArgs false
def Glo (gl : Glb) (w : World) (F : Nat → Prop) : Prop := ∀ (g : Nat) (x : Σ e : EK, e.T), gl g = some x → ∃ row, F g ∧ Rd w F x.1 x.2 row ∧ ∀ (j : Nat) (u : Value), row[j]? = some u → w.cell? ⟨g, 0 + j, none⟩ = some u
theorem Glo.mono {gl : Glb} {w w' : World} {F F' : Nat → Prop} (h : Glo gl w F) (hb : ∀ b, F b → w'.heap[b]? = w.heap[b]?) (hf : ∀ b, F b → F' b) : Glo gl w' F' := fun g x hx => by
 obtain ⟨row, h1, h2, h3⟩ := h g x hx
 exact ⟨row, hf g h1, h2.mono hb hf, fun j u hu => by rw [bK (w := w) (hb g h1)]; exact h3 j u hu⟩

section
variable {P : Program} {gl : Glb} {ρ : List Value} {F L B : Nat → Prop} {s : St} {a : Act} {w : World}
theorem aWp (v : Value) : VR ρ w F B (cv0 v) v := by
 cases v with
 | int k n => cases k <;> simp [cv0, VR]
 | _ => simp [cv0, VR]
theorem cB : ∀ l : List Value, VRs ρ w F B (l.map cv0) l
 | [] => by simp [VRs]
 | v :: l => by simp only [List.map_cons, VRs]; exact ⟨aWp v, cB l⟩
theorem bBt (v : Value) : VR ρ w F B (cv v) v := by
 cases v with
 | int k n => cases k <;> simp [cv, VR]
 | agg cs => exact ⟨cs, rfl, cB _⟩
 | tuple cs => exact ⟨cs, rfl, cB _⟩
 | _ => simp [cv, VR]
theorem VRs.getD {l : List AVal} {vs : List Value} (h : VRs ρ w F B l vs) (t : Nat) (d : Value) : VR ρ w F B (l.getD t .any) (vs.getD t d) := by
 rw [List.getD_eq_getElem?_getD, List.getD_eq_getElem?_getD]
 cases ha : l[t]? with
 | none => simp [VR]
 | some x =>
  obtain ⟨v, hv, r⟩ := h.at ha
  rw [hv]
  exact r
theorem kF (hR : Rep ρ F L s a w) (hg : Glo gl w F) (x : Operand) : VR ρ w F (Bx F L) (ev gl s x) (a.eval x) := by
 cases x with
 | tmp t =>
  have := hR.tm.getD t undef
  simpa [ev, Act.eval, Array.getD_eq_getD_getElem?, List.getD_eq_getElem?_getD] using this
 | const v => exact bBt v
 | global g =>
  simp only [ev, Act.eval]
  cases hx : gl g with
  | none => simp [VR]
  | some x =>
   obtain ⟨row, h1, h2, h3⟩ := hg g x hx
   exact ⟨g, 0, row, rfl, h1, h2, h3⟩
 | func f =>
  simp only [ev]
  split
  ·rename_i hf
   have e1 : f % 1000000 = f := Nat.mod_eq_of_lt hf
   have e2 : f / 1000000 = 0 := Nat.div_eq_of_lt hf
   simp only [VR]
   exact ⟨#[], ⟨by rw [e1, e2]; rfl, by rw [e2]; exact Nat.le_refl _⟩, by simp [VRs]⟩
  ·simp [VR]
theorem cY (hR : Rep ρ F L s a w) (hg : Glo gl w F) : ∀ l : List Operand, VRs ρ w F (Bx F L) (l.map (ev gl s)) (l.map a.eval)
 | [] => by simp [VRs]
 | x :: l => by simp only [List.map_cons, VRs]; exact ⟨kF hR hg x, cY hR hg l⟩

theorem cU {k : EK} {v : AVal} {x : k.T} {c : Value} (h : v.leaf k = some x) (hv : VR ρ w F B v c) : Rd w F k x [c] := by
 cases k with
 | int => cases v <;> simp_all [AVal.leaf, VR] <;> exact .int _
 | bool => cases v <;> simp_all [AVal.leaf, VR] <;> exact .bool _
 | st s => cases v <;> simp [AVal.leaf] at h
 | sl e =>
  cases v with
  | sl e' xs =>
   simp only [AVal.leaf] at h
   split at h
   ·rename_i he; subst he; cases h; exact hv
   ·cases h
  | sln e' xs =>
   simp only [AVal.leaf] at h
   split at h
   ·rename_i he; subst he; cases h; exact hv.1
   ·cases h
  | con u =>
   simp only [VR] at hv
   subst hv
   simp only [AVal.leaf] at h
   split at h
   ·rename_i hu
    cases h
    rw [cH hu]
    exact .nil e
   ·cases h
  | _ => simp [AVal.leaf] at h
theorem aIr : ∀ {ks : List EK} {vs : List AVal} {r : HL ks} {cs : List Value}, HL.of ks vs = some r → VRs ρ w F B vs cs → cs.length = ks.length ∧ ∀ (j : Nat) (k : EK) (y : k.T) (c : Value), HL.nth ks r j = some ⟨k, y⟩ → cs[j]? = some c → Rd w F k y [c]
 | [], [], _, cs, h, hv => by cases cs <;> simp_all [VRs, HL.nth]
 | [], _ :: _, _, _, h, _ => by simp [HL.of] at h
 | _ :: _, [], _, _, h, _ => by simp [HL.of] at h
 | k :: ks, v :: vs, r, cs, h, hv => by
  simp only [HL.of] at h
  obtain ⟨x, h1, h⟩ := Option.bind_eq_some_iff.1 h
  obtain ⟨r', h2, h⟩ := Option.bind_eq_some_iff.1 h
  cases h
  cases cs with
  | nil => simp [VRs] at hv
  | cons c cs =>
   simp only [VRs] at hv
   obtain ⟨i1, i2⟩ := aIr h2 hv.2
   refine ⟨by simp [i1], fun j k' y c' hj hc =>?_⟩
   cases j with
   | zero =>
    simp only [HL.nth, Option.some.injEq, Sigma.mk.injEq] at hj
    obtain ⟨rfl, hj⟩ := hj
    cases hj
    simp at hc
    subst hc
    exact cU h1 hv.1
   | succ j =>
    simp only [HL.nth] at hj
    exact i2 j k' y c' hj (by simpa using hc)
theorem nL {e : EK} {vs : List AVal} {x : e.T} {cs : List Value} (h : e.iv vs = some x) (hv : VRs ρ w F B vs cs) : Rd w F e x cs := by
 cases e with
 | st s =>
  simp only [EK.iv] at h
  obtain ⟨r, h1, h⟩ := Option.bind_eq_some_iff.1 h
  cases h
  obtain ⟨h2, h3⟩ := aIr h1 hv
  exact .st s _ cs h2 (by rw [SN.un_mk]; exact h3)
 | int =>
  match vs, cs, h, hv with
  | [v], [c], h, hv => simp only [VRs, and_true] at hv; exact cU h hv
  | [], _, h, _ => simp [EK.iv] at h
  | [v], [], _, hv => simp [VRs] at hv
  | [v], _ :: _ :: _, _, hv => simp [VRs] at hv
  | _ :: _ :: _, _, h, _ => simp [EK.iv] at h
 | bool =>
  match vs, cs, h, hv with
  | [v], [c], h, hv => simp only [VRs, and_true] at hv; exact cU h hv
  | [], _, h, _ => simp [EK.iv] at h
  | [v], [], _, hv => simp [VRs] at hv
  | [v], _ :: _ :: _, _, hv => simp [VRs] at hv
  | _ :: _ :: _, _, h, _ => simp [EK.iv] at h
 | sl e' =>
  match vs, cs, h, hv with
  | [v], [c], h, hv => simp only [VRs, and_true] at hv; exact cU h hv
  | [], _, h, _ => simp [EK.iv] at h
  | [v], [], _, hv => simp [VRs] at hv
  | [v], _ :: _ :: _, _, hv => simp [VRs] at hv
  | _ :: _ :: _, _, h, _ => simp [EK.iv] at h
theorem aIs {k : EK} {x : k.T} {c : Value} (h : Rd w F k x [c]) : VR ρ w F B (k.leafV x) c := by
 cases k with
 | int => cases h; simp [EK.leafV, VR]
 | bool => cases h; simp [EK.leafV, VR]
 | st s => simp [EK.leafV, VR]
 | sl e => exact h
theorem aIt {k : EK} {x : k.T} {c : Value} (h : Rd w B k x [c]) : VR ρ w F B (k.leafB x) c := by
 cases k with
 | int => cases h; simp [EK.leafB, VR]
 | bool => cases h; simp [EK.leafB, VR]
 | st s => simp [EK.leafB, VR]
 | sl e => exact h
theorem aIu : ∀ {ks : List EK} {r : HL ks} {cs : List Value}, cs.length = ks.length → (∀ (j : Nat) (k : EK) (y : k.T) (c : Value), HL.nth ks r j = some ⟨k, y⟩ → cs[j]? = some c → Rd w F k y [c]) → VRs ρ w F B (HL.vs ks r) cs
 | [], _, cs, hl, _ => by cases cs <;> simp_all [HL.vs, VRs]
 | k :: ks, r, [], hl, _ => by simp at hl
 | k :: ks, r, c :: cs, hl, h => by
  simp only [HL.vs, VRs]
  exact ⟨aIs (h 0 k r.1 c rfl rfl), aIu (by simpa using hl) (fun j k' y c' hj hc => h (j + 1) k' y c' hj (by simpa using hc))⟩
theorem aIv : ∀ {ks : List EK} {r : HL ks} {cs : List Value}, cs.length = ks.length → (∀ (j : Nat) (k : EK) (y : k.T) (c : Value), HL.nth ks r j = some ⟨k, y⟩ → cs[j]? = some c → Rd w B k y [c]) → VRs ρ w F B (HL.bs ks r) cs
 | [], _, cs, hl, _ => by cases cs <;> simp_all [HL.bs, VRs]
 | k :: ks, r, [], hl, _ => by simp at hl
 | k :: ks, r, c :: cs, hl, h => by
  simp only [HL.bs, VRs]
  exact ⟨aIt (h 0 k r.1 c rfl rfl), aIv (by simpa using hl) (fun j k' y c' hj hc => h (j + 1) k' y c' hj (by simpa using hc))⟩
theorem lU {e : EK} {x : e.T} {cs : List Value} (h : Rd w F e x cs) : VRs ρ w F B (e.lv x) cs := by
 cases h with
 | int x => simp [EK.lv, VRs, VR]
 | bool b => simp [EK.lv, VRs, VR]
 | st s x cs hl h => exact aIu hl h
 | nil e A => simp only [EK.lv, VRs, VR, and_true]; exact .nil e A
 | sl e xs b o cap rows hF hc hr hz hw => simp only [EK.lv, VRs, VR, and_true]; exact .sl e xs b o cap rows hF hc hr hz hw
theorem aIw {e : EK} {x : e.T} {cs : List Value} (h : Rd w B e x cs) : VRs ρ w F B (e.lb x) cs := by
 cases h with
 | int x => simp [EK.lb, VRs, VR]
 | bool b => simp [EK.lb, VRs, VR]
 | st s x cs hl h => exact aIv hl h
 | nil e A => simp only [EK.lb, VRs, VR, and_true]; exact .nil e A
 | sl e xs b o cap rows hF hc hr hz hw => simp only [EK.lb, VRs, VR, and_true]; exact .sl e xs b o cap rows hF hc hr hz hw
theorem rd_at {e : EK} {xs : List e.T} {i : Int} (h : inR i xs.length = true) : ∃ h' : i.toNat < xs.length, rd xs i = xs[i.toNat] ∧ 0 ≤ i := by
 simp only [inR, Bool.and_eq_true, decide_eq_true_eq] at h
 have h' : i.toNat < xs.length := by omega
 exact ⟨h', by simp [rd, List.getD_eq_getElem?_getD, List.getElem?_eq_getElem h'], h.1⟩

theorem nM {t : TypeId} {n : Nat} (h : szT P t = some n) : ∃ i, P.info? t = some i ∧ i.size = n := by
 simpa [szT] using h
theorem gO {t : TypeId} {n : Nat} (h : szT P t = some n) (w : World) : (sizeOf t).run P w = .ok n w := by
 obtain ⟨i, h1, h2⟩ := nM h
 simp [sizeOf, typeInfo, h1, h2]
theorem lV {t : TypeId} {q : Bool} (h : aggT P t = some q) (w : World) : (isAgg t).run P w = .ok q w := by
 unfold aggT at h
 obtain ⟨d, hd, h⟩ := Option.map_eq_some_iff.1 h
 subst h
 unfold isAgg
 rw [Sem.run_bind, run_underlying hd w]
 cases d <;> simp
end
section
variable {P : Program} {gl : Glb} {ρ : List Value} {F L B : Nat → Prop} {s : St} {a : Act} {w : World}
theorem aIx {t : TypeId} {l : List AVal} {off : Nat} {v : AVal} {cs : Array Value} (h : wY P t l off = some v) (hv : VRs ρ w F B l cs.toList) :
  ∃ val, (∀ w1, (part t cs off).run P w1 = .ok val w1) ∧ VR ρ w F B v val := by
 unfold wY at h
 obtain ⟨q, hq, h⟩ := Option.bind_eq_some_iff.1 h
 cases q with
 | true =>
  simp only [if_true] at h
  obtain ⟨n, hn, h⟩ := Option.bind_eq_some_iff.1 h
  split at h
  ·cases h
   refine ⟨.agg (cs.extract off (off + n)), fun w1 => by simp [part, Sem.run_bind, lV hq, gO hn], ?_⟩
   have := hv.sub off n
   simp only [VR]
   refine ⟨_, rfl, ?_⟩
   have e : (cs.extract off (off + n)).toList = (cs.toList.drop off).take n := by
    simp [Array.toList_extract, List.extract_eq_take_drop]
   rw [e]
   exact this
  ·cases h
 | false =>
  simp only [Bool.false_eq_true, if_false] at h
  obtain ⟨u, hu, r⟩ := hv.at h
  refine ⟨u, fun w1 =>?_, r⟩
  have : cs[off]? = some u := by simpa using hu
  simp [part, Sem.run_bind, lV hq, this]
theorem nY {t : TypeId} {l : List AVal} {off b o : Nat} {v : AVal} {row : List Value} (h : wY P t l off = some v) (hv : VRs ρ w F B l row) :
  ∃ val, (∀ w1 : World, (∀ (j : Nat) (u : Value), row[j]? = some u → w1.cell? ⟨b, o + j, none⟩ = some u) → (Instr.loadAt t (.pointer (some ⟨b, o + off, none⟩))).run P w1 = .ok val w1) ∧ VR ρ w F B v val := by
 unfold wY at h
 obtain ⟨q, hq, h⟩ := Option.bind_eq_some_iff.1 h
 have hl := hv.length
 cases q with
 | true =>
  simp only [if_true] at h
  obtain ⟨n, hn, h⟩ := Option.bind_eq_some_iff.1 h
  split at h
  ·rename_i hle
   cases h
   obtain ⟨d, hd, hd2⟩ := Option.map_eq_some_iff.1 hq
   refine ⟨.agg ((row.drop off).take n).toArray, fun w1 hw =>?_, ?_⟩
   ·refine run_loadAt_mid w1 b (o + off) t ((row.drop off).take n) d (fun j u hu =>?_) hd ?_ ?_
    ·rw [List.getElem?_take] at hu
     split at hu
     ·rw [List.getElem?_drop] at hu
      rw [show o + off + j = o + (off + j) by omega]
      exact hw _ _ hu
     ·cases hu
    ·cases d <;> simp_all
    ·obtain ⟨i, h1, h2⟩ := nM hn
     rw [h1]
     simp
     omega
   ·exact ⟨_, rfl, by simpa using hv.sub off n⟩
  ·cases h
 | false =>
  simp only [Bool.false_eq_true, if_false] at h
  obtain ⟨u, hu, r⟩ := hv.at h
  refine ⟨u, fun w1 hw =>?_, r⟩
  have := hw off u hu
  simp [Instr.loadAt, Instr.sureAddr, loadVar, Sem.run_bind, lV hq, run_load, this]

theorem vL : ∀ (vs : List Value) (k off : Nat) (cs : Array Value), off + k + vs.length ≤ cs.size →
  ((vs.zipIdx k).foldl (fun cs (x : Value × Nat) => cs.setIfInBounds (off + x.2) x.1) cs).toList = cs.toList.take (off + k) ++ vs ++ cs.toList.drop (off + k + vs.length)
 | [], k, off, cs, h => by simp
 | v :: vs, k, off, cs, h => by
  simp only [List.length_cons] at h
  simp only [List.zipIdx_cons, List.foldl_cons]
  rw [vL vs (k + 1) off _ (by simp; omega)]
  apply List.ext_getElem?
  intro i
  simp only [Array.toList_setIfInBounds, List.getElem?_append, List.length_append, List.length_take, List.length_set, Array.length_toList, List.length_cons, List.getElem?_take, List.getElem?_set, List.getElem?_drop]
  have e1 : min (off + (k + 1)) cs.size = off + k + 1 := by omega
  have e2 : min (off + k) cs.size = off + k := by omega
  rw [e1, e2]
  by_cases c1 : i < off + k
  ·simp [c1, show i < off + k + 1 by omega, show i < off + (k + 1) by omega, show i < off + k + (vs.length + 1) by omega, show i < off + k + 1 + vs.length by omega, show ¬ off + k = i by omega]
  ·by_cases c2 : i = off + k
   ·subst c2
    have : off + k < cs.size := by omega
    simp [this, show off + k < off + (k + 1) by omega]
    intro hh
    omega
   ·have c3 : ¬ i < off + k + 1 := by omega
    have c4 : ¬ i < off + (k + 1) := by omega
    simp only [c1, c3, c4, if_false]
    by_cases c5 : i < off + k + 1 + vs.length
    ·simp [c5, show i < off + k + (vs.length + 1) by omega, show i - (off + k) = (i - (off + k + 1)) + 1 by omega]
    ·simp only [c5, show ¬ i < off + k + (vs.length + 1) by omega, if_false]
     rw [show off + (k + 1) + vs.length + (i - (off + k + 1 + vs.length)) = i by omega, show off + k + (vs.length + 1) + (i - (off + k + (vs.length + 1))) = i by omega]
     simp [show ¬ off + k = i by omega]
theorem lO {v : AVal} {u : Value} (h : VR ρ w F B v u) (ho : (aV v).all AVal.one = true) : VRs ρ w F B (aV v) u.cells.toList := by
 cases v with
 | agg l => simp only [VR] at h; obtain ⟨cs, rfl, h2⟩ := h; exact h2
 | any => simp [aV, AVal.one] at ho
 | tup l => simp [aV, AVal.one] at ho
 | con c =>
  simp only [VR] at h
  subst h
  have : u.cells = #[u] := by cases u <;> first | rfl | simp [aV, AVal.one] at ho
  rw [this]
  simp [aV, VRs, VR]
 | sl e xs =>
  have : u.cells = #[u] := by cases h <;> rfl
  rw [this]; simp only [aV, VRs, and_true]; exact h
 | sln e xs =>
  have : u.cells = #[u] := by cases h.1 <;> rfl
  rw [this]; simp only [aV, VRs, and_true]; exact h
 | bsl e xs =>
  have : u.cells = #[u] := by cases h <;> rfl
  rw [this]; simp only [aV, VRs, and_true]; exact h
 | int x => simp only [VR] at h; subst h; simp [aV, VRs, VR, Value.cells]
 | bool x => simp only [VR] at h; subst h; simp [aV, VRs, VR, Value.cells]
 | ptr n off =>
  have : u.cells = #[u] := by simp only [VR] at h; obtain ⟨b, _, rfl⟩ := h; rfl
  rw [this]; simp only [aV, List.toList_toArray, VRs, and_true]; exact h
 | ept n sz i off =>
  have : u.cells = #[u] := by simp only [VR] at h; obtain ⟨_, _, _, _, _, _, _, rfl⟩ := h; rfl
  rw [this]; simp only [aV, List.toList_toArray, VRs, and_true]; exact h
 | dpt q e x off =>
  have : u.cells = #[u] := by simp only [VR] at h; obtain ⟨_, _, _, rfl, _⟩ := h; rfl
  rw [this]; simp only [aV, List.toList_toArray, VRs, and_true]; exact h
 | ixp n b cnt sz i off =>
  have : u.cells = #[u] := by simp only [VR] at h; obtain ⟨_, _, _, _, rfl⟩ := h; rfl
  rw [this]; simp only [aV, List.toList_toArray, VRs, and_true]; exact h
 | dxp q e x b cnt sz i off =>
  have : u.cells = #[u] := by simp only [VR] at h; obtain ⟨_, _, _, rfl, _⟩ := h; rfl
  rw [this]; simp only [aV, List.toList_toArray, VRs, and_true]; exact h
 | ownC n c =>
  have : u.cells = #[u] := by simp only [VR] at h; obtain ⟨_, _, _, _, _, rfl⟩ := h; rfl
  rw [this]; simp only [aV, List.toList_toArray, VRs, and_true]; exact h
 | own n =>
  have : u.cells = #[u] := by simp only [VR] at h; obtain ⟨_, _, _, _, rfl⟩ := h; rfl
  rw [this]; simp only [aV, List.toList_toArray, VRs, and_true]; exact h
 | vw n hi =>
  have : u.cells = #[u] := by simp only [VR] at h; obtain ⟨_, _, _, _, _, _, rfl⟩ := h; rfl
  rw [this]; simp only [aV, List.toList_toArray, VRs, and_true]; exact h
 | vd n sz lo hi =>
  have : u.cells = #[u] := by simp only [VR] at h; obtain ⟨_, _, _, _, _, _, _, ⟨_, _, rfl⟩ | ⟨_, _, _, _, rfl, _⟩⟩ := h <;> rfl
  rw [this]; simp only [aV, List.toList_toArray, VRs, and_true]; exact h
 | asl n b cnt =>
  have : u.cells = #[u] := by simp only [VR] at h; obtain ⟨_, _, _, rfl, _⟩ := h; rfl
  rw [this]; simp only [aV, List.toList_toArray, VRs, and_true]; exact h
 | clo f l =>
  have : u.cells = #[u] := by simp only [VR] at h; obtain ⟨_, ⟨rfl, _⟩, _⟩ := h; rfl
  rw [this]; simp only [aV, List.toList_toArray, VRs, and_true]; exact h
 | ifc t x =>
  have : u.cells = #[u] := by simp only [VR] at h; obtain ⟨_, rfl, _⟩ := h; rfl
  rw [this]; simp only [aV, List.toList_toArray, VRs, and_true]; exact h
 | map n =>
  have : u.cells = #[u] := by simp only [VR] at h; obtain ⟨_, _, rfl⟩ := h; rfl
  rw [this]; simp only [aV, List.toList_toArray, VRs, and_true]; exact h
theorem nZ {l cs' : List AVal} {vs us : List Value} {off : Nat} (h : VRs ρ w F B l vs) (h' : VRs ρ w F B cs' us) : VRs ρ w F B (yA l off cs') (vs.take off ++ us ++ vs.drop (off + us.length)) := by
 unfold yA
 rw [h'.length]
 refine VRs.append (VRs.append ?_ h') ?_
 ·simpa using h.sub 0 off
 ·have := h.sub (off + us.length) vs.length
  rw [List.take_of_length_le (by simp [h.length]), List.take_of_length_le (by simp)] at this
  exact this
theorem iA {place : Nat → Option (Nat × Nat)} : ∀ {parts : List (Nat × AVal)} {pvs : List (Nat × Value)} {l out : List AVal} {cs : Array Value},
  VRs ρ w F B l cs.toList → pvs.map (·.1) = parts.map (·.1) → VRs ρ w F B (parts.map (·.2)) (pvs.map (·.2)) → mX place l parts = some out → ∃ cs', Instr.fill place cs pvs = some cs' ∧ VRs ρ w F B out cs'.toList
 | [], [], l, out, cs, hl, _, _, h => by simp only [mX, Option.some.injEq] at h; subst h; exact ⟨cs, rfl, hl⟩
 | [], _ :: _, _, _, _, _, h, _, _ => by simp at h
 | _ :: _, [], _, _, _, _, h, _, _ => by simp at h
 | (i, v) :: parts, (i', u) :: pvs, l, out, cs, hl, hi, hv, h => by
  simp only [List.map_cons, List.cons.injEq, VRs] at hi hv
  obtain ⟨rfl, hi⟩ := hi
  simp only [mX] at h
  cases hp : place i' with
  | none => rw [hp] at h; cases h
  | some p =>
   obtain ⟨off, size⟩ := p
   rw [hp] at h
   simp only at h
   split at h
   ·rename_i hc
    obtain ⟨c1, c2, c3⟩ := hc
    have hu := lO hv.1 c3
    have hus : u.cells.size = size := by rw [← c1, hu.length]; simp
    have hcl := hl.length
    simp only [Array.length_toList] at hcl
    have hput : (u.cells.zipIdx.foldl (fun cs (x : Value × Nat) => cs.setIfInBounds (off + x.2) x.1) cs).toList = cs.toList.take off ++ u.cells.toList ++ cs.toList.drop (off + u.cells.toList.length) := by
     rw [← Array.foldl_toList, Array.toList_zipIdx]
     have := vL u.cells.toList 0 off cs (by simp; omega)
     simpa using this
    have := nZ (off := off) hl hu
    rw [← hput] at this
    obtain ⟨cs', h1, h2⟩ := iA this hi hv.2 h
    refine ⟨cs', ?_, h2⟩
    simp only [Instr.fill, hp]
    rw [if_neg (by simp [hus]; omega)]
    exact h1
   ·cases h
theorem aIy {t : TypeId} {parts : List (Nat × AVal)} {pvs : Array (Nat × Value)} {v : AVal} (hi : pvs.toList.map (·.1) = parts.map (·.1)) (hv : VRs ρ w F B (parts.map (·.2)) (pvs.toList.map (·.2))) (h : aOj P t parts = some v) :
  ∃ val, (∀ w1, (Instr.build t pvs).run P w1 = .ok val w1) ∧ VR ρ w F B v val := by
 suffices h : ∃ cs, P.built t pvs.toList = some cs ∧ ∃ l, v = .agg l ∧ VRs ρ w F B l cs.toList by
  obtain ⟨cs, h1, l, rfl, h2⟩ := h
  exact ⟨.agg cs, fun w1 => run_build w1 t pvs cs h1, cs, rfl, h2⟩
 unfold aOj at h
 unfold Program.built
 cases h1 : P.info? t with
 | none => rw [h1] at h; simp at h
 | some it =>
  rw [h1] at h
  cases h2 : P.underlying t with
  | none => rw [h2] at h; simp at h
  | some d =>
   rw [h2] at h
   cases d with
   | array len e =>
    simp only at h ⊢
    cases h3 : it.zero with
    | none => rw [h3] at h; simp at h
    | some z =>
     rw [h3] at h
     cases h4 : P.info? e with
     | none => rw [h4] at h; simp at h
     | some ie =>
      rw [h4] at h
      simp only at h ⊢
      obtain ⟨l, h5, rfl⟩ := Option.map_eq_some_iff.1 h
      obtain ⟨cs', h6, h7⟩ := iA (cs := z.cells) (cB _) hi hv h5
      exact ⟨cs', h6, l, rfl, h7⟩
   | struct fs =>
    simp only at h ⊢
    cases h3 : it.zero with
    | none => rw [h3] at h; simp at h
    | some z =>
     rw [h3] at h
     cases h4 : fs.toList.mapM (fun f => (P.info? f.type).map fun i => (f.offset, i.size)) with
     | none => rw [h4] at h; simp at h
     | some places =>
      rw [h4] at h
      simp only at h ⊢
      obtain ⟨l, h5, rfl⟩ := Option.map_eq_some_iff.1 h
      obtain ⟨cs', h6, h7⟩ := iA (cs := z.cells) (cB _) hi hv h5
      exact ⟨cs', h6, l, rfl, h7⟩
   | _ => simp at h
theorem kG {k : EK} {l : List AVal} {cs : List Value} (hv : VRs ρ w F B l cs) : ∀ {n b : Nat} {xs : List k.T}, vJ k l b n = some xs → xs.length = n ∧ ∀ (i : Nat) (h : i < xs.length), Rd w F k xs[i] ((cs.drop (b + i * k.sz)).take k.sz)
 | 0, b, xs, h => by simp only [vJ, Option.some.injEq] at h; subst h; simp
 | n + 1, b, xs, h => by
  simp only [vJ] at h
  split at h
  ·obtain ⟨x, h1, h⟩ := Option.bind_eq_some_iff.1 h
   obtain ⟨r, h2, rfl⟩ := Option.map_eq_some_iff.1 h
   obtain ⟨i1, i2⟩ := kG hv h2
   refine ⟨by simp [i1], fun i hi =>?_⟩
   cases i with
   | zero => simpa using nL h1 (hv.sub b k.sz)
   | succ i =>
    have := i2 i (by simpa using hi)
    simp only [List.getElem_cons_succ]
    rwa [show b + (i + 1) * k.sz = b + k.sz + i * k.sz by rw [Nat.add_mul]; omega]
  ·cases h
end
end Go.Ax
