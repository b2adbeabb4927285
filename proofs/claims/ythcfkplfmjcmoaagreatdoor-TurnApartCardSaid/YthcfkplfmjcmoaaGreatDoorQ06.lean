/- Merged. -/
import Derived.Test.YthcfkplfmjcmoaaGreatDoorQ05
namespace Go.Ax
open Go.RowKit
set_option linter.unusedVariables false
set_option linter.unusedSimpArgs false
theorem eW (b : Nat) (ty : TypeId) (fr : Nat × Nat) : ∀ (vs : List Value) (o : Nat) (w : World) (cs : Array Value), w.heap[b]? = some (.cells cs ty fr) → o + vs.length ≤ cs.size →
  (w.setCells b o vs).heap[b]? = some (.cells (cs.toList.take o ++ vs ++ cs.toList.drop (o + vs.length)).toArray ty fr)
 | [], o, w, cs, h, _ => by simpa [World.setCells] using h
 | v :: r, o, w, cs, h, hl => by
  simp only [List.length_cons] at hl
  rw [World.setCells]
  have h1 : (w.setCell ⟨b, o, none⟩ v).heap[b]? = some (.cells (cs.setIfInBounds o v) ty fr) := by simp [World.setCell, Array.getElem?_modify, h]
  rw [eW b ty fr r (o + 1) _ _ h1 (by simp; omega)]
  congr 2
  have := vL [v] 0 o cs (by simp; omega)
  simp only [Array.toList_setIfInBounds]
  apply congrArg List.toArray
  apply List.ext_getElem?
  intro i
  simp only [List.getElem?_append, List.length_append, List.length_take, List.length_set, Array.length_toList, List.length_cons, List.getElem?_take, List.getElem?_set, List.getElem?_drop]
  have e1 : min (o + 1) cs.size = o + 1 := by omega
  have e2 : min o cs.size = o := by omega
  rw [e1, e2]
  by_cases c1 : i < o
  ·simp [c1, show i < o + 1 by omega, show i < o + (r.length + 1) by omega, show i < o + 1 + r.length by omega, show ¬ o = i by omega]
  ·by_cases c2 : i = o
   ·subst c2
    have : i < cs.size := by omega
    simp [this]
    intro hh
    omega
   ·simp only [c1, show ¬ i < o + 1 by omega, if_false]
    by_cases c5 : i < o + 1 + r.length
    ·simp [c5, show i < o + (r.length + 1) by omega, show i - o = (i - (o + 1)) + 1 by omega]
    ·simp only [c5, show ¬ i < o + (r.length + 1) by omega, if_false]
     rw [show o + 1 + r.length + (i - (o + 1 + r.length)) = i by omega, show o + (r.length + 1) + (i - (o + (r.length + 1))) = i by omega]
     simp [show ¬ o = i by omega]
theorem aDo (b : Nat) : ∀ (vs : List Value) (o : Nat) (w : World), (w.setCells b o vs).heap.size = w.heap.size
 | [], _, _ => rfl
 | v :: r, o, w => by rw [World.setCells, aDo b r]; simp
theorem kI (b : Nat) : ∀ (vs : List Value) (o : Nat) (w : World), Ch w (w.setCells b o vs) (fun k => k = b)
 | [], _, w => Ch.refl w _
 | v :: r, o, w => by
  have h1 : Ch w (w.setCell ⟨b, o, none⟩ v) (fun k => k = b) := ⟨rfl, rfl, rfl, by simp, fun k _ hn => Below.heap_setCell w ⟨b, o, none⟩ v k hn⟩
  exact (h1.trans (kI b r (o + 1) _)).mono (fun k h => h.elim id id)

section
variable {P : Program} {gl : Glb} {kd : TypeId → Option EK} {ρ : List Value} {F L B : Nat → Prop} {s : St} {a : Act} {w : World}
def PK (ρ ρ' : List Value) : Prop := ∀ (n : Nat) (x : Option Addr), ρ[n]? = some (.pointer x) → ρ'[n]? = some (.pointer x)
theorem PK.refl (ρ : List Value) : PK ρ ρ := fun _ _ h => h
theorem PK.trans {ρ ρ1 ρ2 : List Value} (h : PK ρ ρ1) (k : PK ρ1 ρ2) : PK ρ ρ2 := fun n x hx => k n x (h n x hx)
def NK (ρ ρ' : List Value) (hp hp' : List AObj) (w : World) (ws : Nat → Prop) : Prop := ∀ (n : Nat) (x : Value) (o : AObj) (b : Nat), ρ'[n]? = some x → hp'[n]? = some o → o.live = true → blk x = some b → b < w.heap.size →
 ∃ (m : Nat) (y : Value) (o' : AObj), ρ[m]? = some y ∧ hp[m]? = some o' ∧ o'.live = true ∧ blk y = some b ∧ (m = n ∨ ws m)
def LV (hp hp' : List AObj) : Prop := ∀ (n : Nat) (o : AObj), hp'[n]? = some o → o.live = true → ∃ o', hp[n]? = some o' ∧ o'.live = true
theorem LV.refl (hp : List AObj) : LV hp hp := fun n o h hl => ⟨o, h, hl⟩
theorem LV.trans {h0 h1 h2 : List AObj} (a : LV h0 h1) (b : LV h1 h2) : LV h0 h2 := fun n o h hl => by
 obtain ⟨o1, k1, k2⟩ := b n o h hl
 exact a n o1 k1 k2
theorem LV.set {hp : List AObj} {n : Nat} {o o' : AObj} (h : hp[n]? = some o) (hl : o.live = true) : LV hp (hp.set n o') := fun m x hx hxl => by
 rw [List.getElem?_set] at hx
 by_cases c : n = m
 ·subst c
  exact ⟨o, h, hl⟩
 ·rw [if_neg c] at hx
  exact ⟨x, hx, hxl⟩
theorem LV.nk {hp hp' : List AObj} {ws : Nat → Prop} (h : LV hp hp') : NK ρ ρ hp hp' w ws := fun n x o b h1 h2 h3 h4 _ => by
 obtain ⟨o', k1, k2⟩ := h n o h2 h3
 exact ⟨n, x, o', h1, k1, k2, h4, .inl rfl⟩
theorem bKx (n : Nat) (s : St) : LV s.hp (frz n s).hp := fun m o h hl => by
 unfold frz at h
 split at h
 ·rename_i e xs ho
  simp only [St.mp] at h
  rw [List.getElem?_set] at h
  split at h
  ·split at h
   ·cases h
    simp [AObj.live] at hl
   ·cases h
  ·rw [List.getElem?_map] at h
   obtain ⟨o', h1, rfl⟩ := Option.map_eq_some_iff.1 h
   exact ⟨o', h1, by cases o' <;> first | rfl | simpa [AObj.mp] using hl⟩
 ·exact ⟨o, h, hl⟩
theorem yF : ∀ (l : List Nat) (v : AVal) (s : St), LV s.hp (pK l v s).2.hp
 | [], v, s => LV.refl _
 | n :: l, v, s => by
  simp only [pK]
  split
  ·exact (bKx n s).trans (yF l _ _)
  ·exact yF l v s
def Ef (P : Program) (o : Oper) (a : Act) (w : World) (ρ : List Value) (F L : Nat → Prop) (s : St) (wr : Option Nat) (v : AVal) (s' : St) : Prop :=
 ∃ val w' ρ' F', ((execOp a.eval o).run P w = .ok (.value val) w' ∨ ((execOp a.eval o).run P w = .ok .skip w' ∧ val = undef)) ∧ Rep ρ' F' L s' a w' ∧ Stp w (Own ρ s.hp) F w' (Own ρ' s'.hp) F' ∧ VR ρ' w' F' (Bx F' L) v val ∧
  PK ρ ρ' ∧ Ch w w' (fun k => ∃ n x, wr = some n ∧ ρ[n]? = some x ∧ blk x = some k) ∧ NK ρ ρ' s.hp s'.hp w (fun n => wr = some n)
theorem getElem?_app {α : Type} (l : List α) (x : α) (n : Nat) (h : n < l.length) : (l ++ [x])[n]? = l[n]? := List.getElem?_append_left h
theorem Ef.new {o : Oper} {v : AVal} {ob : AObj} {base : Value} {w' : World} (hR : Rep ρ F L s a w) (hrun : (execOp a.eval o).run P w = .ok (.value base) w') (hc : Ch w w' (fun _ => False)) (ho : OR ρ w' F (Bx F L) base ob)
  (hb : ∀ b, blk base = some b → w.heap.size ≤ b) (hv : VR (ρ ++ [base]) w' F (Bx F L) v base) : Ef P o a w ρ F L s none v { s with hp := s.hp ++ [ob] } :=
 ⟨base, w', ρ ++ [base], F, .inl hrun, hR.new hc ho hb, (Stp.refl w _ F).new hR.h.len hc hb, hv, fun n x hx => by rw [getElem?_app ρ base n (List.getElem?_eq_some_iff.1 hx).1]; exact hx, hc.mono (fun _ h => h.elim), fun n x o b h1 h2 h3 h4 h5 => by
  by_cases c : n < ρ.length
  ·rw [getElem?_app ρ base n c] at h1
   have h2 : (s.hp ++ [ob])[n]? = some o := h2
   rw [getElem?_app s.hp ob n (by rw [← hR.h.len]; exact c)] at h2
   exact ⟨n, x, o, h1, h2, h3, h4, .inl rfl⟩
  ·rw [List.getElem?_append_right (by omega)] at h1
   have := List.mem_of_getElem? h1
   simp only [List.mem_singleton] at this
   subst this
   have := hb b h4
   omega⟩
theorem bHh {off : Nat} (hl : ρ.length = s.hp.length) (b : Nat) : VR (ρ ++ [.pointer (some ⟨b, 0, none⟩)]) w F B (.ptr s.hp.length 0) (.pointer (some ⟨b, 0, none⟩)) := by
 simp only [VR]
 exact ⟨b, by rw [← hl]; simp, rfl⟩
theorem aGe {o : Oper} {l : List AVal} {cs : Array Value} {ty : TypeId} (hR : Rep ρ F L s a w) (hl : VRs ρ w F (Bx F L) l cs.toList) (hrun : (execOp a.eval o).run P w = .ok (.value (.pointer (some ⟨w.heap.size, 0, none⟩))) (w.alloc (.cells cs ty))) :
  Ef P o a w ρ F L s none (.ptr s.hp.length 0) { s with hp := s.hp ++ [.box l] } := by
 have hc : Ch w (w.alloc (.cells cs ty)) (fun _ => False) := Ch.alloc _ _ _
 refine Ef.new hR hrun hc ⟨w.heap.size, cs, ty, rfl, heap_alloc_new w _, VRs.still hR.h (hc.mono (fun _ h => h.elim)) hl⟩ (fun b hb =>?_) (bHh (off := 0) hR.h.len _)
 simp only [blk, Option.some.injEq] at hb
 omega
theorem oB (hl : ρ.length = s.hp.length) {A : Option Addr} {n c : Nat} : VR (ρ ++ [.slice A n c]) w F B (.own s.hp.length) (.slice A n c) := by
 simp only [VR]
 exact ⟨by rw [← hl]; simp, _, _, _, rfl⟩

theorem aJd {v : AVal} {u : Value} (h : VR ρ w F B v u) (ho : v.one = true) : u.oneCell' = true := by
 cases v with
 | any => simp [AVal.one] at ho
 | agg l => simp [AVal.one] at ho
 | tup l => simp [AVal.one] at ho
 | con c =>
  simp only [VR] at h
  subst h
  cases u <;> first | rfl | simp [AVal.one] at ho
 | sl e xs => cases h <;> rfl
 | sln e xs => cases h.1 <;> rfl
 | bsl e xs => cases h <;> rfl
 | int x => simp only [VR] at h; subst h; rfl
 | bool x => simp only [VR] at h; subst h; rfl
 | ptr n off => simp only [VR] at h; obtain ⟨b, _, rfl⟩ := h; rfl
 | ept n sz i off => simp only [VR] at h; obtain ⟨_, _, _, _, _, _, _, rfl⟩ := h; rfl
 | dpt q e x off => simp only [VR] at h; obtain ⟨_, _, _, rfl, _⟩ := h; rfl
 | ixp n b cnt sz i off => simp only [VR] at h; obtain ⟨_, _, _, _, rfl⟩ := h; rfl
 | dxp q e x b cnt sz i off => simp only [VR] at h; obtain ⟨_, _, _, rfl, _⟩ := h; rfl
 | own n => simp only [VR] at h; obtain ⟨_, _, _, _, rfl⟩ := h; rfl
 | ownC n c => simp only [VR] at h; obtain ⟨_, _, _, _, _, rfl⟩ := h; rfl
 | vw n hi => simp only [VR] at h; obtain ⟨_, _, _, _, _, _, rfl⟩ := h; rfl
 | vd n sz lo hi => simp only [VR] at h; obtain ⟨_, _, _, _, _, _, _, ⟨_, _, rfl⟩ | ⟨_, _, _, _, rfl, _⟩⟩ := h <;> rfl
 | asl n b cnt => simp only [VR] at h; obtain ⟨_, _, _, rfl, _⟩ := h; rfl
 | clo f l => simp only [VR] at h; obtain ⟨_, ⟨rfl, _⟩, _⟩ := h; rfl
 | ifc t x => simp only [VR] at h; obtain ⟨_, rfl, _⟩ := h; rfl
 | map n => simp only [VR] at h; obtain ⟨_, _, rfl⟩ := h; rfl
theorem oC {l : List AVal} {us : List Value} (h : VRs ρ w F B l us) (ho : l.all AVal.one = true) : ∀ u ∈ us, u.oneCell' = true := by
 intro u hu
 obtain ⟨i, hi⟩ := List.mem_iff_getElem?.1 hu
 have hlt : i < l.length := by rw [h.length]; exact (List.getElem?_eq_some_iff.1 hi).1
 obtain ⟨u', hu', r⟩ := h.at (List.getElem?_eq_getElem hlt)
 rw [hi] at hu'
 cases hu'
 exact aJd r (List.all_eq_true.1 ho _ (List.getElem_mem hlt))
theorem iB : ∀ (l : List Nat) {F : Nat → Prop} {s : St} {v : AVal} {x : Value}, Rep ρ F L s a w → VR ρ w F (Bx F L) v x →
  ∃ F', Rep ρ F' L (pK l v s).2 a w ∧ Stp w (Own ρ s.hp) F w (Own ρ (pK l v s).2.hp) F' ∧ VR ρ w F' (Bx F' L) (pK l v s).1 x
 | [], F, s, v, x, hR, hv => ⟨F, hR, Stp.refl _ _ _, hv⟩
 | n :: l, F, s, v, x, hR, hv => by
  simp only [pK]
  split
  ·rename_i e xs ho
   obtain ⟨F1, h1, h2, h3⟩ := aWq hR ho
   obtain ⟨F2, h4, h5, h6⟩ := iB l h1 (h3 _ _ hv)
   exact ⟨F2, h4, h2.trans h5, h6⟩
  ·exact iB l hR hv
theorem pQ {t : TypeId} {b o n : Nat} {v : Value} {cs : Array Value} {ty : TypeId} (hs : szT P t = some n) (hn : v.cells.size = n) (hb : w.heap[b]? = some (.cells cs ty (0, 0))) (ho : o + n ≤ cs.size) (h1 : ∀ u ∈ v.cells.toList, u.oneCell' = true) :
  (Instr.storeAt t (.pointer (some ⟨b, o, none⟩)) v).run P w = .ok () (w.setCells b o v.cells.toList) := by
 have h := run_storeCells_cells (P := P) b o v.cells.toList 0 w (fun j hj => by
   have : o + j < cs.size := by simp at hj; omega
   simp [World.cell?, hb, this]) (fun j hj => by simp [World.frozen?, hb]) h1
 simp only [Nat.add_zero] at h
 simp [Instr.storeAt, Instr.sureAddr, storeVar, gO hs, hn, h]
theorem bHi {l us : List AVal} {vs : List Value} {n b off : Nat} {cs : Array Value} {ty : TypeId} (hR : Rep ρ F L s a w) (ho : s.hp[n]? = some (.box l)) (hn : ρ[n]? = some (.pointer (some ⟨b, 0, none⟩))) (hb : w.heap[b]? = some (.cells cs ty (0, 0))) (hl : VRs ρ w F (Bx F L) l cs.toList) (hu : VRs ρ w F (Bx F L) us vs) (hoff : off + us.length ≤ l.length) :
  Rep ρ F L { s with hp := s.hp.set n (.box (yA l off us)) } a (w.setCells b off vs) ∧ Stp w (Own ρ s.hp) F (w.setCells b off vs) (Own ρ (s.hp.set n (.box (yA l off us)))) F ∧ Ch w (w.setCells b off vs) (fun k => ∃ m x, some n = some m ∧ ρ[m]? = some x ∧ blk x = some k) := by
 have hc : Ch w (w.setCells b off vs) (fun k => blk (.pointer (some ⟨b, 0, none⟩)) = some k) := (kI b vs off w).mono (fun k h => by simp [blk, h])
 have hco : Ch w (w.setCells b off vs) (fun k => Own ρ s.hp k) := hc.mono (fun k hk => ⟨n, _, _, ho, rfl, hn, hk⟩)
 have h1 := eW b ty (0, 0) vs off w cs hb (by have := hl.length; have := hu.length; simp at *; omega)
 refine ⟨hR.set ho hn rfl hc ⟨b, _, ty, rfl, h1, ?_⟩, (Stp.refl w _ F).set ho hn rfl hc, hc.mono (fun k hk => ⟨n, _, rfl, hn, hk⟩)⟩
 simpa using nZ (off := off) (VRs.still hR.h hco hl) (VRs.still hR.h hco hu)
theorem bBu {l' : List AVal} {vs : List Value} {n b off : Nat} {cs : Array Value} {ty : TypeId} {l : List AVal} (hR : Rep ρ F L s a w) (ho : s.hp[n]? = some (.box l)) (hn : ρ[n]? = some (.pointer (some ⟨b, 0, none⟩))) (hb : w.heap[b]? = some (.cells cs ty (0, 0))) (hl : VRs ρ w F (Bx F L) l' (cs.toList.take off ++ vs ++ cs.toList.drop (off + vs.length))) (hoff : off + vs.length ≤ cs.size) :
  Rep ρ F L { s with hp := s.hp.set n (.box l') } a (w.setCells b off vs) ∧ Stp w (Own ρ s.hp) F (w.setCells b off vs) (Own ρ (s.hp.set n (.box l'))) F ∧ Ch w (w.setCells b off vs) (fun k => ∃ m x, some n = some m ∧ ρ[m]? = some x ∧ blk x = some k) := by
 have hc : Ch w (w.setCells b off vs) (fun k => blk (.pointer (some ⟨b, 0, none⟩)) = some k) := (kI b vs off w).mono (fun k h => by simp [blk, h])
 have hco : Ch w (w.setCells b off vs) (fun k => Own ρ s.hp k) := hc.mono (fun k hk => ⟨n, _, _, ho, rfl, hn, hk⟩)
 have h1 := eW b ty (0, 0) vs off w cs hb hoff
 refine ⟨hR.set ho hn rfl hc ⟨b, _, ty, rfl, h1, ?_⟩, (Stp.refl w _ F).set ho hn rfl hc, hc.mono (fun k hk => ⟨n, _, rfl, hn, hk⟩)⟩
 simpa using VRs.still hR.h hco hl
theorem aOm {c : Bool} {x y r : AVal} {u v : Value} (h : mixV c x y = some r) (hx : VR ρ w F B x u) (hy : VR ρ w F B y v) : VR ρ w F B r (if c then u else v) := by
 unfold mixV at h
 split at h
 ·cases h
  simp only [VR] at hx hy ⊢
  subst hx hy
  cases c <;> rfl
 ·cases h
  simp only [VR] at hx hy ⊢
  subst hx hy
  cases c <;> rfl
 ·obtain ⟨ys, h1, rfl⟩ := Option.map_eq_some_iff.1 h
  have := cU h1 hy
  cases c
  ·exact this
  ·exact hx
 ·obtain ⟨ys, h1, rfl⟩ := Option.map_eq_some_iff.1 h
  have := cU h1 hy
  cases c
  ·exact this
  ·exact hx.1
 ·split at h
  ·rename_i hu
   cases h
   simp only [VR] at hx
   subst hx
   cases c
   ·exact hy
   ·rw [cH hu]
    exact .nil _
  ·cases h
 ·split at h
  ·rename_i hu
   cases h
   rw [Bool.and_eq_true] at hu
   simp only [VR] at hx hy ⊢
   subst hx hy
   rw [cH hu.1, cH hu.2]
   cases c <;> rfl
  ·cases h
 ·cases h
theorem aBn {c : Bool} : ∀ {l l' r : List AVal} {us vs : List Value}, mixL c l l' = some r → VRs ρ w F B l us → VRs ρ w F B l' vs → VRs ρ w F B r (if c then us else vs)
 | [], [], r, us, vs, h, hx, hy => by
  cases h
  cases us <;> cases vs <;> simp_all [VRs]
 | a :: l, b :: l', r, us, vs, h, hx, hy => by
  simp only [mixL] at h
  obtain ⟨v, h1, h⟩ := Option.bind_eq_some_iff.1 h
  obtain ⟨r', h2, rfl⟩ := Option.map_eq_some_iff.1 h
  cases us with
  | nil => simp [VRs] at hx
  | cons u us => cases vs with
   | nil => simp [VRs] at hy
   | cons v' vs =>
    simp only [VRs] at hx hy
    have k1 := aOm h1 hx.1 hy.1
    have k2 := aBn h2 hx.2 hy.2
    cases c
    ·exact ⟨k1, k2⟩
    ·exact ⟨k1, k2⟩
 | [], _ :: _, _, _, _, h, _, _ => by cases h
 | _ :: _, [], _, _, _, h, _, _ => by cases h
theorem aBo {i : Int} {cs : List AVal} {us : List Value} {b sz off : Nat} (h0 : 0 ≤ i) (hu : VRs ρ w F B cs us) (ho : off + cs.length ≤ sz) : ∀ (k : Nat) {l l' : List AVal} {C : List Value}, putI i cs b sz off k l = some l' → VRs ρ w F B l C → b + k * sz ≤ l.length →
  VRs ρ w F B l' (if i < (k : Int) then C.take (b + i.toNat * sz + off) ++ us ++ C.drop (b + i.toNat * sz + off + us.length) else C)
 | 0, l, l', C, h, hl, hb => by
  cases h
  rw [if_neg (by omega)]
  exact hl
 | k + 1, l, l', C, h, hl, hb => by
  simp only [putI] at h
  obtain ⟨m, h1, h2⟩ := Option.bind_eq_some_iff.1 h
  have hlen := hl.length
  have hul := hu.length
  rw [Nat.add_mul] at hb
  have hsub := hl.sub (b + k * sz + off) cs.length
  have hm := aBn h1 hu hsub
  have hp := nZ (off := b + k * sz + off) hl hm
  have hml : m.length = cs.length := by
   have := hm.length
   rw [this]
   cases (i == Int.ofNat k)
   ·simp
    omega
   ·exact hul.symm
  have hb' : b + k * sz ≤ (yA l (b + k * sz + off) m).length := by
   simp only [yA, List.length_append, List.length_take, List.length_drop]
   omega
  have hrec := aBo h0 hu ho k h2 hp hb'
  by_cases c : i = (k : Int)
  ·subst c
   rw [if_neg (by omega)] at hrec
   rw [if_pos (by omega)]
   simpa using hrec
  ·have hbe : (i == Int.ofNat k) = false := by simpa using c
   have hC : C.take (b + k * sz + off) ++ ((C.drop (b + k * sz + off)).take cs.length) ++ C.drop (b + k * sz + off + ((C.drop (b + k * sz + off)).take cs.length).length) = C := by
    rw [show ((C.drop (b + k * sz + off)).take cs.length).length = cs.length by simp; omega, List.append_assoc]
    generalize b + k * sz + off = j
    rw [← List.drop_drop (l := C), List.take_append_drop, List.take_append_drop]
   rw [hbe] at hrec
   simp only [Bool.false_eq_true, if_false, hC] at hrec
   by_cases c2 : i < (k : Int)
   ·rw [if_pos c2] at hrec
    rw [if_pos (by omega)]
    exact hrec
   ·rw [if_neg c2] at hrec
    rw [if_neg (by omega)]
    exact hrec
theorem bKy {t : TypeId} {v av : AVal} {s' : St} (h : stA P s t v av = some s') : LV s.hp s'.hp := by
 unfold stA at h
 split at h
 ·split at h
  ·rename_i l ho
   split at h
   ·cases h
    exact LV.set ho rfl
   ·cases h
  ·cases h
 ·split at h
  ·rename_i e xs ho
   split at h
   ·obtain ⟨y, _, rfl⟩ := Option.map_eq_some_iff.1 h
    exact LV.set ho rfl
   ·cases h
  ·cases h
 ·split at h
  ·rename_i l ho
   split at h
   ·obtain ⟨y, _, rfl⟩ := Option.map_eq_some_iff.1 h
    exact LV.set ho rfl
   ·cases h
  ·cases h
 ·cases h
theorem aWr (hR : Rep ρ F L s a w) {t : TypeId} {v av : AVal} {u p : Value} {s' : St} (h : stA P s t v av = some s') (hv : VR ρ w F (Bx F L) v u) (hp : VR ρ w F (Bx F L) av p) :
  ∃ w', (Instr.storeAt t p u).run P w = .ok () w' ∧ Rep ρ F L s' a w' ∧ Stp w (Own ρ s.hp) F w' (Own ρ s'.hp) F ∧ Ch w w' (fun k => ∃ n x, av.nm = some n ∧ ρ[n]? = some x ∧ blk x = some k) := by
 unfold stA at h
 split at h
 ·rename_i n off
  split at h
  ·rename_i l ho
   split at h
   ·rename_i hc
    cases h
    obtain ⟨c1, c2, c3⟩ := hc
    simp only [VR] at hp
    obtain ⟨b, h1, rfl⟩ := hp
    obtain ⟨v', h2, h3⟩ := hR.h.at ho
    rw [h1] at h2
    cases h2
    obtain ⟨b', cs, ty, hb', h4, h5⟩ := h3
    cases hb'
    have hu := lO hv c3
    have hul := hu.length
    have hll := h5.length
    simp only [Array.length_toList] at hul hll
    have hrun := pQ (P := P) (w := w) (b := b) (o := off) c1 (by omega) h4 (by omega) (oC hu c3)
    obtain ⟨k1, k2, k3⟩ := bHi hR ho h1 h4 h5 hu c2
    exact ⟨_, hrun, k1, k2, k3⟩
   ·cases h
  ·cases h
 ·rename_i n sz i off
  split at h
  ·rename_i e xs ho
   split at h
   ·rename_i hc
    obtain ⟨c1, c2, rfl, c3⟩ := hc
    obtain ⟨y, hy, rfl⟩ := Option.map_eq_some_iff.1 h
    simp only [VR] at hp
    obtain ⟨b, o, len, cap, h1, h0, hi, rfl⟩ := hp
    obtain ⟨v', h2, h3⟩ := hR.h.at ho
    rw [h1] at h2
    cases h2
    rcases h3 with ⟨hh, _⟩ | ⟨b', cap', cs, ty, rows, hb', h4, h5, h6, h7, h8⟩
    ·cases hh
    ·cases hb'
     have hu := lO hv c3
     have hul := hu.length
     simp only [Array.length_toList] at hul
     have hi' : i.toNat < xs.length := by omega
     have hcap : (i.toNat + 1) * e.sz ≤ cap * e.sz := Nat.mul_le_mul_right _ (by omega)
     rw [Nat.add_mul] at hcap
     have hrun := pQ (P := P) (w := w) (b := b) (o := 0 + i.toNat * e.sz + off) c1 (by omega) h4 (by omega) (oC hu c3)
     have hbase : blk (.slice (some ⟨b, 0, none⟩) xs.length cap) = some b := rfl
     have hch : Ch w (w.setCells b (0 + i.toNat * e.sz + off) u.cells.toList) (fun k => blk (.slice (some ⟨b, 0, none⟩) xs.length cap) = some k) := (kI b _ _ w).mono (fun k h => by simp [blk, h])
     have hco : Ch w (w.setCells b (0 + i.toNat * e.sz + off) u.cells.toList) (fun k => Own ρ s.hp k) := hch.mono (fun k hk => ⟨n, _, _, ho, rfl, h1, hk⟩)
     have hheap := eW b ty (0, 0) u.cells.toList (0 + i.toNat * e.sz + off) w cs h4 (by simp; omega)
     have hFw : ∀ b', F b' → (w.setCells b (0 + i.toNat * e.sz + off) u.cells.toList).heap[b']? = w.heap[b']? := fun b' hb' => hco.block b' (hR.h.froz b' (.inl hb')).1 (hR.h.froz b' (.inl hb')).2
     have hrow := h7 i.toNat hi'
     have hrl := hrow.len
     have hri : rd xs i = xs[i.toNat] := by simp [rd, List.getD_eq_getElem?_getD, List.getElem?_eq_getElem hi']
     have hnew : Rd (w.setCells b (0 + i.toNat * e.sz + off) u.cells.toList) F e y ((rows i.toNat).take off ++ u.cells.toList ++ (rows i.toNat).drop (off + u.cells.toList.length)) := by
      have := nL (ρ := ρ) (w := w) (F := F) (B := Bx F L) (cs := (rows i.toNat).take off ++ u.cells.toList ++ (rows i.toNat).drop (off + u.cells.toList.length)) hy (nZ (by rw [hri]; exact lU hrow) hu)
      exact this.mono hFw (fun _ h => h)
     have hor : OR ρ (w.setCells b (0 + i.toNat * e.sz + off) u.cells.toList) F (Bx F L) (.slice (some ⟨b, 0, none⟩) xs.length cap) (.arr e (wr xs i y)) := by
      refine .inr ⟨b, cap, _, ty, fun j => if j = i.toNat then (rows i.toNat).take off ++ u.cells.toList ++ (rows i.toNat).drop (off + u.cells.toList.length) else rows j, ?_, hheap, ?_, ?_, fun j hj =>?_, fun j q z hj hz =>?_⟩
      ·simp [wr]
      ·simpa [wr] using h5
      ·simp
       omega
      ·simp only [wr, List.getElem_set]
       by_cases c : i.toNat = j
       ·rw [if_pos c, if_pos c.symm]
        exact hnew
       ·rw [if_neg c, if_neg (fun e => c e.symm)]
        exact (h7 j (by simpa [wr] using hj)).mono hFw (fun _ h => h)
      ·have hj' : j < xs.length := by simpa [wr] using hj
       simp only [List.getElem?_toArray]
       by_cases c : j = i.toNat
       ·subst c
        dsimp only at hz
        rw [if_pos rfl] at hz
        simp only [List.getElem?_append, List.length_append, List.length_take, List.getElem?_take, List.getElem?_drop, Array.length_toList] at hz ⊢
        have e1 : min off (rows i.toNat).length = off := by omega
        have e2 : min (0 + i.toNat * e.sz + off) cs.size = i.toNat * e.sz + off := by omega
        rw [e1] at hz
        rw [e2]
        by_cases d1 : q < off
        ·simp only [show q < off + u.cells.size by omega, d1, if_true] at hz
         simp only [show i.toNat * e.sz + q < i.toNat * e.sz + off + u.cells.size by omega, show i.toNat * e.sz + q < i.toNat * e.sz + off by omega, show i.toNat * e.sz + q < 0 + i.toNat * e.sz + off by omega, if_true]
         have := h8 i.toNat q z hi' hz
         simpa using this
        ·by_cases d2 : q < off + u.cells.size
         ·simp only [d2, d1, if_true, if_false] at hz
          simp only [show i.toNat * e.sz + q < i.toNat * e.sz + off + u.cells.size by omega, show ¬ i.toNat * e.sz + q < i.toNat * e.sz + off by omega, if_true, if_false]
          rw [show i.toNat * e.sz + q - (i.toNat * e.sz + off) = q - off by omega]
          exact hz
         ·simp only [d2, if_false] at hz
          simp only [show ¬ i.toNat * e.sz + q < i.toNat * e.sz + off + u.cells.size by omega, if_false]
          rw [show off + u.cells.size + (q - (off + u.cells.size)) = q by omega] at hz
          rw [show 0 + i.toNat * e.sz + off + u.cells.size + (i.toNat * e.sz + q - (i.toNat * e.sz + off + u.cells.size)) = i.toNat * e.sz + q by omega]
          have := h8 i.toNat q z hi' hz
          simpa using this
       ·dsimp only at hz
        rw [if_neg c] at hz
        have hq : q < e.sz := by
         have := (h7 j hj').len
         have := (List.getElem?_eq_some_iff.1 hz).1
         omega
        have hout : j * e.sz + q < i.toNat * e.sz ∨ (i.toNat + 1) * e.sz ≤ j * e.sz + q := by
         rcases Nat.lt_or_ge j i.toNat with hlt | hge
         ·left
          have : (j + 1) * e.sz ≤ i.toNat * e.sz := Nat.mul_le_mul_right _ hlt
          rw [Nat.add_mul] at this
          omega
         ·right
          have : (i.toNat + 1) * e.sz ≤ j * e.sz := Nat.mul_le_mul_right _ (by omega)
          omega
        rw [Nat.add_mul] at hout
        have hcell := h8 j q z hj' hz
        simp only [List.getElem?_append, List.length_append, List.length_take, List.getElem?_take, List.getElem?_drop, Array.length_toList]
        have e2 : min (0 + i.toNat * e.sz + off) cs.size = i.toNat * e.sz + off := by omega
        rw [e2]
        rcases hout with hout | hout
        ·simp only [show j * e.sz + q < i.toNat * e.sz + off + u.cells.size by omega, show j * e.sz + q < i.toNat * e.sz + off by omega, show j * e.sz + q < 0 + i.toNat * e.sz + off by omega, if_true]
         simpa using hcell
        ·simp only [show ¬ j * e.sz + q < i.toNat * e.sz + off + u.cells.size by omega, if_false]
         rw [show 0 + i.toNat * e.sz + off + u.cells.size + (j * e.sz + q - (i.toNat * e.sz + off + u.cells.size)) = j * e.sz + q by omega]
         simpa using hcell
     exact ⟨_, hrun, hR.set ho h1 rfl hch hor, (Stp.refl w _ F).set ho h1 rfl hch, hch.mono (fun k hk => ⟨n, _, rfl, h1, hk⟩)⟩
   ·cases h
  ·cases h
 ·rename_i n b0 cnt sz i off
  split at h
  ·rename_i l ho
   split at h
   ·rename_i hc
    obtain ⟨c1, c2, c4, c3⟩ := hc
    obtain ⟨l', hl', rfl⟩ := Option.map_eq_some_iff.1 h
    simp only [VR] at hp
    obtain ⟨b, h1, h0, hi, rfl⟩ := hp
    obtain ⟨v', h2, h3⟩ := hR.h.at ho
    rw [h1] at h2
    cases h2
    obtain ⟨b', cs, ty, hb', h4, h5⟩ := h3
    cases hb'
    have hu := lO hv c3
    have hul := hu.length
    have hll := h5.length
    simp only [Array.length_toList] at hul hll
    have hcap : (i.toNat + 1) * sz ≤ cnt * sz := Nat.mul_le_mul_right _ (by omega)
    rw [Nat.add_mul] at hcap
    have hrun := pQ (P := P) (w := w) (b := b) (o := b0 + i.toNat * sz + off) c1 (by omega) h4 (by omega) (oC hu c3)
    have hpt := aBo h0 hu c2 cnt hl' h5 c4
    rw [if_pos hi] at hpt
    obtain ⟨k1, k2, k3⟩ := bBu hR ho h1 h4 hpt (by simp; omega)
    exact ⟨_, hrun, k1, k2, k3⟩
   ·cases h
  ·cases h
 ·cases h
end
section
variable {P : Program} {gl : Glb} {kd : TypeId → Option EK} {ρ : List Value} {F L B : Nat → Prop} {s : St} {a : Act} {w : World}
theorem aWs {k : EK} (hk : k = .int ∨ k = .bool) {y : k.T} {c : Value} (h : Rd w B k y [c]) : Rd w F k y [c] := by
 rcases hk with rfl | rfl
 ·cases h; exact .int _
 ·cases h; exact .bool _
theorem aBp : ∀ {ks : List EK} {r : HL ks} {j : Nat} {k : EK} {y : k.T}, HL.nth ks r j = some ⟨k, y⟩ → k ∈ ks
 | [], _, _, _, _, h => by simp [HL.nth] at h
 | k :: ks, r, 0, k', y, h => by
  simp only [HL.nth, Option.some.injEq, Sigma.mk.injEq] at h
  rw [← h.1]
  exact List.mem_cons_self
 | k :: ks, r, j + 1, k', y, h => by
  simp only [HL.nth] at h
  exact List.mem_cons_of_mem _ (aBp h)
theorem Rd.flat {k : EK} (hk : k.flat = true) {x : k.T} {cs : List Value} (h : Rd w B k x cs) : Rd w F k x cs := by
 cases h with
 | int x => exact .int x
 | bool b => exact .bool b
 | st s x cs hl h =>
  refine .st s x cs hl (fun j k y c h1 h2 => aWs ?_ (h j k y c h1 h2))
  have := List.all_eq_true.1 hk k (aBp h1)
  cases k <;> simp_all
 | nil e => simp [EK.flat] at hk
 | sl e xs b o cap rows hF hc hr hz hw => simp [EK.flat] at hk
def RowIs (w : World) (F : Nat → Prop) (k : EK) (ys : List k.T) (u : Value) : Prop :=
 ∃ A cap, u = .slice A ys.length cap ∧ (ys = [] ∨ ∃ (b o : Nat) (rows : Nat → List Value), A = some ⟨b, o, none⟩ ∧ (∀ (i : Nat) (h : i < ys.length), Rd w F k ys[i] (rows i)) ∧ ∀ (i j : Nat) (v : Value), i < ys.length → (rows i)[j]? = some v → w.cell? ⟨b, o + i * k.sz + j, none⟩ = some v)
theorem RowIs.of_rd {Q : Nat → Prop} {k : EK} {xs : List k.T} {v : Value} (h : Rd w Q (.sl k) xs [v]) (hq : ∀ x cs, Rd w Q k x cs → Rd w F k x cs) : RowIs w F k xs v := by
 cases h with
 | nil e A => exact ⟨A, 0, rfl, .inl rfl⟩
 | sl e xs b o cap rows hF hc hr hz hw => exact ⟨_, cap, rfl, .inr ⟨b, o, rows, rfl, fun i hi => hq _ _ (hr i hi), hw⟩⟩
theorem RowIs.sub {k : EK} {xs : List k.T} {A : Option Addr} {len cap : Nat} (h : RowIs w F k xs (.slice A len cap)) (lo hi : Nat) (h1 : lo ≤ hi) (h2 : hi ≤ xs.length) {A' : Option Addr} {cap' : Nat} (hA : lo < hi → ∃ b o, A = some ⟨b, o, none⟩ ∧ A' = some ⟨b, o + lo * k.sz, none⟩) : RowIs w F k ((xs.take hi).drop lo) (.slice A' (hi - lo) cap') := by
 have hl : ((xs.take hi).drop lo).length = hi - lo := by simp; omega
 refine ⟨A', cap', by rw [hl], ?_⟩
 by_cases c : lo < hi
 ·right
  obtain ⟨b, o, rfl, rfl⟩ := hA c
  obtain ⟨A2, cap2, h3, h4⟩ := h
  cases h3
  rcases h4 with rfl | ⟨b2, o2, rows, h5, h6, h7⟩
  ·simp at h2; omega
  ·cases h5
   refine ⟨b, o + lo * k.sz, fun i => rows (lo + i), rfl, fun i hi' =>?_, fun i j v hi' hj =>?_⟩
   ·rw [List.getElem_drop, List.getElem_take]
    exact h6 (lo + i) (by omega)
   ·have := h7 (lo + i) j v (by omega) hj
    rwa [show o + lo * k.sz + i * k.sz + j = o + (lo + i) * k.sz + j by rw [Nat.add_mul]; omega]
 ·left
  exact List.eq_nil_of_length_eq_zero (by omega)
theorem RowIs.of_or {k : EK} {xs : List k.T} {base : Value} (h : OR ρ w F B base (.arr k xs)) : RowIs w F k xs base := by
 rcases h with ⟨rfl, rfl⟩ | ⟨b, cap, cs, ty, rows, rfl, h2, h3, h4, h5, h6⟩
 ·exact ⟨none, 0, rfl, .inl rfl⟩
 ·refine ⟨_, cap, rfl, .inr ⟨b, 0, rows, rfl, h5, fun i j v hi hj =>?_⟩⟩
  have := h6 i j v hi hj
  simpa [World.cell?, h2] using this
theorem aOn (hR : Rep ρ F L s a w) {k : EK} {y : AVal} {u : Value} {ys : List k.T} (h : rowA s k y = some ys) (hv : VR ρ w F (Bx F L) y u) : RowIs w F k ys u := by
 unfold rowA at h
 split at h
 ·rename_i m
  split at h
  ·rename_i k' xs ho
   split at h
   ·rename_i hk
    subst hk
    cases h
    obtain ⟨v', h2, h3⟩ := hR.h.at ho
    simp only [VR] at hv
    obtain ⟨h4, _⟩ := hv
    rw [h2] at h4
    cases h4
    exact .of_or h3
   ·cases h
  ·cases h
 ·rename_i m hi
  split at h
  ·rename_i k' xs ho
   split at h
   ·rename_i hk
    subst hk
    cases h
    obtain ⟨v', h2, h3⟩ := hR.h.at ho
    simp only [VR] at hv
    obtain ⟨A, len, cap, h4, h5, h6, rfl⟩ := hv
    rw [h2] at h4
    cases h4
    have hr := RowIs.of_or h3
    obtain ⟨A2, cap2, h7, h8⟩ := id hr
    cases h7
    have := hr.sub 0 hi.toNat (Nat.zero_le _) (by omega) (A' := A) (cap' := cap) (fun hlt => by
     rcases h8 with rfl | ⟨b2, o2, rows, rfl, _, _⟩
     ·simp at h6; omega
     ·exact ⟨b2, o2, rfl, by simp⟩)
    simpa using this
   ·cases h
  ·cases h
 ·rename_i m sz lo hi
  split at h
  ·rename_i k' xs ho
   split at h
   ·rename_i hk
    obtain ⟨hk, hsz⟩ := hk
    subst hk
    subst hsz
    cases h
    obtain ⟨v', h2, h3⟩ := hR.h.at ho
    simp only [VR] at hv
    obtain ⟨A, len, cap, h4, h5, h6, h7, h8⟩ := hv
    rw [h2] at h4
    cases h4
    have hr := RowIs.of_or h3
    obtain ⟨A2, cap2, h9, h10⟩ := id hr
    cases h9
    rcases h8 with ⟨rfl, rfl, rfl⟩ | ⟨b, o, cap', rfl, rfl, h11, h12⟩
    ·have : lo = 0 := by omega
     subst this
     exact ⟨none, 0, by simp, .inl (by simp)⟩
    ·have := hr.sub lo.toNat hi.toNat (by omega) (by omega) (A' := some ⟨b, o, none⟩) (cap' := cap') (fun hlt => ⟨b, 0, rfl, by rw [h12 (by omega)]; simp⟩)
     rwa [show (hi - lo).toNat = hi.toNat - lo.toNat by omega]
   ·cases h
  ·cases h
 ·rename_i k' xs
  split at h
  ·rename_i hk
   subst hk
   cases h
   exact .of_rd hv (fun _ _ h => h)
  ·cases h
 ·rename_i k' xs
  split at h
  ·rename_i hk
   subst hk
   cases h
   exact .of_rd hv.1 (fun _ _ h => h)
  ·cases h
 ·rename_i k' xs
  split at h
  ·rename_i hk
   obtain ⟨hk, hf⟩ := hk
   subst hk
   cases h
   exact .of_rd hv (fun _ _ h => h.flat hf)
  ·cases h
 ·rename_i A cap
  cases h
  simp only [VR] at hv
  rw [hv]
  exact ⟨A, cap, rfl, .inl rfl⟩
 ·rename_i n b0 cnt
  split at h
  ·rename_i l ho
   obtain ⟨v', h2, h3⟩ := hR.h.at ho
   simp only [VR] at hv
   obtain ⟨b, cap, h4, rfl, h5⟩ := hv
   rw [h2] at h4
   cases h4
   obtain ⟨b', cs, ty, hb', h6, h7⟩ := h3
   cases hb'
   obtain ⟨h8, h9⟩ := kG h7 h
   refine ⟨some ⟨b, b0, none⟩, cap, by rw [h8], .inr ⟨b, b0, fun i => (cs.toList.drop (b0 + i * k.sz)).take k.sz, rfl, h9, fun i j v hi hj =>?_⟩⟩
   rw [List.getElem?_take] at hj
   split at hj
   ·rw [List.getElem?_drop] at hj
    simpa [World.cell?, h6] using hj
   ·cases hj
  ·cases h
 ·cases h
def hP (sz : Nat) (rows : Nat → List Value) (n : Nat) : List Value := (List.range (n * sz)).map fun q => (rows (q / sz)).getD (q % sz) undef
theorem iC (sz : Nat) (rows : Nat → List Value) (n : Nat) : (hP sz rows n).length = n * sz := by simp [hP]
theorem aBq {sz : Nat} (hsz : 0 < sz) {rows : Nat → List Value} {n i j : Nat} (hi : i < n) (hj : j < sz) : (hP sz rows n)[i * sz + j]? = some ((rows i).getD j undef) := by
 have hlt : i * sz + j < n * sz := by
  have : (i + 1) * sz ≤ n * sz := Nat.mul_le_mul_right _ hi
  rw [Nat.add_mul] at this
  omega
 simp only [hP, List.getElem?_map, List.getElem?_range hlt, Option.map_some]
 have h1 : (i * sz + j) / sz = i := by rw [Nat.mul_comm, Nat.mul_add_div hsz, Nat.div_eq_of_lt hj]; rfl
 have h2 : (i * sz + j) % sz = j := by rw [Nat.mul_comm, Nat.mul_add_mod, Nat.mod_eq_of_lt hj]
 rw [h1, h2]
theorem vO {sz : Nat} (hsz : 0 < sz) {rows : Nat → List Value} {n q : Nat} {v : Value} (h : (hP sz rows n)[q]? = some v) : q / sz < n ∧ q % sz < sz ∧ v = (rows (q / sz)).getD (q % sz) undef ∧ q = q / sz * sz + q % sz := by
 have hlt := (List.getElem?_eq_some_iff.1 h).1
 rw [iC] at hlt
 simp only [hP, List.getElem?_map, List.getElem?_range hlt, Option.map_some, Option.some.injEq] at h
 refine ⟨?_, Nat.mod_lt _ hsz, h.symm, ?_⟩
 ·exact Nat.div_lt_of_lt_mul (by rw [Nat.mul_comm]; exact hlt)
 ·rw [Nat.mul_comm]
  exact (Nat.div_add_mod q sz).symm
theorem Rd.one {k : EK} {x : k.T} {cs : List Value} (h : Rd w F k x cs) : ∀ u ∈ cs, u.oneCell' = true := by
 intro u hu
 cases h with
 | int x => simp at hu; subst hu; rfl
 | bool b => simp at hu; subst hu; rfl
 | nil e => simp at hu; subst hu; rfl
 | sl e xs b o cap rows hF hc hr hz hw => simp at hu; subst hu; rfl
 | st s x cs hl h =>
  obtain ⟨i, hi⟩ := List.mem_iff_getElem?.1 hu
  have hlt : i < s.ks.length := by rw [← hl]; exact (List.getElem?_eq_some_iff.1 hi).1
  have nthx : ∀ (ks : List EK) (r : HL ks) (i : Nat), i < ks.length → ∃ k y, HL.nth ks r i = some ⟨k, y⟩ := by
   intro ks
   induction ks with
   | nil => intro r i hi; simp at hi
   | cons k ks ih =>
    intro r i hi
    cases i with
    | zero => exact ⟨k, r.1, rfl⟩
    | succ i => exact ih r.2 i (by simpa using hi)
  obtain ⟨k, y, hy⟩ := nthx s.ks (s.un x) i hlt
  have := h i k y u hy hi
  generalize hcs : [u] = cs' at this
  cases this with
  | int x => simp at hcs; subst hcs; rfl
  | bool b => simp at hcs; subst hcs; rfl
  | nil e => simp at hcs; subst hcs; rfl
  | sl e xs b o cap rows hF hc hr hz hw => simp at hcs; subst hcs; rfl
  | st s' x' cs' hl' h' =>
   exfalso
   have hk := aBp hy
   cases s <;> simp [SN.ks] at hk
theorem hcat {k : EK} {xs ys : List k.T} {m : Nat} (hm : m ≤ xs.length) {rows rows2 : Nat → List Value} (h1 : ∀ (i : Nat) (h : i < xs.length), Rd w F k xs[i] (rows i)) (h2 : ∀ (i : Nat) (h : i < ys.length), Rd w F k ys[i] (rows2 i)) :
  ∀ (i : Nat) (h : i < (xs.take m ++ ys).length), Rd w F k (xs.take m ++ ys)[i] (if i < m then rows i else rows2 (i - m)) := by
 intro i h
 have hl : (xs.take m).length = m := by simp; omega
 by_cases c : i < m
 ·rw [if_pos c, List.getElem_append_left (by omega), List.getElem_take]
  exact h1 i (by omega)
 ·rw [if_neg c, List.getElem_append_right (by omega)]
  simp only [hl]
  exact h2 (i - m) (by simp at h; omega)
theorem aBr {t e : TypeId} {ie : TypeInfo} {z : Value} {k : EK} {xs ys : List k.T} {m : Nat} {A : Option Addr} {cap : Nat} {u : Value} {ty : TypeId} (hR : RepH ρ F L s.hp w) {n : Nat} (ho : s.hp[n]? = some (.arr k xs)) (hn : ρ[n]? = some (.slice A xs.length cap)) (hm : m ≤ xs.length)
  (ht : P.underlying t = some (.slice e)) (hi : P.info? e = some ie) (hz : ie.zero = some z) (hs : ie.size = k.sz) (hzs : z.cells.size = k.sz) (hk : 0 < k.sz) (hby : ie.bytes ≤ 1000) (hu : RowIs w F k ys u) (hlen : m + ys.length ≤ 1000000000) :
  ∃ v' w', (Builtin.append_ #[t, t] ty #[.slice A m cap, u]).run P w = .ok v' w' ∧ OR ρ w' F (Bx F L) v' (.arr k (xs.take m ++ ys)) ∧ Ch w w' (fun b => blk (.slice A xs.length cap) = some b) ∧ (blk v' = blk (.slice A xs.length cap) ∨ ∀ b, blk v' = some b → w.heap.size ≤ b) ∧ ∃ A' l c, v' = .slice A' l c := by
 obtain ⟨v0, h1, hor⟩ := hR.at ho
 rw [hn] at h1
 cases h1
 have hto : (xs.take m).length = m := by simp; omega
 have hcl : (xs.take m ++ ys).length = m + ys.length := by simp; omega
 have hbytes : (m + ys.length) * ie.bytes ≤ 140737488355328 := by
  have : (m + ys.length) * ie.bytes ≤ 1000000000 * 1000 := Nat.mul_le_mul hlen hby
  omega
 have hml : m + ys.length ≤ maxLen := by unfold maxLen; omega
 obtain ⟨A2, cap2, rfl, hy⟩ := hu
 by_cases hys : ys = []
 ·subst hys
  have hroom : m ≤ cap := by
   rcases hor with ⟨h2, rfl⟩ | ⟨b, c, cs, ty', rows, h2, h3, h4, _⟩
   ·simp at hm; omega
   ·cases h2; omega
  refine ⟨.slice A m cap, w, ?_, ?_, Ch.refl _ _, ?_, _, _, _, rfl⟩
  ·cases A2 <;> cases A <;> simp [Builtin.append_, run_underlying ht, sizeOf, typeInfo, hi, Builtin.lenOf, hroom, Builtin.firstCells, loadCells, loadCellsFrom, storeCells]
  ·rcases hor with ⟨h2, rfl⟩ | ⟨b, c, cs, ty', rows, h2, h3, h4, h5, h6, h7⟩
   ·cases h2
    left
    simp at hm
    subst hm
    exact ⟨rfl, rfl⟩
   ·cases h2
    right
    refine ⟨b, cap, cs, ty', rows, by simp [hto], h3, by simp; omega, h5, fun i hi' =>?_, fun i j v hi' hj => h7 i j v (by simp at hi'; omega) hj⟩
    simp only [List.append_nil, List.getElem_take]
    exact h6 i (by simp at hi'; omega)
  ·left
   cases A <;> rfl
 ·rcases hy with hy | ⟨b2, o2, rows2, rfl, hy1, hy2⟩
  ·exact absurd hy hys
  have hrl2 : ∀ i, i < ys.length → (rows2 i).length = k.sz := fun i hi' => (hy1 i hi').len
  have hypos : 0 < ys.length := List.length_pos_iff.2 hys
  have hnews : ∀ j v, (hP k.sz rows2 ys.length)[j]? = some v → w.cell? ((⟨b2, o2, none⟩ : Addr).add j) = some v := fun j v hj => by
   obtain ⟨q1, q2, q3, q4⟩ := vO hk hj
   have hlt : j % k.sz < (rows2 (j / k.sz)).length := by rw [hrl2 _ q1]; exact q2
   have := hy2 (j / k.sz) (j % k.sz) v q1 (by rw [q3, List.getD_eq_getElem?_getD, List.getElem?_eq_getElem hlt]; rfl)
   rw [Addr.add_lit]
   rwa [show o2 + j / k.sz * k.sz + j % k.sz = o2 + j by omega] at this
  have hone : ∀ v ∈ hP k.sz rows2 ys.length, v.oneCell' = true := fun v hv => by
   obtain ⟨j, hj⟩ := List.mem_iff_getElem?.1 hv
   obtain ⟨q1, q2, q3, q4⟩ := vO hk hj
   have hlt : j % k.sz < (rows2 (j / k.sz)).length := by rw [hrl2 _ q1]; exact q2
   refine (hy1 _ q1).one v ?_
   rw [q3, List.getD_eq_getElem?_getD, List.getElem?_eq_getElem hlt]
   exact List.getElem_mem hlt
  have fromRow : ∀ (w' : World) (v' : Value) (olds : List Value) (rows : Nat → List Value), w'.ownsRow w.heap.size e k.sz v' (m + ys.length) (olds ++ hP k.sz rows2 ys.length) → (∀ b, F b → w'.heap[b]? = w.heap[b]?) → olds.length = m * k.sz → (∀ (i : Nat) (h : i < xs.length), Rd w F k xs[i] (rows i)) → (∀ i j v, i < m → (rows i)[j]? = some v → olds[i * k.sz + j]? = some v) →
    OR ρ w' F (Bx F L) v' (.arr k (xs.take m ++ ys)) ∧ ∀ b, blk v' = some b → w.heap.size ≤ b := by
   intro w' v' olds rows hrow hF hol hrd hcell
   obtain ⟨g1, ⟨_, g2⟩ | ⟨g, cap', cur, rfl, g3, g4, g5, g6, g7, g8⟩⟩ := hrow
   ·omega
   ·refine ⟨.inr ⟨g, cap', cur, e, fun i => if i < m then rows i else rows2 (i - m), by rw [hcl], g4, by rw [hcl]; exact g5, g7, fun i hi' => (hcat hm hrd hy1 i hi').mono hF (fun _ h => h), fun i j v hi' hj =>?_⟩, fun b hb => by cases hb; exact g3⟩
    have hi2 : i < m + ys.length := by rw [← hcl]; exact hi'
    have hq : i * k.sz + j < (m + ys.length) * k.sz ∧ (olds ++ hP k.sz rows2 ys.length)[i * k.sz + j]? = some v := by
     dsimp only at hj
     by_cases c : i < m
     ·rw [if_pos c] at hj
      have h1 := hcell i j v c hj
      have h2 := (List.getElem?_eq_some_iff.1 h1).1
      have : m * k.sz ≤ (m + ys.length) * k.sz := Nat.mul_le_mul_right _ (by omega)
      exact ⟨by omega, by rw [List.getElem?_append_left h2]; exact h1⟩
     ·rw [if_neg c] at hj
      have hil : i - m < ys.length := by omega
      have hj' : j < k.sz := by rw [← hrl2 _ hil]; exact (List.getElem?_eq_some_iff.1 hj).1
      have h1 := aBq hk (rows := rows2) hil hj'
      have e1 : i * k.sz + j = m * k.sz + ((i - m) * k.sz + j) := by
       rw [Nat.sub_mul]
       have : m * k.sz ≤ i * k.sz := Nat.mul_le_mul_right _ (by omega)
       omega
      have h2 := (List.getElem?_eq_some_iff.1 h1).1
      rw [iC] at h2
      refine ⟨by rw [e1, Nat.add_mul]; omega, ?_⟩
      rw [List.getElem?_append_right (by rw [hol]; omega), hol, show i * k.sz + j - m * k.sz = (i - m) * k.sz + j by omega, h1, List.getD_eq_getElem?_getD, hj]
      rfl
    have := hq.2
    rw [← g8, List.getElem?_take, if_pos hq.1] at this
    simpa using this
  rcases hor with ⟨h2, rfl⟩ | ⟨b, c, cs, ty', rows, h2, h3, h4, h5, h6, h7⟩
  ·cases h2
   simp at hm
   subst hm
   obtain ⟨v', w', k1, k2, k3, _⟩ := run_append_own (P := P) w w.heap.size t ty e ie z k.sz ie.bytes ht hi hz hs rfl hzs hk (.slice none 0 0) 0 [] (World.ownsRow_nil w _ e _) ⟨b2, o2, none⟩ ys.length cap2 (hP k.sz rows2 ys.length) (iC _ _ _) hnews hone hml hbytes (Nat.le_refl _)
   have hc : Ch w w' (fun b => blk (.slice none 0 0) = some b) := (Ch.grown k3).mono (fun b h => by simp [Value.ownBlock] at h)
   obtain ⟨k4, k5⟩ := fromRow w' v' [] (fun _ => []) k2 (fun b hb => hc.block b (hR.froz b (.inl hb)).1 (by simp [blk])) (by simp) (fun i h => by simp at h) (fun i j v hi' => by omega)
   refine ⟨v', w', k1, k4, hc, .inr k5, ?_⟩
   rcases k4 with ⟨rfl, _⟩ | ⟨_, _, _, _, _, rfl, _⟩ <;> exact ⟨_, _, _, rfl⟩
  ·cases h2
   have hcapm : m * k.sz ≤ cap * k.sz := Nat.mul_le_mul_right _ (by omega)
   by_cases hroom : m + ys.length ≤ cap
   ·have hcap2 : (m + ys.length) * k.sz ≤ cap * k.sz := Nat.mul_le_mul_right _ hroom
    rw [Nat.add_mul] at hcap2
    have hfl := iC k.sz rows2 ys.length
    have hrun := run_append_room_cells (P := P) w t ty e ie ht hi b 0 m cap ⟨b2, o2, none⟩ ys.length cap2 (hP k.sz rows2 ys.length) (by rw [hs]; exact hfl) hnews hone hroom
     (fun j hj => by
      have : m * ie.size + j < cs.size := by rw [hs]; omega
      simp [World.cell?, h3, this]) (fun j hj => by simp [World.frozen?, h3])
    rw [hs] at hrun
    have hc : Ch w (w.setCells b (0 + m * k.sz) (hP k.sz rows2 ys.length)) (fun x => blk (.slice (some ⟨b, 0, none⟩) xs.length cap) = some x) := (kI b _ _ w).mono (fun x h => by simp [blk, h])
    have hheap := eW b ty' (0, 0) (hP k.sz rows2 ys.length) (0 + m * k.sz) w cs h3 (by omega)
    have hF : ∀ x, F x → (w.setCells b (0 + m * k.sz) (hP k.sz rows2 ys.length)).heap[x]? = w.heap[x]? := fun x hx => hc.block x (hR.froz x (.inl hx)).1 (fun e => (hR.froz x (.inl hx)).2 ⟨n, _, _, ho, rfl, hn, e⟩)
    refine ⟨_, _, hrun, .inr ⟨b, cap, _, ty', fun i => if i < m then rows i else rows2 (i - m), by rw [hcl], hheap, by rw [hcl]; exact hroom, ?_, fun i hi' => (hcat hm h6 hy1 i hi').mono hF (fun _ h => h), fun i j v hi' hj =>?_⟩, hc, .inl rfl, _, _, _, rfl⟩
    ·simp
     omega
    ·dsimp only at hj
     have hi2 : i < m + ys.length := by rw [← hcl]; exact hi'
     simp only [List.getElem?_toArray, List.getElem?_append, List.length_append, List.length_take, List.getElem?_take, List.getElem?_drop, Array.length_toList]
     have e2 : min (0 + m * k.sz) cs.size = m * k.sz := by omega
     rw [e2, hfl]
     by_cases c : i < m
     ·rw [if_pos c] at hj
      have h1 := h7 i j v (by omega) hj
      have hj' : j < k.sz := by rw [← (h6 i (by omega)).len]; exact (List.getElem?_eq_some_iff.1 hj).1
      have hlt : i * k.sz + j < m * k.sz := by
       have : (i + 1) * k.sz ≤ m * k.sz := Nat.mul_le_mul_right _ c
       rw [Nat.add_mul] at this
       omega
      simp only [show i * k.sz + j < m * k.sz + ys.length * k.sz by omega, hlt, show i * k.sz + j < 0 + m * k.sz by omega, if_true]
      simpa using h1
     ·rw [if_neg c] at hj
      have hil : i - m < ys.length := by omega
      have hj' : j < k.sz := by rw [← hrl2 _ hil]; exact (List.getElem?_eq_some_iff.1 hj).1
      have h1 := aBq hk (rows := rows2) hil hj'
      have h8 := (List.getElem?_eq_some_iff.1 h1).1
      rw [hfl] at h8
      have e1 : i * k.sz + j = m * k.sz + ((i - m) * k.sz + j) := by
       rw [Nat.sub_mul]
       have : m * k.sz ≤ i * k.sz := Nat.mul_le_mul_right _ (by omega)
       omega
      simp only [show i * k.sz + j < m * k.sz + ys.length * k.sz by omega, show ¬ i * k.sz + j < m * k.sz by omega, if_true, if_false]
      rw [show i * k.sz + j - m * k.sz = (i - m) * k.sz + j by omega, h1, List.getD_eq_getElem?_getD, hj]
      rfl
   ·have holds : ∀ j v, (hP k.sz rows m)[j]? = some v → w.cell? ((⟨b, 0, none⟩ : Addr).add j) = some v := fun j v hj => by
     obtain ⟨q1, q2, q3, q4⟩ := vO hk hj
     have hlt : j % k.sz < (rows (j / k.sz)).length := by rw [(h6 _ (by omega)).len]; exact q2
     have := h7 (j / k.sz) (j % k.sz) v (by omega) (by rw [q3, List.getD_eq_getElem?_getD, List.getElem?_eq_getElem hlt]; rfl)
     rw [← q4] at this
     rw [Addr.add_lit]
     simpa [World.cell?, h3] using this
    obtain ⟨v', w', k1, k2, k3⟩ := run_append_arg_grows (P := P) w t ty e ie z k.sz ie.bytes ht hi hz hs rfl hzs hk ⟨b, 0, none⟩ m cap (hP k.sz rows m) (iC _ _ _) holds ⟨b2, o2, none⟩ ys.length cap2 (hP k.sz rows2 ys.length) (iC _ _ _) hnews (by omega) hml hbytes
    have hc0 := Ch.grown k3
    have hc : Ch w w' (fun x => blk (.slice (some ⟨b, 0, none⟩) xs.length cap) = some x) := hc0.mono (fun x h => by cases h)
    obtain ⟨k4, k5⟩ := fromRow w' v' _ rows k2 (fun x hx => hc0.block x (hR.froz x (.inl hx)).1 (by simp)) (iC _ _ _) h6 (fun i j v hi' hj => by
     have hj' : j < k.sz := by rw [← (h6 i (by omega)).len]; exact (List.getElem?_eq_some_iff.1 hj).1
     rw [aBq hk hi' hj', List.getD_eq_getElem?_getD, hj]
     rfl)
    refine ⟨v', w', k1, k4, hc, .inr k5, ?_⟩
    rcases k4 with ⟨rfl, _⟩ | ⟨_, _, _, _, _, rfl, _⟩ <;> exact ⟨_, _, _, rfl⟩
end
end Go.Ax
