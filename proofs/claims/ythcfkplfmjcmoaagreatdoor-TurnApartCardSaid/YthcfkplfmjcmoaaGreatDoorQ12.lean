/- Merged. -/
import Derived.Test.YthcfkplfmjcmoaaGreatDoorQ11
namespace Go.Ax
open Go.RowKit
set_option linter.unusedVariables false
set_option linter.unusedSimpArgs false
abbrev NilH := Nat × Option Nat × EK
def nil1 (h : NilH) (s : St) : St := match h.2.1, s.tm.getD h.1 .any with
 | none, .con v => if kE v then { tm := s.tm.set h.1 (.own s.hp.length), hp := s.hp ++ [.arr h.2.2 []] } else s
 | none, .vw n hi => match s.hp[n]? with
  | some (.arr e xs) => { tm := (s.mp (nX n)).tm.set h.1 (.own n), hp := (s.mp (nX n)).hp.set n (.arr e (xs.take hi.toNat)) }
  | _ => s
 | some j, .ptr n off => match s.hp[n]? with
  | some (.box l) => match l[off + j]? with
   | some (.con v) => if kE v then { tm := s.tm, hp := (s.hp ++ [AObj.arr h.2.2 []]).set n (.box (l.set (off + j) (.own s.hp.length))) } else s
   | _ => s
  | _ => s
 | _, _ => s
def aJo : List NilH → St → St
 | [], s => s
 | h :: r, s => aJo r (nil1 h s)
def nilF (nh : List (Nat × List NilH)) (id : Nat) : List NilH := match nh.find? (fun p => p.1 == id) with
 | some p => p.2
 | none => []
section
variable {gl : Glb} {E : Ent} {ρ : List Value} {F L : Nat → Prop} {s : St} {a : Act} {w : World}
theorem aJp (h : Inv gl E s a w ρ F) (e : EK) : Inv gl E { tm := s.tm, hp := s.hp ++ [.arr e []] } a w (ρ ++ [.slice none 0 0]) F := by
 have hr := h.rep.adopt (o := .arr e []) (v := .slice none 0 0) (.inl ⟨rfl, rfl⟩) (fun b hb => by simp [blk] at hb)
 refine .of hr ⟨h.stp.ch, h.stp.fF, fun b hb =>?_, h.stp.oF⟩ (fun n x hx =>?_) h.glo h.dfs
 ·rcases yE h.rep.h.len b hb with hb | hb
  ·exact h.stp.oO b hb
  ·simp [blk] at hb
 ·have := h.pk n x hx
  rw [List.getElem?_append_left (List.getElem?_eq_some_iff.1 this).1]
  exact this
theorem bLb (h : Inv gl E s a w ρ F) {n : Nat} {l l' : List AVal} (hn : s.hp[n]? = some (.box l)) (hl : ∀ cs, VRs ρ w F (Bx F E.L) l cs → VRs ρ w F (Bx F E.L) l' cs) : Inv gl E { tm := s.tm, hp := s.hp.set n (.box l') } a w ρ F := by
 have key : ∀ (m : Nat) (o : AObj), (s.hp.set n (.box l'))[m]? = some o → ∃ o0, s.hp[m]? = some o0 ∧ (o.live = true → o0.live = true) ∧ ∀ v, OR ρ w F (Bx F E.L) v o0 → OR ρ w F (Bx F E.L) v o := fun m o hm => by
  rw [List.getElem?_set] at hm
  split at hm
  ·rename_i e
   subst e
   split at hm
   ·cases hm
    exact ⟨_, hn, fun _ => rfl, fun v ⟨b, cs, ty, h1, h2, h3⟩ => ⟨b, cs, ty, h1, h2, hl _ h3⟩⟩
   ·cases hm
  ·exact ⟨o, hm, fun h => h, fun _ h => h⟩
 have hown : ∀ b, Own ρ (s.hp.set n (.box l')) b → Own ρ s.hp b := fun b ⟨m, o, v, k1, k2, k3, k4⟩ => by
  obtain ⟨o0, j1, j2, _⟩ := key m o k1
  exact ⟨m, o0, v, j1, j2 k2, k3, k4⟩
 refine .of ⟨h.rep.tm, ⟨by simpa using h.rep.h.len, fun m o v k1 k2 =>?_, fun m m' o o' v v' b k1 k2 k3 k4 k5 k6 k7 k8 =>?_, fun b hb => ⟨(h.rep.h.froz b hb).1, fun ho => (h.rep.h.froz b hb).2 (hown b ho)⟩⟩⟩ ⟨h.stp.ch, h.stp.fF, fun b hb => h.stp.oO b (hown b hb), h.stp.oF⟩ h.pk h.glo h.dfs
 ·obtain ⟨o0, j1, _, j3⟩ := key m o k1
  exact j3 v (h.rep.h.ob m o0 v j1 k2)
 ·obtain ⟨o0, j1, j2, _⟩ := key m o k1
  obtain ⟨o1, j4, j5, _⟩ := key m' o' k2
  exact h.rep.h.dist m m' o0 o1 v v' b j1 j4 (j2 k3) (j5 k4) k5 k6 k7 k8
theorem bLc (h : Inv gl E s a w ρ F) {t n : Nat} {hi : Int} {e : EK} {xs : List e.T} (ht : s.tm.getD t .any = .vw n hi) (ho : s.hp[n]? = some (.arr e xs)) :
  ∃ ρ', Inv gl E { tm := (s.mp (nX n)).tm.set t (.own n), hp := (s.mp (nX n)).hp.set n (.arr e (xs.take hi.toNat)) } a w ρ' F := by
 have hv := h.rep.tm.getD t undef
 rw [ht] at hv
 simp only [VR] at hv
 obtain ⟨A, len, cap, h1, h2, h3, h4⟩ := hv
 have hnl : n < ρ.length := (List.getElem?_eq_some_iff.1 h1).1
 have hor : OR ρ w F (Bx F E.L) (.slice A hi.toNat cap) (.arr e (xs.take hi.toNat)) := by
  obtain ⟨v, k1, k2⟩ := h.rep.h.at ho
  rw [h1] at k1
  cases k1
  rcases k2 with ⟨k3, rfl⟩ | ⟨b, cap', cs, ty, rows, k3, k4, k5, k6, k7, k8⟩
  ·cases k3
   refine .inl ⟨by rw [show hi.toNat = 0 by omega], by simp⟩
  ·cases k3
   have hl : (xs.take hi.toNat).length = hi.toNat := by simp; omega
   refine .inr ⟨b, cap, cs, ty, rows, by rw [hl], k4, by rw [hl]; omega, k6, fun i hi' =>?_, fun i j v hi' hj => k8 i j v (by rw [hl] at hi'; omega) hj⟩
   rw [List.getElem_take]
   exact k7 i _
 obtain ⟨r, st⟩ := aBs (v' := .slice A hi.toNat cap) h.rep ho h1 (Ch.refl w _) hor (.inl (by cases A <;> rfl))
 refine ⟨ρ.set n (.slice A hi.toNat cap), .of ⟨?_, r.h⟩ (h.stp.trans st) (fun m x hx =>?_) h.glo h.dfs⟩
 ·refine VRs.of (by simpa using r.tm.length) (fun i b u hb hu =>?_)
  rw [List.getElem?_set] at hb
  split at hb
  ·rename_i e'
   split at hb
   ·cases hb
    subst e'
    rw [List.getD_eq_getElem?_getD, hu, Option.getD_some] at h4
    subst h4
    simp only [VR]
    exact ⟨by rw [List.getElem?_set_self hnl], _, _, _, rfl⟩
   ·cases hb
  ·obtain ⟨u', hu', r'⟩ := r.tm.at hb
   rw [hu] at hu'
   cases hu'
   exact r'
 ·have hx := h.pk m x hx
  rw [List.getElem?_set_ne]
  ·exact hx
  ·rintro rfl
   rw [h1] at hx
   cases hx
theorem aOt (h : Inv gl E s a w ρ F) (q : NilH) : ∃ ρ', Inv gl E (nil1 q s) a w ρ' F := by
 obtain ⟨t, j, e⟩ := q
 unfold nil1
 dsimp only
 split
 ·rename_i v hv
  split
  ·rename_i hn
   have h1 := aJp h e
   refine ⟨ρ ++ [.slice none 0 0], .of ⟨?_, h1.rep.h⟩ h1.stp h1.pk h1.glo h1.dfs⟩
   have ht := h.rep.tm.getD t undef
   rw [hv] at ht
   simp only [VR] at ht
   rw [cH hn] at ht
   refine VRs.of (by simpa using h.rep.tm.length) (fun i b u hb hu =>?_)
   rw [List.getElem?_set] at hb
   split at hb
   ·rename_i e'
    split at hb
    ·cases hb
     subst e'
     rw [List.getD_eq_getElem?_getD, hu, Option.getD_some] at ht
     subst ht
     simp only [VR]
     exact ⟨by rw [List.getElem?_append_right (by rw [h.rep.h.len]; exact Nat.le_refl _), h.rep.h.len, Nat.sub_self]; rfl, none, 0, 0, rfl⟩
    ·cases hb
   ·obtain ⟨u', hu', r⟩ := h1.rep.tm.at hb
    rw [hu] at hu'
    cases hu'
    exact r
  ·exact ⟨_, h⟩
 ·rename_i n hi hv
  split
  ·rename_i e' xs ho
   exact bLc h hv ho
  ·exact ⟨_, h⟩
 ·rename_i j n off hv
  split
  ·rename_i l hl
   split
   ·rename_i v hc
    split
    ·rename_i hn
     have h1 := aJp h e
     refine ⟨ρ ++ [.slice none 0 0], bLb h1 (n := n) (l := l) ?_ (fun cs hcs =>?_)⟩
     ·show (s.hp ++ _)[n]? = _
      rw [List.getElem?_append_left (List.getElem?_eq_some_iff.1 hl).1]
      exact hl
     ·refine VRs.of (by simpa using hcs.length) (fun i b u hb hu =>?_)
      rw [List.getElem?_set] at hb
      split at hb
      ·rename_i e'
       split at hb
       ·cases hb
        obtain ⟨u', hu', r⟩ := hcs.at hc
        simp only [VR] at r
        rw [e', hu] at hu'
        cases hu'
        rw [r, cH hn]
        simp only [VR]
        exact ⟨by rw [List.getElem?_append_right (by rw [h.rep.h.len]; exact Nat.le_refl _), h.rep.h.len, Nat.sub_self]; rfl, none, 0, 0, rfl⟩
       ·cases hb
      ·obtain ⟨u', hu', r⟩ := hcs.at hb
       rw [hu] at hu'
       cases hu'
       exact r
    ·exact ⟨_, h⟩
   ·exact ⟨_, h⟩
  ·exact ⟨_, h⟩
 ·exact ⟨_, h⟩
theorem xG : ∀ (hs : List NilH) {s : St} {ρ : List Value}, Inv gl E s a w ρ F → ∃ ρ', Inv gl E (aJo hs s) a w ρ' F
 | [], _, _, h => ⟨_, h⟩
 | q :: r, _, _, h => by
  obtain ⟨ρ1, h1⟩ := aOt h q
  exact xG r h1
end
def setT (n : Nat) : List (Nat × AVal) → List AVal
 | [] => List.replicate n .any
 | (t, v) :: l => (setT n l).set t v
structure LCon where
 n : Nat
 ts : List Nat
 vs : List Vh
 os : List OSh
 Y : Type
 spec : VhL vs × OShL os → Option Y
 out : Y → AEx × List (Nat × AVal) × List AObj
 cps : {R : Type} → Y → (AEx → List (Nat × AVal) → List AObj → R) → R
 law : ∀ {R : Type} (y : Y) (K : AEx → List (Nat × AVal) → List AObj → R), cps y K = K (out y).1 (out y).2.1 (out y).2.2
 run : {Z : Type} → VhL vs × OShL os → (Y → Option Z) → Option Z := fun x K => (spec x).bind K
 rlaw : ∀ {Z : Type} (x : VhL vs × OShL os) (K : Y → Option Z), run x K = (spec x).bind K := by intros; rfl
abbrev LCon.X (C : LCon) : Type := VhL C.vs × OShL C.os
def nE (ts : List Nat) (s : St) : List AVal := ts.map fun t => s.tm.getD t .any
def LCon.st (C : LCon) (x : C.X) : St := { tm := setT C.n (C.ts.zip (VhL.enc C.vs x.1)), hp := OShL.enc C.os x.2 }
def LCon.ost (C : LCon) (y : C.Y) : St := { tm := setT C.n (C.out y).2.1, hp := (C.out y).2.2 }
section
variable {Z : Type} (P : Program) (gl : Glb) (kd : TypeId → Option EK) (G : List (Nat × Con)) (n0 : Nat)
def bJw (C : LCon) (s : St) (K : AEx → St → Option Z) : Option Z :=
 if s.tm.length = C.n then (dP n0 C.vs C.os (nE C.ts s) s).bind fun x => C.run x fun y => C.cps y fun e l h => K e { tm := setT C.n l, hp := h } else none
def bCd (ex : St → (AEx → St → Option Z) → Option Z) : Nat → St → (AEx → St → Option Z) → Option Z
 | 0, _, _ => none
 | m + 1, s, K => ex s (fun e s' => match e with
  | .normal => bCd ex m s' K
  | e => K e s')
def bCe (c : Operand) (x : Code) (s : St) : St := match x, c with
 | .skip, .tmp t => s.put (some t) (.bool true)
 | _, _ => s
def exec (pl : Nat → Array Oper → Option (List Stage)) (Lc : List (Nat × LCon)) (nh : List (Nat × List NilH)) : Code → St → (AEx → St → Option Z) → Option Z
 | .skip, s, K => K .normal s
 | .label _, s, K => K .normal s
 | .region id ops draw, s, K => if draw then (pl id ops).bind fun st => nA P gl kd G ops st [] (forget ops s) (fun s' => K .normal (aJo (nilF nh id) s')) (fun v s' => K (.pan v) s')
  else aseq P gl kd G ops ops.toList s (fun s' => K .normal (aJo (nilF nh id) s')) (fun v s' => K (.pan v) s')
 | .seq a b, s, K => exec pl Lc nh a s (fun e s' => match e with
   | .normal => exec pl Lc nh b s' K
   | e => K e s')
 | .cond c a b, s, K => match ev gl s c with
  | .bool t => bif t then exec pl Lc nh a (bCe c a s) K else exec pl Lc nh b s K
  | _ => none
 | .block id c, s, K => exec pl Lc nh c s (fun e s' => match e with
   | .exit i => if i = id then K .normal s' else K (.exit i) s'
   | e => K e s')
 | .loop c, s, K => match Lc.find? (fun p => p.1 == gP c) with
  | some p => bJw n0 p.2 s K
  | none => bCd (exec pl Lc nh c) 12 s K
 | .exit id, s, K => K (.exit id) s
 | .ret, s, K => K .ret s
 | _, _, _ => none
end

section
variable {P : Program} {gl : Glb} {kd : TypeId → Option EK} {G : List (Nat × Con)} {n0 : Nat} {E : Ent} {ρ : List Value} {F L B : Nat → Prop} {s : St} {a : Act} {w : World}
theorem bCf {t : Tmp} {v : Value} (h : a.eval (.tmp t) = v) : a.put (some t) v = a := by
 obtain ⟨tmps, ds⟩ := a
 simp only [Act.put, Act.mk.injEq, and_true]
 apply Array.ext
 ·simp
 ·intro i h1 h2
  rw [Array.getElem_setIfInBounds (by simpa using h2)]
  split
  ·rename_i e
   subst e
   rw [← h]
   simp [Act.eval, h2]
  ·rfl
theorem Inv.mark (h : Inv gl E s a w ρ F) {c : Operand} {x : Code} (hv : a.eval c = .bool true) : Inv gl E (bCe c x s) a w ρ F := by
 unfold bCe
 split
 ·rename_i t
  have := h.put (some t) (x := .bool true) (v := .bool true) (by simp [VR])
  rwa [bCf hv] at this
 ·exact h
theorem QK.mono {K K' : AEx → St → Prop} (h : ∀ e s, K e s → K' e s) {ex : Exit} (q : QK gl E K ex a w) : QK gl E K' ex a w := by
 cases ex <;> simp only [QK] at q ⊢
 case normal => obtain ⟨s, ρ, F, h1, h2⟩ := q; exact ⟨s, ρ, F, h1, h _ _ h2⟩
 case exit => obtain ⟨s, ρ, F, h1, h2⟩ := q; exact ⟨s, ρ, F, h1, h _ _ h2⟩
 case ret => obtain ⟨s, ρ, F, h1, h2⟩ := q; exact ⟨s, ρ, F, h1, h _ _ h2⟩
 case panic => obtain ⟨s, ρ, F, v, x, h1, h2, h3, h4, h5⟩ := q; exact ⟨s, ρ, F, v, x, h1, h2, h3, h4, h _ _ h5⟩
def PlOk (pl : Nat → Array Oper → Option (List Stage)) : Prop := ∀ id ops st, pl id ops = some st → vU ops ((bP ops).map fun _ => false) st ∧ Region.noSelect ops = true
theorem bI : PlOk plan := fun id ops st h => by
 unfold plan at h
 split at h
 ·rename_i hs
  exact ⟨qM _ _ _ (by simp [dT]) h, hs⟩
 ·cases h
def LOk (P : Program) (gl : Glb) (n0 : Nat) (C : LCon) (c : Code) : Prop := ∀ (E : Ent) (a : Act) (w : World) (ρ : List Value) (F : Nat → Prop) (x : C.X) (y : C.Y), E.ρ.length = n0 → E.full = false → Inv gl E (C.st x) a w ρ F → C.spec x = some y →
 (Code.loop c).wp P (QK gl E (fun e s => e = (C.out y).1 ∧ s = C.ost y)) a w
def eZ (P : Program) (gl : Glb) (n0 : Nat) (Lc : List (Nat × LCon)) : Code → Prop
 | .seq a b => eZ P gl n0 Lc a ∧ eZ P gl n0 Lc b
 | .cond _ a b => eZ P gl n0 Lc a ∧ eZ P gl n0 Lc b
 | .block _ a => eZ P gl n0 Lc a
 | .loop c => (∀ p, Lc.find? (fun p => p.1 == gP c) = some p → LOk P gl n0 p.2 c) ∧ eZ P gl n0 Lc c
 | _ => True
theorem bHn {l : List AVal} {vs : List Value} (h : VRs ρ w F B l vs) (t : Nat) : VRs ρ w F B (l.set t .any) vs := by
 have hl := h.length
 refine VRs.of (by simp [hl]) (fun j b u hb hu =>?_)
 rw [List.getElem?_set] at hb
 split at hb
 ·split at hb
  ·cases hb
   simp [VR]
  ·cases hb
 ·obtain ⟨u', hu', r⟩ := h.at hb
  rw [hu] at hu'
  cases hu'
  exact r
theorem aXa (f : List Oper) : ∀ {l : List AVal} {vs : List Value}, VRs ρ w F B l vs → VRs ρ w F B (f.foldl aGh l) vs := by
 induction f with
 | nil => intro l vs h; exact h
 | cons o f ih =>
  intro l vs h
  simp only [List.foldl_cons]
  apply ih
  unfold aGh
  split
  ·exact h
  ·split
   ·exact bHn h _
   ·exact h
theorem Inv.forget (h : Inv gl E s a w ρ F) (ops : Array Oper) : Inv gl E (forget ops s) a w ρ F :=
 .of ⟨aXa _ h.rep.tm, h.rep.h⟩ h.stp h.pk h.glo h.dfs
theorem Inv.drew (h : Inv gl E s a w ρ F) : Inv gl E s a { w with drawn := w.drawn + 1 } ρ F := by
 have hc : Ch w { w with drawn := w.drawn + 1 } (fun _ => False) := ⟨rfl, rfl, rfl, Nat.le_refl _, fun _ _ _ => rfl⟩
 exact .of (h.rep.still hc) (h.stp.still hc) h.pk (h.glo.mono (fun _ _ => rfl) (fun _ h => h)) h.dfs
theorem aOu {Z : Type} (hm : P.follows .mixedOrders = true) (hfl : E.full = false) (hG : GOk P gl G) {ops : Array Oper} {st : List Stage} (hst : vU ops ((bP ops).map fun _ => false) st) (hsel : Region.noSelect ops = true) {id : Nat} {K : AEx → St → Option Z} {z : Z} (h : Inv gl E s a w ρ F)
  (hz : nA P gl kd G ops st [] (forget ops s) (K .normal) (fun v s' => K (.pan v) s') = some z) : (Code.region id ops true).wp P (QK gl E (fun e s => K e s = some z)) a w := by
 refine wp_region_any hm (aBz _ _ _ _ (aJn hfl hG hsel (st.length + ops.size) st ops.size (Nat.le_refl _) (sp := []) (pins := []) (A := []) hst ⟨(h.forget ops).drew, (fun p hp => nomatch hp), (fun p hp => nomatch hp), (fun p hp => nomatch hp), (fun p hp => nomatch hp), (by simp [dT]), (fun j =>?_), ⟨by simp, fun j hj =>?_⟩⟩ ?_ hz))
 ·rcases Nat.lt_or_ge j ops.size with hj | hj
  ·have hj' : j < (bP ops).length := by rw [dT]; exact hj
   simp [List.getD_eq_getElem?_getD, hj, hj']
  ·have hj' : ¬ j < (bP ops).length := by rw [dT]; omega
   have hj2 : ¬ j < ops.size := by omega
   simp [List.getD_eq_getElem?_getD, hj2, hj']
 ·rcases Nat.lt_or_ge j ops.size with hj' | hj'
  ·simp [hj'] at hj
  ·have hj2 : ¬ j < ops.size := by omega
   simp [hj2] at hj
 ·unfold cnt
  refine Nat.le_trans List.countP_le_length (by simp)
theorem mB (n : Nat) : ∀ l : List (Nat × AVal), (setT n l).length = n
 | [] => by simp [setT]
 | (t, v) :: l => by simp [setT, mB n l]
theorem iF {n : Nat} {us : List Value} (hn : us.length = n) : ∀ {l : List (Nat × AVal)}, (∀ p ∈ l, VR ρ w F B p.2 (us.getD p.1 undef)) → VRs ρ w F B (setT n l) us
 | [], _ => VRs.of (by simp [setT, hn]) (fun i b u hb _ => by
   simp only [setT, List.getElem?_replicate] at hb
   split at hb
   ·cases hb
    simp [VR]
   ·cases hb)
 | (t, v) :: l, h => by
  have ih := iF hn (l := l) (fun p hp => h p (List.mem_cons_of_mem _ hp))
  refine VRs.of (by simp [setT, mB, hn]) (fun i b u hb hu =>?_)
  simp only [setT, List.getElem?_set] at hb
  split at hb
  ·rename_i e
   split at hb
   ·cases hb
    have := h (t, v) List.mem_cons_self
    subst e
    simpa [List.getD_eq_getElem?_getD, hu] using this
   ·cases hb
  ·obtain ⟨u', hu', r⟩ := ih.at hb
   rw [hu] at hu'
   cases hu'
   exact r
theorem vV (h : Inv gl E s a w ρ F) (ts : List Nat) : VRs ρ w F (Bx F E.L) (nE ts s) (ts.map fun t => a.tmps.toList.getD t undef) := by
 induction ts with
 | nil => simp [nE, VRs]
 | cons t ts ih =>
  simp only [nE, List.map_cons, VRs] at ih ⊢
  exact ⟨h.rep.tm.getD t undef, ih⟩
theorem bCg : ∀ {ts : List Nat} {vs : List AVal} {us : List Value}, VRs ρ w F B vs (ts.map fun t => us.getD t undef) → ∀ p ∈ ts.zip vs, VR ρ w F B p.2 (us.getD p.1 undef)
 | [], _, us, _, p, hp => by simp at hp
 | _ :: _, [], us, _, p, hp => by simp at hp
 | t :: ts, v :: vs, us, h, p, hp => by
  simp only [List.map_cons, VRs] at h
  rcases List.mem_cons.1 (by simpa using hp) with rfl | hp
  ·exact h.1
  ·exact bCg h.2 p hp
theorem kZ (hn0 : E.ρ.length = n0) (h : Inv gl E s a w ρ F) {n : Nat} (hn : s.tm.length = n) {ts : List Nat} {vs : List Vh} {os : List OSh} {x : VhL vs × OShL os} (hp : dP n0 vs os (nE ts s) s = some x) :
  ∃ ρ' F', Inv gl E { tm := setT n (ts.zip (VhL.enc vs x.1)), hp := OShL.enc os x.2 } a w ρ' F' := by
 obtain ⟨ρ', F', h1, h2⟩ := bV hn0 h.rep h.toInvH (vV h ts) hp
 exact ⟨ρ', F', .of ⟨iF (by rw [← h.rep.tm.length, hn]) (bCg h2), h1.h⟩ h1.stp h1.pk h1.glo h.dfs⟩
theorem xH {c : Code} {Q : Exit → Act → World → Prop} (J : Nat → Act → World → Prop) (round : ∀ m a w, J m a w → c.wp P (Exit.then (fun a' w' => ∃ m' < m, J m' a' w') Q) a w) {m : Nat} {a : Act} {w : World} (h : J m a w) : (Code.loop c).wp P Q a w := by
 intro b k cs
 have key : ∀ n a w, J n a w → ∃ e a' w', Q e a' w' ∧ Arrives P (lone (b.at a (.code c :: .inLoop c :: k)) cs w) b k cs e a' w' := by
  intro n
  induction n using Nat.strongRecOn with
  | _ n ih =>
   intro a w hI
   obtain ⟨e, a₁, w₁, hq, harr⟩ := round n a w hI b (.inLoop c :: k) cs
   cases e with
   | normal =>
    obtain ⟨m', hlt, hI₁⟩ := hq
    obtain ⟨e₂, a₂, w₂, hq₂, harr₂⟩ := ih m' hlt a₁ w₁ hI₁
    exact ⟨e₂, a₂, w₂, hq₂, .of_steps (Steps.trans harr (.one step_inLoop)) harr₂⟩
   | exit id => exact ⟨_, a₁, w₁, hq, .pass (x := .inLoop c) rfl (fun _ _ => .inl (by simp)) harr⟩
   | goto l => exact ⟨_, a₁, w₁, hq, .pass (x := .inLoop c) rfl (fun _ _ => .inl (by simp)) harr⟩
   | ret => exact ⟨_, a₁, w₁, hq, .pass (x := .inLoop c) rfl (fun _ _ => .inl (by simp)) harr⟩
   | panic ch => exact ⟨_, a₁, w₁, hq, .pass (x := .inLoop c) rfl (fun _ _ => .inl (by simp)) harr⟩
   | outgrown => exact ⟨_, a₁, w₁, hq, .pass (x := .inLoop c) rfl (fun _ _ => .inl (by simp)) harr⟩
 obtain ⟨e, a', w', hq, harr⟩ := key m a w h
 exact ⟨e, a', w', hq, .of_steps (.one step_loop) harr⟩
def nilK {Z : Type} (hs : List NilH) (K : AEx → St → Option Z) (e : AEx) (s : St) : Option Z := match e with
 | .normal => K .normal (aJo hs s)
 | e => K e s
theorem rR {Z : Type} {hs : List NilH} {K : AEx → St → Option Z} {z : Z} {ex : Exit} (q : QK gl E (fun e s => nilK hs K e s = some z) ex a w) : QK gl E (fun e s => K e s = some z) ex a w := by
 cases ex <;> simp only [QK] at q ⊢
 case normal =>
  obtain ⟨s, ρ, F, h1, h2⟩ := q
  obtain ⟨ρ', h3⟩ := xG hs h1
  exact ⟨_, ρ', F, h3, h2⟩
 case exit => exact q
 case ret => exact q
 case panic => exact q
def cO : Code → Bool
 | .region _ _ d => !d
 | .seq a b => cO a && cO b
 | .cond _ a b => cO a && cO b
 | .block _ a => cO a
 | .loop _ => false
 | _ => true
theorem bC {Z : Type} (hm : P.follows .mixedOrders = true) (hG : GOk P gl G) {pl : Nat → Array Oper → Option (List Stage)} (hpl : PlOk pl) {Lc : List (Nat × LCon)} {nh : List (Nat × List NilH)} (hn0 : E.ρ.length = n0) : ∀ (c : Code) {s : St} {a : Act} {w : World} {ρ : List Value} {F : Nat → Prop} {K : AEx → St → Option Z} {z : Z}, (E.full = false ∨ cO c = true) → eZ P gl n0 Lc c → Inv gl E s a w ρ F → exec P gl kd G n0 pl Lc nh c s K = some z →
  c.wp P (QK gl E (fun e s => K e s = some z)) a w := by
 intro c
 induction c with
 | skip => intro s a w ρ F K z hfu _ h hz; exact wp_skip ⟨s, ρ, F, h, hz⟩
 | label l => intro s a w ρ F K z hfu _ h hz; exact wp_label ⟨s, ρ, F, h, hz⟩
 | exit id => intro s a w ρ F K z hfu _ h hz; exact wp_exit ⟨s, ρ, F, h, hz⟩
 | ret => intro s a w ρ F K z hfu _ h hz; exact wp_ret ⟨s, ρ, F, h, hz⟩
 | region id ops draw =>
  intro s a w ρ F K z hfu _ h hz
  simp only [exec] at hz
  cases draw with
  | true =>
   rw [if_pos rfl] at hz
   obtain ⟨st, h1, h2⟩ := Option.bind_eq_some_iff.1 hz
   obtain ⟨k1, k2⟩ := hpl _ _ _ h1
   exact wp_mono (aOu hm (hfu.elim (fun h => h) (fun h => by simp [cO] at h)) hG k1 k2 (K := nilK (nilF nh id) K) h h2) (fun ex a w q => rR q)
  | false =>
   rw [if_neg (by simp)] at hz
   exact wp_mono (wp_region_list (mA hG _ (K := nilK (nilF nh id) K) h hz)) (fun ex a w q => rR q)
 | seq x y ihx ihy =>
  intro s a w ρ F K z hfu hL h hz
  simp only [exec] at hz
  refine wp_seq (wp_mono (ihx (hfu.imp (fun h => h) (fun h => (Bool.and_eq_true _ _ ▸ h : cO x = true ∧ cO y = true).1)) hL.1 h hz) (fun ex a w q =>?_))
  cases ex <;> simp only [QK] at q <;> simp only [Exit.then, QK]
  case normal => obtain ⟨s, ρ, F, h1, h2⟩ := q; exact ihy (hfu.imp (fun h => h) (fun h => (Bool.and_eq_true _ _ ▸ h : cO x = true ∧ cO y = true).2)) hL.2 h1 h2
  case exit => exact q
  case ret => exact q
  case panic => exact q
 | cond c x y ihx ihy =>
  intro s a w ρ F K z hfu hL h hz
  simp only [exec] at hz
  split at hz
  ·rename_i t ht
   have hv := kF h.rep h.glo c
   rw [ht] at hv
   simp only [VR] at hv
   refine wp_cond hv ?_
   cases t
   ·exact ihy (hfu.imp (fun h => h) (fun h => (Bool.and_eq_true _ _ ▸ h : cO x = true ∧ cO y = true).2)) hL.2 h hz
   ·exact ihx (hfu.imp (fun h => h) (fun h => (Bool.and_eq_true _ _ ▸ h : cO x = true ∧ cO y = true).1)) hL.1 (h.mark hv) hz
  ·cases hz
 | block id c ih =>
  intro s a w ρ F K z hfu hL h hz
  simp only [exec] at hz
  refine wp_block (wp_mono (ih (hfu.imp (fun h => h) (fun h => h)) hL h hz) (fun ex a w q =>?_))
  cases ex <;> simp only [QK] at q <;> simp only [Exit.inBlock, QK]
  case normal => exact q
  case ret => exact q
  case panic => exact q
  case exit i =>
   obtain ⟨s, ρ, F, h1, h2⟩ := q
   by_cases c : i = id
   ·simp only [c, if_true] at h2 ⊢
    exact ⟨s, ρ, F, h1, h2⟩
   ·simp only [c, if_false] at h2 ⊢
    exact ⟨s, ρ, F, h1, h2⟩
 | loop c ih =>
  intro s a w ρ F K z hfu hL h hz
  simp only [exec] at hz
  split at hz
  ·rename_i p hp
   unfold bJw at hz
   split at hz
   ·rename_i hn
    obtain ⟨x, h1, hz⟩ := Option.bind_eq_some_iff.1 hz
    rw [p.2.rlaw] at hz
    obtain ⟨y, h2, hz⟩ := Option.bind_eq_some_iff.1 hz
    rw [p.2.law] at hz
    obtain ⟨ρ', F', h3⟩ := kZ hn0 h hn h1
    refine wp_mono (hL.1 p hp E a w ρ' F' x y hn0 (hfu.elim (fun h => h) (fun h => by simp [cO] at h)) h3 h2) (fun ex a w q => q.mono (fun e s hes =>?_))
    obtain ⟨rfl, rfl⟩ := hes
    exact hz
   ·cases hz
  ·refine xH (fun m a w => ∃ s ρ F, Inv gl E s a w ρ F ∧ bCd (exec P gl kd G n0 pl Lc nh c) m s K = some z) (fun m a w ⟨s, ρ, F, h, hz⟩ =>?_) ⟨s, ρ, F, h, hz⟩
   cases m with
   | zero => cases hz
   | succ m =>
    refine wp_mono (ih (.inl (hfu.elim (fun h => h) (fun h => by simp [cO] at h))) hL.2 h hz) (fun ex a w q =>?_)
    cases ex <;> simp only [QK] at q <;> simp only [Exit.then, QK]
    case normal => obtain ⟨s, ρ, F, h1, h2⟩ := q; exact ⟨m, Nat.lt_succ_self m, s, ρ, F, h1, h2⟩
    case exit => exact q
    case ret => exact q
    case panic => exact q
 | _ => intros; simp_all [exec]
def cZ {X Y : Type} (round : X → Option (X ⊕ Y)) : Nat → X → Option Y
 | 0, _ => none
 | m + 1, x => (round x).bind fun
  | .inl x' => cZ round m x'
  | .inr y => some y
end
structure Fin where
 Y : Type
 fin : AEx → St → Option Y
 out : Y → AEx × List (Nat × AVal) × List AObj
 cps : {R : Type} → Y → (AEx → List (Nat × AVal) → List AObj → R) → R
 law : ∀ {R : Type} (y : Y) (K : AEx → List (Nat × AVal) → List AObj → R), cps y K = K (out y).1 (out y).2.1 (out y).2.2
def aJq : AEx → AEx → Bool
 | .exit i, .exit j => i == j
 | .ret, .ret => true
 | _, _ => false
@[reducible] def Fin.one (n0 n : Nat) (e0 : AEx) (ts : List Nat) (vs : List Vh) (os : List OSh) : Fin where
 Y := VhL vs × OShL os
 fin e s := bif aJq e0 e then (if s.tm.length = n then dP n0 vs os (nE ts s) s else none) else none
 out y := (e0, ts.zip (VhL.enc vs y.1), OShL.enc os y.2)
 cps y K := K e0 (ts.zip (VhL.enc vs y.1)) (OShL.enc os y.2)
 law _ _ := rfl
@[reducible] def Fin.pan (n0 : Nat) (t : TypeId) (h : Vh) (os : List OSh) : Fin where
 Y := VhL [h] × OShL os
 fin e s := match e with
  | .pan (.ifc t' v) => if t' = t then dP n0 [h] os [v] { tm := [], hp := s.hp } else none
  | _ => none
 out y := (.pan (.ifc t (h.enc y.1.1)), [], OShL.enc os y.2)
 cps y K := K (.pan (.ifc t (h.enc y.1.1))) [] (OShL.enc os y.2)
 law _ _ := rfl
@[reducible] def Fin.or (f g : Fin) : Fin where
 Y := f.Y ⊕ g.Y
 fin e s := match f.fin e s with
  | some y => some (.inl y)
  | none => (g.fin e s).map .inr
 out y := match y with
  | .inl y => f.out y
  | .inr y => g.out y
 cps y K := match y with
  | .inl y => f.cps y K
  | .inr y => g.cps y K
 law y K := by cases y <;> simp [f.law, g.law]
@[reducible] def LCon.of (n : Nat) (ts : List Nat) (vs : List Vh) (os : List OSh) (f : Fin) (spec : VhL vs × OShL os → Option f.Y) : LCon where
 n := n
 ts := ts
 vs := vs
 os := os
 Y := f.Y
 spec := spec
 out := f.out
 cps := f.cps
 law := f.law
def aGj (n0 n : Nat) (ts : List Nat) (vs : List Vh) (os : List OSh) (f : Fin) (e : AEx) (s : St) : Option ((VhL vs × OShL os) ⊕ f.Y) := match e with
 | .normal => if s.tm.length = n then (dP n0 vs os (nE ts s) s).map .inl else none
 | e => (f.fin e s).map .inr
def Vh.mode : Vh → Mode
 | .s (.lent k) => .lend k
 | .s (.e _) => .give
 | .agg l => if l.any (fun h => match h with | .own _ => true | _ => false) then .keep else .give
 | _ => .keep
def pL : List AVal → AVal
 | [v] => v
 | l => .tup l
def fM (vs : List Vh) (os : List OSh) (as : List AVal) (h : List AObj) : Option (VhL vs × OShL os) := (VhL.dec vs as).bind fun x => (OShL.dec os h).bind fun y => some (x, y)
@[reducible] def Con.of (vs : List Vh) (os : List OSh) (rs : List Vh) (os' : List OSh) (spec : VhL vs × OShL os → Option (VhL rs × OShL os')) : Con where
 X := VhL vs × OShL os
 Y := VhL rs × OShL os'
 modes := vs.map Vh.mode
 dec := fM vs os
 spec := spec
 out y := (.ret (pL (VhL.enc rs y.1)), OShL.enc os' y.2)
 cps y K := K (.ret (pL (VhL.enc rs y.1))) (OShL.enc os' y.2)
 law _ _ := rfl
@[reducible] def Con.ofP (vs : List Vh) (os : List OSh) (rs : List Vh) (os' : List OSh) (t : TypeId) (h : Vh) (osP : List OSh) (spec : VhL vs × OShL os → Option ((VhL rs × OShL os') ⊕ (VhL [h] × OShL osP))) : Con where
 X := VhL vs × OShL os
 Y := (VhL rs × OShL os') ⊕ (VhL [h] × OShL osP)
 modes := vs.map Vh.mode
 dec := fM vs os
 spec := spec
 out y := match y with
  | .inl y => (.ret (pL (VhL.enc rs y.1)), OShL.enc os' y.2)
  | .inr y => (.pan (.ifc t (h.enc y.1.1)), OShL.enc osP y.2)
 cps y K := match y with
  | .inl y => K (.ret (pL (VhL.enc rs y.1))) (OShL.enc os' y.2)
  | .inr y => K (.pan (.ifc t (h.enc y.1.1))) (OShL.enc osP y.2)
 law y K := by cases y <;> rfl
def resV (P : Program) (s : St) : ResultVar → Option AVal
 | .tmp t => some (s.tm.getD t .any)
 | .cell a t => match s.tm.getD a .any with
  | .ptr n off => ldA P s t (.ptr n off)
  | _ => none
def oE (P : Program) (s : St) : List ResultVar → Option (List AVal)
 | [] => some []
 | r :: l => (resV P s r).bind fun v => (oE P s l).bind fun vs => some (v :: vs)
def finR (P : Program) (n0 : Nat) (res : List ResultVar) (rs : List Vh) (os' : List OSh) (e : AEx) (s : St) : Option (VhL rs × OShL os') := match e with
 | .normal => (oE P s res).bind fun vals => dP n0 rs os' vals s
 | .ret => (oE P s res).bind fun vals => dP n0 rs os' vals s
 | _ => none
def aEp (P : Program) (n0 : Nat) (res : List ResultVar) (rs : List Vh) (os' : List OSh) (t : TypeId) (h : Vh) (osP : List OSh) (e : AEx) (s : St) : Option ((VhL rs × OShL os') ⊕ (VhL [h] × OShL osP)) := match e with
 | .normal => ((oE P s res).bind fun vals => dP n0 rs os' vals s).map .inl
 | .ret => ((oE P s res).bind fun vals => dP n0 rs os' vals s).map .inl
 | .pan (.ifc t' v) => if t' = t then (dP n0 [h] osP [v] { tm := [], hp := s.hp }).map .inr else none
 | _ => none
def bX (nt : Nat) (vs : List Vh) (os : List OSh) (x : VhL vs × OShL os) : St := { tm := VhL.enc vs x.1 ++ List.replicate (nt - vs.length) .any, hp := OShL.enc os x.2 }

section
variable {P : Program} {gl : Glb} {kd : TypeId → Option EK} {G : List (Nat × Con)} {n0 n : Nat} {E : Ent} {ρ : List Value} {F L B : Nat → Prop} {s : St} {a : Act} {w : World}
def Fin.Ok (gl : Glb) (n0 n : Nat) (f : Fin) : Prop := ∀ (E : Ent) (ex : Exit) (a : Act) (w : World) (y : f.Y), E.ρ.length = n0 → E.full = false → ex ≠ .normal → QK gl E (fun e s => f.fin e s = some y) ex a w → QK gl E (fun e s => e = (f.out y).1 ∧ s = { tm := setT n (f.out y).2.1, hp := (f.out y).2.2 }) ex a w
theorem bCh {e e' : AEx} (h : aJq e e' = true) : e' = e := by
 cases e <;> cases e' <;> simp_all [aJq]
theorem Fin.one_ok (e0 : AEx) (ts : List Nat) (vs : List Vh) (os : List OSh) : (Fin.one n0 n e0 ts vs os).Ok gl n0 n := by
 intro E ex a w y hn0 hfl hne q
 have key : ∀ {e : AEx} {s : St} {ρ : List Value} {F : Nat → Prop}, Inv gl E s a w ρ F → (Fin.one n0 n e0 ts vs os).fin e s = some y → e = e0 ∧ ∃ ρ' F', Inv gl E { tm := setT n (ts.zip (VhL.enc vs y.1)), hp := OShL.enc os y.2 } a w ρ' F' := fun {e s ρ F} hI hf => by
  try simp only [Fin.one] at hf
  cases hs : aJq e0 e with
  | false => rw [hs] at hf; cases hf
  | true =>
   rw [hs] at hf
   simp only [cond_true] at hf
   split at hf
   ·rename_i hn
    exact ⟨bCh hs, kZ hn0 hI hn hf⟩
   ·cases hf
 cases ex <;> simp only [QK] at q ⊢
 case normal => exact absurd rfl hne
 case exit i =>
  obtain ⟨s, ρ, F, h1, h2⟩ := q
  obtain ⟨k1, ρ', F', k2⟩ := key h1 h2
  exact ⟨_, ρ', F', k2, k1, rfl⟩
 case ret =>
  obtain ⟨s, ρ, F, h1, h2⟩ := q
  obtain ⟨k1, ρ', F', k2⟩ := key h1 h2
  exact ⟨_, ρ', F', k2, k1, rfl⟩
 case panic c =>
  obtain ⟨s, ρ, F, v, x, h1, h2, h3, h4, h5⟩ := q
  cases e0 <;> simp [Fin.one, aJq] at h5
theorem aGk {t : TypeId} {h : Vh} {os : List OSh} {y : VhL [h] × OShL os} (hn0 : E.ρ.length = n0) (hI : InvH gl E s.hp w ρ F) {v : AVal} {x : Value} (hv : VR ρ w F (Bx F E.L) (.ifc t v) x) (hp : dP n0 [h] os [v] { tm := [], hp := s.hp } = some y) :
  ∃ ρ' F', InvH gl E (OShL.enc os y.2) w ρ' F' ∧ VR ρ' w F' (Bx F' E.L) (.ifc t (h.enc y.1.1)) x := by
 simp only [VR] at hv
 obtain ⟨u, rfl, hv⟩ := hv
 obtain ⟨ρ', F', h1, h2⟩ := bV hn0 (s := { tm := [], hp := s.hp }) hI.h.rep hI (us := [u]) (by simp only [VRs, and_true]; exact hv) hp
 simp only [VhL.enc, VRs, and_true] at h2
 exact ⟨ρ', F', h1, by simp only [VR]; exact ⟨u, rfl, h2⟩⟩
theorem Fin.pan_ok (t : TypeId) (h : Vh) (os : List OSh) : (Fin.pan n0 t h os).Ok gl n0 n := by
 intro E ex a w y hn0 hfl hne q
 cases ex <;> simp only [QK] at q ⊢
 case normal => exact absurd rfl hne
 case exit i => obtain ⟨s, ρ, F, h1, h2⟩ := q; simp [Fin.pan] at h2
 case ret => obtain ⟨s, ρ, F, h1, h2⟩ := q; simp [Fin.pan] at h2
 case panic c =>
  obtain ⟨s, ρ, F, v, x, h1, h2, h3, h4, h5⟩ := q
  try simp only [Fin.pan] at h5
  split at h5
  ·rename_i t' v' he
   cases he
   split at h5
   ·rename_i ht
    subst ht
    obtain ⟨ρ', F', k1, k2⟩ := aGk hn0 h2.1 h4 h5
    exact ⟨_, ρ', F', _, x, h1, ⟨k1, fun h => absurd (hfl.symm.trans h) (by simp)⟩, h3, k2, rfl, rfl⟩
   ·cases h5
  ·cases h5
theorem Fin.or_ok {f g : Fin} (hf : f.Ok gl n0 n) (hg : g.Ok gl n0 n) : (f.or g).Ok gl n0 n := by
 intro E ex a w y hn0 hfl hne q
 cases y with
 | inl y =>
  refine (hf E ex a w y hn0 hfl hne (q.mono (fun e s h =>?_))).mono (fun e s h => h)
  try simp only [Fin.or] at h
  split at h
  ·rename_i y' h1
   cases h
   exact h1
  ·obtain ⟨z, _, h2⟩ := Option.map_eq_some_iff.1 h
   cases h2
 | inr y =>
  refine (hg E ex a w y hn0 hfl hne (q.mono (fun e s h =>?_))).mono (fun e s h => h)
  try simp only [Fin.or] at h
  split at h
  ·cases h
  ·obtain ⟨z, h1, h2⟩ := Option.map_eq_some_iff.1 h
   cases h2
   exact h1
theorem aOv {ts : List Nat} {vs : List Vh} {os : List OSh} {f : Fin} {e : AEx} {r : (VhL vs × OShL os) ⊕ f.Y} {round : (VhL vs × OShL os) → Option f.Y} {y : f.Y} (he : e ≠ .normal) (h : aGj n0 n ts vs os f e s = some r)
  (h2 : Sum.elim round some r = some y) : f.fin e s = some y := by
 have key : (f.fin e s).map Sum.inr = some r := by
  cases e <;> first|exact absurd rfl he|exact h
 obtain ⟨y', h3, rfl⟩ := Option.map_eq_some_iff.1 key
 rw [h3]
 exact h2
theorem bHo (hm : P.follows .mixedOrders = true) (hG : GOk P gl G) {pl : Nat → Array Oper → Option (List Stage)} (hpl : PlOk pl) {Lc : List (Nat × LCon)} {nh : List (Nat × List NilH)} {c : Code} (hL : eZ P gl n0 Lc c) {ts : List Nat} {vs : List Vh} {os : List OSh} {f : Fin} (hf : f.Ok gl n0 n) {spec : VhL vs × OShL os → Option f.Y}
  {round : VhL vs × OShL os → Option ((VhL vs × OShL os) ⊕ f.Y)} (hr : ∀ x, exec P gl kd G n0 pl Lc nh c { tm := setT n (ts.zip (VhL.enc vs x.1)), hp := OShL.enc os x.2 } (aGj n0 n ts vs os f) = round x)
  (hs : ∀ x y, spec x = some y → ∃ m, cZ round m x = some y) : LOk P gl n0 (LCon.of n ts vs os f spec) c := by
 intro E a w ρ F x y hn0 hfl hI hy
 obtain ⟨m, hm'⟩ := hs x y hy
 refine xH (fun m a w => ∃ (x : VhL vs × OShL os) (ρ : List Value) (F : Nat → Prop), Inv gl E { tm := setT n (ts.zip (VhL.enc vs x.1)), hp := OShL.enc os x.2 } a w ρ F ∧ cZ round m x = some y) (fun m a w ⟨x, ρ, F, hI, hx⟩ =>?_) ⟨x, ρ, F, hI, hm'⟩
 cases m with
 | zero => cases hx
 | succ m =>
  simp only [cZ] at hx
  obtain ⟨r, h1, h2⟩ := Option.bind_eq_some_iff.1 hx
  refine wp_mono (bC hm hG hpl hn0 c (.inl hfl) hL hI ((hr x).trans h1)) (fun ex a w q =>?_)
  cases ex with
  | normal =>
   simp only [QK] at q
   obtain ⟨s, ρ, F, k1, k2⟩ := q
   simp only [aGj] at k2
   split at k2
   ·rename_i hn
    obtain ⟨x', k3, rfl⟩ := Option.map_eq_some_iff.1 k2
    obtain ⟨ρ', F', k4⟩ := kZ hn0 k1 hn k3
    exact ⟨m, Nat.lt_succ_self m, x', ρ', F', k4, h2⟩
   ·cases k2
  | exit id =>
   simp only [QK] at q
   obtain ⟨s, ρ, F, k1, k2⟩ := q
   exact hf E (.exit id) a w y hn0 hfl (by simp) ⟨s, ρ, F, k1, aOv (round := cZ round m) (by simp) k2 (by cases r <;> exact h2)⟩
  | ret =>
   simp only [QK] at q
   obtain ⟨s, ρ, F, k1, k2⟩ := q
   exact hf E .ret a w y hn0 hfl (by simp) ⟨s, ρ, F, k1, aOv (round := cZ round m) (by simp) k2 (by cases r <;> exact h2)⟩
  | panic c =>
   simp only [QK] at q
   obtain ⟨s, ρ, F, v, x, k1, k2, k3, k4, k5⟩ := q
   exact hf E (.panic c) a w y hn0 hfl (by simp) ⟨s, ρ, F, v, x, k1, k2, k3, k4, aOv (round := cZ round m) (by simp) k5 (by cases r <;> exact h2)⟩
  | goto l => exact q.elim
  | outgrown => exact q.elim
def tupU : List Value → Value
 | [v] => v
 | l => .tuple l.toArray
def resS (tmps : Array Value) : ResultVar → Sem Value
 | .tmp t => pure (tmps.getD t undef)
 | .cell a t => do loadVar t (← asAddr (tmps.getD a undef))
theorem bCi (h : Inv gl E s a w ρ F) {r : ResultVar} {v : AVal} (hv : resV P s r = some v) : ∃ u, (resS a.tmps r).run P w = .ok u w ∧ VR ρ w F (Bx F E.L) v u := by
 cases r with
 | tmp t =>
  cases hv
  have := h.rep.tm.getD t undef
  exact ⟨_, rfl, by simpa [Array.getD_eq_getD_getElem?, List.getD_eq_getElem?_getD] using this⟩
 | cell x t =>
  simp only [resV] at hv
  split at hv
  ·rename_i n off he
   have hx := h.rep.tm.getD x undef
   rw [he] at hx
   have hp : VR ρ w F (Bx F E.L) (.ptr n off) (a.tmps.getD x undef) := by simpa [Array.getD_eq_getD_getElem?, List.getD_eq_getElem?_getD] using hx
   obtain ⟨u, b, h1, h2, _⟩ := vN h.rep hv hp
   simp only [VR] at hp
   obtain ⟨b', _, hp⟩ := hp
   refine ⟨u, ?_, h2⟩
   have := h1 w rfl
   rw [hp] at this
   simp only [resS, hp, asAddr]
   simpa [Instr.loadAt, Instr.sureAddr] using this
  ·cases hv
theorem aJr (h : Inv gl E s a w ρ F) : ∀ {l : List ResultVar} {vs : List AVal}, oE P s l = some vs → ∃ us, (l.mapM (resS a.tmps)).run P w = .ok us w ∧ VRs ρ w F (Bx F E.L) vs us
 | [], vs, hv => by
  cases hv
  exact ⟨[], by simp, by simp [VRs]⟩
 | r :: l, vs, hv => by
  simp only [oE] at hv
  obtain ⟨v, h1, hv⟩ := Option.bind_eq_some_iff.1 hv
  obtain ⟨vs', h2, hv⟩ := Option.bind_eq_some_iff.1 hv
  cases hv
  obtain ⟨u, k1, k2⟩ := bCi h h1
  obtain ⟨us, k3, k4⟩ := aJr h h2
  exact ⟨u :: us, by simp [List.mapM_cons, Sem.run_bind, k1, k3], by simp only [VRs]; exact ⟨k2, k4⟩⟩
theorem pS {fn : Func} (h : Inv gl E s a w ρ F) {res : List ResultVar} (hres : fn.results = res.toArray) {vs : List AVal} (hv : oE P s res = some vs) : ∃ us, (results fn a.tmps).run P w = .ok (tupU us) w ∧ VRs ρ w F (Bx F E.L) vs us := by
 obtain ⟨us, h1, h2⟩ := aJr h hv
 refine ⟨us, ?_, h2⟩
 have e : results fn a.tmps = (do let vs ← fn.results.mapM (resS a.tmps); pure (if h : vs.size = 1 then vs[0] else .tuple vs) : Sem Value) := by
  unfold results
  congr 1
 rw [e, hres, Array.mapM_eq_mapM_toList]
 simp only [Sem.run_bind, map_eq_pure_bind, List.toList_toArray, h1]
 match us with
 | [] => simp [tupU]
 | [u] => simp [tupU]
 | u :: u2 :: us => simp [tupU]
theorem rS {l : List AVal} {us : List Value} (h : VRs ρ w F B l us) : VR ρ w F B (pL l) (tupU us) := by
 match l, us, h with
 | [], [], h => simp only [pL, VR]; exact ⟨#[], rfl, by simpa using h⟩
 | [v], [u], h => simp only [VRs, and_true] at h; exact h
 | v :: v2 :: l, u :: u2 :: us, h => simp only [pL, VR]; exact ⟨_, rfl, by simpa using h⟩
 | [], _ :: _, h => simp [VRs] at h
 | _ :: _, [], h => simp [VRs] at h
 | [_], _ :: _ :: _, h => simp [VRs] at h
 | _ :: _ :: _, [_], h => simp [VRs] at h
def EndR (gl : Glb) (E : Ent) (o : AOut × List AObj) (e : Ending) (w' : World) : Prop := ∃ ρ' F', yC o.1 e ρ' w' F' (Bx F' E.L) ∧ InvH gl E o.2 w' ρ' F'
theorem oG {fn : Func} {res : List ResultVar} (hres : fn.results = res.toArray) (hn0 : E.ρ.length = n0) (hD : E.D = []) {rs : List Vh} {os' : List OSh} (hI : Inv gl E s a w ρ F) {y : VhL rs × OShL os'} (h : ((oE P s res).bind fun vals => dP n0 rs os' vals s) = some y) :
  a.defers = [] ∧ ∃ v, (results fn a.tmps).run P w = .ok v w ∧ EndR gl E (.ret (pL (VhL.enc rs y.1)), OShL.enc os' y.2) (.returned v) w := by
 obtain ⟨vals, hv, h⟩ := Option.bind_eq_some_iff.1 h
 obtain ⟨us, k1, k2⟩ := pS hI hres hv
 obtain ⟨ρ', F', h1, h2⟩ := bV hn0 hI.rep hI.toInvH k2 h
 exact ⟨hI.dfs.trans hD, _, k1, ρ', F', ⟨_, rfl, rS h2⟩, h1⟩
theorem aCf (hm : P.follows .mixedOrders = true) (hG : GOk P gl G) {pl : Nat → Array Oper → Option (List Stage)} (hpl : PlOk pl) {Lc : List (Nat × LCon)} {nh : List (Nat × List NilH)} {f : Nat} {fn : Func} {c : Code} (hf : P.funcs[f]? = some fn) (hb : fn.body = some c) {vs : List Vh} {os : List OSh} (hL : eZ P gl os.length Lc c)
  {Y : Type} {fin : AEx → St → Option Y} {x : VhL vs × OShL os} {y : Y} (hx : exec P gl kd G os.length pl Lc nh c (bX fn.ntmps vs os x) fin = some y) {out : AOut × List AObj}
  (hfin : ∀ E ex a w, E.ρ.length = os.length → E.D = [] → QK gl E (fun e s => fin e s = some y) ex a w → bodyPost P fn (EndR gl E out) ex a w)
  {as : List AVal} {h : List AObj} (hd : fM vs os as h = some x) {ρ : List Value} {F L : Nat → Prop} {w : World} {us : Array Value} (hR : RepH ρ F L h w) (hv : VRs ρ w F (Bx F L) as us.toList) (hg : Glo gl w F) :
  Calls P f us w fun e w' => ∃ ρ' F', yC out.1 e ρ' w' F' (Bx F' L) ∧ RepH ρ' F' L out.2 w' ∧ Stp w (Own ρ h) F w' (Own ρ' out.2) F' ∧ PK ρ ρ' ∧ ∀ i ∈ ([] : List Nat), ρ'[i]? = ρ[i]? := by
 unfold fM at hd
 obtain ⟨x1, h1, hd⟩ := Option.bind_eq_some_iff.1 hd
 obtain ⟨x2, h2, hd⟩ := Option.bind_eq_some_iff.1 hd
 cases hd
 let E : Ent := ⟨ρ, w, Own ρ h, F, L, [], false⟩
 have hlen := (OShL.at h2).1
 have hlo : (OShL.enc os x2).length = os.length := by
  have : ∀ (os : List OSh) (x : OShL os), (OShL.enc os x).length = os.length := by
   intro os
   induction os with
   | nil => intro x; rfl
   | cons o os ih => intro x; simp [OShL.enc, ih]
  exact this os x2
 have hls : ∀ (l : List Vh) (x : VhL l), (VhL.enc l x).length = l.length := by
  intro l
  induction l with
  | nil => intro x; rfl
  | cons o os ih => intro x; simp [VhL.enc, ih]
 have hn0 : E.ρ.length = os.length := by rw [← hlo, hlen]; exact hR.len
 have hvs := VhL.sound h1 hv
 have hI : Inv gl E (bX fn.ntmps vs os (x1, x2)) { tmps := us ++ Array.replicate (fn.ntmps - us.size) undef, defers := [] } w ρ F := by
  refine .of ⟨?_, OShL.sound h2 hR⟩ ⟨Ch.refl _ _, fun _ h => h, fun b hb => .inl (OShL.own h2 hb), fun _ h => .inl h⟩ (PK.refl _) hg rfl
  have e1 : us.size = vs.length := by
   have := hvs.length
   rw [hls] at this
   simpa using this.symm
  simp only [bX, Array.toList_append, Array.toList_replicate, e1]
  refine hvs.append (VRs.of (by simp) (fun i b u hb _ =>?_))
  simp only [List.getElem?_replicate] at hb
  split at hb
  ·cases hb
   simp [VR]
  ·cases hb
 refine (calls_of_wp hf hb (R := EndR gl E out) (wp_mono (bC hm hG hpl hn0 c (.inl rfl) hL hI hx) (fun ex a w q => hfin E ex a w hn0 rfl q))).mono ?_
 rintro e w' ⟨ρ', F', k1, k2⟩
 exact ⟨ρ', F', k1, k2.h, k2.stp, k2.pk, fun i hi => nomatch hi⟩
theorem aOw (hm : P.follows .mixedOrders = true) (hG : GOk P gl G) {pl : Nat → Array Oper → Option (List Stage)} (hpl : PlOk pl) {Lc : List (Nat × LCon)} {nh : List (Nat × List NilH)} {f : Nat} {fn : Func} {c : Code} (hf : P.funcs[f]? = some fn) (hb : fn.body = some c) {res : List ResultVar} (hres : fn.results = res.toArray)
  {vs : List Vh} {os : List OSh} (hL : eZ P gl os.length Lc c) {rs : List Vh} {os' : List OSh} {spec : VhL vs × OShL os → Option (VhL rs × OShL os')} (hx : ∀ x, exec P gl kd G os.length pl Lc nh c (bX fn.ntmps vs os x) (finR P os.length res rs os') = spec x) : aK P gl f (Con.of vs os rs os' spec) := by
 intro as h x y hd hy ρ F L w us hR hv hg
 refine aCf hm hG hpl hf hb hL ((hx x).trans hy) (out := (Con.of vs os rs os' spec).out y) (fun E ex a w hn0 hD q =>?_) hd hR hv hg
 cases ex <;> simp only [QK] at q <;> simp only [bodyPost]
 case normal => obtain ⟨s, ρ, F, h1, h2⟩ := q; exact oG hres hn0 hD h1 h2
 case ret => obtain ⟨s, ρ, F, h1, h2⟩ := q; exact oG hres hn0 hD h1 h2
 case exit => obtain ⟨s, ρ, F, h1, h2⟩ := q; cases h2
 case panic => obtain ⟨s, ρ, F, v, x, h1, h2, h3, h4, h5⟩ := q; cases h5
theorem bCj (hm : P.follows .mixedOrders = true) (hG : GOk P gl G) {pl : Nat → Array Oper → Option (List Stage)} (hpl : PlOk pl) {Lc : List (Nat × LCon)} {nh : List (Nat × List NilH)} {f : Nat} {fn : Func} {c : Code} (hf : P.funcs[f]? = some fn) (hb : fn.body = some c) {res : List ResultVar} (hres : fn.results = res.toArray)
  {vs : List Vh} {os : List OSh} (hL : eZ P gl os.length Lc c) {rs : List Vh} {os' : List OSh} {t : TypeId} {hh : Vh} {osP : List OSh} {spec : VhL vs × OShL os → Option ((VhL rs × OShL os') ⊕ (VhL [hh] × OShL osP))} (hx : ∀ x y, spec x = some y → exec P gl kd G os.length pl Lc nh c (bX fn.ntmps vs os x) (aEp P os.length res rs os' t hh osP) = some y) : aK P gl f (Con.ofP vs os rs os' t hh osP spec) := by
 intro as h x y hd hy ρ F L w us hR hv hg
 refine aCf hm hG hpl hf hb hL (hx x y hy) (out := (Con.ofP vs os rs os' t hh osP spec).out y) (fun E ex a w hn0 hD q =>?_) hd hR hv hg
 cases ex <;> simp only [QK] at q <;> simp only [bodyPost]
 case normal =>
  obtain ⟨s, ρ, F, h1, h2⟩ := q
  obtain ⟨y', h3, rfl⟩ := Option.map_eq_some_iff.1 h2
  exact oG hres hn0 hD h1 h3
 case ret =>
  obtain ⟨s, ρ, F, h1, h2⟩ := q
  obtain ⟨y', h3, rfl⟩ := Option.map_eq_some_iff.1 h2
  exact oG hres hn0 hD h1 h3
 case exit => obtain ⟨s, ρ, F, h1, h2⟩ := q; cases h2
 case panic c =>
  obtain ⟨s, ρ, F, v, x, h1, h2, h3, h4, h5⟩ := q
  have hv' : ∃ t' v', v = .ifc t' v' := by cases v <;> first|exact ⟨_, _, rfl⟩ | (simp [aEp] at h5; done)
  obtain ⟨t', v', rfl⟩ := hv'
  simp only [aEp] at h5
  split at h5
  ·rename_i ht
   subst ht
   obtain ⟨y', h6, rfl⟩ := Option.map_eq_some_iff.1 h5
   obtain ⟨ρ', F', k1, k2⟩ := aGk hn0 h2.1 h4 h6
   exact ⟨h1.trans hD, ρ', F', ⟨_, by rw [h3], k2⟩, k1⟩
  ·cases h5
theorem aUp (hm : P.follows .mixedOrders = true) (hG : GOk P gl G) {pl : Nat → Array Oper → Option (List Stage)} (hpl : PlOk pl) {Lc : List (Nat × LCon)} {nh : List (Nat × List NilH)} {f : Nat} {fn : Func} {c : Code} (hf : P.funcs[f]? = some fn) (hb : fn.body = some c) {res : List ResultVar} (hres : fn.results = res.toArray)
  {vs : List Vh} {os : List OSh} (hL : eZ P gl os.length Lc c) {rs : List Vh} {os' : List OSh} {t : TypeId} {hh : Vh} {osP : List OSh} {spec : VhL vs × OShL os → Option ((VhL rs × OShL os') ⊕ (VhL [hh] × OShL osP))} (hx : ∀ x, exec P gl kd G os.length pl Lc nh c (bX fn.ntmps vs os x) (aEp P os.length res rs os' t hh osP) = spec x) : aK P gl f (Con.ofP vs os rs os' t hh osP spec) :=
 bCj hm hG hpl hf hb hres hL (fun x y hy => (hx x).trans hy)
structure RFin where
 Y : Type
 fin : AEx → St → Option Y
 out : Y → AOut × List AObj
 cps : {R : Type} → Y → (AOut → List AObj → R) → R
 law : ∀ {R : Type} (y : Y) (K : AOut → List AObj → R), cps y K = K (out y).1 (out y).2
@[reducible] def RFin.ret (P : Program) (n0 : Nat) (res : List ResultVar) (rs : List Vh) (os : List OSh) : RFin where
 Y := VhL rs × OShL os
 fin e s := match e with
  | .normal => (oE P s res).bind fun vals => dP n0 rs os vals s
  | .ret => (oE P s res).bind fun vals => dP n0 rs os vals s
  | _ => none
 out y := (.ret (pL (VhL.enc rs y.1)), OShL.enc os y.2)
 cps y K := K (.ret (pL (VhL.enc rs y.1))) (OShL.enc os y.2)
 law _ _ := rfl
@[reducible] def RFin.pan (n0 : Nat) (t : TypeId) (h : Vh) (os : List OSh) : RFin where
 Y := VhL [h] × OShL os
 fin e s := match e with
  | .pan (.ifc t' v) => if t' = t then dP n0 [h] os [v] { tm := [], hp := s.hp } else none
  | _ => none
 out y := (.pan (.ifc t (h.enc y.1.1)), OShL.enc os y.2)
 cps y K := K (.pan (.ifc t (h.enc y.1.1))) (OShL.enc os y.2)
 law _ _ := rfl
@[reducible] def RFin.or (f g : RFin) : RFin where
 Y := f.Y ⊕ g.Y
 fin e s := match f.fin e s with
  | some y => some (.inl y)
  | none => (g.fin e s).map .inr
 out y := match y with
  | .inl y => f.out y
  | .inr y => g.out y
 cps y K := match y with
  | .inl y => f.cps y K
  | .inr y => g.cps y K
 law y K := by cases y <;> simp [f.law, g.law]
@[reducible] def Con.ofF (vs : List Vh) (os : List OSh) (f : RFin) (spec : VhL vs × OShL os → Option f.Y) : Con where
 X := VhL vs × OShL os
 Y := f.Y
 modes := vs.map Vh.mode
 dec := fM vs os
 spec := spec
 out := f.out
 cps := f.cps
 law := f.law
def RFin.Ok (P : Program) (gl : Glb) (n0 : Nat) (fn : Func) (f : RFin) : Prop := ∀ (E : Ent) (ex : Exit) (a : Act) (w : World) (y : f.Y), E.ρ.length = n0 → E.D = [] → QK gl E (fun e s => f.fin e s = some y) ex a w → bodyPost P fn (EndR gl E (f.out y)) ex a w
theorem RFin.ret_ok {fn : Func} {res : List ResultVar} (hres : fn.results = res.toArray) (rs : List Vh) (os : List OSh) : (RFin.ret P n0 res rs os).Ok P gl n0 fn := by
 intro E ex a w y hn0 hD q
 cases ex <;> simp only [QK] at q <;> simp only [bodyPost]
 case normal => obtain ⟨s, ρ, F, h1, h2⟩ := q; exact oG hres hn0 hD h1 h2
 case ret => obtain ⟨s, ρ, F, h1, h2⟩ := q; exact oG hres hn0 hD h1 h2
 case exit => obtain ⟨s, ρ, F, h1, h2⟩ := q; cases h2
 case panic => obtain ⟨s, ρ, F, v, x, h1, h2, h3, h4, h5⟩ := q; cases h5
theorem RFin.pan_ok {fn : Func} (t : TypeId) (h : Vh) (os : List OSh) : (RFin.pan n0 t h os).Ok P gl n0 fn := by
 intro E ex a w y hn0 hD q
 cases ex <;> simp only [QK] at q <;> simp only [bodyPost]
 case normal => obtain ⟨s, ρ, F, h1, h2⟩ := q; cases h2
 case ret => obtain ⟨s, ρ, F, h1, h2⟩ := q; cases h2
 case exit => obtain ⟨s, ρ, F, h1, h2⟩ := q; cases h2
 case panic c =>
  obtain ⟨s, ρ, F, v, x, h1, h2, h3, h4, h5⟩ := q
  have hv' : ∃ t' v', v = .ifc t' v' := by cases v <;> first|exact ⟨_, _, rfl⟩ | (simp [RFin.pan] at h5; done)
  obtain ⟨t', v', rfl⟩ := hv'
  try simp only [RFin.pan] at h5
  split at h5
  ·rename_i ht
   subst ht
   obtain ⟨ρ', F', k1, k2⟩ := aGk hn0 h2.1 h4 h5
   exact ⟨h1.trans hD, ρ', F', ⟨_, by rw [h3], k2⟩, k1⟩
  ·cases h5
theorem RFin.or_ok {fn : Func} {f g : RFin} (hf : f.Ok P gl n0 fn) (hg : g.Ok P gl n0 fn) : (f.or g).Ok P gl n0 fn := by
 intro E ex a w y hn0 hD q
 cases y with
 | inl y =>
  refine hf E ex a w y hn0 hD (q.mono (fun e s h =>?_))
  try simp only [RFin.or] at h
  split at h
  ·rename_i y' h1
   cases h
   exact h1
  ·obtain ⟨z, _, h2⟩ := Option.map_eq_some_iff.1 h
   cases h2
 | inr y =>
  refine hg E ex a w y hn0 hD (q.mono (fun e s h =>?_))
  try simp only [RFin.or] at h
  split at h
  ·cases h
  ·obtain ⟨z, h1, h2⟩ := Option.map_eq_some_iff.1 h
   cases h2
   exact h1
theorem bHp (hm : P.follows .mixedOrders = true) (hG : GOk P gl G) {pl : Nat → Array Oper → Option (List Stage)} (hpl : PlOk pl) {Lc : List (Nat × LCon)} {nh : List (Nat × List NilH)} {f : Nat} {fn : Func} {c : Code} (hf : P.funcs[f]? = some fn) (hb : fn.body = some c)
  {vs : List Vh} {os : List OSh} (hL : eZ P gl os.length Lc c) {r : RFin} (hr : r.Ok P gl os.length fn) {spec : VhL vs × OShL os → Option r.Y} (hx : ∀ x, exec P gl kd G os.length pl Lc nh c (bX fn.ntmps vs os x) r.fin = spec x) : aK P gl f (Con.ofF vs os r spec) := by
 intro as h x y hd hy ρ F L w us hR hv hg
 exact aCf hm hG hpl hf hb hL ((hx x).trans hy) (out := r.out y) (fun E ex a w hn0 hD q => hr E ex a w y hn0 hD q) hd hR hv hg
def gQ : Code → List Code
 | .seq a b => gQ a ++ gQ b
 | .cond _ a b => gQ a ++ gQ b
 | .block _ a => gQ a
 | .loop c => c :: gQ c
 | _ => []
def bE (c : Code) (i : Nat) : Code := (gQ c).getD i .skip
def LsAll (P : Program) (gl : Glb) (n0 : Nat) (Lc : List (Nat × LCon)) : List Code → Prop
 | [] => True
 | b :: bs => (∀ p, Lc.find? (fun p => p.1 == gP b) = some p → LOk P gl n0 p.2 b) ∧ LsAll P gl n0 Lc bs
theorem LsAll.mem {Lc : List (Nat × LCon)} : ∀ {bs : List Code}, LsAll P gl n0 Lc bs → ∀ b ∈ bs, ∀ p, Lc.find? (fun p => p.1 == gP b) = some p → LOk P gl n0 p.2 b
 | [], _, b, hb => by cases hb
 | b' :: bs, h, b, hb => by
  rcases List.mem_cons.1 hb with rfl | hb
  ·exact h.1
  ·exact LsAll.mem h.2 b hb
theorem bCk {Lc : List (Nat × LCon)} : ∀ {c : Code}, (∀ b ∈ gQ c, ∀ p, Lc.find? (fun p => p.1 == gP b) = some p → LOk P gl n0 p.2 b) → eZ P gl n0 Lc c := by
 intro c
 induction c with
 | seq a b iha ihb => intro h; exact ⟨iha (fun x hx => h x (List.mem_append_left _ hx)), ihb (fun x hx => h x (List.mem_append_right _ hx))⟩
 | cond c a b iha ihb => intro h; exact ⟨iha (fun x hx => h x (List.mem_append_left _ hx)), ihb (fun x hx => h x (List.mem_append_right _ hx))⟩
 | block i a ih => intro h; exact ih h
 | loop c ih => intro h; exact ⟨h c List.mem_cons_self, ih (fun x hx => h x (List.mem_cons_of_mem _ hx))⟩
 | _ => intro _; trivial
theorem bD {Lc : List (Nat × LCon)} {c : Code} {bs : List Code} (hb : gQ c = bs) (h : LsAll P gl n0 Lc bs) : eZ P gl n0 Lc c := bCk (by rw [hb]; exact h.mem)
theorem bB {Lc : List (Nat × LCon)} {b : Code} {q : Nat × LCon} (hk : Lc.find? (fun p => p.1 == gP b) = some q) (h : LOk P gl n0 q.2 b) : ∀ p, Lc.find? (fun p => p.1 == gP b) = some p → LOk P gl n0 p.2 b := fun p hp => by
 rw [hk] at hp
 cases hp
 exact h
end
end Go.Ax
