/- Merged. -/
import Derived.Test.YthcfkplfmjcmoaaGreatDoorQ19
import Derived.Test.YthcfkplfmjcmoaaGreatDoorQ17
namespace Go.Ax.Cd
set_option linter.unusedVariables false
structure ShOk (c : Cfg) (s : Shr) : Prop where
 cfg : cM c = true
 arn : ArnOk s
 mem : Int.ofNat s.mem.length = cN c
 lat : Int.ofNat s.latches.length = c.ids + 1
 l0 : Int.ofNat s.p0.gens.length = c.nodes
 l1 : Int.ofNat s.p1.gens.length = c.edges
 l2 : Int.ofNat s.p2.gens.length = c.props
 lt : ∀ w ∈ s.latches, dQ w = true
theorem ArnOk.s {s : Shr} (h : ArnOk s) (hm : s.mem.length ≤ 1000000000) (hl : s.latches.length ≤ 1000000000) : ShS s := ⟨h.p0.s, h.p1.s, h.p2.s, by have := h.era.l2; omega, hm, hl⟩
theorem ShOk.s {c : Cfg} {s : Shr} (h : ShOk c s) : ShS s := by
 have h1 : (s.mem.length : Int) = cN c := h.mem
 have h2 := aCh c
 have h3 : (s.latches.length : Int) = c.ids + 1 := h.lat
 have h4 := pV h.cfg
 exact h.arn.s (by omega) (by omega)
noncomputable instance (c : Cfg) (s : Shr) : Decidable (ShOk c s) := Classical.propDecidable _
noncomputable def sB (c : Cfg) (s : Shr) : Int := if ShOk c s then 0 else 1
theorem aKm (c : Cfg) (s : Shr) : (sB c s = 0 ∧ ShOk c s) ∨ (sB c s = 1 ∧ ¬ ShOk c s) := by
 unfold sB
 by_cases h : ShOk c s
 ·exact .inl ⟨if_pos h, h⟩
 ·exact .inr ⟨if_neg h, h⟩
theorem bDc {c : Cfg} {s : Shr} (h : ShOk c s) : sB c s = 0 := if_pos h
theorem kP {c : Cfg} {s : Shr} (h : ¬ ShOk c s) : sB c s = 1 := if_neg h
theorem bDd (w : Int) : shpC1N ((w, ()), ()) = some ((!dQ w, ()), ()) := by
 show aGw latChkN w = _
 unfold aGw
 rw [qO]
 cases dQ w <;> rfl
theorem bDe {l : List Int} (hl : l.length ≤ 1000000000) : hasC3N ((l, (), ()), ()) = some ((l.any (fun w => !dQ w), ()), ()) := by
 show aGx shpC1N idxC3N l = _
 unfold aGx
 have ed : idxC3N ((l, (), ()), ()) = (cZ (idxC3L0E.un (kM shpC1N)) FU ((l, (), Int.ofNat l.length, (0 : Nat), ()), ())).bind fun z => aH z (fun z => some ((-1, ()), ())) fun z => some ((z.1.1, ()), ()) := rfl
 rw [ed, lpL (B := idxC3L0E.un (kM shpC1N)) (fun (_ : Unit) (i : Nat) a => bif !dQ a then Sum.inr (i : Int) else Sum.inl ()) (l := l) (fun i _ => ((l, (), Int.ofNat l.length, (i : Int), ()), ())) (yl := fun _ => .inl ((), ())) (yr := fun k => .inr ((k, ()), ())) (fun _ _ => True) (by omega) trivial (fun _ _ _ _ _ _ => trivial) (fun i s hi _ =>?_) (fun s _ =>?_)]
 ·rcases nR (fun w => !dQ w) l 0 with ⟨h1, h2⟩ | ⟨h1, k, h2⟩
  ·rw [h2, h1]; rfl
  ·rw [h2, h1]
   simp [aH]
 ·show kM shpC1N l (Int.ofNat l.length) (i : Int) = _
  unfold kM
  rw [decide_eq_true (by simp; omega), aU hi, cV (e := .int) l i hi, gH hi (by omega), bDd]
  simp only [cond_true, Option.bind_some]
  cases dQ l[i] <;> rfl
 ·show kM shpC1N l (Int.ofNat l.length) (l.length : Int) = _
  unfold kM
  rw [decide_eq_false (by simp)]
  rfl
theorem aYg (c : Cfg) {s : Shr} (h : ShS s) : shpChkN ((c, s, ()), ()) = some ((sB c s, ()), ()) := by
 show zO plcChkN hasC1N hasC2N arnChkN plcSizN shpC1N hasC3N c s = _
 unfold zO
 rw [nQ, aEw h, vZ, bDe h.lat]
 simp only [Option.bind_some]
 cases h1 : cM c with
 | false => rw [kP (fun h => by rw [h.cfg] at h1; cases h1)]; rfl
 | true =>
 have hc := pV h1
 rcases aCk s with ⟨a0, ha⟩ | ⟨a0, ha⟩
 rotate_left
 ·rw [a0, kP (fun h => ha h.arn)]; rfl
 rw [a0, bF (n := c.ids + 1) (by omega) (by omega)]
 simp only [cond_true, bne_self_eq_false, cond_false]
 by_cases h2 : Int.ofNat s.mem.length = cN c
 rotate_left
 ·rw [show (Int.ofNat s.mem.length != cN c) = true by simpa using h2, kP (fun h => h2 h.mem)]; rfl
 by_cases h3 : Int.ofNat s.latches.length = c.ids + 1
 rotate_left
 ·rw [show (Int.ofNat s.mem.length != cN c) = false by simpa using h2, show (Int.ofNat s.latches.length != c.ids + 1) = true by simpa using h3, kP (fun h => h3 h.lat)]; rfl
 by_cases h4 : Int.ofNat s.p0.gens.length = c.nodes
 rotate_left
 ·rw [show (Int.ofNat s.mem.length != cN c) = false by simpa using h2, show (Int.ofNat s.latches.length != c.ids + 1) = false by simpa using h3, show (Int.ofNat s.p0.gens.length != c.nodes) = true by simpa using h4, kP (fun h => h4 h.l0)]; rfl
 by_cases h5 : Int.ofNat s.p1.gens.length = c.edges
 rotate_left
 ·rw [show (Int.ofNat s.mem.length != cN c) = false by simpa using h2, show (Int.ofNat s.latches.length != c.ids + 1) = false by simpa using h3, show (Int.ofNat s.p0.gens.length != c.nodes) = false by simpa using h4, show (Int.ofNat s.p1.gens.length != c.edges) = true by simpa using h5, kP (fun h => h5 h.l1)]; rfl
 by_cases h6 : Int.ofNat s.p2.gens.length = c.props
 rotate_left
 ·rw [show (Int.ofNat s.mem.length != cN c) = false by simpa using h2, show (Int.ofNat s.latches.length != c.ids + 1) = false by simpa using h3, show (Int.ofNat s.p0.gens.length != c.nodes) = false by simpa using h4, show (Int.ofNat s.p1.gens.length != c.edges) = false by simpa using h5, show (Int.ofNat s.p2.gens.length != c.props) = true by simpa using h6, kP (fun h => h6 h.l2)]; rfl
 rw [show (Int.ofNat s.mem.length != cN c) = false by simpa using h2, show (Int.ofNat s.latches.length != c.ids + 1) = false by simpa using h3, show (Int.ofNat s.p0.gens.length != c.nodes) = false by simpa using h4, show (Int.ofNat s.p1.gens.length != c.edges) = false by simpa using h5, show (Int.ofNat s.p2.gens.length != c.props) = false by simpa using h6]
 simp only [cond_false]
 cases h7 : s.latches.any (fun w => !dQ w) with
 | true =>
  obtain ⟨w, q1, q2⟩ := List.any_eq_true.1 h7
  rw [kP (fun h => by rw [h.lt w q1] at q2; cases q2)]; rfl
 | false =>
  rw [bDc ⟨h1, ha, h2, h3, h4, h5, h6, fun w hw => by simpa using List.any_eq_false.1 h7 w hw⟩]; rfl
def sC (s : Shr) (a : Acc) : Bool := (a.kind == 5 || a.kind == 7) && inR a.at_ s.latches.length && tC (rdE EK.int s.latches a.at_)
theorem aEx (s : Shr) (i : Int) : askHasN ((s, i, ()), ()) = some ((inR i s.latches.length, ()), ()) := by
 show zQ s i = _
 unfold zQ inR
 by_cases h : i ≥ 0
 ·rw [decide_eq_true h]
  rfl
 ·rw [decide_eq_false h]
  rfl
theorem aEy (s : Shr) (a : Acc) : askWaiN ((s, a, ()), ()) = some ((sC s a, ()), ()) := by
 show zT latHeldN askHasN s a = _
 unfold zT sC
 rw [aEx, rX]
 simp only [Option.bind_some]
 cases (a.kind == 5) <;> cases (a.kind == 7) <;> cases (inR a.at_ s.latches.length) <;> rfl
def aKn (s : Shr) (i w : Int) : Shr := { s with latches := s.latches.set i.toNat w }
theorem aEz {s : Shr} (h : ShS s) {i : Int} (hi : inR i s.latches.length = true) (w : Int) : askWitN ((s, i, w, ()), ()) = some ((aKn s i w, ()), ()) := by
 show zU clnIN s i w = _
 unfold zU aKn
 rw [lD h.lat]
 simp only [Option.bind_some, hi, cond_true, wrE, wr]
def kS (s : Shr) (a : Acc) : Shr × Int × Int :=
 if inR a.at_ s.latches.length = true then
  (if a.kind = 5 then (if (oI (rdE EK.int s.latches a.at_)).2 = true then (aKn s a.at_ (oI (rdE EK.int s.latches a.at_)).1, 0, 0) else (s, 0, 1))
  else if a.kind = 6 then (if (fI (rdE EK.int s.latches a.at_)).2 = 0 then (aKn s a.at_ (fI (rdE EK.int s.latches a.at_)).1, 0, 0) else (s, 0, (fI (rdE EK.int s.latches a.at_)).2))
  else (s, rdE EK.int s.latches a.at_, 0)) else (s, 0, 1)
theorem aYh {s : Shr} (h : ShS s) (a : Acc) : askLatN ((s, a, ()), ()) = some (((kS s a).1, (kS s a).2.1, (kS s a).2.2, ()), ()) := by
 show zV latTryN latFreeN askHasN askWitN s a = _
 unfold zV kS
 rw [aEx, aXp, aQr]
 simp only [Option.bind_some]
 cases h1 : inR a.at_ s.latches.length with
 | false => rfl
 | true =>
  simp only [Bool.not_true, cond_false, cond_true, if_true]
  by_cases h2 : a.kind = 5
  ·rw [show (a.kind == 5) = true by simp [h2], if_pos h2]
   simp only [cond_true]
   cases h3 : (oI (rdE EK.int s.latches a.at_)).2 with
   | false => rfl
   | true => simp [aEz h h1]
  ·by_cases h3 : a.kind = 6
   ·rw [show (a.kind == 5) = false by simp [h2], show (a.kind == 6) = true by simp [h3], if_neg h2, if_pos h3]
    simp only [cond_true, cond_false]
    by_cases h4 : (fI (rdE EK.int s.latches a.at_)).2 = 0
    ·rw [if_pos h4, show ((fI (rdE EK.int s.latches a.at_)).2 != 0) = false by simp [h4], aEz h h1]; rfl
    ·rw [if_neg h4, show ((fI (rdE EK.int s.latches a.at_)).2 != 0) = true by simp [h4]]; rfl
   ·rw [show (a.kind == 5) = false by simp [h2], show (a.kind == 6) = false by simp [h3], if_neg h2, if_neg h3]; rfl
noncomputable def gS (s : Shr) (t : Int) (a : Acc) : Shr × Int × Int :=
 if a.kind = 1 then ((wE s t).1, 0, (wE s t).2) else if a.kind = 2 then ((wF s t).1, 0, (wF s t).2) else if a.kind = 9 then ((wC s a.which a.ref).1, 0, (wC s a.which a.ref).2)
 else if a.kind = 8 then (if (qA s a.which).2.2 = 3 then (s, 0, 0) else qA s a.which) else (s, 0, 0)
theorem aYi {s : Shr} (h : ShS s) (t : Int) (a : Acc) : askRecN ((s, t, a, ()), ()) = some (((gS s t a).1, (gS s t a).2.1, (gS s t a).2.2, ()), ()) := by
 show zX arnTakN arnRetN arnPinN arnEndN s t a = _
 unfold zX gS
 rw [aYb h, aYd h, aXz h, aXy h]
 simp only [Option.bind_some]
 by_cases h1 : a.kind = 1
 ·rw [oH h1, if_pos h1]; rfl
 rw [gZ h1, if_neg h1]
 by_cases h2 : a.kind = 2
 ·rw [oH h2, if_pos h2]; rfl
 rw [gZ h2, if_neg h2]
 by_cases h9 : a.kind = 9
 ·rw [oH h9, if_pos h9]; rfl
 rw [gZ h9, if_neg h9]
 by_cases h8 : a.kind = 8
 ·rw [oH h8, if_pos h8]
  by_cases h3 : (qA s a.which).2.2 = 3
  ·rw [oH h3, if_pos h3]; rfl
  ·rw [gZ h3, if_neg h3]; rfl
 rw [gZ h8, if_neg h8]
 rfl
def kT (c : Cfg) (s : Shr) (a : Acc) : Shr × Int × Int :=
 if a.kind = 3 then (if a.which ≠ 0 then (s, (sA c s.mem a.which a.ref a.field).1, (sA c s.mem a.which a.ref a.field).2) else (s, (nG s.mem a.at_).1, (nG s.mem a.at_).2))
 else if a.which ≠ 0 then ({ s with mem := (qB c s.mem a.which a.ref a.field a.value).1 }, 0, (qB c s.mem a.which a.ref a.field a.value).2)
 else ({ s with mem := (gR s.mem a.at_ a.value).1 }, 0, (gR s.mem a.at_ a.value).2)
theorem aYj (c : Cfg) {s : Shr} (h : ShS s) (a : Acc) : askWrdN ((c, s, a, ()), ()) = some (((kT c s a).1, (kT c s a).2.1, (kT c s a).2.2, ()), ()) := by
 show zY memLoadN memStoreN chnFldN chnPutN c s a = _
 unfold zY kT
 rw [aCi, xI h.mem, aYe, aYf c h.mem]
 simp only [Option.bind_some]
 by_cases h1 : a.kind = 3
 ·rw [oH h1, if_pos h1]
  by_cases h2 : a.which = 0
  ·rw [rW h2, if_neg (fun h => h h2)]; rfl
  ·rw [rT h2, if_pos h2]; rfl
 ·rw [gZ h1, if_neg h1]
  by_cases h2 : a.which = 0
  ·rw [rW h2, if_neg (fun h => h h2)]; rfl
  ·rw [rT h2, if_pos h2]; rfl
noncomputable def wG (s : Shr) (t : Int) (a : Acc) : List Tou := [⟨t, a.which, (aR a.ref).1, a.field, (aR a.ref).2.1, (wD s a.which a.ref).1, (wD s a.which a.ref).2.1, a.kind == 4⟩]
theorem aYk {s : Shr} (h : ShS s) (t : Int) (a : Acc) : askTouN ((s, t, a, ()), ()) = some ((wG s t a, ()), ()) := by
 show zZ tagUnpN arnGenN s t a = _
 unfold zZ wG
 rw [qP, aYa h]
 rfl
noncomputable def doS (c : Cfg) (s : Shr) (t : Int) (a : Acc) : Shr × Int × Int :=
 if a.kind = 3 ∨ a.kind = 4 then kT c s a else if a.kind = 5 ∨ a.kind = 6 ∨ a.kind = 7 then kS s a else if a.kind = 1 ∨ a.kind = 2 ∨ a.kind = 8 ∨ a.kind = 9 then gS s t a else (s, 0, 1)
noncomputable def doL (s : Shr) (t : Int) (a : Acc) : List Tou := if (a.kind = 3 ∨ a.kind = 4) ∧ a.which ≠ 0 then wG s t a else []
noncomputable def kQ (c : Cfg) (s : Shr) (t : Int) (a : Acc) : Shr × Int × List Tou × Int :=
 if sB c s ≠ 0 then (zS, 0, [], 1) else if sC s a = true then (zS, 0, [], 2) else if (doS c s t a).2.2 ≠ 0 then (zS, 0, [], (doS c s t a).2.2) else ((doS c s t a).1, (doS c s t a).2.1, doL s t a, 0)
theorem aKo (c : Cfg) {s : Shr} (h : ShS s) (t : Int) (a : Acc) : askDoN ((c, s, t, a, ()), ()) = some (((kQ c s t a).1, (kQ c s t a).2.1, (kQ c s t a).2.2.1, (kQ c s t a).2.2.2, ()), ()) := by
 show aGy shpChkN askWaiN askLatN askRecN askWrdN askTouN c s t a = _
 unfold aGy kQ
 rw [aYg c h, aEy, aYj c h, aYk h, aYh h, aYi h]
 simp only [Option.bind_some]
 rcases aKm c s with ⟨a0, ha⟩ | ⟨a0, ha⟩
 rotate_left
 ·rw [a0, if_pos (by decide)]; rfl
 rw [a0, if_neg (by decide)]
 simp only [bne_self_eq_false, cond_false]
 cases h1 : sC s a with
 | true => rfl
 | false =>
  rw [if_neg (by decide)]
  simp only [cond_false]
  by_cases k3 : a.kind = 3
  ·have eS : doS c s t a = kT c s a := if_pos (show a.kind = 3 ∨ a.kind = 4 by omega)
   rw [eS, oH k3]
   by_cases hw : a.which = 0
   ·have eL : doL s t a = [] := if_neg (fun h => h.2 hw)
    rw [eL, rW hw]
    by_cases he : (kT c s a).2.2 = 0
    ·rw [oH he, rW he, if_neg (fun h => h he)]; rfl
    ·rw [gZ he, rT he, if_pos he]; rfl
   ·have eL : doL s t a = wG s t a := if_pos ⟨by omega, hw⟩
    rw [eL, rT hw]
    by_cases he : (kT c s a).2.2 = 0
    ·rw [oH he, rW he, if_neg (fun h => h he)]; rfl
    ·rw [gZ he, rT he, if_pos he]; rfl
  rw [gZ k3]
  by_cases k4 : a.kind = 4
  ·have eS : doS c s t a = kT c s a := if_pos (show a.kind = 3 ∨ a.kind = 4 by omega)
   rw [eS, oH k4]
   by_cases hw : a.which = 0
   ·have eL : doL s t a = [] := if_neg (fun h => h.2 hw)
    rw [eL, rW hw]
    by_cases he : (kT c s a).2.2 = 0
    ·rw [oH he, rW he, if_neg (fun h => h he)]; rfl
    ·rw [gZ he, rT he, if_pos he]; rfl
   ·have eL : doL s t a = wG s t a := if_pos ⟨by omega, hw⟩
    rw [eL, rT hw]
    by_cases he : (kT c s a).2.2 = 0
    ·rw [oH he, rW he, if_neg (fun h => h he)]; rfl
    ·rw [gZ he, rT he, if_pos he]; rfl
  rw [gZ k4]
  have eL : doL s t a = [] := if_neg (fun h => by omega)
  rw [eL]
  by_cases k5 : a.kind = 5
  ·have eS : doS c s t a = kS s a := (if_neg (show ¬ (a.kind = 3 ∨ a.kind = 4) by omega)).trans (if_pos (show a.kind = 5 ∨ a.kind = 6 ∨ a.kind = 7 by omega))
   rw [eS, oH k5]
   by_cases he : (kS s a).2.2 = 0
   ·rw [rW he, if_neg (fun h => h he)]; rfl
   ·rw [rT he, if_pos he]; rfl
  rw [gZ k5]
  by_cases k6 : a.kind = 6
  ·have eS : doS c s t a = kS s a := (if_neg (show ¬ (a.kind = 3 ∨ a.kind = 4) by omega)).trans (if_pos (show a.kind = 5 ∨ a.kind = 6 ∨ a.kind = 7 by omega))
   rw [eS, oH k6]
   by_cases he : (kS s a).2.2 = 0
   ·rw [rW he, if_neg (fun h => h he)]; rfl
   ·rw [rT he, if_pos he]; rfl
  rw [gZ k6]
  by_cases k7 : a.kind = 7
  ·have eS : doS c s t a = kS s a := (if_neg (show ¬ (a.kind = 3 ∨ a.kind = 4) by omega)).trans (if_pos (show a.kind = 5 ∨ a.kind = 6 ∨ a.kind = 7 by omega))
   rw [eS, oH k7]
   by_cases he : (kS s a).2.2 = 0
   ·rw [rW he, if_neg (fun h => h he)]; rfl
   ·rw [rT he, if_pos he]; rfl
  rw [gZ k7]
  by_cases k1 : a.kind = 1
  ·have eS : doS c s t a = gS s t a := (if_neg (show ¬ (a.kind = 3 ∨ a.kind = 4) by omega)).trans ((if_neg (show ¬ (a.kind = 5 ∨ a.kind = 6 ∨ a.kind = 7) by omega)).trans (if_pos (show a.kind = 1 ∨ a.kind = 2 ∨ a.kind = 8 ∨ a.kind = 9 by omega)))
   rw [eS, oH k1]
   by_cases he : (gS s t a).2.2 = 0
   ·rw [rW he, if_neg (fun h => h he)]; rfl
   ·rw [rT he, if_pos he]; rfl
  rw [gZ k1]
  by_cases k2 : a.kind = 2
  ·have eS : doS c s t a = gS s t a := (if_neg (show ¬ (a.kind = 3 ∨ a.kind = 4) by omega)).trans ((if_neg (show ¬ (a.kind = 5 ∨ a.kind = 6 ∨ a.kind = 7) by omega)).trans (if_pos (show a.kind = 1 ∨ a.kind = 2 ∨ a.kind = 8 ∨ a.kind = 9 by omega)))
   rw [eS, oH k2]
   by_cases he : (gS s t a).2.2 = 0
   ·rw [rW he, if_neg (fun h => h he)]; rfl
   ·rw [rT he, if_pos he]; rfl
  rw [gZ k2]
  by_cases k8 : a.kind = 8
  ·have eS : doS c s t a = gS s t a := (if_neg (show ¬ (a.kind = 3 ∨ a.kind = 4) by omega)).trans ((if_neg (show ¬ (a.kind = 5 ∨ a.kind = 6 ∨ a.kind = 7) by omega)).trans (if_pos (show a.kind = 1 ∨ a.kind = 2 ∨ a.kind = 8 ∨ a.kind = 9 by omega)))
   rw [eS, oH k8]
   by_cases he : (gS s t a).2.2 = 0
   ·rw [rW he, if_neg (fun h => h he)]; rfl
   ·rw [rT he, if_pos he]; rfl
  rw [gZ k8]
  by_cases k9 : a.kind = 9
  ·have eS : doS c s t a = gS s t a := (if_neg (show ¬ (a.kind = 3 ∨ a.kind = 4) by omega)).trans ((if_neg (show ¬ (a.kind = 5 ∨ a.kind = 6 ∨ a.kind = 7) by omega)).trans (if_pos (show a.kind = 1 ∨ a.kind = 2 ∨ a.kind = 8 ∨ a.kind = 9 by omega)))
   rw [eS, oH k9]
   by_cases he : (gS s t a).2.2 = 0
   ·rw [rW he, if_neg (fun h => h he)]; rfl
   ·rw [rT he, if_pos he]; rfl
  rw [gZ k9]
  have eS : doS c s t a = (s, 0, 1) := (if_neg (show ¬ (a.kind = 3 ∨ a.kind = 4) by omega)).trans ((if_neg (show ¬ (a.kind = 5 ∨ a.kind = 6 ∨ a.kind = 7) by omega)).trans (if_neg (show ¬ (a.kind = 1 ∨ a.kind = 2 ∨ a.kind = 8 ∨ a.kind = 9) by omega)))
  rw [eS]
  rfl
open Go.Proofs
inductive F : Type → Type 1
 | ret {α : Type} (a : α) : F α
 | tr {α : Type} (t : T α) : F α
 | bind {α β : Type} (t : F α) (k : α → F β) : F β
 | ite {α : Type} (b : Bool) (x y : F α) : F α
 | sel {α β γ : Type} (z : α ⊕ β) (f : α → F γ) (g : β → F γ) : F γ
 | gd {α : Type} (b : Bool) (a : α) : F α
def outK {α R : Type} (ok : α → List Acc → Option R) (st : List Acc → Option R) : Out α → Option R
 | .ok a d => ok a d
 | .stop d => st d
 | .bot => none
def F.run {α R : Type} (st : List Acc → Option R) (got : List Int) : F α → (α → List Acc → Option R) → List Acc → Option R
 | .ret a, ok, d => ok a d
 | .tr t, ok, d => outK ok st (t.exec got d)
 | .bind t k, ok, d => F.run st got t (fun a d => F.run st got (k a) ok d) d
 | .ite b x y, ok, d => bif b then F.run st got x ok d else F.run st got y ok d
 | .sel z f g, ok, d => aH z (fun a => F.run st got (f a) ok d) (fun a => F.run st got (g a) ok d)
 | .gd b a, ok, d => bif b then ok a d else none
def F.tree {α : Type} : F α → T α
 | .ret a => .ret a
 | .tr t => t
 | .bind t k => (F.tree t).bind fun a => F.tree (k a)
 | .ite b x y => bif b then F.tree x else F.tree y
 | .sel z f g => aH z (fun a => F.tree (f a)) (fun a => F.tree (g a))
 | .gd b a => T.gret b a
theorem F.run_eq {α R : Type} (st : List Acc → Option R) (got : List Int) (t : F α) : ∀ (ok : α → List Acc → Option R) (d : List Acc), F.run st got t ok d = outK ok st ((F.tree t).exec got d) := by
 induction t with
 | ret a => intro ok d; rfl
 | tr t => intro ok d; rfl
 | bind t k ih1 ih2 =>
  intro ok d
  simp only [F.run, F.tree, ih1, T.exec_bind, ih2]
  cases (F.tree t).exec got d <;> rfl
 | ite b x y ih1 ih2 =>
  intro ok d
  simp only [F.run, F.tree, ih1, ih2]
  cases b <;> rfl
 | sel z f g ih1 ih2 =>
  intro ok d
  simp only [F.run, F.tree, ih1, ih2]
  cases z <;> rfl
 | gd b a =>
  intro ok d
  cases b <;> rfl
end Go.Ax.Cd
namespace Go.Ax
open Cd (F)
@[reducible] def Sh.Fp (R : Type 1) : Sh → Type 1
 | .e k => k.T → R
 | .sln k => List k.T → R
 | .lent k => List k.T → R
 | .ownC _ => Value → R
 | _ => R
def Sh.up {R : Type 1} : (h : Sh) → h.Fp R → h.T → R
 | .e _, g, x => g x
 | .sln _, g, x => g x
 | .lent _, g, x => g x
 | .ownC _, g, x => g x
 | .ptr _ _, g, _ => g
 | .own _, g, _ => g
 | .any, g, _ => g
 | .emp, g, _ => g
 | .nil, g, _ => g
@[reducible] def ShL.Fp (R : Type 1) : List Sh → Type 1
 | [] => R
 | h :: r => h.Fp (ShL.Fp R r)
def ShL.up {R : Type 1} : (l : List Sh) → ShL.Fp R l → ShL l → R
 | [], g, _ => g
 | h :: r, g, x => ShL.up r (h.up g x.1) x.2
@[reducible] def Vh.Fp (R : Type 1) : Vh → Type 1
 | .s h => h.Fp R
 | .agg l => ShL.Fp R l
 | .clo _ l => ShL.Fp R l
def Vh.up {R : Type 1} : (h : Vh) → h.Fp R → h.T → R
 | .s h, g, x => h.up g x
 | .agg l, g, x => ShL.up l g x
 | .clo _ l, g, x => ShL.up l g x
@[reducible] def VhL.Fp (R : Type 1) : List Vh → Type 1
 | [] => R
 | h :: r => h.Fp (VhL.Fp R r)
def VhL.up {R : Type 1} : (l : List Vh) → VhL.Fp R l → VhL l → R
 | [], g, _ => g
 | h :: r, g, x => VhL.up r (h.up g x.1) x.2
@[reducible] def OSh.Fp (R : Type 1) : OSh → Type 1
 | .box l => ShL.Fp R l
 | .arr (.st .acc) => R
 | .arr e => List e.T → R
 | .any => R
def OSh.up {R : Type 1} : (h : OSh) → h.Fp R → h.T → R
 | .box l, g, x => ShL.up l g x
 | .arr (.st .acc), g, _ => g
 | .arr .int, g, x => g x
 | .arr .bool, g, x => g x
 | .arr (.sl _), g, x => g x
 | .arr (.st .cfg), g, x => g x
 | .arr (.st .opn), g, x => g x
 | .arr (.st .pr), g, x => g x
 | .arr (.st .en), g, x => g x
 | .arr (.st .res), g, x => g x
 | .arr (.st .nd), g, x => g x
 | .arr (.st .ed), g, x => g x
 | .arr (.st .gr), g, x => g x
 | .arr (.st .pool), g, x => g x
 | .arr (.st .era), g, x => g x
 | .arr (.st .shr), g, x => g x
 | .arr (.st .thr), g, x => g x
 | .arr (.st .ev), g, x => g x
 | .arr (.st .cal), g, x => g x
 | .arr (.st .tou), g, x => g x
 | .arr (.st .wld), g, x => g x
 | .arr (.st .kin), g, x => g x
 | .arr (.st .sid), g, x => g x
 | .arr (.st .don), g, x => g x
 | .arr (.st .pth), g, x => g x
 | .arr (.st .p2), g, x => g x
 | .arr (.st .p3), g, x => g x
 | .arr (.st .sides), g, x => g x
 | .arr (.st .kins), g, x => g x
 | .any, g, _ => g
@[reducible] def OShL.Fp (R : Type 1) : List OSh → Type 1
 | [] => R
 | h :: r => h.Fp (OShL.Fp R r)
def OShL.up {R : Type 1} : (l : List OSh) → OShL.Fp R l → OShL l → R
 | [], g, _ => g
 | h :: r, g, x => OShL.up r (h.up g x.1) x.2
end Go.Ax
namespace Go.Ax.Cd
open Go.Proofs
set_option maxRecDepth 100000
structure Ge where
 n : Nat
 f : Func
 vs : List Vh
 os : List OSh
 rs : List Vh
 os' : List OSh
 osP : List OSh
 α : Type
 enc : VhL vs × OShL os → α → List Acc → VhL rs × OShL os'
 stop : OShL os → List Acc → OShL osP
 got : OShL os → List Int
 did : OShL os → List Acc
@[reducible] def Ge.X (e : Ge) : Type := VhL e.vs × OShL e.os
@[reducible] def Ge.Y (e : Ge) : Type := (VhL e.rs × OShL e.os') ⊕ (VhL [.agg []] × OShL e.osP)
@[reducible] def Ge.T (e : Ge) : Type 1 := VhL.Fp (OShL.Fp (F e.α) e.os) e.vs
def Ge.at (e : Ge) (t : e.T) (x : e.X) : F e.α := OShL.up e.os (VhL.up e.vs t x.1) x.2
def Ge.sp (e : Ge) (t : e.T) (x : e.X) : Option e.Y := pT (fun a d => .inl (e.enc x a d)) (fun d => .inr (((), ()), e.stop x.2 d)) ((e.at t x).tree.exec (e.got x.2) (e.did x.2))
def Ge.go (e : Ge) (t : e.T) (x : e.X) {Z : Type} (K : e.Y → Option Z) : Option Z := F.run (fun d => K (.inr (((), ()), e.stop x.2 d))) (e.got x.2) (e.at t x) (fun a d => K (.inl (e.enc x a d))) (e.did x.2)
theorem Ge.go_eq (e : Ge) (t : e.T) (x : e.X) {Z : Type} (K : e.Y → Option Z) : e.go t x K = (e.sp t x).bind K := by
 unfold Ge.go Ge.sp
 rw [F.run_eq]
 cases (e.at t x).tree.exec (e.got x.2) (e.did x.2) <;> rfl
@[reducible] def Ge.con (e : Ge) (t : e.T) : Con := { Con.ofP e.vs e.os e.rs e.os' 188 (.agg []) e.osP (e.sp t) with run := fun x K => e.go t x K, rlaw := fun x K => e.go_eq t x K }
@[reducible] def Ge.on (e : Ge) (t : e.T) : Nat × Con := (e.n, e.con t)
structure Ge.Ok (e : Ge) (t : e.T) : Prop where
 c : Callable Tryz.prog e.n
 s : aK Tryz.prog gl e.n (e.con t)
theorem Ge.Ok.k {e : Ge} {t : e.T} (h : e.Ok t) {G : List (Nat × Con)} (hG : GOk Tryz.prog gl G) : GOk Tryz.prog gl (e.on t :: G) := GOk.cons h.c h.s hG
noncomputable def Ge.run (e : Ge) (G : List (Nat × Con)) (Lc : List (Nat × LCon)) (nh : List (Nat × List NilH)) (x : e.X) : Option e.Y := runQ e.f e.vs e.os e.rs e.os' e.osP G Lc nh x
theorem Ge.k {e : Ge} {t : e.T} {G : List (Nat × Con)} {Lc : List (Nat × LCon)} {nh : List (Nat × List NilH)} (hw : ((Tryz.prog : Program).funcs[e.n]?, (e.f.name == "runtime.NumGoroutine"), e.f.body) = (some e.f, false, some (body e.f))) (hG : GOk Tryz.prog gl G) (hL : eZ Tryz.prog gl e.os.length Lc (body e.f)) (hx : ∀ x, e.run G Lc nh x = e.go t x some) : e.Ok t := by
 obtain ⟨h1, h2⟩ := Prod.mk.inj hw
 obtain ⟨h2, h3⟩ := Prod.mk.inj h2
 refine ⟨⟨_, _, h1, h2, h3⟩, cqk (sp := e.sp t) hG h1 h3 hL fun x => (hx x).trans ?_⟩
 rw [e.go_eq]
 cases e.sp t x <;> rfl
abbrev mS (o : OShL mach) (d : List Acc) : OShL mach := ((o.1.1, o.1.2.1, (), o.1.2.2.2.1, ()), d, ())
abbrev mP (o : OShL mach) (d : List Acc) : OShL machP := ((o.1.1, o.1.2.1, (), (), ()), d, ())
@[reducible] def Ge.m (n : Nat) (f : Func) (vs rs : List Vh) (α : Type) (enc : VhL vs → α → VhL rs) : Ge := ⟨n, f, vs, mach, rs, mach, machP, α, fun x a d => (enc x.1 a, mS x.2 d), mP, fun o => o.1.2.1, fun o => o.2.1⟩
noncomputable abbrev doE : Ge := Ge.m 139 Tryz.f139 [pm, .s (.e (.st .acc))] [vi] Int fun _ a => (a, ())
def doF (a : Acc) (c : Cfg) (got held : List Int) : F Int := .tr (.ask a .ret)
theorem doF_ok : doE.Ok doF := ⟨do_g, bCm⟩
structure He where
 n0 : Nat
 f : Func
 i : Nat
 ts : List Nat
 vs : List Vh
 os : List OSh
 fin : Fin
 LT : Type 1
 β : Type
 «at» : LT → VhL vs × OShL os → F β
 en : {Z : Type} → VhL vs × OShL os → β → List Acc → (fin.Y → Z) → Z
 stop : VhL vs × OShL os → List Acc → fin.Y
 got : VhL vs × OShL os → List Int
 did : VhL vs × OShL os → List Acc
 enl : ∀ {Z : Type} (x : VhL vs × OShL os) (a : β) (d : List Acc) (K : fin.Y → Z), en x a d K = K (en x a d id) := by intro _ _ a _ _; first | rfl | (cases a <;> rfl)
@[reducible] def He.X (e : He) : Type := VhL e.vs × OShL e.os
def He.sp (e : He) (t : e.LT) (x : e.X) : Option e.fin.Y := pT (fun a d => e.en x a d id) (e.stop x) ((e.at t x).tree.exec (e.got x) (e.did x))
def He.go (e : He) (t : e.LT) (x : e.X) {Z : Type} (K : e.fin.Y → Option Z) : Option Z := F.run (fun d => K (e.stop x d)) (e.got x) (e.at t x) (fun a d => e.en x a d K) (e.did x)
theorem He.go_eq (e : He) (t : e.LT) (x : e.X) {Z : Type} (K : e.fin.Y → Option Z) : e.go t x K = (e.sp t x).bind K := by
 unfold He.go He.sp
 rw [F.run_eq]
 cases (e.at t x).tree.exec (e.got x) (e.did x) with
 | ok a d => exact e.enl x a d K
 | stop d => rfl
 | bot => rfl
@[reducible] def He.on (e : He) (t : e.LT) : LCon := { LCon.of e.f.ntmps e.ts e.vs e.os e.fin (e.sp t) with run := fun x K => e.go t x K, rlaw := fun x K => e.go_eq t x K }
def He.Ok (e : He) (t : e.LT) : Prop := LOk Tryz.prog gl e.n0 (e.on t) (bE (body e.f) e.i)
noncomputable def He.run (e : He) (G : List (Nat × Con)) (Lc : List (Nat × LCon)) (nh : List (Nat × List NilH)) (x : e.X) : Option (e.X ⊕ e.fin.Y) := gY e.n0 e.f e.i e.ts e.vs e.os e.fin G Lc nh x
def He.rd (e : He) {σ : Type} (eX : e.X → σ → List Acc → e.X) (x : e.X) (r : σ ⊕ e.β) (d : List Acc) : e.X ⊕ e.fin.Y := match r with
 | .inl s => .inl (eX x s d)
 | .inr b => .inr (e.en x b d id)
theorem He.k {e : He} {t : e.LT} {σ : Type} {G : List (Nat × Con)} {Lc : List (Nat × LCon)} {nh : List (Nat × List NilH)} (eX : e.X → σ → List Acc → e.X) (s0 : e.X → σ) (B : e.X → σ → F (σ ⊕ e.β)) (hf : e.fin.Ok gl e.n0 e.f.ntmps) (hG : GOk Tryz.prog gl G) (hL : eZ Tryz.prog gl e.n0 Lc (bE (body e.f) e.i))
  (hx : ∀ x, e.run G Lc nh x = F.run (fun d => some (.inr (e.stop x d))) (e.got x) (B x (s0 x)) (fun r d => some (e.rd eX x r d)) (e.did x))
  (ht : ∀ x, (e.at t x).tree = T.loop (fun s => (B x s).tree) ((e.got x).length + 10) (s0 x)) (h0 : ∀ x, eX x (s0 x) (e.did x) = x)
  (h1 : ∀ x s d, (B (eX x s d) (s0 (eX x s d)), e.got (eX x s d), e.did (eX x s d)) = (B x s, e.got x, d)) (h2 : ∀ x s d, e.stop (eX x s d) = e.stop x ∧ e.rd eX (eX x s d) = e.rd eX x) : e.Ok t := by
 refine lwk (nh := nh) hG hL hf fun x y hy => ⟨(e.got x).length + 10, ?_⟩
 have hy2 : pT (fun a d => e.en x a d id) (e.stop x) ((T.loop (fun s => (B x s).tree) ((e.got x).length + 10) (s0 x)).exec (e.got x) (e.did x)) = some y := by
  rw [← ht x]
  exact hy
 have := aJs (eX := eX x) (eY := fun a d => e.en x a d id) (eS := e.stop x) (got := e.got x) (body := fun s => (B x s).tree) (round := gY e.n0 e.f e.i e.ts e.vs e.os e.fin G Lc nh) (fun s d =>?_) ((e.got x).length + 10) (s0 x) (e.did x) y hy2
 ·rw [h0 x] at this
  exact this
 ·have hr := hx (eX x s d)
  have q1 := h1 x s d
  obtain ⟨q2, q3⟩ := h2 x s d
  simp only [Prod.mk.injEq] at q1
  obtain ⟨a1, a2, a3⟩ := q1
  unfold He.run at hr
  rw [hr, a1, a2, a3, q2, q3, F.run_eq]
  cases (B x s).tree.exec (e.got x) d with
  | ok r d' => cases r <;> rfl
  | stop d' => rfl
  | bot => rfl
noncomputable def He.go1 (e : He) {σ : Type} (eX : e.X → σ → List Acc → e.X) (B : F (σ ⊕ e.β)) (x : e.X) : Option (e.X ⊕ e.fin.Y) := F.run (fun d => some (.inr (e.stop x d))) (e.got x) B (fun r d => some (e.rd eX x r d)) (e.did x)
theorem lhc {n0 : Nat} {e : He} {t : e.LT} {Lc : List (Nat × LCon)} {bs : List Code} (hk : Lc.find? (fun p => p.1 == gP (bE (body e.f) e.i)) = some (gP (bE (body e.f) e.i), e.on t)) (h : e.Ok t) (hn : e.n0 = n0) (r : LsAll Tryz.prog gl n0 Lc bs) : LsAll Tryz.prog gl n0 Lc (bE (body e.f) e.i :: bs) := ⟨bB hk (hn ▸ h), r⟩
structure Ke where
 n : Nat
 f : Func
 vs : List Vh
 os : List OSh
 rs1 : List Vh
 os1 : List OSh
 rs2 : List Vh
 os2 : List OSh
 osP : List OSh
 α : Type
 β : Type
 en1 : VhL vs × OShL os → α → List Acc → VhL rs1 × OShL os1
 en2 : VhL vs × OShL os → β → List Acc → VhL rs2 × OShL os2
 stop : OShL os → List Acc → OShL osP
 got : OShL os → List Int
 did : OShL os → List Acc
@[reducible] def Ke.X (e : Ke) : Type := VhL e.vs × OShL e.os
noncomputable abbrev Ke.R (e : Ke) : RFin := rf2 e.f e.os.length e.rs1 e.os1 e.rs2 e.os2 e.osP
@[reducible] def Ke.Y (e : Ke) : Type := (VhL e.rs1 × OShL e.os1) ⊕ ((VhL e.rs2 × OShL e.os2) ⊕ (VhL [.agg []] × OShL e.osP))
@[reducible] def Ke.T (e : Ke) : Type 1 := VhL.Fp (OShL.Fp (F (e.α ⊕ e.β)) e.os) e.vs
def Ke.at (e : Ke) (t : e.T) (x : e.X) : F (e.α ⊕ e.β) := OShL.up e.os (VhL.up e.vs t x.1) x.2
def Ke.en (e : Ke) {Z : Type} (x : e.X) (a : e.α ⊕ e.β) (d : List Acc) (K : e.Y → Z) : Z := aH a (fun a => K (.inl (e.en1 x a d))) (fun a => K (.inr (.inl (e.en2 x a d))))
def Ke.sp (e : Ke) (t : e.T) (x : e.X) : Option e.Y := pT (fun a d => e.en x a d id) (fun d => .inr (.inr (((), ()), e.stop x.2 d))) ((e.at t x).tree.exec (e.got x.2) (e.did x.2))
def Ke.go (e : Ke) (t : e.T) (x : e.X) {Z : Type} (K : e.Y → Option Z) : Option Z := F.run (fun d => K (.inr (.inr (((), ()), e.stop x.2 d)))) (e.got x.2) (e.at t x) (fun a d => e.en x a d K) (e.did x.2)
theorem Ke.go_eq (e : Ke) (t : e.T) (x : e.X) {Z : Type} (K : e.Y → Option Z) : e.go t x K = (e.sp t x).bind K := by
 unfold Ke.go Ke.sp
 rw [F.run_eq]
 cases (e.at t x).tree.exec (e.got x.2) (e.did x.2) with
 | ok a d => cases a <;> rfl
 | stop d => rfl
 | bot => rfl
@[reducible] noncomputable def Ke.con (e : Ke) (t : e.T) : Con := { Con.ofF e.vs e.os e.R (e.sp t) with run := fun x K => e.go t x K, rlaw := fun x K => e.go_eq t x K }
@[reducible] noncomputable def Ke.on (e : Ke) (t : e.T) : Nat × Con := (e.n, e.con t)
structure Ke.Ok (e : Ke) (t : e.T) : Prop where
 c : Callable Tryz.prog e.n
 s : aK Tryz.prog gl e.n (e.con t)
theorem Ke.Ok.k {e : Ke} {t : e.T} (h : e.Ok t) {G : List (Nat × Con)} (hG : GOk Tryz.prog gl G) : GOk Tryz.prog gl (e.on t :: G) := GOk.cons h.c h.s hG
noncomputable def Ke.run (e : Ke) (G : List (Nat × Con)) (Lc : List (Nat × LCon)) (nh : List (Nat × List NilH)) (x : e.X) : Option e.Y := runF e.f e.vs e.os e.R G Lc nh x
theorem Ke.k {e : Ke} {t : e.T} {G : List (Nat × Con)} {Lc : List (Nat × LCon)} {nh : List (Nat × List NilH)} (hw : ((Tryz.prog : Program).funcs[e.n]?, (e.f.name == "runtime.NumGoroutine"), e.f.body) = (some e.f, false, some (body e.f))) (hG : GOk Tryz.prog gl G) (hL : eZ Tryz.prog gl e.os.length Lc (body e.f)) (hx : ∀ x, e.run G Lc nh x = e.go t x some) : e.Ok t := by
 obtain ⟨h1, h2⟩ := Prod.mk.inj hw
 obtain ⟨h2, h3⟩ := Prod.mk.inj h2
 refine ⟨⟨_, _, h1, h2, h3⟩, cfk (sp := e.sp t) hG h1 h3 hL fun x => (hx x).trans ?_⟩
 rw [e.go_eq]
 cases e.sp t x <;> rfl
structure Gu where
 n : Nat
 vs : List Vh
 os : List OSh
 rs : List Vh
 os' : List OSh
 fx : List Nat
 g : VhL vs × OShL os → Bool
 v : VhL vs × OShL os → VhL rs × OShL os'
@[reducible] def Gu.con (e : Gu) : Con := { Con.of e.vs e.os e.rs e.os' (fun x => bif e.g x then some (e.v x) else none) with fix := e.fx, run := fun x K => bif e.g x then K (e.v x) else none, rlaw := fun x K => by cases h : e.g x <;> simp [h] }
@[reducible] def Gu.on (e : Gu) : Nat × Con := (e.n, e.con)
structure Gu.Ok (e : Gu) : Prop where
 c : Callable Tryz.prog e.n
 s : aK Tryz.prog gl e.n e.con
theorem Gu.Ok.k {e : Gu} (h : e.Ok) {G : List (Nat × Con)} (hG : GOk Tryz.prog gl G) : GOk Tryz.prog gl (e.on :: G) := GOk.cons h.c h.s hG
end Go.Ax.Cd
