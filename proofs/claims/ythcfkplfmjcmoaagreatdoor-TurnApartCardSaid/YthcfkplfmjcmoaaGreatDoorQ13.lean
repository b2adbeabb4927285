/- Merged. -/
import Derived.Test.YthcfkplfmjcmoaaGreatDoorQ12
import Derived.Recover
namespace Go.Ax
open Go.RowKit
set_option linter.unusedVariables false
set_option linter.unusedSimpArgs false
section
variable {P : Program} {gl : Glb} {kd : TypeId → Option EK} {G : List (Nat × Con)} {n0 : Nat} {E : Ent} {ρ : List Value} {F L : Nat → Prop} {s : St} {a : Act} {w : World}
theorem VhL.enc_len : ∀ (l : List Vh) (x : VhL l), (VhL.enc l x).length = l.length
 | [], x => rfl
 | o :: os, x => by simp [VhL.enc, VhL.enc_len os]
theorem OShL.enc_len : ∀ (l : List OSh) (x : OShL l), (OShL.enc l x).length = l.length
 | [], x => rfl
 | o :: os, x => by simp [OShL.enc, OShL.enc_len os]
theorem lP {nt : Nat} {vs : List Vh} {os : List OSh} {x : VhL vs × OShL os} {as : List AVal} {h : List AObj} (hd : fM vs os as h = some x) {us : Array Value} (hR : RepH ρ F L h w) (hv : VRs ρ w F (Bx F L) as us.toList) (hg : Glo gl w F) (fl : Bool) :
  ρ.length = os.length ∧ Inv gl ⟨ρ, w, Own ρ h, F, L, [], fl⟩ (bX nt vs os x) { tmps := us ++ Array.replicate (nt - us.size) undef, defers := [] } w ρ F := by
 unfold fM at hd
 obtain ⟨x1, h1, hd⟩ := Option.bind_eq_some_iff.1 hd
 obtain ⟨x2, h2, hd⟩ := Option.bind_eq_some_iff.1 hd
 cases hd
 have hlen := (OShL.at h2).1
 refine ⟨by rw [← OShL.enc_len os x2, hlen]; exact hR.len, ?_⟩
 have hvs := VhL.sound h1 hv
 refine .of ⟨?_, OShL.sound h2 hR⟩ ⟨Ch.refl _ _, fun _ h => h, fun b hb => .inl (OShL.own h2 hb), fun _ h => .inl h⟩ (PK.refl _) hg rfl
 have e1 : us.size = vs.length := by
  have := hvs.length
  rw [VhL.enc_len] at this
  simpa using this.symm
 simp only [bX, Array.toList_append, Array.toList_replicate, e1]
 refine hvs.append (VRs.of (by simp) (fun i b u hb _ =>?_))
 simp only [List.getElem?_replicate] at hb
 split at hb
 ·cases hb
  simp [VR]
 ·cases hb
theorem Inv.flag (h : Inv gl E s a w ρ F) (fl : Bool) : Inv gl { E with full := fl } s a w ρ F := .of h.rep h.stp h.pk h.glo h.dfs
theorem vW {Z : Type} (hm : P.follows .mixedOrders = true) (hG : GOk P gl G) {pl : Nat → Array Oper → Option (List Stage)} (hpl : PlOk pl) {Lc : List (Nat × LCon)} {nh : List (Nat × List NilH)} (hn0 : E.ρ.length = n0) {x y y' : Code} (hL : eZ P gl n0 Lc x) (hfu : E.full = false ∨ cO x = true)
  {K : AEx → St → Option Z} {z : Z} (h : Inv gl E s a w ρ F) (hz : exec P gl kd G n0 pl Lc nh (.seq x y) s K = some z) {Q : Exit → Act → World → Prop}
  (hy : ∀ s a w ρ F, Inv gl E s a w ρ F → exec P gl kd G n0 pl Lc nh y s K = some z → y'.wp P Q a w) (hQ : ∀ ex a w, ex ≠ .normal → QK gl E (fun e s => K e s = some z) ex a w → Q ex a w) : (Code.seq x y').wp P Q a w := by
 simp only [exec] at hz
 refine wp_seq (wp_mono (bC hm hG hpl hn0 x hfu hL h hz) (fun ex a w q =>?_))
 cases ex with
 | normal => obtain ⟨s, ρ, F, h1, h2⟩ := q; exact hy _ _ _ _ _ h1 h2
 | exit i => exact hQ _ _ _ (by simp) q
 | ret => exact hQ _ _ _ (by simp) q
 | panic c => exact hQ _ _ _ (by simp) q
 | goto l => exact hQ _ _ _ (by simp) q
 | outgrown => exact hQ _ _ _ (by simp) q
theorem bHq (hm : P.follows .mixedOrders = true) (hG : GOk P gl G) {pl : Nat → Array Oper → Option (List Stage)} (hpl : PlOk pl) {Lc : List (Nat × LCon)} {nh : List (Nat × List NilH)} {f : Nat} {fn : Func} {c : Code} (hf : P.funcs[f]? = some fn) (hb : fn.body = some c) {vs : List Vh} {os : List OSh} (hL : eZ P gl os.length Lc c)
  {Y : Type} {fin : AEx → St → Option Y} {x : VhL vs × OShL os} {y : Y} (hx : exec P gl kd G os.length pl Lc nh c (bX fn.ntmps vs os x) fin = some y) {R : Ent → Ending → World → Prop}
  (hfin : ∀ E ex a w, E.ρ.length = os.length → E.D = [] → QK gl E (fun e s => fin e s = some y) ex a w → bodyPost P fn (R E) ex a w)
  {as : List AVal} {h : List AObj} (hd : fM vs os as h = some x) {us : Array Value} (hR : RepH ρ F L h w) (hv : VRs ρ w F (Bx F L) as us.toList) (hg : Glo gl w F) : Calls P f us w (R ⟨ρ, w, Own ρ h, F, L, [], false⟩) := by
 obtain ⟨hn, hI⟩ := lP (nt := fn.ntmps) hd hR hv hg false
 exact calls_of_wp hf hb (R := R ⟨ρ, w, Own ρ h, F, L, [], false⟩) (wp_mono (bC hm hG hpl hn c (.inl rfl) hL hI hx) (fun ex a w q => hfin _ ex a w hn rfl q))
def finX (P : Program) (n0 : Nat) (res : List ResultVar) (rs : List Vh) (os' : List OSh) (e : AEx) (s : St) : Option (VhL (.s (.ownC 0) :: rs) × OShL os') := match e with
 | .normal => (oE P s res).bind fun vals => dP n0 (.s (.ownC 0) :: rs) os' (s.tm.getD 0 .any :: vals) s
 | .ret => (oE P s res).bind fun vals => dP n0 (.s (.ownC 0) :: rs) os' (s.tm.getD 0 .any :: vals) s
 | _ => none
@[reducible] def Con.fx (vs : List Vh) (os : List OSh) (rs : List Vh) (os' : List OSh) (spec : VhL (.s (.own 0) :: vs) × OShL os → Option (VhL rs × OShL os')) : Con := { Con.of (.s (.own 0) :: vs) os rs os' spec with fix := [0] }
theorem bHr (hm : P.follows .mixedOrders = true) (hG : GOk P gl G) {pl : Nat → Array Oper → Option (List Stage)} (hpl : PlOk pl) {Lc : List (Nat × LCon)} {nh : List (Nat × List NilH)} {f : Nat} {fn : Func} {c : Code} (hf : P.funcs[f]? = some fn) (hb : fn.body = some c) {res : List ResultVar} (hres : fn.results = res.toArray)
  {vs : List Vh} {os : List OSh} (hL : eZ P gl os.length Lc c) {rs : List Vh} {os' : List OSh} {spec : VhL (.s (.own 0) :: vs) × OShL os → Option (VhL rs × OShL os')}
  (hx : ∀ (c0 : Value) (x : VhL vs) (o : OShL os) (y : VhL rs × OShL os'), spec (((), x), o) = some y → exec P gl kd G os.length pl Lc nh c (bX fn.ntmps (.s (.ownC 0) :: vs) os ((c0, x), o)) (finX P os.length res rs os') = some ((c0, y.1), y.2)) : aK P gl f (Con.fx vs os rs os' spec) := by
 rintro as h ⟨⟨⟨⟩, x⟩, o⟩ y hd hy ρ F L w us hR hv hg
 obtain ⟨x1, h1, hd⟩ := Option.bind_eq_some_iff.1 hd
 obtain ⟨x2, h2, hd⟩ := Option.bind_eq_some_iff.1 hd
 cases hd
 obtain ⟨us⟩ := us
 match as, us, hv, h1 with
 | [], _, _, h1 => simp [VhL.dec] at h1
 | _ :: _, [], hv, _ => simp [VRs] at hv
 | a0 :: as, u :: us, hv, h1 =>
  simp only [VhL.dec] at h1
  obtain ⟨z, h3, h1⟩ := Option.bind_eq_some_iff.1 h1
  obtain ⟨z2, h4, h1⟩ := Option.bind_eq_some_iff.1 h1
  cases h1
  simp only [VRs] at hv
  have ha : VR ρ w F (Bx F L) (.own 0) u := Sh.sound (h := .own 0) h3 hv.1
  simp only [VR] at ha
  have hd' : fM (.s (.ownC 0) :: vs) os (.ownC 0 u :: as) h = some ((u, x), o) := by
   simp [fM, VhL.dec, Vh.dec, Sh.dec, h4, h2]
  refine (bHq hm hG hpl hf hb hL (hx u x o y hy) (R := fun E e w' => ∃ ρ' F', yC ((Con.of (.s (.own 0) :: vs) os rs os' spec).out y).1 e ρ' w' F' (Bx F' E.L) ∧ InvH gl E ((Con.of (.s (.own 0) :: vs) os rs os' spec).out y).2 w' ρ' F' ∧ ρ'[0]? = some u)
   (fun E ex a w hn0 hD q =>?_) hd' hR (us := ⟨u :: us⟩) (by simp only [VRs, VR]; exact ⟨⟨ha.1, trivial, ha.2⟩, hv.2⟩) hg).mono ?_
  ·have key : ∀ {s : St} {ρ : List Value} {F : Nat → Prop}, Inv gl E s a w ρ F → ((oE P s res).bind fun vals => dP os.length (.s (.ownC 0) :: rs) os' (s.tm.getD 0 .any :: vals) s) = some ((u, y.1), y.2) →
     a.defers = [] ∧ ∃ v, (results fn a.tmps).run P w = .ok v w ∧ ∃ ρ' F', yC ((Con.of (.s (.own 0) :: vs) os rs os' spec).out y).1 (.returned v) ρ' w F' (Bx F' E.L) ∧ InvH gl E ((Con.of (.s (.own 0) :: vs) os rs os' spec).out y).2 w ρ' F' ∧ ρ'[0]? = some u := fun {s ρ F} hI hz => by
    obtain ⟨vals, hv, hz⟩ := Option.bind_eq_some_iff.1 hz
    obtain ⟨us, k1, k2⟩ := pS hI hres hv
    have k3 : VRs ρ w F (Bx F E.L) (s.tm.getD 0 .any :: vals) (a.tmps.toList.getD 0 undef :: us) := by
     simp only [VRs]
     exact ⟨hI.rep.tm.getD 0 undef, k2⟩
    obtain ⟨ρ', F', j1, j2⟩ := bV hn0 hI.rep hI.toInvH k3 hz
    simp only [VhL.enc, Vh.enc, Sh.enc, VRs, VR] at j2
    obtain ⟨⟨j3, j4, _⟩, j5⟩ := j2
    exact ⟨hI.dfs.trans hD, _, k1, ρ', F', ⟨_, rfl, rS j5⟩, j1, j4 ▸ j3⟩
   cases ex <;> simp only [QK] at q <;> simp only [bodyPost]
   case normal => obtain ⟨s, ρ, F, h1, h2⟩ := q; exact key h1 h2
   case ret => obtain ⟨s, ρ, F, h1, h2⟩ := q; exact key h1 h2
   case exit => obtain ⟨s, ρ, F, h1, h2⟩ := q; cases h2
   case panic => obtain ⟨s, ρ, F, v, x, h1, h2, h3, h4, h5⟩ := q; cases h5
  ·rintro e w' ⟨ρ', F', k1, k2, k3⟩
   refine ⟨ρ', F', k1, k2.h, k2.stp, k2.pk, fun i hi =>?_⟩
   simp only [List.mem_singleton] at hi
   subst hi
   rw [k3, ha.1]
end
end Go.Ax
