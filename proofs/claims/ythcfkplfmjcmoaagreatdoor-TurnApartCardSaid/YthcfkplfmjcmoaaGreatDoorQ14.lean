/- Merged. -/
import Derived.Test.YthcfkplfmjcmoaaGreatDoorQ13
import Derived.ChangeSlices
import Derived.ChangeArms
import Derived.ChangeOld
import Derived.OpenShut
import Derived.Test.YthcfkplfmjcmoaaGreatDoorQ12
namespace Go.Ax
open Go.RowKit
set_option linter.unusedVariables false
abbrev Old (w : World) : Nat → Prop := fun b => b < w.heap.size
def OpF (P : Program) (t : TypeId) (ks : List EK) (wf : HL ks → Prop) : Prop :=
 ∀ (H : Type) (enc : TypeId × Value → H) (w : World) (base : Nat) (spare : Nat → Bool) (held : Bool) (fuel : Nat) (cs : List Value) (x : DataW H × List MemPlace),
  DataW.trod enc P w base spare held fuel t cs = some x → ∃ r : HL ks, cs.length = ks.length ∧ (∀ j k y c, HL.nth ks r j = some ⟨k, y⟩ → cs[j]? = some c → Rd w (Old w) k y [c]) ∧ wf r
def OpE (P : Program) (t : TypeId) (k : EK) (wf : k.T → Prop) : Prop :=
 ∀ (H : Type) (enc : TypeId × Value → H) (w : World) (base : Nat) (spare : Nat → Bool) (held : Bool) (fuel : Nat) (cs : List Value) (x : DataW H × List MemPlace),
  DataW.trod enc P w base spare held fuel t cs = some x → ∃ a : k.T, Rd w (Old w) k a cs ∧ wf a
theorem OpF.int {P : Program} {t : TypeId} (ht : P.underlying t = some (.int .i64)) : OpF P t [.int] (fun r => (Lit.int .i64 r.1).wf = true) := by
 intro H enc w base spare held fuel cs x h
 obtain ⟨n, rfl, _, hw⟩ := DataW.trod_int ht h
 refine ⟨(n, ()), rfl, fun j k y c h1 h2 =>?_, hw⟩
 cases j with
 | zero =>
  simp only [HL.nth, Option.some.injEq] at h1
  cases h1
  simp at h2
  subst h2
  exact .int n
 | succ j => simp [HL.nth] at h1
def OpFs (P : Program) (fs : List Field) (off : Nat) (ks : List EK) (wf : HL ks → Prop) : Prop :=
 ∀ (H : Type) (enc : TypeId × Value → H) (w : World) (base : Nat) (spare : Nat → Bool) (held : Bool) (fuel : Nat) (cs : List Value) (xs : List (DataW H × List MemPlace)),
  (∀ (i : Nat) (f : Field), fs[i]? = some f → DataW.trod enc P w base spare held fuel f.type ((cs.drop f.offset).take (P.cellsOf f.type)) = xs[i]?) → xs.length = fs.length → cs.length = off + ks.length →
  ∃ r : HL ks, (∀ j k y c, HL.nth ks r j = some ⟨k, y⟩ → (cs.drop off)[j]? = some c → Rd w (Old w) k y [c]) ∧ wf r
theorem OpFs.nil {P : Program} {off : Nat} : OpFs P [] off [] (fun _ => True) := by
 intro H enc w base spare held fuel cs xs _ _ _
 exact ⟨(), fun j k y c h1 h2 => by simp [HL.nth] at h1, trivial⟩
def HL.app : (ks : List EK) → {ls : List EK} → HL ks → HL ls → HL (ks ++ ls)
 | [], _, _, y => y
 | _ :: ks, _, x, y => (x.1, HL.app ks x.2 y)
theorem HL.nth_app : ∀ (ks : List EK) {ls : List EK} (x : HL ks) (y : HL ls) (j : Nat), HL.nth (ks ++ ls) (HL.app ks x y) j = if j < ks.length then HL.nth ks x j else HL.nth ls y (j - ks.length)
 | [], ls, x, y, j => by simp [HL.app]
 | k :: ks, ls, x, y, 0 => by simp [HL.app, HL.nth]
 | k :: ks, ls, x, y, j + 1 => by
  have := HL.nth_app ks x.2 y j
  simp only [List.cons_append, HL.app, HL.nth, List.length_cons]
  rw [this]
  by_cases c : j < ks.length
  ·rw [if_pos c, if_pos (by omega)]
  ·rw [if_neg c, if_neg (by omega), show j + 1 - (ks.length + 1) = j - ks.length by omega]
theorem OpFs.cons {P : Program} {f : Field} {fs : List Field} {off : Nat} {t : TypeId} {ks ls : List EK} {wa : HL ks → Prop} {wb : HL ls → Prop} {wf : HL (ks ++ ls) → Prop} (ht : f.type = t) (ho : f.offset = off) (hc : P.cellsOf t = ks.length) (h : OpF P t ks wa) (hs : OpFs P fs (off + ks.length) ls wb)
  (hw : ∀ x y, wa x → wb y → wf (HL.app ks x y)) : OpFs P (f :: fs) off (ks ++ ls) wf := by
 intro H enc w base spare held fuel cs xs hx hl hcs
 subst ht
 rw [List.length_append] at hcs
 cases xs with
 | nil => simp at hl
 | cons y ys =>
  have h0 := hx 0 f rfl
  rw [hc, ho] at h0
  obtain ⟨p, hp1, hp2, hwp⟩ := h H enc w base spare held fuel _ y h0
  obtain ⟨q, hq, hwq⟩ := hs H enc w base spare held fuel cs ys (fun i g hg => hx (i + 1) g hg) (by simpa using hl) (by omega)
  refine ⟨HL.app ks p q, fun j k y c h1 h2 =>?_, hw p q hwp hwq⟩
  rw [HL.nth_app] at h1
  rw [List.getElem?_drop] at h2
  by_cases c : j < ks.length
  ·rw [if_pos c] at h1
   exact hp2 j k y _ h1 (by rw [List.getElem?_take, if_pos c, List.getElem?_drop]; exact h2)
  ·rw [if_neg c] at h1
   exact hq (j - ks.length) k y _ h1 (by rw [List.getElem?_drop, show off + ks.length + (j - ks.length) = off + j by omega]; exact h2)
theorem OpF.struct {P : Program} {t : TypeId} {fs : Array Field} {ks : List EK} {wf : HL ks → Prop} (ht : P.underlying t = some (.struct fs)) (hc : P.cellsOf t = ks.length) (h : OpFs P fs.toList 0 ks wf) : OpF P t ks wf := by
 intro H enc w base spare held fuel cs x hx
 obtain ⟨xs, n, _, rfl, hcl, hxl, hf⟩ := DataW.trod_struct ht hx
 obtain ⟨r, h1, h2⟩ := h H enc w base spare held n cs xs (fun i f hif => hf i f (by simpa using hif)) (by simpa using hxl) (by omega)
 exact ⟨r, by omega, fun j k y c h3 h4 => h1 j k y c h3 (by simpa using h4), h2⟩
theorem OpE.st {P : Program} {t : TypeId} {s : SN} {wf : HL s.ks → Prop} (h : OpF P t s.ks wf) : OpE P t (.st s) (fun a => wf (s.un a)) := by
 intro H enc w base spare held fuel cs x hx
 obtain ⟨r, h1, h2, h3⟩ := h H enc w base spare held fuel cs x hx
 refine ⟨s.mk r, .st s _ cs h1 (fun j k y c h4 h5 =>?_), by show wf (s.un (s.mk r)); rw [SN.un_mk]; exact h3⟩
 rw [SN.un_mk] at h4
 exact h2 j k y c h4 h5
theorem OpE.int {P : Program} {t : TypeId} (ht : P.underlying t = some (.int .i64)) : OpE P t .int (fun n => (Lit.int .i64 n).wf = true) := by
 intro H enc w base spare held fuel cs x h
 obtain ⟨n, rfl, _, hw⟩ := DataW.trod_int ht h
 exact ⟨n, .int n, hw⟩
theorem aUq {α : Type} (R : Nat → α → Prop) : ∀ n, (∀ i, i < n → ∃ a, R i a) → ∃ l : List α, l.length = n ∧ ∀ i a, l[i]? = some a → R i a
 | 0, _ => ⟨[], rfl, fun i a h => by simp at h⟩
 | n + 1, h => by
  obtain ⟨l, hl, hr⟩ := aUq R n (fun i hi => h i (by omega))
  obtain ⟨a, ha⟩ := h n (by omega)
  refine ⟨l ++ [a], by simp [hl], fun i b hb =>?_⟩
  by_cases c : i < n
  ·rw [List.getElem?_append_left (by omega)] at hb
   exact hr i b hb
  ·rw [List.getElem?_append_right (by omega)] at hb
   have : i - l.length = 0 := by
    by_cases e : i - l.length = 0
    ·exact e
    ·rw [List.getElem?_eq_none (by simp; omega)] at hb; cases hb
   rw [this] at hb
   simp only [List.getElem?_cons_zero, Option.some.injEq] at hb
   have hi : i = n := by omega
   rw [hi, ← hb]
   exact ha
theorem bMq {w : World} {F B : Nat → Prop} {s : SN} {x : s.T} {cs : Array Value} (h : Rd w F (.st s) x cs.toList) : VR [] w F B ((Vh.s (.e (.st s))).enc x) (.agg cs) := by
 simp only [Vh.enc, Sh.enc, VR]
 exact ⟨cs, rfl, lU h⟩
theorem aXb {P : Program} {gl : Glb} {f : Nat} {vs : List Vh} {spec : VhL vs × OShL [] → Option (VhL [.s (.e .bool)] × OShL [])} (hS : aK P gl f (Con.of vs [] [.s (.e .bool)] [] spec)) {x : VhL vs} (hd : VhL.dec vs (VhL.enc vs x) = some x) (hx : spec (x, ()) = some ((true, ()), ())) {W : World} {args : Array Value}
  (hv : VRs [] W (Old W) (Bx (Old W) (fun _ => False)) (VhL.enc vs x) args.toList) (hg : Glo gl W (Old W)) : Calls P f args W fun e W' => e = .returned (.bool true) ∧ Below W.heap.size W W' := by
 have hR : RepH [] (Old W) (fun _ => False) [] W := ⟨rfl, fun n o v h => by simp at h, fun n m o o' v v' b h => by simp at h, fun b hb => ⟨hb.elim id False.elim, fun ⟨n, o, v, h, _⟩ => by simp at h⟩⟩
 refine (hS (VhL.enc vs x) [] (x, ()) _ (by simp [fM, hd, OShL.dec]) hx [] (Old W) (fun _ => False) W args hR hv hg).mono ?_
 rintro e W' ⟨ρ', F', k1, k2, k3, _⟩
 obtain ⟨v, rfl, k5⟩ := k1
 have hn : ∀ b, ¬ Own [] [] b := fun b ⟨n, o, v, h, _⟩ => by simp at h
 refine ⟨?_, k3.ch.os, k3.ch.tape, k3.ch.output, k3.ch.size, fun k hk => k3.ch.block k hk (hn k)⟩
 simp only [pL, VhL.enc, Vh.enc, Sh.enc, VR] at k5
 rw [k5]
end Go.Ax
namespace Go.Ax.Cd
set_option linter.unusedVariables false
def iG : List Int → List Int
 | [] => []
 | x :: r => if r.contains x then iG r else x :: iG r
def aJ (l : List Int) : List Int := (iG l).mergeSort (fun x y => decide (x ≤ y))
inductive T (α : Type) : Type
 | ret (a : α)
 | ask (c : Acc) (k : Int → T α)
 | bot
def T.bind {α β : Type} : T α → (α → T β) → T β
 | .ret a, f => f a
 | .ask c k, f => .ask c (fun x => (k x).bind f)
 | .bot, _ => .bot
inductive Out (α : Type) : Type
 | ok (a : α) (d : List Acc)
 | stop (d : List Acc)
 | bot
def Out.bind {α β : Type} : Out α → (α → List Acc → Out β) → Out β
 | .ok a d, f => f a d
 | .stop d, _ => .stop d
 | .bot, _ => .bot
def T.exec {α : Type} (got : List Int) : T α → List Acc → Out α
 | .ret a, d => .ok a d
 | .ask c k, d => if d.length < 1000000000 then (if d.length < got.length then (k (got.getD d.length 0)).exec got (d ++ [c]) else .stop (d ++ [c])) else .bot
 | .bot, _ => .bot
theorem T.exec_bind {α β : Type} (got : List Int) (p : T α) (f : α → T β) : ∀ d, (p.bind f).exec got d = (p.exec got d).bind (fun a d' => (f a).exec got d') := by
 induction p with
 | ret a => intro d; rfl
 | ask c k ih =>
  intro d
  rw [T.bind, T.exec, T.exec]
  split
  ·split
   ·exact ih _ _
   ·rfl
  ·rfl
 | bot => intro d; rfl
end Go.Ax.Cd
