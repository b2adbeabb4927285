/- Merged. -/
import Derived.Test.YteoeolfcpmalfaaGreatDoorQ29
import Derived.Test.YteoeolfcpmalfaaGreatDoorQ16
import Derived.Test.YteoeolfcpmalfaaGreatDoorQ15
namespace Go.Ax.Cd
open Go.Proofs
set_option linter.unusedVariables false
set_option maxRecDepth 100000
def next_Tr (c : Cfg) (o : Opn) (got : List Int) : T (Acc × Res × Bool) :=
 (goTr c o got).bind fun x0 =>
 bif x0.2.2 then
 .ret (Acc.mk 0 0 0 0 0 0, x0.2.1, true)
 else
 bif inR (w64 (Int.ofNat x0.1.length - 1)) x0.1.length then
 .ret (rdE (EK.st SN.acc) x0.1 (w64 (Int.ofNat x0.1.length - 1)), Res.mk 0 0 [] [] [], false)
 else
 .bot
@[reducible] def next_I : PIf (VhL [.s (.e (.st .cfg)), .s (.e (.st .opn)), .s (.e (.sl .int))] × OShL []) (VhL [.s (.e (.st .acc)), .s (.e (.st .res)), vb] × OShL []) where
 α := Acc × Res × Bool
 tr x := next_Tr x.1.1 x.1.2.1 x.1.2.2.1
 enc x a := ((a.1, a.2.1, a.2.2, ()), ())
abbrev next__T : Type := VhL [.s (.e (.st .cfg)), .s (.e (.st .opn)), .s (.e (.sl .int))] × OShL [] → Option (VhL [.s (.e (.st .acc)), .s (.e (.st .res)), vb] × OShL [])
noncomputable abbrev next__C (sp : next__T) : Con := Con.of [.s (.e (.st .cfg)), .s (.e (.st .opn)), .s (.e (.sl .int))] [] [.s (.e (.st .acc)), .s (.e (.st .res)), vb] [] sp
noncomputable abbrev next_S : next__T := PIf.spec next_I
theorem next__raw (p0 : VhL [.s (.e (.st .cfg)), .s (.e (.st .opn)), .s (.e (.sl .int))] × OShL [] → Option (VhL [.s (.e (.sl (.st .acc))), .s (.e (.st .res)), vb] × OShL [])) (c : Cfg) (o : Opn) (got : List Int) : runN Tryz.f12 [.s (.e (.st .cfg)), .s (.e (.st .opn)), .s (.e (.sl .int))] [] [.s (.e (.st .acc)), .s (.e (.st .res)), vb] [] [(21, Con.of [.s (.e (.st .cfg)), .s (.e (.st .opn)), .s (.e (.sl .int))] [] [.s (.e (.sl (.st .acc))), .s (.e (.st .res)), vb] [] p0)] [] [] (((c, o, got, ()), ()) : VhL [.s (.e (.st .cfg)), .s (.e (.st .opn)), .s (.e (.sl .int))] × OShL []) = ((p0 ((c, o, got, ()), ())).bind fun z => bif z.1.2.2.1 then some ((Acc.mk 0 0 0 0 0 0, z.1.2.1, true, ()), ()) else bif inR (w64 (Int.ofNat (List.length z.1.1) - 1)) (List.length z.1.1) then some ((rdE (EK.st SN.acc) z.1.1 (w64 (Int.ofNat (List.length z.1.1) - 1)), Res.mk 0 0 [] [] [], false, ()), ()) else none) := by kernel_rfl
theorem next__ok : Sound Tryz.prog gl 12 (next__C next_S) := by
 refine cnk (fn := Tryz.f12) (G := [(21, Con.of [.s (.e (.st .cfg)), .s (.e (.st .opn)), .s (.e (.sl .int))] [] [.s (.e (.sl (.st .acc))), .s (.e (.st .res)), vb] [] (PIf.spec runI))]) (GOk.cons ⟨Tryz.f21, body Tryz.f21, by kernel_rfl, by kernel_rfl, by kernel_rfl⟩ run_ok (GOk.nil)) (by kernel_rfl) (by kernel_rfl) (Lc := []) (nh := []) (noloopN (by kernel_rfl)) ?_
 rintro ⟨⟨c, o, got, _⟩, _⟩
 refine (next__raw ..).trans ?_
 show _ = ((next_Tr c o got).val).map _
 unfold next_Tr
 repeat' (first|refine cond_outP (fun _ =>?_) (fun _ =>?_)|(refine bindP (fun _ =>?_); try dsimp only [selim, cond_true, cond_false, Bool.not_true, Bool.not_false, one, none1, mI, runI]) | rfl)
theorem next__k {G : List (Nat × Con)} (h : GOk Tryz.prog gl G) : GOk Tryz.prog gl ((12, next__C next_S) :: G) := GOk.cons ⟨Tryz.f12, body Tryz.f12, by kernel_rfl, by kernel_rfl, by kernel_rfl⟩ next__ok h
def all_Tr (c : Cfg) (o : Opn) (got : List Int) : T (List Acc) :=
 (goTr c o got).bind fun x0 =>
 .ret x0.1
@[reducible] def all_I : PIf (VhL [.s (.e (.st .cfg)), .s (.e (.st .opn)), .s (.e (.sl .int))] × OShL []) (VhL [.s (.e (.sl (.st .acc)))] × OShL []) where
 α := List Acc
 tr x := all_Tr x.1.1 x.1.2.1 x.1.2.2.1
 enc x a := ((a, ()), ())
abbrev all__T : Type := VhL [.s (.e (.st .cfg)), .s (.e (.st .opn)), .s (.e (.sl .int))] × OShL [] → Option (VhL [.s (.e (.sl (.st .acc)))] × OShL [])
noncomputable abbrev all__C (sp : all__T) : Con := Con.of [.s (.e (.st .cfg)), .s (.e (.st .opn)), .s (.e (.sl .int))] [] [.s (.e (.sl (.st .acc)))] [] sp
noncomputable abbrev all_S : all__T := PIf.spec all_I
theorem all__raw (p0 : VhL [.s (.e (.st .cfg)), .s (.e (.st .opn)), .s (.e (.sl .int))] × OShL [] → Option (VhL [.s (.e (.sl (.st .acc))), .s (.e (.st .res)), vb] × OShL [])) (c : Cfg) (o : Opn) (got : List Int) : runN Tryz.f16 [.s (.e (.st .cfg)), .s (.e (.st .opn)), .s (.e (.sl .int))] [] [.s (.e (.sl (.st .acc)))] [] [(21, Con.of [.s (.e (.st .cfg)), .s (.e (.st .opn)), .s (.e (.sl .int))] [] [.s (.e (.sl (.st .acc))), .s (.e (.st .res)), vb] [] p0)] [] [] (((c, o, got, ()), ()) : VhL [.s (.e (.st .cfg)), .s (.e (.st .opn)), .s (.e (.sl .int))] × OShL []) = ((p0 ((c, o, got, ()), ())).bind fun z => some ((z.1.1, ()), ())) := by kernel_rfl
theorem all__ok : Sound Tryz.prog gl 16 (all__C all_S) := by
 refine cnk (fn := Tryz.f16) (G := [(21, Con.of [.s (.e (.st .cfg)), .s (.e (.st .opn)), .s (.e (.sl .int))] [] [.s (.e (.sl (.st .acc))), .s (.e (.st .res)), vb] [] (PIf.spec runI))]) (GOk.cons ⟨Tryz.f21, body Tryz.f21, by kernel_rfl, by kernel_rfl, by kernel_rfl⟩ run_ok (GOk.nil)) (by kernel_rfl) (by kernel_rfl) (Lc := []) (nh := []) (noloopN (by kernel_rfl)) ?_
 rintro ⟨⟨c, o, got, _⟩, _⟩
 refine (all__raw ..).trans ?_
 show _ = ((all_Tr c o got).val).map _
 unfold all_Tr
 repeat' (first|(refine bindP (fun _ =>?_); try dsimp only [selim, cond_true, cond_false, Bool.not_true, Bool.not_false, one, none1, mI, runI]) | rfl)
def Dead (c : Cfg) (got : List Int) (d : List Acc) (s : PS) : Prop := ∃ (h : List Int) (r : Res), h.length ≤ 1000000 ∧ s = ps c got h false r d
abbrev Lv {R : Type} (c : Cfg) (got h : List Int) (r : Res) (v : R) (d : List Acc) (z : R × PS) : Prop := z = (v, ps c got h true r d)
abbrev DD {R : Type} (c : Cfg) (got : List Int) (d : List Acc) (z : R × PS) : Prop := Dead c got d z.2
def Gets {Y : Type} (y : Option Y) (D : Y → Prop) : Prop := ∃ z, y = some z ∧ D z
theorem Gets.bind {Y Y' : Type} {y : Option Y} {F : Y → Option Y'} {D : Y → Prop} {D' : Y' → Prop} (h : Gets y D) (hF : ∀ z, D z → Gets (F z) D') : Gets (y.bind F) D' := by
 obtain ⟨z, rfl, hz⟩ := h
 exact hF z hz
theorem Ys {Y : Type} {z : Y} {D : Y → Prop} (h : D z) : Gets (some z) D := ⟨z, rfl, h⟩
theorem Yc {Y : Type} {b : Bool} {x y : Option Y} {D : Y → Prop} (hx : b = true → Gets x D) (hy : b = false → Gets y D) : Gets (bif b then x else y) D := by
 cases b
 ·exact hy rfl
 ·exact hx rfl
theorem Gets.mono {Y : Type} {y : Option Y} {D D' : Y → Prop} (h : Gets y D) (hD : ∀ z, D z → D' z) : Gets y D' := by
 obtain ⟨z, e, hz⟩ := h
 exact ⟨z, e, hD z hz⟩
def Sim {α Y : Type} (o : Out α) (y : Option Y) (L : α → List Acc → Y → Prop) (D : List Acc → Y → Prop) : Prop := match o with
 | .ok a d => Gets y (L a d)
 | .stop d => Gets y (D d)
 | .bot => True
theorem Sim.bind {α β Y Y' : Type} {got : List Int} {t : T α} {k : α → T β} {d : List Acc} {y : Option Y} {F : Y → Option Y'} {L : α → List Acc → Y → Prop} {D : List Acc → Y → Prop} {L' : β → List Acc → Y' → Prop} {D' : List Acc → Y' → Prop}
  (h : Sim (t.exec got d) y L D) (hk : ∀ a d' z, L a d' z → Sim ((k a).exec got d') (F z) L' D') (hd : ∀ d' z, D d' z → Gets (F z) (D' d')) : Sim ((t.bind k).exec got d) (y.bind F) L' D' := by
 rw [T.exec_bind]
 cases e : t.exec got d with
 | ok a d' =>
  rw [e] at h
  obtain ⟨z, rfl, hz⟩ := h
  exact hk a d' z hz
 | stop d' =>
  rw [e] at h
  exact Gets.bind h (hd d')
 | bot => trivial
theorem Zc {α Y : Type} {got : List Int} {d : List Acc} {b : Bool} {t u : T α} {x y : Option Y} {L : α → List Acc → Y → Prop} {D : List Acc → Y → Prop} (ht : b = true → Sim (t.exec got d) x L D) (hu : b = false → Sim (u.exec got d) y L D) : Sim ((bif b then t else u).exec got d) (bif b then x else y) L D := by
 cases b
 ·exact hu rfl
 ·exact ht rfl
theorem Zr {α Y : Type} {got : List Int} {d : List Acc} {a : α} {z : Y} {L : α → List Acc → Y → Prop} {D : List Acc → Y → Prop} (h : L a d z) : Sim ((T.ret a).exec got d) (some z) L D := ⟨z, rfl, h⟩
theorem Sim.mono {α Y : Type} {o : Out α} {y : Option Y} {L L' : α → List Acc → Y → Prop} {D D' : List Acc → Y → Prop} (h : Sim o y L D) (hL : ∀ a d z, L a d z → L' a d z) (hD : ∀ d z, D d z → D' d z) : Sim o y L' D' := by
 cases o with
 | ok a d => exact Gets.mono h (hL a d)
 | stop d => exact Gets.mono h (hD d)
 | bot => trivial
theorem loopF_le {X Y : Type} {B : X → Option (X ⊕ Y)} {y : Y} : ∀ {m n : Nat} {x : X}, m ≤ n → loopF B m x = some y → loopF B n x = some y
 | 0, n, x, _, h => by simp [loopF] at h
 | m + 1, 0, x, hl, h => by omega
 | m + 1, n + 1, x, hl, h => by
  simp only [loopF] at h ⊢
  cases e : B x with
  | none => rw [e] at h; simp at h
  | some z =>
   rw [e] at h
   cases z with
   | inl x' => exact loopF_le (by omega : m ≤ n) h
   | inr y' => exact h
def outS {σ β X Y : Type} (R : σ → List Acc → X → Prop) (L : β → List Acc → Y → Prop) (a : σ ⊕ β) (d : List Acc) (z : X ⊕ Y) : Prop := match a, z with
 | .inl s, .inl x => R s d x
 | .inr b, .inr y => L b d y
 | _, _ => False
def deadS {X Y : Type} (E : List Acc → X → Prop) (D : List Acc → Y → Prop) (d : List Acc) (z : X ⊕ Y) : Prop := match z with
 | .inl x => E d x
 | .inr y => D d y
theorem Sim.loop {σ β X Y : Type} {got : List Int} {step : σ → T (σ ⊕ β)} {B : X → Option (X ⊕ Y)} {R : σ → List Acc → X → Prop} {E : List Acc → X → Prop} {L : β → List Acc → Y → Prop} {D : List Acc → Y → Prop} {n : Nat}
  (hr : ∀ s d x, R s d x → Sim ((step s).exec got d) (B x) (outS R L) (deadS E D)) (he : ∀ d x, E d x → Gets (loopF B n x) (D d)) : ∀ (k : Nat) (s : σ) (d : List Acc) (x : X), R s d x → Sim ((T.loop step k s).exec got d) (loopF B (k + n) x) L D
 | 0, s, d, x, h => trivial
 | k + 1, s, d, x, h => by
  have h1 := hr s d x h
  rw [T.loop, T.exec_bind, show k + 1 + n = (k + n) + 1 by omega, loopF]
  cases e : (step s).exec got d with
  | ok a d' =>
   rw [e] at h1
   obtain ⟨z, e2, hz⟩ := h1
   rw [e2]
   cases a with
   | inl s' => cases z with
    | inl x' => exact Sim.loop hr he k s' d' x' hz
    | inr y => exact hz.elim
   | inr b => cases z with
    | inl x' => exact hz.elim
    | inr y => exact ⟨y, rfl, hz⟩
  | stop d' =>
   rw [e] at h1
   obtain ⟨z, e2, hz⟩ := h1
   show Gets _ _
   rw [e2]
   cases z with
   | inl x' =>
    obtain ⟨y, e3, hy⟩ := he d' x' hz
    exact ⟨y, loopF_le (by omega) e3, hy⟩
   | inr y => exact ⟨y, rfl, hz⟩
  | bot => trivial
theorem Sim.loopU {σ β X Y : Type} {got : List Int} {step : σ → T (σ ⊕ β)} {B : X → Option (X ⊕ Y)} {R : σ → List Acc → X → Prop} {E : List Acc → X → Prop} {L : β → List Acc → Y → Prop} {D : List Acc → Y → Prop} (n : Nat) {k : Nat} {s : σ} {d : List Acc} {x : X}
  (hk : k + n ≤ FU) (hr : ∀ s d x, R s d x → Sim ((step s).exec got d) (B x) (outS R L) (deadS E D)) (he : ∀ d x, E d x → Gets (loopF B n x) (D d)) (h : R s d x) : Sim ((T.loop step k s).exec got d) (loopF B FU x) L D := by
 have h1 := Sim.loop hr he k s d x h
 cases e : (T.loop step k s).exec got d with
 | ok a d' =>
  rw [e] at h1
  obtain ⟨z, e2, hz⟩ := h1
  exact ⟨z, loopF_le hk e2, hz⟩
 | stop d' =>
  rw [e] at h1
  obtain ⟨z, e2, hz⟩ := h1
  exact ⟨z, loopF_le hk e2, hz⟩
 | bot => trivial
theorem pAsk_sim {a : Acc} {c : Cfg} {got h : List Int} {r : Res} {d : List Acc} (hg : got.length ≤ 1000000) :
  Sim ((T.ask a T.ret).exec got d) (pAskN (((), a, ()), ps c got h true r d)) (fun x d' z => z = ((x, ()), ps c got h true r d')) (fun d' z => z.1.1 = 0 ∧ z.2 = ps c got h false r d') := by
 unfold T.exec
 split
 ·rename_i h1
  have e0 : pAskN (((), a, ()), ps c got h true r d) = (bif decide (Int.ofNat (d ++ [a]).length > Int.ofNat got.length) then some ((0, ()), ps c got h false r (d ++ [a])) else bif inR (w64 (Int.ofNat (d ++ [a]).length - 1)) got.length then some ((rdE EK.int got (w64 (Int.ofNat (d ++ [a]).length - 1)), ()), ps c got h true r (d ++ [a])) else none) := by
   show (bif decide (d.length + [a].length ≤ 1000000000) then _ else none) = _
   rw [decide_eq_true (by simp; omega)]
   rfl
  have e1 : w64 (Int.ofNat (d ++ [a]).length - 1) = Int.ofNat d.length := by
   rw [w64_id] <;> simp <;> omega
  rw [e0, e1]
  split
  ·rename_i h2
   refine ⟨_, ?_, rfl⟩
   rw [decide_eq_false (by simp; omega)]
   simp only [cond_false]
   rw [show inR (Int.ofNat d.length) got.length = true by simp [inR]; omega]
   simp only [cond_true]
   congr 3
  ·rename_i h2
   refine ⟨((0, ()), ps c got h false r (d ++ [a])), ?_, rfl, rfl⟩
   rw [decide_eq_true (by simp; omega)]
   rfl
 ·trivial
theorem sim1 {a : Acc} {c : Cfg} {got h : List Int} {r : Res} {d : List Acc} (hg : got.length ≤ 1000000) (hh : h.length ≤ 1000000) :
  Sim (((T.ask a T.ret).bind fun x => .ret x).exec got d) ((pAskN (((), a, ()), ps c got h true r d)).bind fun z => some ((z.1.1, ()), z.2)) (fun x => Lv c got h r ((x, ()) : VhL [vi])) (DD c got) :=
 Sim.bind (pAsk_sim hg) (fun x d' z hz => by subst hz; exact Zr rfl) (fun d' z hz => Ys ⟨h, r, hh, hz.2⟩)
theorem sim0 {a : Acc} {c : Cfg} {got h : List Int} {r : Res} {d : List Acc} (hg : got.length ≤ 1000000) (hh : h.length ≤ 1000000) :
  Sim (((T.ask a T.ret).bind fun x => .ret ()).exec got d) ((pAskN (((), a, ()), ps c got h true r d)).bind fun z => some (((), z.2) : VhL [] × OShL PO)) (fun _ => Lv c got h r (() : VhL [])) (DD c got) :=
 Sim.bind (pAsk_sim hg) (fun x d' z hz => by subst hz; exact Zr rfl) (fun d' z hz => Ys ⟨h, r, hh, hz.2⟩)
theorem doT {a : Acc} {c : Cfg} {got h : List Int} : (doF a c got h).tree = T.ask a T.ret := rfl
theorem frT {c : Cfg} {got h : List Int} : (freeF c got h).tree = freeTr h := rfl
class Bd (l : List Int) : Prop where
 h : l.length ≤ 1000000
class DOk {A R : Type} (f : A × PS → Option (R × PS)) : Prop where
 h : ∀ {c : Cfg} {got : List Int} {d : List Acc} {a : A} {s : PS}, Dead c got d s → Gets (f (a, s)) (DD c got d)
class VOk {X Y : Type} (f : X → Option Y) (x : X) (y : outParam Y) : Prop where
 h : f x = some y
class L1 {A R α : Type} (c : Cfg) (got h : List Int) (t : T α) (f : A × PS → Option (R × PS)) (a : A) (v : outParam (α → R)) : Prop where
 h : ∀ r d, Sim (t.exec got d) (f (a, ps c got h true r d)) (fun x => Lv c got h r (v x)) (DD c got)
 k : ∃ b j, t = T.ask b j
theorem T.ex_len {α : Type} {got : List Int} : ∀ (t : T α) {d d' : List Acc} {a : α}, t.exec got d = .ok a d' → d.length ≤ d'.length ∧ (d.length ≤ got.length → d'.length ≤ got.length)
 | .ret a, d, d', b, h => by cases h; exact ⟨Nat.le_refl _, id⟩
 | .bot, d, d', b, h => by cases h
 | .ask c k, d, d', b, h => by
  unfold T.exec at h
  split at h
  ·split at h
   ·obtain ⟨h1, h2⟩ := T.ex_len (k _) h
    simp at h1 h2
    exact ⟨by omega, fun _ => h2 (by omega)⟩
   ·cases h
  ·cases h
theorem T.ask_len {α : Type} {got : List Int} {c : Acc} {k : Int → T α} {d d' : List Acc} {a : α} (h : (T.ask c k).exec got d = .ok a d') : d.length < d'.length ∧ d'.length ≤ got.length := by
 unfold T.exec at h
 split at h
 ·split at h
  ·obtain ⟨h1, h2⟩ := T.ex_len (k _) h
   simp at h1 h2
   exact ⟨by omega, h2 (by omega)⟩
  ·cases h
 ·cases h
theorem Yd {A R Y : Type} {f : A × PS → Option (R × PS)} [i : DOk f] {c : Cfg} {got : List Int} {d : List Acc} {a : A} {s : PS} {F : R × PS → Option Y} {D : Y → Prop} (hs : Dead c got d s) (hF : ∀ z, DD c got d z → Gets (F z) D) : Gets ((f (a, s)).bind F) D := Gets.bind (i.h hs) hF
theorem Yq {Y Y' : Type} {x : Option Y} {y : Y} {F : Y → Option Y'} {D : Y' → Prop} (h : x = Option.some y) (hF : Gets (F y) D) : Gets (x.bind F) D := by
 rw [h]
 exact hF
theorem Yv {X Y Y' : Type} {f : X → Option Y} {x : X} {y : Y} [i : VOk f x y] {F : Y → Option Y'} {D : Y' → Prop} (hF : Gets (F y) D) : Gets ((f x).bind F) D := by
 rw [i.h]
 exact hF
theorem Zv {α X Y Y' : Type} {o : Out α} {f : X → Option Y} {x : X} {y : Y} [i : VOk f x y] {F : Y → Option Y'} {L : α → List Acc → Y' → Prop} {D : List Acc → Y' → Prop} (hF : Sim o (F y) L D) : Sim o ((f x).bind F) L D := by
 rw [i.h]
 exact hF
theorem Zt {α Y : Type} {o : Out α} {x y : Option Y} {L : α → List Acc → Y → Prop} {D : List Acc → Y → Prop} (h : Sim o x L D) : Sim o (bif true then x else y) L D := h
theorem Zu {α Y : Type} {got : List Int} {d : List Acc} {t u : T α} {y : Option Y} {L : α → List Acc → Y → Prop} {D : List Acc → Y → Prop} (h : Sim (t.exec got d) y L D) : Sim ((bif !false then t else u).exec got d) y L D := h
theorem Zn {α Y : Type} {got : List Int} {d : List Acc} {b : Bool} {t u : T α} {x y : Option Y} {L : α → List Acc → Y → Prop} {D : List Acc → Y → Prop} (hx : b = true → Sim (u.exec got d) x L D) (hy : b = false → Sim (t.exec got d) y L D) : Sim ((bif !b then t else u).exec got d) (bif b then x else y) L D := by
 cases b
 ·exact hy rfl
 ·exact hx rfl
theorem Zs {A R α β Y : Type} {c : Cfg} {got h : List Int} {t : T α} {f : A × PS → Option (R × PS)} {a : A} {v : α → R} [i : L1 c got h t f a v] {k : α → T β} {F : R × PS → Option Y} {r : Res} {d : List Acc} {L : β → List Acc → Y → Prop} {D : List Acc → Y → Prop}
  (hk : ∀ x d', d.length < d'.length ∧ d'.length ≤ got.length → Sim ((k x).exec got d') (F (v x, ps c got h true r d')) L D) (hd : ∀ d' z, DD c got d' z → Gets (F z) (D d')) : Sim ((t.bind k).exec got d) ((f (a, ps c got h true r d)).bind F) L D := by
 have h1 := i.h r d
 rw [T.exec_bind]
 cases e : t.exec got d with
 | ok a d' =>
  rw [e] at h1
  obtain ⟨z, hz, rfl⟩ := h1
  rw [hz]
  obtain ⟨b, j, rfl⟩ := i.k
  exact hk a d' (T.ask_len e)
 | stop d' =>
  rw [e] at h1
  exact Gets.bind h1 (hd d')
 | bot => trivial
theorem Zg {α Y : Type} {got : List Int} {d : List Acc} {g : Bool} {k : Unit → T α} {y : Option Y} {L : α → List Acc → Y → Prop} {D : List Acc → Y → Prop} (hk : g = true → Sim ((k ()).exec got d) y L D) : Sim (((T.gret g ()).bind k).exec got d) y L D := by
 cases g
 ·trivial
 ·exact hk rfl
theorem Zb {α Y : Type} {got : List Int} {d : List Acc} {y : Option Y} {L : α → List Acc → Y → Prop} {D : List Acc → Y → Prop} : Sim ((T.bot : T α).exec got d) y L D := trivial
theorem Zq {α Y Y' : Type} {o : Out α} {x : Option Y} {y : Y} {F : Y → Option Y'} {L : α → List Acc → Y' → Prop} {D : List Acc → Y' → Prop} (h : x = some y) (hF : Sim o (F y) L D) : Sim o (x.bind F) L D := by
 rw [h]
 exact hF
theorem Yg {Y : Type} {b : Bool} {x : Option Y} {D : Y → Prop} (h : b = true) (hx : Gets x D) : Gets (bif b then x else none) D := by
 rw [h]
 exact hx
theorem T.bind_ret {α : Type} : ∀ (t : T α), (t.bind fun x => .ret x) = t
 | .ret a => rfl
 | .bot => rfl
 | .ask a k => congrArg (T.ask a) (funext fun n => T.bind_ret (k n))
theorem xA {α β γ : Type} {k : α → T β} {l : β → T γ} : ∀ (t : T α), ((t.bind k).bind l) = t.bind fun a => (k a).bind l
 | .ret a => rfl
 | .bot => rfl
 | .ask a j => congrArg (T.ask a) (funext fun n => xA (j n))
theorem xC {α β : Type} {b : Bool} {t u : T α} {k : α → T β} : ((bif b then t else u).bind k) = bif b then t.bind k else u.bind k := by cases b <;> rfl
section
variable {c : Cfg} {got h : List Int} [hg : Bd got] [hh : Bd h]
instance {a : Acc} : L1 c got h (T.ask a T.ret) pAskN ((), a, ()) (fun x => (x, ())) := ⟨fun r d => Sim.mono (pAsk_sim hg.h) (fun a d z hz => hz) (fun d z hz => ⟨h, r, hh.h, hz.2⟩), _, _, rfl⟩
instance {w : Int} : L1 c got h (wordTr w c got h) pLoadN ((), w, ()) (fun x => (x, ())) := ⟨fun r d => sim1 hg.h hh.h, _, _, rfl⟩
instance {w : Int} : L1 c got h (findTr w c got h) pLoadN ((), w64 (w + 1), ()) (fun x => (x, ())) := ⟨fun r d => by
 unfold findTr findF findB
 dsimp only [F.tree]
 rw [T.bind_ret]
 exact sim1 hg.h hh.h, _, _, rfl⟩
instance {w v : Int} : L1 c got h (setTr w v c got h) pStoreN ((), w, v, ()) (fun _ => ()) := ⟨fun r d => sim0 hg.h hh.h, _, _, rfl⟩
instance {w x f : Int} : L1 c got h (loadTr w x f c got h) pFieldN ((), w, x, f, ()) (fun x => (x, ())) := ⟨fun r d => sim1 hg.h hh.h, _, _, rfl⟩
instance {w x f : Int} : L1 c got h (nextTr w x f c got h) pFieldN ((), w, x, f, ()) (fun x => (x, ())) := ⟨fun r d => by
 unfold nextTr nextF nextB
 dsimp only [F.tree]
 rw [T.bind_ret]
 exact sim1 hg.h hh.h, _, _, rfl⟩
instance {w x f v : Int} : L1 c got h (storeTr w x f v c got h) pPutN ((), w, x, f, v, ()) (fun _ => ()) := ⟨fun r d => sim0 hg.h hh.h, _, _, rfl⟩
instance {n : Int} : L1 c got h (seeTr n c got h) pSeeN ((), n, ()) (fun x => (x, ())) := ⟨fun r d => sim1 hg.h hh.h, _, _, rfl⟩
instance {w : Int} : L1 c got h (takeTr w c got h) pTakeN ((), w, ()) (fun x => (x, ())) := ⟨fun r d => sim1 hg.h hh.h, _, _, rfl⟩
instance {w x : Int} : L1 c got h (retireTr w x c got h) pRetireN ((), w, x, ()) (fun _ => ()) := ⟨fun r d => sim0 hg.h hh.h, _, _, rfl⟩
end
instance {n : Int} : VOk pDirN ((n, ()), ()) ((w64 (n + 1), ()), ()) := ⟨rfl⟩
instance {e : Int} : VOk pFailedN ((e, ()), ()) ((Res.mk e 0 [] [] [], ()), ()) := ⟨rfl⟩
instance {c : Cfg} {i : Int} {got h : List Int} {ok : Bool} {r : Res} {d : List Acc} : VOk pEdgeN (((), i, ()), ps c got h ok r d) ((w64 (w64 (c.ids + 1) + i), ()), ps c got h ok r d) := ⟨rfl⟩
instance {c : Cfg} {n : Int} {got h : List Int} {ok : Bool} {r : Res} {d : List Acc} : VOk pKnownN (((), n, ()), ps c got h ok r d) ((decide (n ≥ 1) && decide (n ≤ c.ids), ()), ps c got h ok r d) := ⟨by
 show (bif decide (n ≥ 1) then some _ else some _) = _
 cases decide (n ≥ 1) <;> rfl⟩
instance : DOk pAskN := ⟨fun ⟨h, r, hh, e⟩ => by subst e; exact ⟨_, rfl, h, r, hh, rfl⟩⟩
instance : DOk pLoadN := ⟨fun ⟨h, r, hh, e⟩ => by subst e; exact ⟨_, rfl, h, r, hh, rfl⟩⟩
instance : DOk pStoreN := ⟨fun ⟨h, r, hh, e⟩ => by subst e; exact ⟨_, rfl, h, r, hh, rfl⟩⟩
instance : DOk pFieldN := ⟨fun ⟨h, r, hh, e⟩ => by subst e; exact ⟨_, rfl, h, r, hh, rfl⟩⟩
instance : DOk pPutN := ⟨fun ⟨h, r, hh, e⟩ => by subst e; exact ⟨_, rfl, h, r, hh, rfl⟩⟩
instance : DOk pSeeN := ⟨fun ⟨h, r, hh, e⟩ => by subst e; exact ⟨_, rfl, h, r, hh, rfl⟩⟩
instance : DOk pTakeN := ⟨fun ⟨h, r, hh, e⟩ => by subst e; exact ⟨_, rfl, h, r, hh, rfl⟩⟩
instance : DOk pRetireN := ⟨fun ⟨h, r, hh, e⟩ => by subst e; exact ⟨_, rfl, h, r, hh, rfl⟩⟩
instance : DOk pEdgeN := ⟨fun ⟨h, r, hh, e⟩ => by subst e; exact ⟨_, rfl, h, r, hh, rfl⟩⟩
instance : DOk pKnownN := ⟨fun ⟨h, r, hh, e⟩ => by subst e; exact Yc (fun _ => ⟨_, rfl, h, r, hh, rfl⟩) (fun _ => ⟨_, rfl, h, r, hh, rfl⟩)⟩
abbrev Left {X Y : Type} (D : Y → Prop) : X ⊕ Y → Prop := Sum.elim (fun _ => False) D
theorem Gets.loop1 {X Y : Type} {B : X → Option (X ⊕ Y)} {x : X} {D : Y → Prop} (h : Gets (B x) (Left D)) (n : Nat := FU) (hn : 0 < n := by unfold FU; omega) : Gets (loopF B n x) D := by
 obtain ⟨z, e, hz⟩ := h
 cases z with
 | inl x' => exact hz.elim
 | inr y => exact ⟨y, loopF_le (m := 1) hn (by simp [loopF, e]), hz⟩
abbrev D2 {R S : Type} (c : Cfg) (got : List Int) (d : List Acc) : (R × PS) ⊕ (S × PS) → Prop := Sum.elim (fun a => Dead c got d a.2) (fun a => Dead c got d a.2)
theorem dUnlinkL {c : Cfg} {got : List Int} {d : List Acc} {z : pUnlinkL0E.X} (hs : Dead c got d z.2) : Gets (pUnlinkL0E.un (pUnlinkL0B pFieldN pPutN) z) (Left (D2 c got d)) := by
 obtain ⟨v, s⟩ := z
 obtain ⟨h, r, hh, (rfl : s = _)⟩ := hs
 show Gets (pUnlinkL0B pFieldN pPutN _ _ _ _ _ _ _ _ _ _) _
 unfold pUnlinkL0B
 exact Yc (fun _ => ⟨_, rfl, h, r, hh, rfl⟩) (fun _ => ⟨_, rfl, h, r, hh, rfl⟩)
instance : DOk pUnlinkN := ⟨fun {c got d a s} hs => by
 show Gets (pUnlinkB pDirN pLoadN pFieldN pPutN pUnlinkL0N _ _ _ _ _ _ _ _ _ _) _
 unfold pUnlinkB
 repeat' (first|(with_reducible first|refine Yd (by assumption) fun z hz =>?_|refine Yv ?_|refine Yg (by (refine decide_eq_true ?_; simp only [List.length_cons, List.length_nil, List.length_append]; omega)) ?_|refine Yc (fun _ =>?_) fun _ =>?_)|(refine Ys ?_; assumption)|(refine Ys ⟨by assumption, ?_⟩; simp; omega))
 refine Gets.bind (Gets.loop1 (dUnlinkL (c := c) (got := got) (by assumption))) fun y hy =>?_
 cases y <;> exact Ys hy⟩
section
variable {c : Cfg} {got h : List Int} [hg : Bd got] [hh : Bd h] {r : Res} {d : List Acc}
theorem pUnlinkL_sim (s : Sid) (rr x3 x1 : Int) : Sim ((T.loop (unlinkL0Step x3 c got h s 2 rr 2) (got.length + 10) x1).exec got d) (pUnlinkL0N (((), s.link, rr, x1, x3, ()), ps c got h true r d))
  (fun a d z => match a, z with | .inl _, .inl z => Lv c got h r () d z | .inr _, .inr z => Lv c got h r () d z | _, _ => False) (D2 c got) := by
 refine Sim.loopU 1 (R := fun x d z => z = (((), s.link, rr, x, x3, ()), ps c got h true r d)) (E := fun d z => Dead c got d z.2) (by have := hg.h; unfold FU; omega) (fun x d z hz =>?_) (fun d z hz => Gets.loop1 (dUnlinkL hz) 1 (by decide)) rfl
 subst hz
 show Sim _ (pUnlinkL0B pFieldN pPutN s.link rr x x3 c got h true r d) _ _
 unfold pUnlinkL0B unlinkL0Step unlinkL0B
 dsimp only [F.tree, doT, frT]
 show Sim ((bif !(x == 0) then _ else _ : T _).exec got d) (bif !(x == 0) then _ else _) _ _
 repeat' (first|(with_reducible first|refine Yd (by assumption) fun z hz =>?_|refine Yv ?_|refine Yg (by (refine decide_eq_true ?_; simp only [List.length_cons, List.length_nil, List.length_append]; omega)) ?_|refine Yc (fun _ =>?_) fun _ =>?_|refine Zs (fun x d hd =>?_) fun d z hz =>?_|refine Zv ?_|refine Zc (fun _ =>?_) fun _ =>?_|refine Zt ?_|refine Zu ?_|refine Zn (fun _ =>?_) fun _ =>?_|refine Zo (fun _ =>?_) fun _ =>?_|refine Zg fun _ =>?_|exact Zb)|(refine Zr ?_;first|exact rfl|exact ⟨rfl, rfl⟩|exact ⟨rfl, by simp; omega⟩)|(refine Ys ?_; assumption)|(refine Ys ⟨by assumption, ?_⟩; simp; omega))
instance {hd lk ow ot n rr : Int} : L1 c got h (unlinkTr ⟨hd, lk, ow, ot⟩ n 2 rr c got h) pUnlinkN ((), hd, lk, n, rr, ()) (fun _ => ()) := ⟨fun r d => by
 generalize hs : (⟨hd, lk, ow, ot⟩ : Sid) = s
 obtain rfl : hd = s.head := by rw [← hs]
 obtain rfl : lk = s.link := by rw [← hs]
 clear hs
 show Sim _ (pUnlinkB pDirN pLoadN pFieldN pPutN pUnlinkL0N s.head s.link n rr c got h true r d) _ _
 unfold pUnlinkB unlinkTr unlinkF unlinkB unlinkL0F
 dsimp only [F.tree, doT, frT]
 repeat' (first|(with_reducible first|refine Yd (by assumption) fun z hz =>?_|refine Yv ?_|refine Yg (by (refine decide_eq_true ?_; simp only [List.length_cons, List.length_nil, List.length_append]; omega)) ?_|refine Yc (fun _ =>?_) fun _ =>?_|refine Zs (fun x d hd =>?_) fun d z hz =>?_|refine Zv ?_|refine Zc (fun _ =>?_) fun _ =>?_|refine Zt ?_|refine Zu ?_|refine Zn (fun _ =>?_) fun _ =>?_|refine Zo (fun _ =>?_) fun _ =>?_|refine Zg fun _ =>?_|exact Zb)|(refine Zr ?_;first|exact rfl|exact ⟨rfl, rfl⟩|exact ⟨rfl, by simp; omega⟩)|(refine Ys ?_; assumption)|(refine Ys ⟨by assumption, ?_⟩; simp; omega))
 ·refine Sim.bind (pUnlinkL_sim s rr _ _) (fun b d3 z hz =>?_) (fun d3 z hz =>?_)
  ·cases b <;> cases z <;> first|exact hz.elim | (cases hz; exact Zr rfl)
  ·cases z <;> exact Ys hz
 all_goals
  refine Gets.bind (Gets.loop1 (dUnlinkL (c := c) (got := got) (by assumption))) fun y hy =>?_
  cases y <;> exact Ys hy, _, _, rfl⟩
end
theorem loopF_from {X Y : Type} {B : X → Option (X ⊕ Y)} {st : Nat → X} {k : Nat} {y : Y} (h1 : ∀ i, i < k → B (st i) = some (.inl (st (i + 1)))) (h2 : B (st k) = some (.inr y)) : ∀ (m j : Nat), j ≤ k → k - j < m → loopF B m (st j) = some y
 | 0, j, _, h => by omega
 | m + 1, j, hj, h => by
  rw [loopF]
  rcases Nat.lt_or_ge j k with hl | hl
  ·rw [h1 j hl]
   exact loopF_from h1 h2 m (j + 1) (by omega) (by omega)
  ·have : j = k := by omega
   subst this
   rw [h2]
   rfl
theorem loopF_at {X Y : Type} {B : X → Option (X ⊕ Y)} (st : Nat → X) {k : Nat} {y : Y} (hk : k < FU) (h1 : ∀ i, i < k → B (st i) = some (.inl (st (i + 1)))) (h2 : B (st k) = some (.inr y)) : loopF B FU (st 0) = some y :=
 loopF_from h1 h2 FU 0 (by omega) (by omega)
theorem rd_ix (l : List Int) (i : Nat) : rdE EK.int l (i : Int) = l.getD i 0 := rfl

theorem w64_ix {i : Nat} (h : i ≤ 1000000000) : w64 ((i : Int) + 1) = ((i + 1 : Nat) : Int) := by
 rw [w64_id] <;> omega
theorem pHas_eq (s : List Int) (n : Int) (hs : s.length ≤ 1000000000) : pHasN ((s, n, ()), ()) = some ((s.contains n, ()), ()) := by
 show (pHasL0N ((n, s, Int.ofNat s.length, 0, ()), ())).bind _ = _
 have key : ∀ i, (∀ j, j < i → j < s.length → s.getD j 0 ≠ n) → i ≤ s.length → (∀ j, j < i → pHasL0B n s (Int.ofNat s.length) ((j : Nat) : Int) = some (.inl ((n, s, Int.ofNat s.length, ((j + 1 : Nat) : Int), ()), ()))) := by
  intro i hi hl j hj
  unfold pHasL0B
  rw [decide_eq_true (show ((j : Nat) : Int) < Int.ofNat s.length by simp; omega), inR_ge (by omega), rd_ix, w64_ix (by omega)]
  rw [show (s.getD j 0 == n) = false by simpa using hi j hj (by omega)]
  rfl
 by_cases hc : ∃ i, i < s.length ∧ s.getD i 0 = n ∧ ∀ j, j < i → s.getD j 0 ≠ n
 ·obtain ⟨i, hi, he, hb⟩ := hc
  have h2 : pHasL0N ((n, s, Int.ofNat s.length, 0, ()), ()) = some (Sum.inr ((true, ()), ())) := by
   refine loopF_at (fun i => ((n, s, Int.ofNat s.length, (i : Int), ()), ())) (k := i) (by unfold FU; omega) (key i (fun j hj _ => hb j hj) (by omega)) ?_
   show pHasL0B n s (Int.ofNat s.length) (i : Int) = _
   unfold pHasL0B
   rw [decide_eq_true (show ((i : Nat) : Int) < Int.ofNat s.length by simp; omega), inR_ge hi, rd_ix, he]
   simp
  rw [h2, show s.contains n = true by
   rw [List.contains_iff_mem, ← he, List.getD_eq_getElem?_getD, List.getElem?_eq_getElem hi]
   exact List.getElem_mem hi]
  rfl
 ·have hn : ∀ i, i ≤ s.length → ∀ j, j < i → s.getD j 0 ≠ n := by
   intro i
   induction i with
   | zero => intro _ j hj; omega
   | succ i ih =>
    intro hl j hj he
    rcases Nat.lt_or_ge j i with h | h
    ·exact ih (by omega) j h he
    ·have : j = i := by omega
     subst this
     exact hc ⟨j, by omega, he, ih (by omega)⟩
  have h2 : pHasL0N ((n, s, Int.ofNat s.length, 0, ()), ()) = some (Sum.inl ((), ())) := by
   refine loopF_at (fun i => ((n, s, Int.ofNat s.length, (i : Int), ()), ())) (k := s.length) (by unfold FU; omega) (key s.length (fun j hj _ => hn s.length (Nat.le_refl _) j hj) (Nat.le_refl _)) ?_
   show pHasL0B n s (Int.ofNat s.length) (s.length : Int) = _
   unfold pHasL0B
   rw [decide_eq_false (by simp)]
   rfl
  rw [h2, show s.contains n = false by
   rw [Bool.eq_false_iff]
   intro h
   rw [List.contains_iff_mem] at h
   obtain ⟨i, hi, e⟩ := List.getElem_of_mem h
   refine hn s.length (Nat.le_refl _) i hi ?_
   rw [List.getD_eq_getElem?_getD, List.getElem?_eq_getElem hi]
   exact e]
  rfl
abbrev RS := Bool × List Int
def rule (ro : Bool) (s : RS) (a : Acc) : Option RS :=
 if a.kind = 3 then some s
 else if a.kind = 7 then (if s.2 = [] then some s else none)
 else if a.kind = 5 then (match s.2 with
  | [] => some (false, [a.at_])
  | t :: r => if s.1 = false ∧ t < a.at_ then some (false, a.at_ :: t :: r) else none)
 else if a.kind = 6 then (match s.2 with
  | [] => none
  | t :: r => if t = a.at_ then some (true, r) else none)
 else if a.kind = 4 ∨ a.kind = 8 ∨ a.kind = 9 then (if ro = false ∧ s.2 ≠ [] then some s else none)
 else none
section
variable {N : Nat} {ro : Bool} {n : Nat} {s : RS} {c : Cfg} {got held : List Int}
theorem ask_one {α : Type} {a : Acc} {s' : RS} {f : Int → α} {Q : Nat → RS → α → Prop} (h : rule ro s a = some s') (hq : n < N → ∀ x, In64 x → Q (n + 1) s' (f x)) : ((T.ask a T.ret).bind fun x => .ret (f x)).sat N (rule ro) n s Q := ⟨s', h, hq⟩
theorem load_sat {w r f : Int} {Q : Nat → RS → Int → Prop} (hq : n < N → ∀ x, In64 x → Q (n + 1) s x) : (loadTr w r f c got held).sat N (rule ro) n s Q := ask_one (s' := s) (by simp [rule]) hq
theorem word_sat {w : Int} {Q : Nat → RS → Int → Prop} (hq : n < N → ∀ x, In64 x → Q (n + 1) s x) : (wordTr w c got held).sat N (rule ro) n s Q := ask_one (s' := s) (by simp [rule]) hq
theorem next_sat {w r f : Int} {Q : Nat → RS → Int → Prop} (hq : n < N → ∀ x, In64 x → Q (n + 1) s x) : (nextTr w r f c got held).sat N (rule ro) n s Q := T.sat_bind (load_sat hq)
theorem find_sat {w : Int} {Q : Nat → RS → Int → Prop} (hq : n < N → ∀ x, In64 x → Q (n + 1) s x) : (findTr w c got held).sat N (rule ro) n s Q := T.sat_bind (word_sat hq)
theorem see_sat {w : Int} {Q : Nat → RS → Int → Prop} (hs : s.2 = []) (hq : n < N → ∀ x, In64 x → Q (n + 1) s x) : (seeTr w c got held).sat N (rule ro) n s Q := ask_one (s' := s) (by simp [rule, hs]) hq
def Wr (ro : Bool) (s : RS) : Prop := ro = false ∧ s.2 ≠ []
theorem store_sat {w r f v : Int} {Q : Nat → RS → Unit → Prop} (hs : Wr ro s) (hq : n < N → Q (n + 1) s ()) : (storeTr w r f v c got held).sat N (rule ro) n s Q := ask_one (f := fun _ => ()) (s' := s) (by simp [rule, hs.1, hs.2]) (fun h _ _ => hq h)
theorem set_sat {w v : Int} {Q : Nat → RS → Unit → Prop} (hs : Wr ro s) (hq : n < N → Q (n + 1) s ()) : (setTr w v c got held).sat N (rule ro) n s Q := ask_one (f := fun _ => ()) (s' := s) (by simp [rule, hs.1, hs.2]) (fun h _ _ => hq h)
theorem retire_sat {w r : Int} {Q : Nat → RS → Unit → Prop} (hs : Wr ro s) (hq : n < N → Q (n + 1) s ()) : (retireTr w r c got held).sat N (rule ro) n s Q := ask_one (f := fun _ => ()) (s' := s) (by simp [rule, hs.1, hs.2]) (fun h _ _ => hq h)
theorem take_sat {w : Int} {Q : Nat → RS → Int → Prop} (hs : Wr ro s) (hq : n < N → ∀ x, In64 x → Q (n + 1) s x) : (takeTr w c got held).sat N (rule ro) n s Q := ask_one (s' := s) (by simp [rule, hs.1, hs.2]) hq
theorem unlink_sat (hg : got.length = N) {sd : Sid} {m w r : Int} {Q : Nat → RS → Unit → Prop} (hs : Wr ro s) (hq : ∀ n', n < n' → n' ≤ N → Q n' s ()) : (unlinkTr sd m w r c got held).sat N (rule ro) n s Q := by
 unfold unlinkTr
 refine T.sat_bind (find_sat fun h1 x1 hx1 =>?_)
 refine T.sat_bind (load_sat fun h2 x2 hx2 =>?_)
 refine T.sat_bind (load_sat fun h3 x3 hx3 =>?_)
 refine T.sat_cond (fun _ =>?_) (fun _ =>?_)
 ·exact T.sat_bind (store_sat hs fun h4 => hq _ (by omega) (by omega))
 ·refine T.sat_bind (T.sat_loop (fun n' s' _ => n < n' ∧ s' = s) (fun n' s' x hI hn' =>?_) _ _ _ _ (by omega) (by omega) ⟨by omega, rfl⟩)
  obtain ⟨h5, rfl⟩ := hI
  unfold unlinkL0Step
  dsimp only
  refine T.sat_cond (fun _ =>?_) (fun _ =>?_)
  ·refine T.sat_bind (next_sat fun h6 x6 hx6 =>?_)
   refine T.sat_cond (fun _ =>?_) (fun _ =>?_)
   ·exact T.sat_bind (store_sat hs fun h7 => hq _ (by omega) (by omega))
   ·exact ⟨by omega, by omega, rfl⟩
  ·exact hq _ h5 hn'
theorem ordSet_lt (l : List Int) : (ordSet l).Pairwise (· < ·) := by
 have h1 : (ordSet l).Pairwise (fun x y => decide (x ≤ y) = true) := List.pairwise_mergeSort (fun a b c h1 h2 => by simp at *; omega) (fun a b => by simp; omega) _
 have h2 : (ordSet l).Nodup := (List.mergeSort_perm (dedupL l) _).nodup_iff.2 (nodup_dedupL l)
 refine (h1.and h2).imp ?_
 rintro a b ⟨h3, h4⟩
 have := of_decide_eq_true h3
 omega
theorem mem_ordSet (l : List Int) (x : Int) : x ∈ ordSet l ↔ x ∈ l := by
 rw [ordSet, (List.mergeSort_perm (dedupL l) _).mem_iff, mem_dedupL]
theorem dedupL_len (l : List Int) : (dedupL l).length ≤ l.length := by
 induction l with
 | nil => simp [dedupL]
 | cons a l ih =>
  rw [dedupL]
  split
  ·simp; omega
  ·simp; omega
theorem ordSet_len (l : List Int) : (ordSet l).length ≤ l.length := by
 rw [ordSet, List.length_mergeSort]
 exact dedupL_len l
theorem ordSet_ne {l : List Int} (h : l ≠ []) : ordSet l ≠ [] := by
 obtain ⟨a, r, rfl⟩ := List.exists_cons_of_ne_nil h
 exact List.ne_nil_of_mem ((mem_ordSet _ a).2 (by simp))
theorem rule_latch {S : List Int} (hp : S.Pairwise (· < ·)) {k : Nat} (hk : k < S.length) {s : RS} (h1 : s.2 = (S.take k).reverse) (h2 : 0 < k → s.1 = false) : rule ro s ⟨5, S[k], 0, 0, 0, 0⟩ = some (false, (S.take (k + 1)).reverse) := by
 have e1 : (S.take (k + 1)).reverse = S[k] :: (S.take k).reverse := by
  rw [List.take_succ_eq_append_getElem hk, List.reverse_append]
  rfl
 simp only [rule]
 rw [if_neg (by decide), if_neg (by decide), if_pos trivial, h1, e1]
 cases k with
 | zero => rfl
 | succ k =>
  have e2 : (S.take (k + 1)).reverse = S[k] :: (S.take k).reverse := by
   rw [List.take_succ_eq_append_getElem (by omega), List.reverse_append]
   rfl
  rw [e2]
  dsimp only
  rw [if_pos ⟨h2 (by omega), List.pairwise_iff_getElem.1 hp k (k + 1) (by omega) hk (by omega)⟩]
theorem ordG_of {l : List Int} (h1 : l.length ≤ 1000000) (h2 : ∀ x ∈ l, In64 x) : ordG l = true := by
 unfold ordG
 rw [Bool.and_eq_true, List.all_eq_true]
 exact ⟨decide_eq_true h1, fun x hx => by rw [Bool.and_eq_true]; exact ⟨decide_eq_true (h2 x hx).1, decide_eq_true (h2 x hx).2⟩⟩
theorem latch_sat (hg : got.length = N) (hn : n ≤ N) {l : List Int} {Q : Nat → RS → List Int → Prop} (hs : s.2 = []) (h1 : l.length ≤ 1000000) (h2 : ∀ x ∈ l, In64 x) (h3 : l ≠ []) (hq : ∀ n', n < n' → n' ≤ N → Q n' (false, (ordSet l).reverse) (ordSet l)) :
  (latchTr l c got held).sat N (rule ro) n s Q := by
 unfold latchTr
 refine T.sat_gret (ordG_of h1 h2) ?_
 have hp := ordSet_lt l
 have hne := ordSet_ne h3
 have hlen := ordSet_len l
 generalize ordSet l = S at hp hne hlen hq
 refine T.sat_bind (T.sat_loop (fun n' s' (v : Int) => ∃ k : Nat, v = k ∧ k ≤ S.length ∧ n' = n + k ∧ s'.2 = (S.take k).reverse ∧ (0 < k → s'.1 = false)) (fun n' s' x hI hn' =>?_) _ _ _ _ (by omega) (by omega) ⟨0, rfl, by omega, by omega, by simpa using hs, by omega⟩)
 obtain ⟨k, rfl, hk, rfl, k1, k2⟩ := hI
 unfold latchL0Step latchL0B; dsimp only [F.tree, doF]
 by_cases hlt : k < S.length
 ·rw [decide_eq_true (by simp; omega), cond_true]
  have e1 : inR (k : Int) S.length = true := by simp [inR]; omega
  rw [e1, cond_true]
  have e2 : rdE EK.int S (k : Int) = S[k] := by simp [rdE, rd, hlt]
  rw [e2]
  refine T.sat_ask (rule_latch hp hlt k1 k2) (fun h4 x hx =>?_)
  have e3 : w64 ((k : Int) + 1) = ((k + 1 : Nat) : Int) := by rw [w64_id] <;> omega
  rw [e3]
  exact ⟨by omega, k + 1, rfl, hlt, by omega, rfl, fun _ => rfl⟩
 ·obtain rfl : k = S.length := by omega
  rw [decide_eq_false (by simp), cond_false]
  have h0 : 0 < S.length := List.length_pos_iff.2 hne
  have e4 : s' = (false, S.reverse) := by
   rw [List.take_length] at k1
   exact Prod.ext (k2 h0) k1
  rw [e4]
  exact hq _ (by omega) hn'
theorem freeT_sat : ∀ (l : List Int) {n : Nat} {s : RS} {Q : Nat → RS → Unit → Prop}, s.2 = l → n ≤ N → (∀ n' b, n ≤ n' → n' ≤ N → Q n' (b, []) ()) → (freeT l).sat N (rule ro) n s Q
 | [], n, s, Q, hs, hn, hq => by
  have : s = (s.1, []) := Prod.ext rfl hs
  rw [this]
  exact hq _ _ (Nat.le_refl _) hn
 | a :: l, n, s, Q, hs, hn, hq => by
  refine ⟨(true, l), ?_, fun h x hx => freeT_sat l rfl h (fun n' b h1 h2 => hq _ _ (by omega) h2)⟩
  simp [rule, hs]
theorem free_sat {Q : Nat → RS → Unit → Prop} (hs : s.2 = held.reverse) (hl : held.length ≤ 1000000) (hn : n ≤ N) (hq : ∀ n' b, n ≤ n' → n' ≤ N → Q n' (b, []) ()) : (freeTr held).sat N (rule ro) n s Q := by
 unfold freeTr
 rw [decide_eq_true hl, cond_true]
 exact freeT_sat _ hs hn hq
end
def selS (out : List Int) (s : Int × Bool) (x : Int) : Int × Bool := bif !out.contains x then (bif !s.2 then (x, true) else bif decide (x < s.1) then (x, true) else s) else s
def selF (out l : List Int) : Int × Bool := l.foldl (selS out) (0, false)
theorem selF_ok (out : List Int) : ∀ (l : List Int) (s : Int × Bool), (s.2 = true → s.1 ∉ out) →
  ((l.foldl (selS out) s).2 = false → s.2 = false ∧ ∀ x ∈ l, x ∈ out) ∧
  ((l.foldl (selS out) s).2 = true → (l.foldl (selS out) s).1 ∉ out ∧ ((l.foldl (selS out) s).1 ∈ l ∨ s.2 = true ∧ (l.foldl (selS out) s).1 = s.1) ∧ (s.2 = true → (l.foldl (selS out) s).1 ≤ s.1) ∧ ∀ x ∈ l, x ∉ out → (l.foldl (selS out) s).1 ≤ x)
 | [], s, hs => ⟨fun h => ⟨h, by simp⟩, fun h => ⟨hs h, Or.inr ⟨h, rfl⟩, fun _ => Int.le_refl _, by simp⟩⟩
 | x :: l, s, hs => by
  have hx : selS out s x = if x ∈ out then s else if s.2 = true ∧ s.1 ≤ x then s else (x, true) := by
   unfold selS
   by_cases h1 : x ∈ out
   ·simp [h1]
   ·cases h2 : s.2
    ·simp [h1]
    ·by_cases h3 : s.1 ≤ x
     ·simp [h1, h3, show ¬ x < s.1 by omega]
     ·simp [h1, h3, show x < s.1 by omega]
  have ih := selF_ok out l (selS out s x)
  rw [List.foldl_cons]
  rw [hx] at ih ⊢
  by_cases h1 : x ∈ out
  ·simp only [h1, if_true] at ih ⊢
   obtain ⟨a, b⟩ := ih hs
   refine ⟨fun h => ⟨(a h).1, ?_⟩, fun h =>?_⟩
   ·intro y hy
    rcases List.mem_cons.1 hy with rfl | hy
    ·exact h1
    ·exact (a h).2 y hy
   ·obtain ⟨c1, c2, c3, c4⟩ := b h
    refine ⟨c1, c2.imp (fun h => List.mem_cons_of_mem _ h) id, c3, fun y hy hn =>?_⟩
    rcases List.mem_cons.1 hy with rfl | hy
    ·exact absurd h1 hn
    ·exact c4 y hy hn
  ·simp only [h1, if_false] at ih ⊢
   by_cases h2 : s.2 = true ∧ s.1 ≤ x
   ·rw [if_pos h2] at ih ⊢
    obtain ⟨a, b⟩ := ih hs
    refine ⟨fun h => absurd (a h).1 (by simp [h2.1]), fun h =>?_⟩
    obtain ⟨c1, c2, c3, c4⟩ := b h
    refine ⟨c1, c2.imp (fun h => List.mem_cons_of_mem _ h) id, fun _ => c3 h2.1, fun y hy hn =>?_⟩
    rcases List.mem_cons.1 hy with rfl | hy
    ·exact Int.le_trans (c3 h2.1) h2.2
    ·exact c4 y hy hn
   ·rw [if_neg h2] at ih ⊢
    obtain ⟨a, b⟩ := ih (fun _ => h1)
    refine ⟨fun h => absurd (a h).1 (by simp), fun h =>?_⟩
    obtain ⟨c1, c2, c3, c4⟩ := b h
    refine ⟨c1, Or.inl ?_, fun hs2 =>?_, fun y hy hn =>?_⟩
    ·rcases c2 with c2 | ⟨_, c2⟩
     ·exact List.mem_cons_of_mem _ c2
     ·rw [c2]; exact List.mem_cons_self
    ·have := c3 rfl
     simp only at this
     have : ¬ s.1 ≤ x := fun h => h2 ⟨hs2, h⟩
     omega
    ·rcases List.mem_cons.1 hy with rfl | hy
     ·exact c3 rfl
     ·exact c4 y hy hn
def setR (l out : List Int) : List Int := bif (selF out l).2 then out ++ [(selF out l).1] else out
def setN (l : List Int) : Nat → List Int
 | 0 => []
 | i + 1 => setR l (setN l i)
def lack (out l : List Int) : Nat := (l.filter (fun x => !out.contains x)).length
theorem lack_le (out : List Int) (b : Int) : ∀ l : List Int, lack (out ++ [b]) l ≤ lack out l
 | [] => by simp [lack]
 | x :: l => by
  have ih := lack_le out b l
  unfold lack at ih ⊢
  by_cases h1 : x ∈ out
  ·simpa [List.filter_cons, h1] using ih
  ·by_cases h2 : x = b
   ·subst h2
    simp [h1] at ih ⊢; omega
   ·simp [h1, h2] at ih ⊢; omega
theorem lack_lt (out : List Int) (b : Int) (hb : b ∉ out) : ∀ l : List Int, b ∈ l → lack (out ++ [b]) l < lack out l
 | [], h => by simp at h
 | x :: l, h => by
  have h0 := lack_le out b l
  unfold lack at h0 ⊢
  by_cases h2 : x = b
  ·subst h2
   simp [hb] at h0 ⊢; omega
  ·have ih := lack_lt out b hb l ((List.mem_cons.1 h).resolve_left (fun e => h2 e.symm))
   unfold lack at ih
   by_cases h1 : x ∈ out
   ·simpa [List.filter_cons, h1] using ih
   ·simp [h1, h2] at ih ⊢; omega
theorem setN_inv (l : List Int) : ∀ i, (setN l i).Pairwise (· < ·) ∧ (∀ x ∈ setN l i, x ∈ l) ∧ (∀ x ∈ l, x ∉ setN l i → ∀ y ∈ setN l i, y < x) ∧ lack (setN l i) l ≤ l.length - i
 | 0 => by
  refine ⟨List.Pairwise.nil, by simp [setN], by simp [setN], ?_⟩
  exact List.length_filter_le _ _
 | i + 1 => by
  obtain ⟨h1, h2, h3, h4⟩ := setN_inv l i
  have hk := selF_ok (setN l i) l (0, false) (by simp)
  rw [setN, setR]
  change ((selF (setN l i) l).2 = false → _) ∧ ((selF (setN l i) l).2 = true → (selF (setN l i) l).1 ∉ _ ∧ ((selF (setN l i) l).1 ∈ l ∨ _) ∧ _ ∧ ∀ x ∈ l, x ∉ _ → (selF (setN l i) l).1 ≤ x) at hk
  cases e : (selF (setN l i) l).2
  ·have ha := (hk.1 e).2
   refine ⟨h1, h2, h3, ?_⟩
   show lack (setN l i) l ≤ _
   have : lack (setN l i) l = 0 := by
    unfold lack
    rw [List.length_eq_zero_iff, List.filter_eq_nil_iff]
    intro x hx
    simp [ha x hx]
   omega
  ·obtain ⟨c1, c2, _, c4⟩ := hk.2 e
   have c2 : (selF (setN l i) l).1 ∈ l := c2.resolve_right (fun h => by simp at h)
   refine ⟨?_, ?_, ?_, ?_⟩
   ·refine List.pairwise_append.2 ⟨h1, by simp, fun x hx y hy =>?_⟩
    rw [List.mem_singleton.1 hy]
    exact h3 _ c2 c1 x hx
   ·intro x hx
    rcases List.mem_append.1 hx with hx | hx
    ·exact h2 x hx
    ·rw [List.mem_singleton.1 hx]; exact c2
   ·intro x hx hn y hy
    have hn1 : x ∉ setN l i := fun h => hn (List.mem_append_left _ h)
    have hn2 : x ≠ (selF (setN l i) l).1 := fun h => hn (List.mem_append_right _ (by simp [h]))
    rcases List.mem_append.1 hy with hy | hy
    ·exact h3 x hx hn1 y hy
    ·rw [List.mem_singleton.1 hy]
     have := c4 x hx hn1
     omega
   ·have := lack_lt (setN l i) _ c1 l c2
    show lack (setN l i ++ [(selF (setN l i) l).1]) l ≤ _
    omega
theorem asc_eq : ∀ {a b : List Int}, a.Pairwise (· < ·) → b.Pairwise (· < ·) → (∀ x, x ∈ a ↔ x ∈ b) → a = b
 | [], [], _, _, _ => rfl
 | [], y :: b, _, _, h => absurd ((h y).2 (by simp)) (by simp)
 | x :: a, [], _, _, h => absurd ((h x).1 (by simp)) (by simp)
 | x :: a, y :: b, ha, hb, h => by
  obtain ⟨ha1, ha2⟩ := List.pairwise_cons.1 ha
  obtain ⟨hb1, hb2⟩ := List.pairwise_cons.1 hb
  have e : x = y := by
   rcases List.mem_cons.1 ((h x).1 (by simp)) with e | e
   ·exact e
   ·rcases List.mem_cons.1 ((h y).2 (by simp)) with e' | e'
    ·exact e'.symm
    ·have := hb1 x e
     have := ha1 y e'
     omega
  subst e
  rw [asc_eq ha2 hb2 (fun z =>?_)]
  have := h z
  simp only [List.mem_cons] at this
  constructor
  ·intro hz
   exact (this.1 (Or.inr hz)).resolve_left (fun e => by have := ha1 z hz; omega)
  ·intro hz
   exact (this.2 (Or.inr hz)).resolve_left (fun e => by have := hb1 z hz; omega)
theorem setN_eq (l : List Int) : setN l l.length = ordSet l := by
 obtain ⟨h1, h2, h3, h4⟩ := setN_inv l l.length
 refine asc_eq h1 (ordSet_lt l) (fun x =>?_)
 rw [mem_ordSet]
 refine ⟨h2 x, fun hx =>?_⟩
 have : lack (setN l l.length) l = 0 := by omega
 unfold lack at this
 rw [List.length_eq_zero_iff, List.filter_eq_nil_iff] at this
 simpa using this x hx
theorem pSetL1_eq (l out : List Int) (n i : Int) (hl : l.length ≤ 1000000000) (ho : out.length ≤ 1000000000) : pSetL1N ((l, (), 0, false, n, i, l, Int.ofNat l.length, 0, ()), out, ()) = some ((l, (), (selF out l).1, (selF out l).2, n, i, ()), out, ()) := by
 refine loopF_at (fun j => ((l, (), ((l.take j).foldl (selS out) (0, false)).1, ((l.take j).foldl (selS out) (0, false)).2, n, i, l, Int.ofNat l.length, (j : Int), ()), out, ())) (k := l.length) (by unfold FU; omega) (fun j hj =>?_) ?_
 ·show pSetL1B pHasN l _ _ n i l (Int.ofNat l.length) (j : Int) out = _
  unfold pSetL1B
  rw [decide_eq_true (show ((j : Nat) : Int) < Int.ofNat l.length by simp; omega), inR_ge hj, rd_ix, w64_ix (by omega), pHas_eq _ _ ho]
  have e : (l.take (j + 1)).foldl (selS out) (0, false) = selS out ((l.take j).foldl (selS out) (0, false)) (l.getD j 0) := by
   rw [List.take_add_one, List.foldl_append, List.getElem?_eq_getElem hj]
   simp [List.getD_eq_getElem?_getD, hj]
  rw [e]
  generalize (l.take j).foldl (selS out) (0, false) = s
  generalize l.getD j 0 = x
  obtain ⟨b, m⟩ := s
  unfold selS
  cases h1 : out.contains x
  ·cases m
   ·rfl
   ·by_cases h2 : x < b
    ·simp [h2]
    ·simp [h2]
  ·rfl
 ·show pSetL1B pHasN l _ _ n i l (Int.ofNat l.length) (l.length : Int) out = _
  unfold pSetL1B
  rw [decide_eq_false (by simp), List.take_length]
  rfl
theorem setN_len (l : List Int) : ∀ i, (setN l i).length ≤ i
 | 0 => Nat.le_refl _
 | i + 1 => by
  have := setN_len l i
  rw [setN, setR]
  cases (selF (setN l i) l).2
  ·show (setN l i).length ≤ _
   omega
  ·show (setN l i ++ [_]).length ≤ _
   simp
   omega
theorem pSet_eq (l : List Int) (hl : l.length ≤ 999999999) : pSetN ((l, ()), ()) = some ((ordSet l, ()), ()) := by
 have h0 : pSetL0N ((l, (), Int.ofNat l.length, 0, ()), [], ()) = some (((), ()), setN l l.length, ()) := by
  refine loopF_at (fun j => ((l, (), Int.ofNat l.length, (j : Int), ()), setN l j, ())) (k := l.length) (by unfold FU; omega) (fun j hj =>?_) ?_
  ·show pSetL0B pSetL1N l (Int.ofNat l.length) (j : Int) (setN l j) = _
   have hn := setN_len l j
   unfold pSetL0B
   rw [decide_eq_true (show ((j : Nat) : Int) < Int.ofNat l.length by simp; omega), pSetL1_eq l _ _ _ (by omega) (by omega)]
   rw [show setN l (j + 1) = setR l (setN l j) from rfl, setR]
   show (bif (selF (setN l j) l).2 then bif decide ((setN l j).length + [(selF (setN l j) l).1].length ≤ 1000000000) then _ else none else _) = _
   cases e : (selF (setN l j) l).2
   ·show some (Sum.inl ((l, (), Int.ofNat l.length, w64 ((j : Int) + 1), ()), setN l j, ())) = _
    rw [w64_ix (by omega)]
    rfl
   ·rw [decide_eq_true (by simp; omega)]
    show some (Sum.inl ((l, (), Int.ofNat l.length, w64 ((j : Int) + 1), ()), setN l j ++ [_], ())) = _
    rw [w64_ix (by omega)]
    rfl
  ·show pSetL0B pSetL1N l (Int.ofNat l.length) (l.length : Int) (setN l l.length) = _
   unfold pSetL0B
   rw [decide_eq_false (by simp)]
   rfl
 rw [← setN_eq]
 show (pSetL0N ((l, (), Int.ofNat l.length, 0, ()), [], ())).bind _ = _
 rw [h0]
 rfl
end Go.Ax.Cd
