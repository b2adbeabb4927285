/- Merged. -/
import Derived.Test.YthcfkplfmjcmoaaGreatDoorQ14
import Derived.Test.YthcfkplfmjcmoaaGreatDoorProg
import Derived.KernelRfl
namespace Go.Ax.Cd
open Go.Proofs
set_option linter.unusedVariables false
set_option maxRecDepth 100000
noncomputable def kd : Nat → Option EK
 | 3 => some .int
 | 4 => some .bool
 | 63 => some (.st .acc)
 | 149 => some (.st .pr)
 | 151 => some (.st .en)
 | 33 => some (.st .opn)
 | 41 => some (.st .res)
 | 73 => some (.st .thr)
 | 111 => some (.st .ev)
 | 122 => some (.st .tou)
 | 81 => some (.st .cal)
 | 24 => some (.sl .int)
 | 47 => some (.sl (.st .opn))
 | 57 => some (.sl (.st .tou))
 | 48 => some (.sl (.st .res))
 | _ => none
noncomputable def gl : Glb := fun g => match g with
 | 0 => some ⟨.st .sides, ⟨⟨1, 3, 1, 2⟩, ⟨2, 4, 2, 1⟩⟩⟩
 | _ => none
noncomputable def body (f : Func) : Code := (f.body).getD .skip
abbrev mach : List OSh := [.box [.e (.st .cfg), .e (.sl .int), .own 1, .sln .int], .arr (.st .acc)]
abbrev machP : List OSh := [.box [.e (.st .cfg), .e (.sl .int), .own 1, .any], .arr (.st .acc)]
abbrev rc : Vh := .agg [.ptr 0 0, .e .int, .e .int]
abbrev pm : Vh := .s (.ptr 0 0)
abbrev vi : Vh := .s (.e .int)
abbrev vb : Vh := .s (.e .bool)
abbrev SpM (vs rs : List Vh) := VhL vs × OShL mach → Option ((VhL rs × OShL mach) ⊕ (VhL [.agg []] × OShL machP))
noncomputable abbrev cm (vs rs : List Vh) (sp : SpM vs rs) : Con := Con.ofP vs mach rs mach 188 (.agg []) machP sp
noncomputable def runM (f : Func) (vs rs : List Vh) (G : List (Nat × Con)) (Lc : List (Nat × LCon)) (nh : List (Nat × List NilH)) (x : VhL vs × OShL mach) := exec Tryz.prog gl kd G 2 plan Lc nh (body f) (bX f.ntmps vs mach x) (aEp Tryz.prog 2 f.results.toList rs mach 188 (.agg []) machP)
theorem hm : (Tryz.prog : Program).follows .mixedOrders = true := by kernel_rfl
theorem GOk.nil {P : Program} {gl : Glb} : GOk P gl [] := fun p hp => nomatch hp
theorem GOk.cons {P : Program} {gl : Glb} {f : Nat} {C : Con} {G : List (Nat × Con)} (hc : Callable P f) (hs : aK P gl f C) (h : GOk P gl G) : GOk P gl ((f, C) :: G) := fun p hp => by
 rcases List.mem_cons.1 hp with rfl | hp
 ·exact ⟨hc, hs⟩
 ·exact h p hp
theorem cmk {f : Nat} {fn : Func} {vs rs : List Vh} {G : List (Nat × Con)} {Lc : List (Nat × LCon)} {nh : List (Nat × List NilH)} {sp : SpM vs rs} (hG : GOk Tryz.prog gl G) (hf : (Tryz.prog : Program).funcs[f]? = some fn) (hb : fn.body = some (body fn)) (hL : eZ Tryz.prog gl 2 Lc (body fn)) (hx : ∀ x, runM fn vs rs G Lc nh x = sp x) : aK Tryz.prog gl f (cm vs rs sp) :=
 aUp (os := mach) hm hG bI hf hb (res := fn.results.toList) (by simp) (Lc := Lc) hL hx
noncomputable abbrev cq (vs : List Vh) (os : List OSh) (rs : List Vh) (os' osP : List OSh) (sp : VhL vs × OShL os → Option ((VhL rs × OShL os') ⊕ (VhL [.agg []] × OShL osP))) : Con := Con.ofP vs os rs os' 188 (.agg []) osP sp
noncomputable def runQ (f : Func) (vs : List Vh) (os : List OSh) (rs : List Vh) (os' osP : List OSh) (G : List (Nat × Con)) (Lc : List (Nat × LCon)) (nh : List (Nat × List NilH)) (x : VhL vs × OShL os) :=
 exec Tryz.prog gl kd G os.length plan Lc nh (body f) (bX f.ntmps vs os x) (aEp Tryz.prog os.length f.results.toList rs os' 188 (.agg []) osP)
noncomputable def runN (f : Func) (vs : List Vh) (os : List OSh) (rs : List Vh) (os' : List OSh) (G : List (Nat × Con)) (Lc : List (Nat × LCon)) (nh : List (Nat × List NilH)) (x : VhL vs × OShL os) :=
 exec Tryz.prog gl kd G os.length plan Lc nh (body f) (bX f.ntmps vs os x) (finR Tryz.prog os.length f.results.toList rs os')
noncomputable def gY (n0 : Nat) (f : Func) (i : Nat) (ts : List Nat) (vs : List Vh) (os : List OSh) (fi : Fin) (G : List (Nat × Con)) (Lc : List (Nat × LCon)) (nh : List (Nat × List NilH)) (x : VhL vs × OShL os) : Option ((VhL vs × OShL os) ⊕ fi.Y) :=
 exec Tryz.prog gl kd G n0 plan Lc nh (bE (body f) i) { tm := Go.Ax.setT f.ntmps (ts.zip (VhL.enc vs x.1)), hp := OShL.enc os x.2 } (aGj n0 f.ntmps ts vs os fi)
theorem cqk {f : Nat} {fn : Func} {vs : List Vh} {os : List OSh} {rs : List Vh} {os' osP : List OSh} {G : List (Nat × Con)} {Lc : List (Nat × LCon)} {nh : List (Nat × List NilH)} {sp : VhL vs × OShL os → Option ((VhL rs × OShL os') ⊕ (VhL [.agg []] × OShL osP))} (hG : GOk Tryz.prog gl G) (hf : (Tryz.prog : Program).funcs[f]? = some fn) (hb : fn.body = some (body fn)) (hL : eZ Tryz.prog gl os.length Lc (body fn)) (hx : ∀ x, runQ fn vs os rs os' osP G Lc nh x = sp x) : aK Tryz.prog gl f (cq vs os rs os' osP sp) :=
 aUp hm hG bI hf hb (res := fn.results.toList) (by simp) (Lc := Lc) hL hx
theorem cnk {f : Nat} {fn : Func} {vs : List Vh} {os : List OSh} {rs : List Vh} {os' : List OSh} {G : List (Nat × Con)} {Lc : List (Nat × LCon)} {nh : List (Nat × List NilH)} {sp : VhL vs × OShL os → Option (VhL rs × OShL os')} (hG : GOk Tryz.prog gl G) (hf : (Tryz.prog : Program).funcs[f]? = some fn) (hb : fn.body = some (body fn)) (hL : eZ Tryz.prog gl os.length Lc (body fn)) (hx : ∀ x, runN fn vs os rs os' G Lc nh x = sp x) : aK Tryz.prog gl f (Con.of vs os rs os' sp) :=
 aOw hm hG bI hf hb (res := fn.results.toList) (by simp) (Lc := Lc) hL hx
noncomputable def runF (f : Func) (vs : List Vh) (os : List OSh) (r : RFin) (G : List (Nat × Con)) (Lc : List (Nat × LCon)) (nh : List (Nat × List NilH)) (x : VhL vs × OShL os) : Option r.Y :=
 exec Tryz.prog gl kd G os.length plan Lc nh (body f) (bX f.ntmps vs os x) r.fin
noncomputable abbrev rf2 (f : Func) (n0 : Nat) (rs1 : List Vh) (os1 : List OSh) (rs2 : List Vh) (os2 osP : List OSh) : RFin := (RFin.ret Tryz.prog n0 f.results.toList rs1 os1).or ((RFin.ret Tryz.prog n0 f.results.toList rs2 os2).or (RFin.pan n0 188 (.agg []) osP))
theorem cfk {f : Nat} {fn : Func} {vs : List Vh} {os : List OSh} {rs1 : List Vh} {os1 : List OSh} {rs2 : List Vh} {os2 osP : List OSh} {G : List (Nat × Con)} {Lc : List (Nat × LCon)} {nh : List (Nat × List NilH)} {sp : VhL vs × OShL os → Option (rf2 fn os.length rs1 os1 rs2 os2 osP).Y} (hG : GOk Tryz.prog gl G) (hf : (Tryz.prog : Program).funcs[f]? = some fn) (hb : fn.body = some (body fn)) (hL : eZ Tryz.prog gl os.length Lc (body fn)) (hx : ∀ x, runF fn vs os (rf2 fn os.length rs1 os1 rs2 os2 osP) G Lc nh x = sp x) : aK Tryz.prog gl f (Con.ofF vs os (rf2 fn os.length rs1 os1 rs2 os2 osP) sp) :=
 bHp hm hG bI hf hb (Lc := Lc) hL (RFin.or_ok (RFin.ret_ok (by simp) _ _) (RFin.or_ok (RFin.ret_ok (by simp) _ _) (RFin.pan_ok _ _ _))) hx
theorem lwk {n0 : Nat} {f : Func} {i : Nat} {ts : List Nat} {vs : List Vh} {os : List OSh} {fi : Fin} {G : List (Nat × Con)} {Lc : List (Nat × LCon)} {nh : List (Nat × List NilH)} {sp : VhL vs × OShL os → Option fi.Y} (hG : GOk Tryz.prog gl G) (hL : eZ Tryz.prog gl n0 Lc (bE (body f) i)) (hf : fi.Ok gl n0 f.ntmps)
  (hs : ∀ x y, sp x = some y → ∃ m, cZ (gY n0 f i ts vs os fi G Lc nh) m x = some y) : LOk Tryz.prog gl n0 (LCon.of f.ntmps ts vs os fi sp) (bE (body f) i) :=
 bHo hm hG bI hL hf (fun x => rfl) hs
theorem bCl {n0 : Nat} {Lc : List (Nat × LCon)} {b : Code} (h : Lc.find? (fun p => p.1 == gP b) = none) : ∀ p, Lc.find? (fun p => p.1 == gP b) = some p → LOk Tryz.prog gl n0 p.2 b := fun p hp => by
 rw [h] at hp
 cases hp
theorem aA {n0 : Nat} {Lc : List (Nat × LCon)} {c : Code} (h : gQ c = []) : eZ Tryz.prog gl n0 Lc c := bD h trivial
theorem bLd {Lc : List (Nat × LCon)} {c : Code} (h : gQ c = []) : eZ Tryz.prog gl 2 Lc c := bD h trivial
def pT {γ Z : Type} (eO : γ → List Acc → Z) (eS : List Acc → Z) : Out γ → Option Z
 | .ok a d => some (eO a d)
 | .stop d => some (eS d)
 | .bot => none
abbrev outO {rs : List Vh} {α : Type} (enc : α → VhL rs) (hd : α → List Int) (c : Cfg) (got : List Int) (o : Out α) : Option ((VhL rs × OShL mach) ⊕ (VhL [.agg []] × OShL machP)) :=
 pT (fun a d => (Sum.inl (enc a, (c, got, (), hd a, ()), d, ()) : (VhL rs × OShL mach) ⊕ (VhL [.agg []] × OShL machP))) (fun d => Sum.inr (((), ()), (c, got, (), (), ()), d, ())) o
def T.loop {σ β : Type} (body : σ → T (σ ⊕ β)) : Nat → σ → T β
 | 0, _ => .bot
 | k + 1, s => (body s).bind fun
  | .inl s' => T.loop body k s'
  | .inr b => .ret b
def outR {σ β X Y : Type} (eX : σ → List Acc → X) (eY : β → List Acc → Y) (r : σ ⊕ β) (d : List Acc) : X ⊕ Y := match r with
 | .inl s => .inl (eX s d)
 | .inr b => .inr (eY b d)
theorem aJs {σ β X Y : Type} {eX : σ → List Acc → X} {eY : β → List Acc → Y} {eS : List Acc → Y} {got : List Int} {body : σ → T (σ ⊕ β)} {round : X → Option (X ⊕ Y)}
  (hr : ∀ s d, round (eX s d) = pT (outR eX eY) (fun d => .inr (eS d)) ((body s).exec got d)) : ∀ (k : Nat) (s : σ) (d : List Acc) (y : Y), pT eY eS ((T.loop body k s).exec got d) = some y → cZ round k (eX s d) = some y
 | 0, s, d, y, h => by simp [T.loop, T.exec, pT] at h
 | k + 1, s, d, y, h => by
  simp only [T.loop] at h
  rw [T.exec_bind] at h
  simp only [cZ]
  rw [hr s d]
  cases he : (body s).exec got d with
  | ok r d' =>
   rw [he] at h
   cases r with
   | inl s' => exact aJs hr k s' d' y h
   | inr b => exact h
  | stop d' => rw [he] at h; exact h
  | bot => rw [he] at h; exact h
structure Ifc (X Z : Type) where
 α : Type
 tr : X → T α
 got : X → List Int
 did : X → List Acc
 enc : X → α → List Acc → Z
 stop : X → List Acc → Z
def Ifc.spec {X Z : Type} (I : Ifc X Z) (x : X) : Option Z := pT (I.enc x) (I.stop x) ((I.tr x).exec (I.got x) (I.did x))
@[reducible] def mI {vs rs : List Vh} {α : Type} (tr : VhL vs × OShL mach → T α) (enc : VhL vs → α → VhL rs) (hd : List Int → α → List Int) : Ifc (VhL vs × OShL mach) ((VhL rs × OShL mach) ⊕ (VhL [.agg []] × OShL machP)) where
 α := α
 tr := tr
 got x := x.2.1.2.1
 did x := x.2.2.1
 enc x a d := .inl (enc x.1 a, (x.2.1.1, x.2.1.2.1, (), hd x.2.1.2.2.2.1 a, ()), d, ())
 stop x d := .inr (((), ()), (x.2.1.1, x.2.1.2.1, (), (), ()), d, ())
def T.gret {α : Type} (g : Bool) (a : α) : T α := bif g then .ret a else .bot
theorem aD {n : Int} (h0 : 0 ≤ n) (h1 : n < 9223372036854775808) : w64 n = n := by
 unfold w64
 rw [IntKind.wrap_i64]
 omega
abbrev one (i : Int) : VhL [vi] := (i, ())
abbrev va : Vh := .s (.e (.st .acc))
def spDo (x : VhL [pm, .s (.e (.st .acc))] × OShL mach) : Option ((VhL [vi] × OShL mach) ⊕ (VhL [.agg []] × OShL machP)) := outO one (fun _ => x.2.1.2.2.2.1) x.2.1.1 x.2.1.2.1 ((T.ask x.1.2.1 .ret).exec x.2.1.2.1 x.2.2.1)
theorem do_g : Callable Tryz.prog 139 := ⟨Tryz.f139, body Tryz.f139, by kernel_rfl, by kernel_rfl, by kernel_rfl⟩
theorem bLe (c : Cfg) (got : List Int) (did : List Acc) (held : List Int) (x : Acc) : runM Tryz.f139 [pm, .s (.e (.st .acc))] [vi] [] [] [] (((), x, ()), ((c, got, (), held, ()), did, ())) =
  bif decide (did.length + [x].length ≤ 1000000000) then
   bif decide (Int.ofNat (did ++ [x]).length > Int.ofNat got.length) then some (Sum.inr (((), ()), (c, got, (), (), ()), did ++ [x], ()))
   else bif inR (w64 (Int.ofNat (did ++ [x]).length - 1)) got.length then some (Sum.inl ((rdE EK.int got (w64 (Int.ofNat (did ++ [x]).length - 1)), ()), (c, got, (), held, ()), did ++ [x], ())) else none
  else none := by kernel_rfl
theorem bCm : aK Tryz.prog gl 139 (cm [pm, .s (.e (.st .acc))] [vi] spDo) := by
 refine cmk (fn := Tryz.f139) GOk.nil (by kernel_rfl) (by kernel_rfl) (Lc := []) (nh := []) (bLd (by kernel_rfl)) ?_
 rintro ⟨⟨_, x, _⟩, ⟨c, got, _, held, _⟩, did, _⟩
 rw [bLe]
 unfold spDo
 simp only [T.exec, List.length_append, List.length_cons, List.length_nil]
 by_cases h1 : did.length < 1000000000
 ·have e1 : w64 (Int.ofNat (did.length + (0 + 1)) - 1) = did.length := by rw [aD] <;> simp <;> omega
  have a1 : decide (did.length + (0 + 1) ≤ 1000000000) = true := decide_eq_true (by omega)
  rw [e1, a1, if_pos h1]
  by_cases h2 : did.length < got.length
  ·have a2 : decide (Int.ofNat (did.length + (0 + 1)) > Int.ofNat got.length) = false := decide_eq_false (by simp; omega)
   have a3 : inR (did.length : Int) got.length = true := by simp [inR]; omega
   rw [a2, a3, if_pos h2]
   simp [pT, rdE, rd, one, EK.dft]
  ·have a2 : decide (Int.ofNat (did.length + (0 + 1)) > Int.ofNat got.length) = true := decide_eq_true (by simp; omega)
   rw [a2, if_neg h2]
   rfl
 ·have a1 : decide (did.length + (0 + 1) ≤ 1000000000) = false := decide_eq_false (by omega)
  rw [a1, if_neg h1]
  rfl
def T.val {α : Type} (t : T α) : Option α := match t.exec [] [] with
 | .ok a _ => some a
 | _ => none
theorem T.exec_nil {α : Type} {t : T α} {a : α} {d : List Acc} (h : t.exec [] [] = .ok a d) : d = [] := by
 cases t with
 | ret b => simp [T.exec] at h; exact h.2
 | ask c k => simp [T.exec] at h
 | bot => simp [T.exec] at h
theorem T.val_ret {α : Type} (a : α) : (T.ret a).val = some a := rfl
theorem T.val_bind {α β : Type} (t : T α) (k : α → T β) : (t.bind k).val = t.val.bind fun a => (k a).val := by
 unfold T.val
 rw [T.exec_bind]
 cases h : t.exec [] [] with
 | ok a d => rw [T.exec_nil h]; rfl
 | stop d => rfl
 | bot => rfl
structure PIf (X Z : Type) where
 α : Type
 tr : X → T α
 enc : X → α → Z
def PIf.spec {X Z : Type} (I : PIf X Z) (x : X) : Option Z := ((I.tr x).val).map (I.enc x)
theorem cD {X Z Z' β : Type} {I : PIf X Z} {x : X} {eO' : β → Z'} {k : I.α → T β} {F : Z → Option Z'} (hK : ∀ a, F (I.enc x a) = ((k a).val).map eO') : ((I.spec x).bind F) = (((I.tr x).bind k).val).map eO' := by
 rw [T.val_bind]
 unfold PIf.spec
 cases (I.tr x).val with
 | none => rfl
 | some a => exact hK a
theorem retP {X Z Z' : Type} {I : PIf X Z} {x : X} {a : I.α} {F : Z → Option Z'} (h : I.tr x = .ret a) : ((I.spec x).bind F) = F (I.enc x a) := by
 unfold PIf.spec
 rw [h]
 rfl
theorem aP {β Z : Type} {c : Bool} {A B : Option Z} {t1 t2 : T β} {eO : β → Z} (h1 : c = true → A = (t1.val).map eO) (h2 : c = false → B = (t2.val).map eO) : cond c A B = ((cond c t1 t2).val).map eO := by
 cases c
 ·exact h2 rfl
 ·exact h1 rfl
def FU : Nat := 4611686018427387904
def bMr {σ β X Y : Type} (eX : σ → X) (eY : β → Y) (r : σ ⊕ β) : X ⊕ Y := match r with
 | .inl s => .inl (eX s)
 | .inr b => .inr (eY b)
theorem aZ {σ β X Y : Type} {eX : σ → X} {eY : β → Y} {body : σ → T (σ ⊕ β)} {round : X → Option (X ⊕ Y)} (hr : ∀ s, round (eX s) = ((body s).val).map (bMr eX eY)) : ∀ (k : Nat) (s : σ) (y : Y), ((T.loop body k s).val).map eY = some y → cZ round k (eX s) = some y
 | 0, s, y, h => by simp [T.loop, T.val, T.exec] at h
 | k + 1, s, y, h => by
  simp only [T.loop] at h
  rw [T.val_bind] at h
  simp only [cZ]
  rw [hr s]
  cases he : (body s).val with
  | none => rw [he] at h; cases h
  | some r =>
   rw [he] at h
   cases r with
   | inl s' => exact aZ hr k s' y h
   | inr b => exact h
def aM (x : Int) : Prop := -9223372036854775808 ≤ x ∧ x ≤ 9223372036854775807
section
variable {σ : Type} (N : Nat) (st : σ → Acc → Option σ)
def T.sat {α : Type} : T α → Nat → σ → (Nat → σ → α → Prop) → Prop
 | .ret a, n, s, Q => Q n s a
 | .ask c k, n, s, Q => ∃ s', st s c = some s' ∧ (n < N → ∀ x, aM x → (k x).sat (n + 1) s' Q)
 | .bot, _, _, _ => False
variable {N st}
theorem T.sat_mono {α : Type} {t : T α} : ∀ {n : Nat} {s : σ} {Q Q' : Nat → σ → α → Prop}, t.sat N st n s Q → (∀ n s a, Q n s a → Q' n s a) → t.sat N st n s Q' := by
 induction t with
 | ret a => intro n s Q Q' h hq; exact hq _ _ _ h
 | ask c k ih => rintro n s Q Q' ⟨s', h1, h2⟩ hq; exact ⟨s', h1, fun hn x hx => ih x (h2 hn x hx) hq⟩
 | bot => intro n s Q Q' h hq; exact h
theorem T.sat_le {α : Type} {t : T α} : ∀ {n : Nat} {s : σ} {Q : Nat → σ → α → Prop}, t.sat N st n s Q → n ≤ N → t.sat N st n s (fun n' s' a => n ≤ n' ∧ n' ≤ N ∧ Q n' s' a) := by
 induction t with
 | ret a => intro n s Q h hn; exact ⟨Nat.le_refl _, hn, h⟩
 | ask c k ih => rintro n s Q ⟨s', h1, h2⟩ hn; exact ⟨s', h1, fun hl x hx => T.sat_mono (ih x (h2 hl x hx) hl) (fun n' s' a h => ⟨by omega, h.2⟩)⟩
 | bot => intro n s Q h hn; exact h
theorem T.sat_bind {α β : Type} {t : T α} {f : α → T β} : ∀ {n : Nat} {s : σ} {Q : Nat → σ → β → Prop}, t.sat N st n s (fun n s a => (f a).sat N st n s Q) → (t.bind f).sat N st n s Q := by
 induction t with
 | ret a => intro n s Q h; exact h
 | ask c k ih => rintro n s Q ⟨s', h1, h2⟩; exact ⟨s', h1, fun hn x hx => ih x (h2 hn x hx)⟩
 | bot => intro n s Q h; exact h
theorem T.sat_ask {α : Type} {c : Acc} {f : Int → T α} {n : Nat} {s s' : σ} {Q : Nat → σ → α → Prop} (h1 : st s c = some s') (h2 : n < N → ∀ x, aM x → (f x).sat N st (n + 1) s' Q) : ((T.ask c T.ret).bind f).sat N st n s Q := ⟨s', h1, h2⟩
theorem T.sat_gret {α β : Type} {g : Bool} {a : α} {f : α → T β} {n : Nat} {s : σ} {Q : Nat → σ → β → Prop} (h1 : g = true) (h2 : (f a).sat N st n s Q) : ((T.gret g a).bind f).sat N st n s Q := by
 rw [h1]
 exact h2
theorem T.sat_cond {α : Type} {b : Bool} {x y : T α} {n : Nat} {s : σ} {Q : Nat → σ → α → Prop} (h1 : b = true → x.sat N st n s Q) (h2 : b = false → y.sat N st n s Q) : (bif b then x else y).sat N st n s Q := by
 cases b with
 | true => exact h1 rfl
 | false => exact h2 rfl
theorem T.sat_loop {τ β : Type} {body : τ → T (τ ⊕ β)} {Q : Nat → σ → β → Prop} (I : Nat → σ → τ → Prop)
  (hb : ∀ n s x, I n s x → n ≤ N → (body x).sat N st n s (fun n' s' r => match r with | .inl x' => n < n' ∧ I n' s' x' | .inr b => Q n' s' b)) :
  ∀ (k n : Nat) (s : σ) (x : τ), N < n + k → n ≤ N → I n s x → (T.loop body k x).sat N st n s Q
 | 0, n, s, x, hk, hn, _ => by omega
 | k + 1, n, s, x, hk, hn, hI => by
  rw [T.loop]
  refine T.sat_bind (T.sat_mono (T.sat_le (hb n s x hI hn) hn) ?_)
  rintro n' s' (x' | b) ⟨h1, h2, h3⟩
  ·exact T.sat_loop I hb k n' s' x' (by have := h3.1; omega) h2 h3.2
  ·exact h3
def pU (st : σ → Acc → Option σ) : σ → List Acc → Option σ
 | s, [] => some s
 | s, c :: r => (st s c).bind fun s' => pU st s' r
theorem T.sat_exec {α : Type} {got : List Int} (hN : got.length = N) (hN2 : N < 1000000000) (hg : ∀ x ∈ got, aM x) {t : T α} : ∀ {d : List Acc} {s : σ} {Q : Nat → σ → α → Prop}, d.length ≤ N → t.sat N st d.length s Q →
  (∃ a e s', t.exec got d = .ok a (d ++ e) ∧ pU st s e = some s' ∧ Q (d ++ e).length s' a ∧ (d ++ e).length ≤ N) ∨ (∃ e s', t.exec got d = .stop (d ++ e) ∧ pU st s e = some s' ∧ (d ++ e).length = N + 1) := by
 induction t with
 | ret a =>
  intro d s Q hd h
  exact .inl ⟨a, [], s, by simp [T.exec], rfl, by simpa [T.sat] using h, by simpa using hd⟩
 | bot => intro d s Q hd h; exact h.elim
 | ask c k ih =>
  rintro d s Q hd ⟨s', h1, h2⟩
  simp only [T.exec]
  rw [if_pos (by omega)]
  by_cases hl : d.length < got.length
  ·rw [if_pos hl]
   have hm : aM (got.getD d.length 0) := by
    rw [List.getD_eq_getElem?_getD, List.getElem?_eq_getElem hl]
    exact hg _ (List.getElem_mem hl)
   have h3 := h2 (by omega) _ hm
   have e1 : (d ++ [c]).length = d.length + 1 := by simp
   rw [← e1] at h3
   rcases ih _ (by omega) h3 with ⟨a, e, s2, k1, k2, k3, k4⟩ | ⟨e, s2, k1, k2, k3⟩
   ·exact .inl ⟨a, c :: e, s2, by simpa using k1, by simp [pU, h1, k2], by simpa using k3, by simpa using k4⟩
   ·exact .inr ⟨c :: e, s2, by simpa using k1, by simp [pU, h1, k2], by simpa using k3⟩
  ·rw [if_neg hl]
   exact .inr ⟨[c], s', rfl, by simp [pU, h1], by simp; omega⟩
end
end Go.Ax.Cd
