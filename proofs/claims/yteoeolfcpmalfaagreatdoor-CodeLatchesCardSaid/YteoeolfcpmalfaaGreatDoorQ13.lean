/- The package code by contracts: the machine. -/
import Derived.Test.YteoeolfcpmalfaaGreatDoorQ12
import Derived.Test.YteoeolfcpmalfaaGreatDoorProg
import Derived.KernelRfl
namespace Go.Ax.Cd
open Go.Proofs
set_option linter.unusedVariables false
set_option maxRecDepth 100000

noncomputable def kd : Nat → Option EK
  | 3 => some .int
  | 4 => some .bool
  | 30 => some (.st .acc)
  | 67 => some (.st .pr)
  | 69 => some (.st .en)
  | _ => none
noncomputable def gl : Glb := fun g => match g with
  | 0 => some ⟨.st .sides, ⟨⟨1, 3, 1, 2⟩, ⟨2, 4, 2, 1⟩⟩⟩
  | _ => none
noncomputable def body (f : Func) : Code := (f.body).getD .skip
abbrev mach : List OSh := [.box [.e (.st .cfg), .e (.sl .int), .own 1, .sln .int], .arr (.st .acc)]
abbrev machP : List OSh := [.box [.e (.st .cfg), .e (.sl .int), .own 1, .any], .arr (.st .acc)]
abbrev rc : Vh := .agg [.ptr 0 0, .e .int, .e .int]
abbrev pm : Vh := .s (.ptr 0 0)
abbrev vi : Vh := .s (.e .int)
abbrev vb : Vh := .s (.e .bool)
abbrev SpM (vs rs : List Vh) := VhL vs × OShL mach → Option ((VhL rs × OShL mach) ⊕ (VhL [.agg []] × OShL machP))
noncomputable abbrev cm (vs rs : List Vh) (sp : SpM vs rs) : Con := Con.ofP vs mach rs mach 59 (.agg []) machP sp
noncomputable def runM (f : Func) (vs rs : List Vh) (G : List (Nat × Con)) (Lc : List (Nat × LCon)) (nh : List (Nat × List NilH)) (x : VhL vs × OShL mach) := exec Tryz.prog gl kd G 2 plan Lc nh (body f) (startSt f.ntmps vs mach x) (finRP Tryz.prog 2 f.results.toList rs mach 59 (.agg []) machP)
noncomputable def runP (f : Func) (vs rs : List Vh) (G : List (Nat × Con)) (Lc : List (Nat × LCon)) (nh : List (Nat × List NilH)) (x : VhL vs × OShL []) := exec Tryz.prog gl kd G 0 plan Lc nh (body f) (startSt f.ntmps vs [] x) (finR Tryz.prog 0 f.results.toList rs [])
noncomputable def runL (f : Func) (i : Nat) (ts : List Nat) (vs : List Vh) (os : List OSh) (fi : Fin) (G : List (Nat × Con)) (Lc : List (Nat × LCon)) (nh : List (Nat × List NilH)) (x : VhL vs × OShL os) : Option ((VhL vs × OShL os) ⊕ fi.Y) :=
  exec Tryz.prog gl kd G 2 plan Lc nh (getL (body f) i) { tm := Go.Ax.setT f.ntmps (ts.zip (VhL.enc vs x.1)), hp := OShL.enc os x.2 } (roundK 2 f.ntmps ts vs os fi)
theorem hm : (Tryz.prog : Program).follows .mixedOrders = true := by kernel_rfl
theorem GOk.nil {P : Program} {gl : Glb} : GOk P gl [] := fun p hp => nomatch hp
theorem GOk.cons {P : Program} {gl : Glb} {f : Nat} {C : Con} {G : List (Nat × Con)} (hc : Callable P f) (hs : Sound P gl f C) (h : GOk P gl G) : GOk P gl ((f, C) :: G) := fun p hp => by
  rcases List.mem_cons.1 hp with rfl | hp
  · exact ⟨hc, hs⟩
  · exact h p hp
theorem cmk {f : Nat} {fn : Func} {vs rs : List Vh} {G : List (Nat × Con)} {Lc : List (Nat × LCon)} {nh : List (Nat × List NilH)} {sp : SpM vs rs} (hG : GOk Tryz.prog gl G) (hf : (Tryz.prog : Program).funcs[f]? = some fn) (hb : fn.body = some (body fn)) (hL : LcOk Tryz.prog gl 2 Lc (body fn)) (hx : ∀ x, runM fn vs rs G Lc nh x = sp x) : Sound Tryz.prog gl f (cm vs rs sp) :=
  conP_ok (os := mach) hm hG plan_ok hf hb (res := fn.results.toList) (by simp) (Lc := Lc) hL hx
theorem cpk {f : Nat} {fn : Func} {vs rs : List Vh} {G : List (Nat × Con)} {Lc : List (Nat × LCon)} {nh : List (Nat × List NilH)} {sp : VhL vs × OShL [] → Option (VhL rs × OShL [])} (hG : GOk Tryz.prog gl G) (hf : (Tryz.prog : Program).funcs[f]? = some fn) (hb : fn.body = some (body fn)) (hL : LcOk Tryz.prog gl 0 Lc (body fn)) (hx : ∀ x, runP fn vs rs G Lc nh x = sp x) : Sound Tryz.prog gl f (Con.of vs [] rs [] sp) :=
  con_ok (os := []) hm hG plan_ok hf hb (res := fn.results.toList) (by simp) (Lc := Lc) hL hx
theorem cmki {f : Nat} {fn : Func} {vs rs : List Vh} {G : List (Nat × Con)} {Lc : List (Nat × LCon)} {nh : List (Nat × List NilH)} {sp : SpM vs rs} (hG : GOk Tryz.prog gl G) (hf : (Tryz.prog : Program).funcs[f]? = some fn) (hb : fn.body = some (body fn)) (hL : LcOk Tryz.prog gl 2 Lc (body fn)) (hx : ∀ x y, sp x = some y → runM fn vs rs G Lc nh x = some y) : Sound Tryz.prog gl f (cm vs rs sp) :=
  conP_imp (os := mach) hm hG plan_ok hf hb (res := fn.results.toList) (by simp) (Lc := Lc) hL hx
theorem lmk {f : Func} {i : Nat} {ts : List Nat} {vs : List Vh} {os : List OSh} {fi : Fin} {G : List (Nat × Con)} {Lc : List (Nat × LCon)} {nh : List (Nat × List NilH)} {sp : VhL vs × OShL os → Option fi.Y} (hG : GOk Tryz.prog gl G) (hL : LcOk Tryz.prog gl 2 Lc (getL (body f) i)) (hf : fi.Ok gl 2 f.ntmps)
    (hs : ∀ x y, sp x = some y → ∃ m, loopF (runL f i ts vs os fi G Lc nh) m x = some y) : LOk Tryz.prog gl 2 (LCon.of f.ntmps ts vs os fi sp) (getL (body f) i) :=
  loop_ok hm hG plan_ok hL hf (fun x => rfl) hs
/-! ### Any memory -/
noncomputable abbrev cq (vs : List Vh) (os : List OSh) (rs : List Vh) (os' osP : List OSh) (sp : VhL vs × OShL os → Option ((VhL rs × OShL os') ⊕ (VhL [.agg []] × OShL osP))) : Con := Con.ofP vs os rs os' 59 (.agg []) osP sp
noncomputable def runQ (f : Func) (vs : List Vh) (os : List OSh) (rs : List Vh) (os' osP : List OSh) (G : List (Nat × Con)) (Lc : List (Nat × LCon)) (nh : List (Nat × List NilH)) (x : VhL vs × OShL os) :=
  exec Tryz.prog gl kd G os.length plan Lc nh (body f) (startSt f.ntmps vs os x) (finRP Tryz.prog os.length f.results.toList rs os' 59 (.agg []) osP)
noncomputable def runN (f : Func) (vs : List Vh) (os : List OSh) (rs : List Vh) (os' : List OSh) (G : List (Nat × Con)) (Lc : List (Nat × LCon)) (nh : List (Nat × List NilH)) (x : VhL vs × OShL os) :=
  exec Tryz.prog gl kd G os.length plan Lc nh (body f) (startSt f.ntmps vs os x) (finR Tryz.prog os.length f.results.toList rs os')
noncomputable def runW (n0 : Nat) (f : Func) (i : Nat) (ts : List Nat) (vs : List Vh) (os : List OSh) (fi : Fin) (G : List (Nat × Con)) (Lc : List (Nat × LCon)) (nh : List (Nat × List NilH)) (x : VhL vs × OShL os) : Option ((VhL vs × OShL os) ⊕ fi.Y) :=
  exec Tryz.prog gl kd G n0 plan Lc nh (getL (body f) i) { tm := Go.Ax.setT f.ntmps (ts.zip (VhL.enc vs x.1)), hp := OShL.enc os x.2 } (roundK n0 f.ntmps ts vs os fi)
theorem cqk {f : Nat} {fn : Func} {vs : List Vh} {os : List OSh} {rs : List Vh} {os' osP : List OSh} {G : List (Nat × Con)} {Lc : List (Nat × LCon)} {nh : List (Nat × List NilH)} {sp : VhL vs × OShL os → Option ((VhL rs × OShL os') ⊕ (VhL [.agg []] × OShL osP))} (hG : GOk Tryz.prog gl G) (hf : (Tryz.prog : Program).funcs[f]? = some fn) (hb : fn.body = some (body fn)) (hL : LcOk Tryz.prog gl os.length Lc (body fn)) (hx : ∀ x, runQ fn vs os rs os' osP G Lc nh x = sp x) : Sound Tryz.prog gl f (cq vs os rs os' osP sp) :=
  conP_ok hm hG plan_ok hf hb (res := fn.results.toList) (by simp) (Lc := Lc) hL hx
theorem cnk {f : Nat} {fn : Func} {vs : List Vh} {os : List OSh} {rs : List Vh} {os' : List OSh} {G : List (Nat × Con)} {Lc : List (Nat × LCon)} {nh : List (Nat × List NilH)} {sp : VhL vs × OShL os → Option (VhL rs × OShL os')} (hG : GOk Tryz.prog gl G) (hf : (Tryz.prog : Program).funcs[f]? = some fn) (hb : fn.body = some (body fn)) (hL : LcOk Tryz.prog gl os.length Lc (body fn)) (hx : ∀ x, runN fn vs os rs os' G Lc nh x = sp x) : Sound Tryz.prog gl f (Con.of vs os rs os' sp) :=
  con_ok hm hG plan_ok hf hb (res := fn.results.toList) (by simp) (Lc := Lc) hL hx
noncomputable def runF (f : Func) (vs : List Vh) (os : List OSh) (r : RFin) (G : List (Nat × Con)) (Lc : List (Nat × LCon)) (nh : List (Nat × List NilH)) (x : VhL vs × OShL os) : Option r.Y :=
  exec Tryz.prog gl kd G os.length plan Lc nh (body f) (startSt f.ntmps vs os x) r.fin
/-- Left in two ways, or stopped. -/
noncomputable abbrev rf2 (f : Func) (n0 : Nat) (rs1 : List Vh) (os1 : List OSh) (rs2 : List Vh) (os2 osP : List OSh) : RFin := (RFin.ret Tryz.prog n0 f.results.toList rs1 os1).or ((RFin.ret Tryz.prog n0 f.results.toList rs2 os2).or (RFin.pan n0 59 (.agg []) osP))
theorem cfk {f : Nat} {fn : Func} {vs : List Vh} {os : List OSh} {rs1 : List Vh} {os1 : List OSh} {rs2 : List Vh} {os2 osP : List OSh} {G : List (Nat × Con)} {Lc : List (Nat × LCon)} {nh : List (Nat × List NilH)} {sp : VhL vs × OShL os → Option (rf2 fn os.length rs1 os1 rs2 os2 osP).Y} (hG : GOk Tryz.prog gl G) (hf : (Tryz.prog : Program).funcs[f]? = some fn) (hb : fn.body = some (body fn)) (hL : LcOk Tryz.prog gl os.length Lc (body fn)) (hx : ∀ x, runF fn vs os (rf2 fn os.length rs1 os1 rs2 os2 osP) G Lc nh x = sp x) : Sound Tryz.prog gl f (Con.ofF vs os (rf2 fn os.length rs1 os1 rs2 os2 osP) sp) :=
  conF_ok hm hG plan_ok hf hb (Lc := Lc) hL (RFin.or_ok (RFin.ret_ok (by simp) _ _) (RFin.or_ok (RFin.ret_ok (by simp) _ _) (RFin.pan_ok _ _ _))) hx
theorem lwk {n0 : Nat} {f : Func} {i : Nat} {ts : List Nat} {vs : List Vh} {os : List OSh} {fi : Fin} {G : List (Nat × Con)} {Lc : List (Nat × LCon)} {nh : List (Nat × List NilH)} {sp : VhL vs × OShL os → Option fi.Y} (hG : GOk Tryz.prog gl G) (hL : LcOk Tryz.prog gl n0 Lc (getL (body f) i)) (hf : fi.Ok gl n0 f.ntmps)
    (hs : ∀ x y, sp x = some y → ∃ m, loopF (runW n0 f i ts vs os fi G Lc nh) m x = some y) : LOk Tryz.prog gl n0 (LCon.of f.ntmps ts vs os fi sp) (getL (body f) i) :=
  loop_ok hm hG plan_ok hL hf (fun x => rfl) hs
theorem lnone_ok {n0 : Nat} {Lc : List (Nat × LCon)} {b : Code} (h : Lc.find? (fun p => p.1 == keyOf b) = none) : ∀ p, Lc.find? (fun p => p.1 == keyOf b) = some p → LOk Tryz.prog gl n0 p.2 b := fun p hp => by
  rw [h] at hp
  cases hp
theorem noloop0 {Lc : List (Nat × LCon)} {c : Code} (h : loopsOf c = []) : LcOk Tryz.prog gl 0 Lc c := lcok h trivial
theorem noloopN {n0 : Nat} {Lc : List (Nat × LCon)} {c : Code} (h : loopsOf c = []) : LcOk Tryz.prog gl n0 Lc c := lcok h trivial
theorem noloop {Lc : List (Nat × LCon)} {c : Code} (h : loopsOf c = []) : LcOk Tryz.prog gl 2 Lc c := lcok h trivial
/-- What a tree comes to. -/
def outG {γ Z : Type} (eO : γ → List Acc → Z) (eS : List Acc → Z) : Out γ → Option Z
  | .ok a d => some (eO a d)
  | .stop d => some (eS d)
  | .bot => none
theorem outG_bind {α β Z Z' : Type} {eO : α → List Acc → Z} {eS : List Acc → Z} {eO' : β → List Acc → Z'} {eS' : List Acc → Z'} {got : List Int} {t : T α} {k : α → T β} {d : List Acc} {F : Z → Option Z'}
    (hK : ∀ a d', F (eO a d') = outG eO' eS' ((k a).exec got d')) (hP : ∀ d', F (eS d') = some (eS' d')) : ((outG eO eS (t.exec got d)).bind F) = outG eO' eS' ((t.bind k).exec got d) := by
  rw [T.exec_bind]
  cases t.exec got d with
  | ok a d' => exact hK a d'
  | stop d' => exact hP d'
  | bot => rfl
theorem cond_t {α : Type} {c : Bool} {x y : α} (h : c = true) : cond c x y = x := by rw [h]; rfl
theorem cond_f {α : Type} {c : Bool} {x y : α} (h : c = false) : cond c x y = y := by rw [h]; rfl
theorem ret_bind {α Z Z' : Type} {eO : α → List Acc → Z} {eS : List Acc → Z} {got : List Int} {a : α} {d : List Acc} {F : Z → Option Z'} : ((outG eO eS ((T.ret a).exec got d)).bind F) = F (eO a d) := rfl
theorem outG_done {α Z Z' : Type} {eO : α → List Acc → Z} {eS : List Acc → Z} {eO' : α → List Acc → Z'} {eS' : List Acc → Z'} {got : List Int} {t : T α} {d : List Acc} {F : Z → Option Z'}
    (hK : ∀ a d', F (eO a d') = some (eO' a d')) (hP : ∀ d', F (eS d') = some (eS' d')) : ((outG eO eS (t.exec got d)).bind F) = outG eO' eS' (t.exec got d) := by
  cases t.exec got d with
  | ok a d' => exact hK a d'
  | stop d' => exact hP d'
  | bot => rfl
/-- What an operation of the machine comes to. -/
abbrev outO {rs : List Vh} {α : Type} (enc : α → VhL rs) (hd : α → List Int) (c : Cfg) (got : List Int) (o : Out α) : Option ((VhL rs × OShL mach) ⊕ (VhL [.agg []] × OShL machP)) :=
  outG (fun a d => (Sum.inl (enc a, (c, got, (), hd a, ()), d, ()) : (VhL rs × OShL mach) ⊕ (VhL [.agg []] × OShL machP))) (fun d => Sum.inr (((), ()), (c, got, (), (), ()), d, ())) o
/-- A loop as a tree. -/
def T.loop {σ β : Type} (body : σ → T (σ ⊕ β)) : Nat → σ → T β
  | 0, _ => .bot
  | k + 1, s => (body s).bind fun
    | .inl s' => T.loop body k s'
    | .inr b => .ret b
def outR {σ β X Y : Type} (eX : σ → List Acc → X) (eY : β → List Acc → Y) (r : σ ⊕ β) (d : List Acc) : X ⊕ Y := match r with
  | .inl s => .inl (eX s d)
  | .inr b => .inr (eY b d)
theorem loopT_ok {σ β X Y : Type} {eX : σ → List Acc → X} {eY : β → List Acc → Y} {eS : List Acc → Y} {got : List Int} {body : σ → T (σ ⊕ β)} {round : X → Option (X ⊕ Y)}
    (hr : ∀ s d, round (eX s d) = outG (outR eX eY) (fun d => .inr (eS d)) ((body s).exec got d)) : ∀ (k : Nat) (s : σ) (d : List Acc) (y : Y), outG eY eS ((T.loop body k s).exec got d) = some y → loopF round k (eX s d) = some y
  | 0, s, d, y, h => by simp [T.loop, T.exec, outG] at h
  | k + 1, s, d, y, h => by
    simp only [T.loop] at h
    rw [T.exec_bind] at h
    simp only [loopF]
    rw [hr s d]
    cases he : (body s).exec got d with
    | ok r d' =>
      rw [he] at h
      cases r with
      | inl s' => exact loopT_ok hr k s' d' y h
      | inr b => exact h
    | stop d' => rw [he] at h; exact h
    | bot => rw [he] at h; exact h
/-- A method, or a loop: of what it is entered with the tree, and what it leaves. -/
structure Ifc (X Z : Type) where
  α : Type
  tr : X → T α
  got : X → List Int
  did : X → List Acc
  enc : X → α → List Acc → Z
  stop : X → List Acc → Z
def Ifc.spec {X Z : Type} (I : Ifc X Z) (x : X) : Option Z := outG (I.enc x) (I.stop x) ((I.tr x).exec (I.got x) (I.did x))
/-- A method of the machine; what it leaves latched. -/
@[reducible] def mI {vs rs : List Vh} {α : Type} (tr : VhL vs × OShL mach → T α) (enc : VhL vs → α → VhL rs) (hd : List Int → α → List Int) : Ifc (VhL vs × OShL mach) ((VhL rs × OShL mach) ⊕ (VhL [.agg []] × OShL machP)) where
  α := α
  tr := tr
  got x := x.2.1.2.1
  did x := x.2.2.1
  enc x a d := .inl (enc x.1 a, (x.2.1.1, x.2.1.2.1, (), hd x.2.1.2.2.2.1 a, ()), d, ())
  stop x d := .inr (((), ()), (x.2.1.1, x.2.1.2.1, (), (), ()), d, ())
theorem bindI {X Z Z' β : Type} {I : Ifc X Z} {x : X} {eO' : β → List Acc → Z'} {eS' : List Acc → Z'} {k : I.α → T β} {F : Z → Option Z'} {got : List Int} {d : List Acc} (hg : I.got x = got) (hd : I.did x = d)
    (hK : ∀ a d', F (I.enc x a d') = outG eO' eS' ((k a).exec got d')) (hP : ∀ d', F (I.stop x d') = some (eS' d')) : ((I.spec x).bind F) = outG eO' eS' (((I.tr x).bind k).exec got d) := by
  subst hg
  subst hd
  exact outG_bind hK hP
theorem retI {X Z Z' : Type} {I : Ifc X Z} {x : X} {a : I.α} {F : Z → Option Z'} (h : I.tr x = .ret a) : ((I.spec x).bind F) = F (I.enc x a (I.did x)) := by
  unfold Ifc.spec
  rw [h]
  rfl
/-- A value, if that is so. -/
def T.gret {α : Type} (g : Bool) (a : α) : T α := bif g then .ret a else .bot
theorem bindG {X Z Z' β : Type} {I : Ifc X Z} {x : X} {a : I.α} {g : Bool} {eO' : β → List Acc → Z'} {eS' : List Acc → Z'} {k : Unit → T β} {F : Z → Option Z'} {got : List Int} {d : List Acc} (h : I.tr x = T.gret g a)
    (hK : F (I.enc x a (I.did x)) = outG eO' eS' ((k ()).exec got d)) : ((I.spec x).bind F) = outG eO' eS' (((T.gret g ()).bind k).exec got d) := by
  unfold Ifc.spec
  rw [h]
  cases g
  · rfl
  · exact hK
theorem cond_out {β Z : Type} {c : Bool} {A B : Option Z} {t1 t2 : T β} {eO : β → List Acc → Z} {eS : List Acc → Z} {got : List Int} {d : List Acc} (h1 : c = true → A = outG eO eS (t1.exec got d)) (h2 : c = false → B = outG eO eS (t2.exec got d)) :
    cond c A B = outG eO eS ((cond c t1 t2).exec got d) := by
  cases c
  · exact h2 rfl
  · exact h1 rfl
theorem w64_id {n : Int} (h0 : 0 ≤ n) (h1 : n < 9223372036854775808) : w64 n = n := by
  unfold w64
  rw [IntKind.wrap_i64]
  omega
/-- One access. -/
abbrev one (i : Int) : VhL [vi] := (i, ())
abbrev va : Vh := .s (.e (.st .acc))
@[reducible] def doI := mI (vs := [pm, va]) (rs := [vi]) (fun x => T.ask x.1.2.1 .ret) (fun _ => one) (fun h _ => h)
def spDo (x : VhL [pm, .s (.e (.st .acc))] × OShL mach) : Option ((VhL [vi] × OShL mach) ⊕ (VhL [.agg []] × OShL machP)) := outO one (fun _ => x.2.1.2.2.2.1) x.2.1.1 x.2.1.2.1 ((T.ask x.1.2.1 .ret).exec x.2.1.2.1 x.2.2.1)
abbrev do_T : Type := VhL [pm, .s (.e (.st .acc))] × OShL mach → Option ((VhL [vi] × OShL mach) ⊕ (VhL [.agg []] × OShL machP))
noncomputable abbrev do_C (sp : do_T) : Con := cq [pm, .s (.e (.st .acc))] mach [vi] mach machP sp
theorem do_g : Callable Tryz.prog 26 := ⟨Tryz.f26, body Tryz.f26, by kernel_rfl, by kernel_rfl, by kernel_rfl⟩
theorem do_raw (c : Cfg) (got : List Int) (did : List Acc) (held : List Int) (x : Acc) : runM Tryz.f26 [pm, .s (.e (.st .acc))] [vi] [] [] [] (((), x, ()), ((c, got, (), held, ()), did, ())) =
    bif decide (did.length + [x].length ≤ 1000000000) then
      bif decide (Int.ofNat (did ++ [x]).length > Int.ofNat got.length) then some (Sum.inr (((), ()), (c, got, (), (), ()), did ++ [x], ()))
      else bif inR (w64 (Int.ofNat (did ++ [x]).length - 1)) got.length then some (Sum.inl ((rdE EK.int got (w64 (Int.ofNat (did ++ [x]).length - 1)), ()), (c, got, (), held, ()), did ++ [x], ())) else none
    else none := by kernel_rfl
theorem do_ok : Sound Tryz.prog gl 26 (cm [pm, .s (.e (.st .acc))] [vi] spDo) := by
  refine cmk (fn := Tryz.f26) GOk.nil (by kernel_rfl) (by kernel_rfl) (Lc := []) (nh := []) (noloop (by kernel_rfl)) ?_
  rintro ⟨⟨_, x, _⟩, ⟨c, got, _, held, _⟩, did, _⟩
  rw [do_raw]
  unfold spDo
  simp only [T.exec, List.length_append, List.length_cons, List.length_nil]
  by_cases h1 : did.length < 1000000000
  · have e1 : w64 (Int.ofNat (did.length + (0 + 1)) - 1) = did.length := by rw [w64_id] <;> simp <;> omega
    have a1 : decide (did.length + (0 + 1) ≤ 1000000000) = true := decide_eq_true (by omega)
    rw [e1, a1, if_pos h1]
    by_cases h2 : did.length < got.length
    · have a2 : decide (Int.ofNat (did.length + (0 + 1)) > Int.ofNat got.length) = false := decide_eq_false (by simp; omega)
      have a3 : inR (did.length : Int) got.length = true := by simp [inR]; omega
      rw [a2, a3, if_pos h2]
      simp [outG, rdE, rd, one, EK.dft]
    · have a2 : decide (Int.ofNat (did.length + (0 + 1)) > Int.ofNat got.length) = true := decide_eq_true (by simp; omega)
      rw [a2, if_neg h2]
      rfl
  · have a1 : decide (did.length + (0 + 1) ≤ 1000000000) = false := decide_eq_false (by omega)
    rw [a1, if_neg h1]
    rfl
/-! ### Functions that ask for nothing -/
/-- A tree's value. -/
def T.val {α : Type} (t : T α) : Option α := match t.exec [] [] with
  | .ok a _ => some a
  | _ => none
theorem T.exec_nil {α : Type} {t : T α} {a : α} {d : List Acc} (h : t.exec [] [] = .ok a d) : d = [] := by
  cases t with
  | ret b => simp [T.exec] at h; exact h.2
  | ask c k => simp [T.exec] at h
  | bot => simp [T.exec] at h
theorem T.val_ret {α : Type} (a : α) : (T.ret a).val = some a := rfl
theorem T.val_bind {α β : Type} (t : T α) (k : α → T β) : (t.bind k).val = t.val.bind fun a => (k a).val := by
  unfold T.val
  rw [T.exec_bind]
  cases h : t.exec [] [] with
  | ok a d => rw [T.exec_nil h]; rfl
  | stop d => rfl
  | bot => rfl
structure PIf (X Z : Type) where
  α : Type
  tr : X → T α
  enc : X → α → Z
def PIf.spec {X Z : Type} (I : PIf X Z) (x : X) : Option Z := ((I.tr x).val).map (I.enc x)
theorem bindP {X Z Z' β : Type} {I : PIf X Z} {x : X} {eO' : β → Z'} {k : I.α → T β} {F : Z → Option Z'} (hK : ∀ a, F (I.enc x a) = ((k a).val).map eO') : ((I.spec x).bind F) = (((I.tr x).bind k).val).map eO' := by
  rw [T.val_bind]
  unfold PIf.spec
  cases (I.tr x).val with
  | none => rfl
  | some a => exact hK a
theorem retP {X Z Z' : Type} {I : PIf X Z} {x : X} {a : I.α} {F : Z → Option Z'} (h : I.tr x = .ret a) : ((I.spec x).bind F) = F (I.enc x a) := by
  unfold PIf.spec
  rw [h]
  rfl
theorem bindGP {X Z Z' β : Type} {I : PIf X Z} {x : X} {a : I.α} {g : Bool} {eO' : β → Z'} {k : Unit → T β} {F : Z → Option Z'} (h : I.tr x = T.gret g a) (hK : F (I.enc x a) = ((k ()).val).map eO') : ((I.spec x).bind F) = (((T.gret g ()).bind k).val).map eO' := by
  unfold PIf.spec
  rw [h]
  cases g
  · rfl
  · exact hK
theorem cond_outP {β Z : Type} {c : Bool} {A B : Option Z} {t1 t2 : T β} {eO : β → Z} (h1 : c = true → A = (t1.val).map eO) (h2 : c = false → B = (t2.val).map eO) : cond c A B = ((cond c t1 t2).val).map eO := by
  cases c
  · exact h2 rfl
  · exact h1 rfl
/-- Rounds enough for whatever fits into a memory. -/
def FU : Nat := 4611686018427387904
def outRP {σ β X Y : Type} (eX : σ → X) (eY : β → Y) (r : σ ⊕ β) : X ⊕ Y := match r with
  | .inl s => .inl (eX s)
  | .inr b => .inr (eY b)
theorem loopP_ok {σ β X Y : Type} {eX : σ → X} {eY : β → Y} {body : σ → T (σ ⊕ β)} {round : X → Option (X ⊕ Y)} (hr : ∀ s, round (eX s) = ((body s).val).map (outRP eX eY)) : ∀ (k : Nat) (s : σ) (y : Y), ((T.loop body k s).val).map eY = some y → loopF round k (eX s) = some y
  | 0, s, y, h => by simp [T.loop, T.val, T.exec] at h
  | k + 1, s, y, h => by
    simp only [T.loop] at h
    rw [T.val_bind] at h
    simp only [loopF]
    rw [hr s]
    cases he : (body s).val with
    | none => rw [he] at h; cases h
    | some r =>
      rw [he] at h
      cases r with
      | inl s' => exact loopP_ok hr k s' y h
      | inr b => exact h
end Go.Ax.Cd
